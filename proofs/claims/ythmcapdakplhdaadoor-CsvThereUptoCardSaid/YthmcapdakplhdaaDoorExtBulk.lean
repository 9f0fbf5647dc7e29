import Derived.Test.YthmcapdakplhdaaDoorExtOpen
import Derived.Test.YthmcapdakplhdaaDoorRows
/- How much stands in what came in: what is read is of no more bulk than its reading. -/
namespace Go.Proofs.YthmcapdakplhdaaDoor.Opn
open Go Go.RowKit Go.Proofs.YthmcapdakplhdaaDoorW.PrintWords Go.Proofs.YthmcapdakplhdaaDoorW.PrintLast Go.Proofs.YthmcapdakplhdaaDoorW.PrintMore
set_option linter.unusedVariables false
set_option linter.unusedSimpArgs false
variable {P : Program}
/-- As OpensN; M says how much the datum holds at the least. -/
def OpensB {α : Type} (P : Program) (n : Nat) (t : TypeId) (d : Kd α) (G : α → Prop) (M : α → Nat) : Prop :=
  ∀ (H : Type) (enc : TypeId × Value → H) (w : World) (held : Bool) (fuel : Nat), fuel ≤ n → ∀ (cs : List Value) (x : DataW H × List MemPlace),
    DataW.trod enc P w 0 (fun _ => true) held fuel t cs = some x → (∀ m ∈ x.1.weights P t, m ≤ reachBytes) → ∃ y : α, d.K w y cs ∧ G y ∧ M y ≤ Rows.uptoBulk x.1
theorem opensB_string {n t} (ht : P.underlying t = some .string) : OpensB P n t Kd.string (fun s => s.size ≤ 140737488351232) (fun s => s.size + 1) := fun H enc w held fuel hf cs x hx hm => by
  obtain ⟨z, rfl, rfl, hz⟩ := DataW.trod_string ht hx
  have e : z.data.toList.length = z.size := by simp
  refine ⟨z, rfl, ?_, ?_⟩
  · have := hm z.data.toList.length (by simp [DataW.weights])
    simp only [reachBytes] at this
    omega
  · simp [Rows.uptoBulk]
theorem bulk_take {H : Type} : ∀ (l : List (DataW H)) (k : Nat) (h : k < l.length), Rows.uptoBulkAll (l.take (k + 1)) = Rows.uptoBulkAll (l.take k) + Rows.uptoBulk (l[k]'h)
  | [], k, h => by simp at h
  | a :: r, 0, h => by simp [Rows.uptoBulkAll]
  | a :: r, k + 1, h => by
    have := bulk_take r k (by simpa using h)
    simp only [List.take_succ_cons, Rows.uptoBulkAll, List.getElem_cons_succ]
    omega
theorem opensB_slice {α : Type} {n t e} {d : Kd α} {G : α → Prop} {M : α → Nat} (ht : P.underlying t = some (.slice e)) (he : P.cellsOf e = d.sz) {B : Nat} (hB : P.bytesOf e = B) (h : OpensB P n e d G M) :
    OpensB P (n + 1) t (Kd.slice e d) (LG B G) (fun l => (l.map M).sum + 1) := fun H enc w held fuel hf cs x hx hm => by
  rcases DataW.trod_slice ht hx with ⟨rfl, rfl⟩ | ⟨a, len, cap, elems, rest, m, rfl, rfl, rfl, hb, hl, hc, hlen, hel, _, _⟩
  · exact ⟨[], ⟨none, 0, rfl, Nat.le_refl _, rfl, by simp, fun h => absurd h (by simp)⟩, ⟨by simp [maxLen], by simp, fun x hx => by simp at hx⟩, by simp [Rows.uptoBulk]⟩
  · have key : ∀ k, k ≤ len → ∃ ys : List α, ys.length = k ∧ (∀ y ∈ ys, G y) ∧ (ys.map M).sum ≤ Rows.uptoBulkAll ((elems.map (·.1)).take k) ∧ ∀ j y, ys[j]? = some y → ∃ c, c.length = d.sz ∧ d.K w y c ∧ ∀ i u, c[i]? = some u → w.cell? (a.add (j * d.sz + i)) = some u := by
      intro k
      induction k with
      | zero => exact fun _ => ⟨[], rfl, fun y hy => by simp at hy, by simp, fun j y hy => by simp at hy⟩
      | succ k ih =>
        intro hk
        obtain ⟨ys, h1, h2, hM, h3⟩ := ih (by omega)
        have h4 := hel k (by omega)
        rw [List.getElem?_eq_getElem (by omega)] at h4
        rw [Option.bind_eq_some_iff] at h4
        obtain ⟨c, hc1, hc2⟩ := h4
        have hw : ∀ m ∈ (elems[k]'(by omega)).1.weights P e, m ≤ reachBytes := fun m' hm' => hm m' (by
          simp only [DataW.weights, ht, List.mem_cons, List.mem_append]
          exact .inr (.inl (weights_all _ k _ (by rw [List.getElem?_map, List.getElem?_eq_getElem (by omega)]; rfl) m' hm')))
        obtain ⟨y, hy1, hy2, hy3⟩ := h H enc w held m (by omega) c _ hc2 hw
        unfold World.cells? at hc1
        rw [if_pos (Nat.zero_le _)] at hc1
        refine ⟨ys ++ [y], by simp [h1], fun z hz => ?_, ?_, fun j z hz => ?_⟩
        · rcases List.mem_append.1 hz with hz | hz
          · exact h2 z hz
          · rw [List.mem_singleton.1 hz]; exact hy2
        · rw [bulk_take _ k (by rw [List.length_map]; omega), List.map_append, List.sum_append, List.getElem_map]
          simp only [List.map_cons, List.map_nil, List.sum_cons, List.sum_nil]
          omega
        · rcases Nat.lt_or_ge j ys.length with hj | hj
          · rw [List.getElem?_append_left hj] at hz
            exact h3 j z hz
          · have hj' : j = ys.length := by
              have := (List.getElem?_eq_some_iff.1 hz).1
              rw [List.length_append, List.length_singleton] at this
              omega
            subst hj'
            have hz' : y = z := by simpa using hz
            subst hz'
            refine ⟨c, d.K_len hy1, hy1, fun i u hu => ?_⟩
            have hi : i < (List.range (P.cellsOf e)).length := by
              rw [List.length_range, he, ← d.K_len hy1]
              exact (List.getElem?_eq_some_iff.1 hu).1
            have := mapM_some_get hc1 i i (by rw [List.getElem?_eq_getElem hi, List.getElem_range])
            rw [Addr.add_add, hu, he, ← h1] at this
            exact this
    obtain ⟨ys, rfl, h2, hM, h3⟩ := key len (Nat.le_refl _)
    have hmax : ys.length ≤ maxLen := by omega
    refine ⟨ys, ⟨some a, cap, rfl, hl, rfl, by simpa [maxLen] using hmax, fun _ => ⟨a, rfl, h3⟩⟩, ⟨hmax, ?_, h2⟩, ?_⟩
    · have z := hm ((elems.length + rest.length) * P.bytesOf e) (by simp [DataW.weights, ht])
      rw [hB] at z
      simp only [reachBytes] at z
      have : ys.length * B ≤ (elems.length + rest.length) * B := Nat.mul_le_mul_right _ (by omega)
      omega
    · rw [List.take_of_length_le (by rw [List.length_map]; omega)] at hM
      simp only [Rows.uptoBulk]
      omega
end Go.Proofs.YthmcapdakplhdaaDoor.Opn
