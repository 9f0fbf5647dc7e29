import Derived.Test.YthhpeeckiggpaaaDoorWMore
import Derived.ChangeArms
import Derived.DataElems
import Derived.SizedLaws
namespace Go.Proofs.YthhpeeckiggpaaaDoor.Opn
open Go Go.RowKit Go.Proofs.YthhpeeckiggpaaaDoorW.PrintWords Go.Proofs.YthhpeeckiggpaaaDoorW.PrintLast Go.Proofs.YthhpeeckiggpaaaDoorW.PrintMore
set_option linter.unusedVariables false
set_option linter.unusedSimpArgs false
variable {P : Program}

/-- Whatever reads (within n steps) as a datum of type t reads as one of kind d, and G holds of it. -/
def OpensN {α : Type} (P : Program) (n : Nat) (t : TypeId) (d : Kd α) (G : α → Prop) : Prop :=
  ∀ (H : Type) (enc : TypeId × Value → H) (w : World) (held : Bool) (fuel : Nat), fuel ≤ n → ∀ (cs : List Value) (x : DataW H × List MemPlace),
    DataW.trod enc P w 0 (fun _ => true) held fuel t cs = some x → (∀ m ∈ x.1.weights P t, m ≤ reachBytes) → ∃ y : α, d.K w y cs ∧ G y
def Opens {α : Type} (P : Program) (t : TypeId) (d : Kd α) (G : α → Prop) : Prop := ∀ n, OpensN P n t d G
/-- The fields of a struct, one behind the other. -/
def OpensF {α : Type} (P : Program) (n : Nat) (fs : List (TypeId × Nat)) (d : Kd α) (G : α → Prop) : Prop :=
  ∀ (H : Type) (enc : TypeId × Value → H) (w : World) (held : Bool) (fuel : Nat), fuel ≤ n → ∀ (cs : List Value) (xs : List (DataW H × List MemPlace)), xs.length = fs.length →
    (∀ (i : Nat) (f : TypeId × Nat), fs[i]? = some f → DataW.trod enc P w 0 (fun _ => true) held fuel f.1 ((cs.drop f.2).take (P.cellsOf f.1)) = xs[i]?) →
    (∀ m ∈ DataW.weightsEach P (fs.map (·.1)) (xs.map (·.1)), m ≤ reachBytes) → ∃ y : α, d.K w y (fs.flatMap fun f => (cs.drop f.2).take (P.cellsOf f.1)) ∧ G y

theorem OpensN.mono {α : Type} {n t} {d : Kd α} {G G' : α → Prop} (h : OpensN P n t d G) (hG : ∀ x, G x → G' x) : OpensN P n t d G' := fun H enc w held fuel hf cs x hx hm => by
  obtain ⟨y, h1, h2⟩ := h H enc w held fuel hf cs x hx hm
  exact ⟨y, h1, hG y h2⟩
theorem OpensN.le {α : Type} {n m t} {d : Kd α} {G : α → Prop} (h : OpensN P n t d G) (hm : m ≤ n) : OpensN P m t d G := fun H enc w held fuel hf cs x hx hw => h H enc w held fuel (Nat.le_trans hf hm) cs x hx hw

theorem opens_int {n t k} (ht : P.underlying t = some (.int k)) : OpensN P n t (Kd.int k) (fun x => (Lit.int k x).wf = true) := fun H enc w held fuel hf cs x hx hm => by
  obtain ⟨z, rfl, rfl, hz⟩ := DataW.trod_int ht hx
  exact ⟨z, rfl, hz⟩
theorem opens_bool {n t} (ht : P.underlying t = some .bool) : OpensN P n t Kd.bool (fun _ => True) := fun H enc w held fuel hf cs x hx hm => by
  obtain ⟨z, rfl, rfl⟩ := DataW.trod_bool ht hx
  exact ⟨z, rfl, trivial⟩
theorem opens_string {n t} (ht : P.underlying t = some .string) : OpensN P n t Kd.string (fun s => s.size ≤ 140737488351232) := fun H enc w held fuel hf cs x hx hm => by
  obtain ⟨z, rfl, rfl, hz⟩ := DataW.trod_string ht hx
  refine ⟨z, rfl, ?_⟩
  have := hm z.data.toList.length (by simp [DataW.weights])
  simp only [reachBytes] at this
  have e : z.data.toList.length = z.size := by simp
  omega

theorem weights_all {H : Type} {e : TypeId} : ∀ (l : List (DataW H)) (i : Nat) (d : DataW H), l[i]? = some d → ∀ m ∈ d.weights P e, m ∈ DataW.weightsAll P e l
  | [], i, d, h, m, hm => by simp at h
  | a :: r, 0, d, h, m, hm => by
    simp only [List.getElem?_cons_zero, Option.some.injEq] at h
    subst h
    simp only [DataW.weightsAll, List.mem_append]
    exact .inl hm
  | a :: r, i + 1, d, h, m, hm => by
    simp only [List.getElem?_cons_succ] at h
    simp only [DataW.weightsAll, List.mem_append]
    exact .inr (weights_all r i d h m hm)

/-- What is told of a list that came in. -/
def LG {α : Type} (B : Nat) (G : α → Prop) (l : List α) : Prop := l.length ≤ maxLen ∧ l.length * B ≤ 140737488351232 ∧ ∀ x ∈ l, G x
theorem opens_slice {α : Type} {n t e} {d : Kd α} {G : α → Prop} (ht : P.underlying t = some (.slice e)) (he : P.cellsOf e = d.sz) {B : Nat} (hB : P.bytesOf e = B) (h : OpensN P n e d G) :
    OpensN P (n + 1) t (Kd.slice e d) (LG B G) := fun H enc w held fuel hf cs x hx hm => by
  rcases DataW.trod_slice ht hx with ⟨rfl, rfl⟩ | ⟨a, len, cap, elems, rest, m, rfl, rfl, rfl, hb, hl, hc, hlen, hel, _, _⟩
  · exact ⟨[], ⟨none, 0, rfl, Nat.le_refl _, rfl, by simp, fun h => absurd h (by simp)⟩, by simp [maxLen], by simp, fun x hx => by simp at hx⟩
  · have key : ∀ k, k ≤ len → ∃ ys : List α, ys.length = k ∧ (∀ y ∈ ys, G y) ∧ ∀ j y, ys[j]? = some y → ∃ c, c.length = d.sz ∧ d.K w y c ∧ ∀ i u, c[i]? = some u → w.cell? (a.add (j * d.sz + i)) = some u := by
      intro k
      induction k with
      | zero => exact fun _ => ⟨[], rfl, fun y hy => by simp at hy, fun j y hy => by simp at hy⟩
      | succ k ih =>
        intro hk
        obtain ⟨ys, h1, h2, h3⟩ := ih (by omega)
        have h4 := hel k (by omega)
        rw [List.getElem?_eq_getElem (by omega)] at h4
        rw [Option.bind_eq_some_iff] at h4
        obtain ⟨c, hc1, hc2⟩ := h4
        have hw : ∀ m ∈ (elems[k]'(by omega)).1.weights P e, m ≤ reachBytes := fun m' hm' => hm m' (by
          simp only [DataW.weights, ht, List.mem_cons, List.mem_append]
          exact .inr (.inl (weights_all _ k _ (by rw [List.getElem?_map, List.getElem?_eq_getElem (by omega)]; rfl) m' hm')))
        obtain ⟨y, hy1, hy2⟩ := h H enc w held m (by omega) c _ hc2 hw
        unfold World.cells? at hc1
        rw [if_pos (Nat.zero_le _)] at hc1
        refine ⟨ys ++ [y], by simp [h1], fun z hz => ?_, fun j z hz => ?_⟩
        · rcases List.mem_append.1 hz with hz | hz
          · exact h2 z hz
          · rw [List.mem_singleton.1 hz]; exact hy2
        · rcases Nat.lt_or_ge j ys.length with hj | hj
          · rw [List.getElem?_append_left hj] at hz
            exact h3 j z hz
          · have hj' : j = ys.length := by
              have := (List.getElem?_eq_some_iff.1 hz).1
              rw [List.length_append, List.length_singleton] at this
              omega
            subst hj'
            have hz' : y = z := by simpa using hz
            subst hz'
            refine ⟨c, d.K_len hy1, hy1, fun i u hu => ?_⟩
            have hi : i < (List.range (P.cellsOf e)).length := by
              rw [List.length_range, he, ← d.K_len hy1]
              exact (List.getElem?_eq_some_iff.1 hu).1
            have := mapM_some_get hc1 i i (by rw [List.getElem?_eq_getElem hi, List.getElem_range])
            rw [Addr.add_add, hu, he, ← h1] at this
            exact this
    obtain ⟨ys, rfl, h2, h3⟩ := key len (Nat.le_refl _)
    have hmax : ys.length ≤ maxLen := by omega
    refine ⟨ys, ⟨some a, cap, rfl, hl, rfl, by simpa [maxLen] using hmax, fun _ => ⟨a, rfl, h3⟩⟩, hmax, ?_, h2⟩
    have z := hm ((elems.length + rest.length) * P.bytesOf e) (by simp [DataW.weights, ht])
    rw [hB] at z
    simp only [reachBytes] at z
    have : ys.length * B ≤ (elems.length + rest.length) * B := Nat.mul_le_mul_right _ (by omega)
    omega

theorem opensF_one {α : Type} {n t o} {d : Kd α} {G : α → Prop} (h : OpensN P n t d G) : OpensF P n [(t, o)] d G := fun H enc w held fuel hf cs xs hl hx hm => by
  have h0 := hx 0 (t, o) rfl
  cases xs with
  | nil => simp at hl
  | cons x r =>
    obtain ⟨y, h1, h2⟩ := h H enc w held fuel hf _ x h0 (fun m hm' => hm m (by simp [DataW.weightsEach, hm']))
    exact ⟨y, by simpa using h1, h2⟩
theorem opensF_cons {α β : Type} {n t o fs} {a : Kd α} {b : Kd β} {Ga : α → Prop} {Gb : β → Prop} (h : OpensN P n t a Ga) (hr : OpensF P n fs b Gb) :
    OpensF P n ((t, o) :: fs) (Kd.pair a b) (fun y => Ga y.1 ∧ Gb y.2) := fun H enc w held fuel hf cs xs hl hx hm => by
  have h0 := hx 0 (t, o) rfl
  cases xs with
  | nil => simp at hl
  | cons x r =>
    obtain ⟨y, h1, h2⟩ := h H enc w held fuel hf _ x h0 (fun m hm' => hm m (by simp [DataW.weightsEach, hm']))
    obtain ⟨z, h3, h4⟩ := hr H enc w held fuel hf cs r (by simpa using hl) (fun i f hi => hx (i + 1) f (by simpa using hi)) (fun m hm' => hm m (by
      simp only [List.map_cons, DataW.weightsEach, List.mem_append]
      exact .inr hm'))
    exact ⟨(y, z), ⟨_, _, by simp, h1, h3⟩, h2, h4⟩
/-- Do the fields lie one behind the other, up to the end? -/
def contig (P : Program) (total : Nat) : Nat → List (TypeId × Nat) → Bool
  | o, [] => o == total
  | o, f :: r => f.2 == o && contig P total (o + P.cellsOf f.1) r
theorem contig_eq {total : Nat} {cs : List Value} (hl : cs.length = total) : ∀ (fs : List (TypeId × Nat)) (o : Nat), contig P total o fs = true → (fs.flatMap fun f => (cs.drop f.2).take (P.cellsOf f.1)) = cs.drop o
  | [], o, h => by
    have : o = total := by simpa [contig] using h
    subst this
    rw [← hl, List.drop_length]
    rfl
  | f :: r, o, h => by
    simp only [contig, Bool.and_eq_true, beq_iff_eq] at h
    obtain ⟨h1, h2⟩ := h
    rw [List.flatMap_cons, contig_eq hl r _ h2, h1, ← List.drop_drop]
    exact List.take_append_drop _ _
theorem opens_struct {α β : Type} {n t} {fs : Array Field} {fl : List (TypeId × Nat)} {d : Kd α} {G : α → Prop} (ht : P.underlying t = some (.struct fs)) (hfl : fs.toList.map (fun f => (f.type, f.offset)) = fl)
    (hc : contig P (P.cellsOf t) 0 fl = true) (h : OpensF P n fl d G) (f : β → α) (g : α → β) (hg : ∀ a, f (g a) = a) : OpensN P (n + 1) t (Kd.iso d f) (fun b => G (f b)) := fun H enc w held fuel hf cs x hx hm => by
  obtain ⟨xs, m, rfl, rfl, hl, hxl, hfx⟩ := DataW.trod_struct ht hx
  subst hfl
  obtain ⟨y, h1, h2⟩ := h H enc w held m (by omega) cs xs (by simp [hxl]) (fun i p hi => by
    rw [List.getElem?_map, Option.map_eq_some_iff] at hi
    obtain ⟨q, hq, rfl⟩ := hi
    exact hfx i q (by simpa using hq)) (fun k hk => hm k (by
      simp only [DataW.weights, ht]
      rw [List.map_map] at hk
      exact hk))
  rw [contig_eq hl _ 0 hc, List.drop_zero] at h1
  exact ⟨g y, by show d.K w (f (g y)) cs; rw [hg]; exact h1, by show G (f (g y)); rw [hg]; exact h2⟩
end Go.Proofs.YthhpeeckiggpaaaDoor.Opn
