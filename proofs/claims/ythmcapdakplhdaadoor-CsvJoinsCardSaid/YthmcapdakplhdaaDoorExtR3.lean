import Derived.Test.YthmcapdakplhdaaDoorExtR2
namespace Go.Proofs.YthmcapdakplhdaaDoor.Pr
open Go.RowKit Go.Proofs.YthmcapdakplhdaaDoorW.PrintWords Go.Proofs.YthmcapdakplhdaaDoorW.PrintLast Go.Proofs.YthmcapdakplhdaaDoorW.PrintMore
set_option maxRecDepth 100000
set_option linter.unusedVariables false
set_option linter.unusedSimpArgs false
attribute [local go_sem high] Go.Proofs.YthmcapdakplhdaaDoor.isSome_setCell

/-- What a cell's reader answers, in one form. -/
def CellRes (res : Except Nat (List UInt8 × List UInt8 × Nat)) (str : ByteArray) (f0 f1 : Int) (p' : Nat) : Prop :=
  match res with
  | .error q => str = ⟨#[]⟩ ∧ f0 = 40 ∧ f1 = q
  | .ok (x, _, q) => str = ⟨x.toArray⟩ ∧ f0 = 0 ∧ f1 = 0 ∧ p' = q
theorem CellOut.uni {b : Nat} {s : ByteArray} {v : Value} {w w' : World} {res : Except Nat (List UInt8 × List UInt8 × Nat)} {e : Ending} (h : CellOut b s v w res e w') :
    ∃ str f0 f1 p', e = .returned (.tuple #[.string str, .agg #[.int .i64 f0, .int .i64 f1]]) ∧ Rd b s p' v w' ∧ w.grownBy w' (some b) ∧ CellRes res str f0 f1 p' := by
  rcases res with q | ⟨x, r, q⟩
  · obtain ⟨h1, ⟨p', h2⟩, h3⟩ := h
    exact ⟨_, _, _, p', h1, h2, h3, rfl, rfl, rfl⟩
  · obtain ⟨h1, h2, h3⟩ := h
    exact ⟨_, _, _, q, h1, h2, h3, rfl, rfl, rfl, rfl⟩
theorem CellOut.of_uni {b : Nat} {s : ByteArray} {v : Value} {w w' : World} {res : Except Nat (List UInt8 × List UInt8 × Nat)} {str : ByteArray} {f0 f1 : Int} {p' : Nat} (h2 : Rd b s p' v w') (h3 : w.grownBy w' (some b)) (h : CellRes res str f0 f1 p') :
    CellOut b s v w res (.returned (.tuple #[.string str, .agg #[.int .i64 f0, .int .i64 f1]])) w' := by
  rcases res with q | ⟨x, r, q⟩
  · obtain ⟨rfl, rfl, rfl⟩ := h
    exact ⟨rfl, ⟨p', h2⟩, h3⟩
  · obtain ⟨rfl, rfl, rfl, rfl⟩ := h
    exact ⟨rfl, h2, h3⟩
set_option maxHeartbeats 8000000 in
theorem csv_cell (b : Nat) (s : ByteArray) (p : Nat) (v : Value) (w : World) (res : Except Nat (List UInt8 × List UInt8 × Nat)) (h : Rd b s p v w) (hp : p ≤ s.size) (hs : s.size ≤ 65536)
    (hres : Aside0 (CsvP.cellL (s.data.toList.drop p) p = res)) :
    Calls Tryd.prog 60 #[.pointer (some ⟨b, 0, none⟩)] w fun e w' => CellOut b s v w res e w' := by
  have hx0 := h.c0
  have hx1 := h.c1
  have hne : b ≠ w.heap.size := Nat.ne_of_lt h.lt
  have HNE := Aside0.mk hne
  have HLT := Aside0.mk h.lt
  have H := Aside0.mk h
  clear h hne
  go_enter Tryd.func60, Tryd.ntmps60
  go_wp2
  have H1 := Aside0.mk (blk_alloc H.out (.cells #[.int .i64 0, .int .i64 0] 72))
  have HC1 := Aside0.mk (blk_new w (.cells #[.int .i64 0, .int .i64 0] 72))
  have HG1 := Aside0.mk (World.grownBy_alloc w (.cells #[.int .i64 0, .int .i64 0] 72) (some b))
  have HS1 : Aside0 (w.heap.size < (w.alloc (.cells #[.int .i64 0, .int .i64 0] 72)).heap.size) := ⟨by simp⟩
  clear hx0 hx1 H
  generalize hw1 : w.alloc (.cells #[.int .i64 0, .int .i64 0] 72) = w1 at *
  clear hw1
  replace H1 : Aside0 (Rd b s p v w1) := H1
  have hx0 := H1.out.c0
  have hx1 := H1.out.c1
  by_cases hlt : p < s.size
  · have hd : decide (s.size ≤ p) = false := decide_eq_false (by omega)
    have hcl := hres.out
    rw [drop_cons hlt] at hcl
    by_cases c34 : s[p] = 34
    · rw [c34, CsvP.cellL] at hcl
      have HQ : Aside0 (qdE p (CsvP.qd (s.data.toList.drop (p + 1)) [] (p + 1)) = res) := ⟨by rw [← hcl]; cases CsvP.qd (s.data.toList.drop (p + 1)) [] (p + 1) <;> rfl⟩
      clear hcl hres
      go_quiet ((go_at_call 33; refine Calls.quiet_of (v := .bool false) ((csv_end b s p v _ (H1.out.drewN _)).mono ?_); rintro e w2 ⟨rfl, ⟨n3, rfl⟩⟩; exact ⟨by rw [hd], _, rfl⟩))
      go_wp2_with (go_at_call 73; refine (HQ.out ▸ csv_quoted b s p v _ _ (H1.out.drewN nq) hlt hs ⟨rfl⟩).mono ?_; rintro e w5 hco; obtain ⟨str, f0, f1, p', rfl, hR5, hG5, hM5⟩ := hco.uni; have HC5 : Aside0 (w5.heap[w.heap.size]? = some (.cells #[.int .i64 0, .int .i64 0] 72 (0, 0))) := ⟨(hG5.block _ HS1.out (fun e => HNE.out (Option.some.inj e).symm)).trans HC1.out⟩; have hq0 : w5.cell? ⟨w.heap.size, 0, none⟩ = some (.int .i64 0) := (by simp [World.cell?, HC5.out]); have hq1 : w5.cell? ⟨w.heap.size, 1, none⟩ = some (.int .i64 0) := (by simp [World.cell?, HC5.out]); have hqf := fun i => blk_frozen HC5.out i; have HR5 := Aside0.mk hR5; have HG5 := Aside0.mk hG5; have HM5 := Aside0.mk hM5; clear hR5 hG5 hM5)
      refine bodyPost_ret (fault_res rfl _ rfl (blk_put (blk_put HC5.out 0 _ rfl) 1 _ rfl)) rfl ?_
      exact CellOut.of_uni (blk_far (blk_far HR5.out HNE.out _) HNE.out _) (gr_new (gr_new (gr_trans (gr_drewN HG1.out _) HG5.out) (Nat.le_refl _)) (Nat.le_refl _)) HM5.out
    · have HQ : Aside0 (CsvP.pl (s.data.toList.drop p) [] p = res) := ⟨by rw [← hcl, drop_cons hlt, CsvP.cellL.eq_2]; intro t e; exact c34 (List.cons.inj e).1⟩
      obtain ⟨x, hx⟩ : ∃ x : UInt8, s[p] = x := ⟨_, rfl⟩
      rw [hx] at c34
      have d34b : ((x.toNat : Int) == 34) = false := u8ne 34 c34
      clear c34 hcl hres
      go_quiet ((go_at_call 33; refine Calls.quiet_of (v := .bool false) ((csv_end b s p v _ (H1.out.drewN _)).mono ?_); rintro e w2 ⟨rfl, ⟨n3, rfl⟩⟩; exact ⟨by rw [hd], _, rfl⟩))
      go_wp2_with (go_at_call 74; refine (csv_plain b s p v _ _ (H1.out.drewN nq) hp hs HQ).mono ?_; rintro e w5 hco; obtain ⟨str, f0, f1, p', rfl, hR5, hG5, hM5⟩ := hco.uni; have HC5 : Aside0 (w5.heap[w.heap.size]? = some (.cells #[.int .i64 0, .int .i64 0] 72 (0, 0))) := ⟨(hG5.block _ HS1.out (fun e => HNE.out (Option.some.inj e).symm)).trans HC1.out⟩; have hq0 : w5.cell? ⟨w.heap.size, 0, none⟩ = some (.int .i64 0) := (by simp [World.cell?, HC5.out]); have hq1 : w5.cell? ⟨w.heap.size, 1, none⟩ = some (.int .i64 0) := (by simp [World.cell?, HC5.out]); have hqf := fun i => blk_frozen HC5.out i; have HR5 := Aside0.mk hR5; have HG5 := Aside0.mk hG5; have HM5 := Aside0.mk hM5; clear hR5 hG5 hM5)
      refine bodyPost_ret (fault_res rfl _ rfl (blk_put (blk_put HC5.out 0 _ rfl) 1 _ rfl)) rfl ?_
      exact CellOut.of_uni (blk_far (blk_far HR5.out HNE.out _) HNE.out _) (gr_new (gr_new (gr_trans (gr_drewN HG1.out _) HG5.out) (Nat.le_refl _)) (Nat.le_refl _)) HM5.out
  · have hd : decide (s.size ≤ p) = true := decide_eq_true (by omega)
    have hcl := hres.out
    have hdn : s.data.toList.drop p = [] := List.drop_eq_nil_of_le (by rw [← Lib.size_eq]; omega)
    have HQ : Aside0 (CsvP.pl (s.data.toList.drop p) [] p = res) := ⟨by rw [← hcl, hdn]; rfl⟩
    clear hdn hcl hres
    go_quiet ((go_at_call 33; refine Calls.quiet_of (v := .bool true) ((csv_end b s p v _ (H1.out.drewN _)).mono ?_); rintro e w2 ⟨rfl, ⟨n3, rfl⟩⟩; exact ⟨by rw [hd], _, rfl⟩))
    go_wp2_with (go_at_call 74; refine (csv_plain b s p v _ _ (H1.out.drewN nq) hp hs HQ).mono ?_; rintro e w5 hco; obtain ⟨str, f0, f1, p', rfl, hR5, hG5, hM5⟩ := hco.uni; have HC5 : Aside0 (w5.heap[w.heap.size]? = some (.cells #[.int .i64 0, .int .i64 0] 72 (0, 0))) := ⟨(hG5.block _ HS1.out (fun e => HNE.out (Option.some.inj e).symm)).trans HC1.out⟩; have hq0 : w5.cell? ⟨w.heap.size, 0, none⟩ = some (.int .i64 0) := (by simp [World.cell?, HC5.out]); have hq1 : w5.cell? ⟨w.heap.size, 1, none⟩ = some (.int .i64 0) := (by simp [World.cell?, HC5.out]); have hqf := fun i => blk_frozen HC5.out i; have HR5 := Aside0.mk hR5; have HG5 := Aside0.mk hG5; have HM5 := Aside0.mk hM5; clear hR5 hG5 hM5)
    refine bodyPost_ret (fault_res rfl _ rfl (blk_put (blk_put HC5.out 0 _ rfl) 1 _ rfl)) rfl ?_
    exact CellOut.of_uni (blk_far (blk_far HR5.out HNE.out _) HNE.out _) (gr_new (gr_new (gr_trans (gr_drewN HG1.out _) HG5.out) (Nat.le_refl _)) (Nat.le_refl _)) HM5.out
end Go.Proofs.YthmcapdakplhdaaDoor.Pr
