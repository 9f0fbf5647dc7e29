import Derived.Test.YthmcapdakplhdaaDoorExtR4
namespace Go.Proofs.YthmcapdakplhdaaDoor.Pr
open Go.RowKit Go.Proofs.YthmcapdakplhdaaDoorW.PrintWords Go.Proofs.YthmcapdakplhdaaDoorW.PrintLast Go.Proofs.YthmcapdakplhdaaDoorW.PrintMore
set_option maxRecDepth 100000
set_option linter.unusedVariables false
set_option linter.unusedSimpArgs false
attribute [local go_sem high] Go.Proofs.YthmcapdakplhdaaDoor.isSome_setCell

/-- What csv.Split answers. -/
def splB (s : ByteArray) : List (List ByteArray) × Int × Int :=
  if 65536 < s.size then ([], 0, 2) else ((CsvP.splL (s.size + 1) s.data.toList 0 []).1.map rowB, ((CsvP.splL (s.size + 1) s.data.toList 0 []).2.1 : Int), (CsvP.splL (s.size + 1) s.data.toList 0 []).2.2)
def csv_Split.f (s : ByteArray) : Option (List (List ByteArray) × Int × Int) := some (splB s)
/-- Where csv.Split stands at its loop's head. -/
def SInv (s : ByteArray) (w : World) (res : CsvP.Res) (g : Nat) (wx : World) : Prop :=
  ∃ (i : Nat) (rows : List CsvP.Row) (f : Nat) (v : Value), i + g = s.size ∧ g < f ∧ rows.length ≤ i ∧ Aside0 (CsvP.splL f (s.data.toList.drop i) i rows = res) ∧ Aside0 (Rd w.heap.size s i v wx) ∧ Aside0 (Kd.S (Kd.slice 9 Kd.string) 22 wx w.heap.size (fun k => k ≠ w.heap.size) v (rows.map rowB)) ∧ Aside0 (Below w.heap.size w wx)
theorem spl_cons (f : Nat) (rest : List UInt8) (p : Nat) (rows : List CsvP.Row) (h : rest ≠ []) :
    CsvP.splL (f + 1) rest p rows = (match CsvP.rowL (rest.length + 2) rest p [] with | .error (q, e) => ([], q, e) | .ok (row, r, q) => CsvP.splL f r q (rows ++ [row])) := by
  match rest, h with
  | c :: t, _ => rfl
set_option maxHeartbeats 8000000 in
theorem csv_Split.calls (a0 : ByteArray) (r0 : List (List ByteArray)) (r1 r2 : Int) (w : World) (h : csv_Split.f a0 = some (r0, r1, r2)) :
    Calls Tryd.prog 14 #[.string a0] w fun e w' => ∃ v0, e = .returned (.tuple #[v0, .int .i64 r1, .int .i64 r2]) ∧ Kd.S (Kd.slice 9 Kd.string) 22 w' w.heap.size (fun _ => True) v0 r0 ∧ Below w.heap.size w w' := by
  have h := Option.some.inj h
  unfold splB at h
  by_cases hbig : 65536 < a0.size
  · rw [if_pos hbig] at h
    have HH := Aside0.mk h
    clear h
    go_enter Tryd.func14, Tryd.ntmps14
    go_wp2
    go_ret3
    have h := HH.out
    simp only [Prod.mk.injEq] at h
    obtain ⟨rfl, rfl, rfl⟩ := h
    exact ⟨_, rfl, Kd.S_nil _ _ _ _ _, Below.refl _ _⟩
  · rw [if_neg hbig] at h
    obtain ⟨res, hres⟩ : ∃ res, CsvP.splL (a0.size + 1) a0.data.toList 0 [] = res := ⟨_, rfl⟩
    rw [hres] at h
    have HH := Aside0.mk h
    have hs : a0.size ≤ 65536 := by omega
    have HQ0 : Aside0 (SInv a0 w res a0.size (w.alloc (.cells #[.string a0, .int .i64 0, .slice none 0 0] 70))) :=
      ⟨0, [], a0.size + 1, .slice none 0 0, by omega, by omega, Nat.le_refl _, ⟨hres⟩, ⟨blk_new _ _⟩, ⟨Kd.S_nil _ _ _ _ _⟩, ⟨below_alloc (Below.refl _ _) _⟩⟩
    clear h hres hbig
    go_enter Tryd.func14, Tryd.ntmps14
    go_wp2
    go_loopg [] a0.size (fun g wx => SInv a0 w res g wx)
    case atStart => exact HQ0.out
    case round =>
      clear HQ0
      obtain ⟨i, rows, f, v, hig, hgf, hrl, HP, HR, HV, HB⟩ := hrel
      by_cases hlt : i < a0.size
      · have hd : decide (a0.size ≤ i) = false := decide_eq_false (by omega)
        obtain ⟨f', rfl⟩ : ∃ f', f = f' + 1 := ⟨f - 1, by omega⟩
        have hne : a0.data.toList.drop i ≠ [] := by rw [drop_cons hlt]; simp
        have hdl : (a0.data.toList.drop i).length = a0.size - i := by rw [List.length_drop, ← Lib.size_eq]
        have hP := HP.out
        rw [spl_cons _ _ _ _ hne] at hP
        have HRL : Aside0 ((rows.map rowB).length ≤ 65536) := ⟨by rw [List.length_map]; omega⟩
        rcases hrow : CsvP.rowL ((a0.data.toList.drop i).length + 2) (a0.data.toList.drop i) i [] with ⟨q, er⟩ | ⟨row, r, q⟩
        · rw [hrow] at hP
          have HP2 : Aside0 ((([] : List CsvP.Row), q, er) = res) := ⟨hP⟩
          have her := CsvP.row_err _ _ _ _ _ _ (by omega) hrow
          have her0 : (er != 0) = true := by rcases her.1 with h | h <;> rw [h] <;> rfl
          have HRO := Aside0.mk hrow
          have HDL := Aside0.mk hdl
          clear hP hrow hne her hdl HP
          go_wp2_with (first | (go_at_call 33; refine (csv_end _ a0 i v _ HR.out).mono ?_; rintro e w2 ⟨rfl, ⟨n2, rfl⟩⟩; rw [hd]) | (go_at_call 34; refine (csv_row w.heap.size a0 i v _ (rows.map rowB) _ (HR.out.drewN n2) (by omega) hs _ (by rw [HDL.out]; omega) ⟨Kd.S_drewN HV.out n2⟩ HRL HRO).mono ?_; rintro e w5 ⟨rfl, hB5⟩; have HB5 := Aside0.mk hB5; clear hB5))
          go_quiet (fail)
          go_wp2
          go_ret3
          have hr := HP2.out
          subst hr
          have h := HH.out
          simp only [Prod.mk.injEq, List.map_nil] at h
          obtain ⟨rfl, rfl, rfl⟩ := h
          exact ⟨_, rfl, Kd.S_nil _ _ _ _ _, pw_below_drewN (below_alloc ((pw_below_drewN HB.out n2).trans HB5.out) _) _⟩
        · rw [hrow] at hP
          have HP2 : Aside0 (CsvP.splL f' r q (rows ++ [row]) = res) := ⟨hP⟩
          have hlen := CsvP.row_len _ _ _ _ _ _ _ hrow
          obtain ⟨k, hk1, hk2⟩ := CsvP.row_drop _ _ _ _ _ _ _ hrow
          have hq := hlen.2.1 hne
          have hq2 := hlen.2.2
          have hr : r = a0.data.toList.drop q := by rw [hk1, List.drop_drop, hk2]
          have hqq : q ≤ a0.size ∧ i < q := by omega
          have HRO := Aside0.mk hrow
          have HDL := Aside0.mk hdl
          have HQQ := Aside0.mk hqq
          subst hr
          clear hP hrow hne hdl HP hlen hk1 hk2 hq hq2 hqq
          go_wp2_with (first | (go_at_call 33; refine (csv_end _ a0 i v _ HR.out).mono ?_; rintro e w2 ⟨rfl, ⟨n2, rfl⟩⟩; rw [hd]) | (go_at_call 34; refine (csv_row w.heap.size a0 i v _ (rows.map rowB) _ (HR.out.drewN n2) (by omega) hs _ (by rw [HDL.out]; omega) ⟨Kd.S_drewN HV.out n2⟩ HRL HRO).mono ?_; rintro e w5 ⟨rfl, hB5, v5, hR5, hV5⟩; have HB5 := Aside0.mk hB5; have HR5 := Aside0.mk hR5; have HV5 := Aside0.mk hV5; clear hB5 hR5 hV5))
          go_roundg (a0.size - q)
          case measure => have := HQQ.out; omega
          case rel => exact ⟨q, rows ++ [row], f', v5, by have := HQQ.out; omega, by have := HQQ.out; omega, by have := HQQ.out; rw [List.length_append, List.length_singleton]; omega, HP2, ⟨blk_alloc HR5.out _⟩, ⟨by rw [List.map_append]; exact Kd.S_alloc HV5.out _⟩, ⟨below_alloc ((pw_below_drewN HB.out n2).trans HB5.out) _⟩⟩
      · have hd : decide (a0.size ≤ i) = true := decide_eq_true (by omega)
        have hP := HP.out
        obtain ⟨f', rfl⟩ : ∃ f', f = f' + 1 := ⟨f - 1, by omega⟩
        rw [List.drop_eq_nil_of_le (by rw [← Lib.size_eq]; omega), CsvP.splL] at hP
        have HP2 := Aside0.mk hP
        have hy2 := HR.out.c2
        clear hP HP
        go_wp2_with (go_at_call 33; refine (csv_end _ a0 i v _ HR.out).mono ?_; rintro e w2 ⟨rfl, ⟨n2, rfl⟩⟩; rw [hd])
        go_ret3
        have hr := HP2.out
        subst hr
        have h := HH.out
        simp only [Prod.mk.injEq] at h
        obtain ⟨rfl, rfl, rfl⟩ := h
        exact ⟨_, rfl, Kd.S_mono (Kd.S_drewN HV.out n2) (fun _ _ => trivial), pw_below_drewN HB.out n2⟩
end Go.Proofs.YthmcapdakplhdaaDoor.Pr
