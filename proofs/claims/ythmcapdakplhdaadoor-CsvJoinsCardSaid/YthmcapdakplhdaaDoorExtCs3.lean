import Derived.Test.YthmcapdakplhdaaDoorExtH1
import Derived.Test.YthmcapdakplhdaaDoorExtCs1
namespace Go.Proofs.YthmcapdakplhdaaDoor.Pr
open Go.RowKit Go.Proofs.YthmcapdakplhdaaDoorW.PrintWords Go.Proofs.YthmcapdakplhdaaDoorW.PrintLast Go.Proofs.YthmcapdakplhdaaDoorW.PrintMore
set_option maxRecDepth 100000
set_option linter.unusedVariables false
set_option linter.unusedSimpArgs false
attribute [local go_sem high] Go.Proofs.YthmcapdakplhdaaDoor.isSome_setCell

theorem bs_snoc (l : List UInt8) (x : UInt8) : bs (l ++ [x]) = bs l ++ [(x.toNat : Int)] := by simp [bs]
section
variable {g : Nat} {rows : List (List ByteArray)} {row : List ByteArray} {cell : List UInt8} {st : Int} {v0 v1 v2 : Value} {w w1 : World}
theorem ShSt.putSt (h : ShSt g rows row cell st v0 v1 v2 w) (st' : Int) : ShSt g rows row cell st' v0 v1 v2 (w.setCell ⟨g, 3, none⟩ (.int .i64 st')) :=
  ⟨blk_put h.H 3 _ rfl, Kd.S_set h.A h.H (by decide) 3 _, Kd.R_set h.B h.H (by decide) 3 _, Kd.R_set h.C h.H (by decide) 3 _⟩
theorem ShSt.app (h : ShSt g rows row cell st v0 v1 v2 w) {v4 : Value} {x : UInt8} (ho : Kd.R (Kd.int .u8) 5 w1 g (fun k => k ≠ g) v4 (bs cell ++ [(x.toNat : Int)])) (hg : w.grownBy w1 v2.ownBlock) :
    ShSt g rows row (cell ++ [x]) st v0 v1 v4 (w1.setCell ⟨g, 2, none⟩ v4) := by
  have hty : ∀ k, v2.ownBlock = some k → ∃ cells, w.heap[k]? = some (.cells cells 5 (0, 0)) := Kd.R_typed h.C
  have hH : Sh g v0 v1 v2 st w1 := (hg.block g h.H.lt (fun e => h.C.1 g e.symm rfl)).trans h.H
  exact ⟨blk_put hH 2 _ rfl, Kd.S_set (Kd.S_over' h.A hty (by decide) hg) hH (by decide) 2 _, Kd.R_set (Kd.R_over' h.B hty (by decide) hg) hH (by decide) 2 _, Kd.R_set (by rw [bs_snoc]; exact ho) hH (by decide) 2 _⟩
end
/-- What the reference's Split answers. -/
def refB (s : ByteArray) : List (List ByteArray) × Int × Int :=
  if 65536 < s.size then ([], 0, 2) else ((CsvP.refL s.data.toList 0 0 [] [] [] 0).1.map rowB, ((CsvP.refL s.data.toList 0 0 [] [] [] 0).2.1 : Int), (CsvP.refL s.data.toList 0 0 [] [] [] 0).2.2)
def refrainref4_Split.f (s : ByteArray) : Option (List (List ByteArray) × Int × Int) := some (refB s)
/-- The program's rows are the document's. -/
theorem refB_spl (s : ByteArray) : refB s = splB s := by
  unfold refB splB
  rw [CsvP.spl_ref (s.size + 1) s.data.toList 0 [] 0 (by rw [← Lib.size_eq]; omega)]
/-- At the loop's head. -/
def HInv (s : ByteArray) (w : World) (res : CsvP.Res) (g : Nat) (v6 v7 : Value) (wx : World) : Prop :=
  ∃ (i op st : Nat) (rows : List CsvP.Row) (row : CsvP.Row) (cell : List UInt8) (v0 v1 v2 : Value), v6 = .int .i64 op ∧ v7 = .int .i64 i ∧ i + g = s.size ∧ rows.length ≤ i + 1 ∧ row.length ≤ i ∧ cell.length ≤ i ∧ Aside0 (CsvP.refL (s.data.toList.drop i) i st rows row cell op = res) ∧
    Aside0 (ShSt w.heap.size (rows.map rowB) (rowB row) cell st v0 v1 v2 wx) ∧ Aside0 (Below w.heap.size w wx)
theorem ref_cons (c : UInt8) (t : List UInt8) (p st : Nat) (rows : List CsvP.Row) (row : CsvP.Row) (cell : List UInt8) (op : Nat) : CsvP.refL (c :: t) p st rows row cell op =
    (if st = 2 then (if c = 34 then CsvP.refL t (p + 1) 3 rows row cell op else CsvP.refL t (p + 1) 2 rows row (cell ++ [c]) op)
    else if c = 44 then (if t = [] then CsvP.refL t (p + 1) 0 (rows ++ [row ++ [cell] ++ [[]]]) [] [] op else CsvP.refL t (p + 1) 0 rows (row ++ [cell]) [] op)
    else if c = 10 then CsvP.refL t (p + 1) 0 (rows ++ [row ++ [cell]]) [] [] op
    else if c = 13 then (if t.head? = some 10 then CsvP.refL t (p + 1) st rows row cell op else ([], p, 41))
    else if c = 34 ∧ st = 0 then CsvP.refL t (p + 1) 2 rows row cell p
    else if c = 34 ∧ st = 3 then CsvP.refL t (p + 1) 2 rows row (cell ++ [34]) op
    else if c = 34 ∨ st = 3 then ([], p, 40)
    else CsvP.refL t (p + 1) 1 rows row (cell ++ [c]) op) := by
  match t with
  | [] => rfl
  | d :: u =>
    by_cases hd : d = 10
    · subst hd
      rfl
    · rw [CsvP.refL]
      · simp [hd]
      · intro t' e; exact hd (List.cons.inj e).1
theorem rows_snoc (rows : List CsvP.Row) (row : CsvP.Row) (cell : List UInt8) : rows.map rowB ++ [rowB row ++ [⟨cell.toArray⟩]] = (rows ++ [row ++ [cell]]).map rowB := by simp [rowB, toB]
theorem rows_snoc2 (rows : List CsvP.Row) (row : CsvP.Row) (cell : List UInt8) : rows.map rowB ++ [rowB row ++ [⟨cell.toArray⟩] ++ [⟨([] : List UInt8).toArray⟩]] = (rows ++ [row ++ [cell] ++ [[]]]).map rowB := by simp [rowB, toB]
theorem row_snoc (row : CsvP.Row) (cell : List UInt8) : rowB row ++ [⟨cell.toArray⟩] = rowB (row ++ [cell]) := by simp [rowB, toB]
theorem toB_mk (l : List UInt8) : (⟨l.toArray⟩ : ByteArray) = toB l := rfl
set_option maxHeartbeats 32000000 in
theorem refrainref4_Split.calls (s : ByteArray) (r0 : List (List ByteArray)) (r1 r2 : Int) (w : World) (h : refrainref4_Split.f s = some (r0, r1, r2)) :
    Calls Tryd.prog 15 #[.string s] w fun e w' => ∃ v0, e = .returned (.tuple #[v0, .int .i64 r1, .int .i64 r2]) ∧ Kd.S (Kd.slice 9 Kd.string) 22 w' w.heap.size (fun _ => True) v0 r0 ∧ Below w.heap.size w w' := by
  have h := Option.some.inj h
  unfold refB at h
  by_cases hbig : 65536 < s.size
  · rw [if_pos hbig] at h
    have HH := Aside0.mk h
    clear h
    go_enter Tryd.func15, Tryd.ntmps15
    go_wp2
    go_ret3
    have h := HH.out
    simp only [Prod.mk.injEq] at h
    obtain ⟨rfl, rfl, rfl⟩ := h
    exact ⟨_, rfl, Kd.S_nil _ _ _ _ _, Below.refl _ _⟩
  · rw [if_neg hbig] at h
    obtain ⟨res, hres⟩ : ∃ res, CsvP.refL s.data.toList 0 0 [] [] [] 0 = res := ⟨_, rfl⟩
    rw [hres] at h
    have HH := Aside0.mk h
    have hs : s.size ≤ 65536 := by omega
    have HQ0 : Aside0 (HInv s w res s.size (.int .i64 0) (.int .i64 0) (w.alloc (.cells #[.slice none 0 0, .slice none 0 0, .slice none 0 0, .int .i64 0] 76))) :=
      ⟨0, 0, 0, [], [], [], .slice none 0 0, .slice none 0 0, .slice none 0 0, rfl, rfl, by omega, by simp, Nat.le_refl _, Nat.le_refl _, ⟨hres⟩, ⟨blk_new _ _, Kd.S_nil _ _ _ _ _, Kd.R_nil _ _ _ _ _, Kd.R_nil _ _ _ _ _⟩, ⟨below_alloc (Below.refl _ _) _⟩⟩
    clear h hres hbig
    go_enter Tryd.func15, Tryd.ntmps15
    go_wp2
    go_loopg [6, 7] s.size (fun g v6 v7 wx => HInv s w res g v6 v7 wx)
    case atStart => exact HQ0.out
    case round =>
      clear HQ0
      obtain ⟨i, op, st, rows, row, cell, v0, v1, v2, rfl, rfl, hig, hl1, hl2, hl3, HP0, HS, HB⟩ := hrel
      have hP := HP0.out
      have hy0 := HS.out.H.c0
      have hy1 := HS.out.H.c1
      have hy2 := HS.out.H.c2
      have hy3 := HS.out.H.c3
      have hyf := HS.out.H.fz
      have hyl := HS.out.H.lt
      clear HP0
      by_cases hlt : i < s.size
      · have hdi : decide ((i : Int) < (s.size : Int)) = true := decide_eq_true (by omega)
        rw [drop_cons hlt, ref_cons] at hP
        obtain ⟨x, hx⟩ : ∃ x : UInt8, s[i] = x := ⟨_, rfl⟩
        rw [hx] at hP
        by_cases cst : st = 2
        · subst cst
          rw [if_pos rfl] at hP
          by_cases c34 : x = 34
          · subst c34
            rw [if_pos rfl] at hP
            have HP := Aside0.mk hP
            clear hP
            go_wp2
            go_roundg (s.size - (i + 1))
            case measure => omega
            case rel => exact ⟨i + 1, op, 3, rows, row, cell, _, _, _, rfl, rfl, by omega, by omega, by omega, by omega, HP, ⟨HS.out.putSt 3⟩, ⟨Below.setCell HB.out (Nat.le_refl _) _⟩⟩
          · rw [if_neg c34] at hP
            have HP := Aside0.mk hP
            have d34 : ((x.toNat : Int) == 34) = false := u8ne 34 c34
            clear hP c34
            go_wp2_with (((with_reducible refine gate_builtin (b := .append) (xs := #[.tmp 37, .tmp 39]) rfl ?_); at_builtin; refine Kd.R_append (Kd.int .u8) (w0 := wr) w.heap.size rfl (.tmp 37) (.tmp 39) 39 5 (.int .u8 0) 1 rfl Tryd.underlying39 info5 rfl (by decide) (by omega) v2 (bs cell) (x.toNat : Int) [.int .u8 (x.toNat : Int)] (fun k => k ≠ w.heap.size) (fun _ => False) rfl rfl rfl (fun _ hk => hk.elim) ?aF HS.out.C ?aB ?aS ?aL ?_; (case aF => exact fun k hk e => by subst e; exact Nat.lt_irrefl _ (Nat.lt_of_lt_of_le HS.out.H.lt hk)); (case aB => exact Below.refl _ _); (case aS => exact Nat.le_of_lt HS.out.H.lt); (case aL => rw [bs, List.length_map]; omega); intro v4 w4 ho hb hg hat; obtain ⟨A4, c4, e4⟩ := Kd.R_slice ho; rw [List.length_append, List.length_singleton] at e4; have HS4 := Aside0.mk (HS.out.app (x := x) ho hg); have HB4 := Aside0.mk hb; have hH4 : Sh w.heap.size v0 v1 v2 _ w4 := (hg.block _ HS.out.H.lt (fun e => HS.out.C.1 _ e.symm rfl)).trans HS.out.H; have hz2 := hH4.c2; have hz3 := hH4.c3; have hzf := hH4.fz; subst e4; clear ho hb hg hat))
            go_roundg (s.size - (i + 1))
            case measure => omega
            case rel => exact ⟨i + 1, op, 2, rows, row, cell ++ [x], _, _, _, rfl, rfl, by omega, by omega, by omega, by rw [List.length_append, List.length_singleton]; omega, HP, ⟨HS4.out⟩, ⟨Below.setCell (HB.out.trans HB4.out) (Nat.le_refl _) _⟩⟩
        · rw [if_neg cst] at hP
          have d2 : ((st : Int) == 2) = false := beq_eq_false_iff_ne.2 (by omega)
          by_cases c44 : x = 44
          · subst c44
            rw [if_pos rfl] at hP
            by_cases ht : s.data.toList.drop (i + 1) = []
            · rw [if_pos ht] at hP
              have hie : s.size ≤ i + 1 := by
                have e := congrArg List.length ht
                rw [List.length_drop, ← Lib.size_eq, List.length_nil] at e
                omega
              have hi1 : (((i : Int) + 1) == (s.size : Int)) = true := beq_iff_eq.2 (by omega)
              have HP := Aside0.mk hP
              clear hP ht
              go_wp2_with (first | (go_at_call 35; refine (ref_endCell w.heap.size (rows.map rowB) (rowB row) cell _ _ _ _ _ HS.out (by rw [rowB_len]; omega)).mono ?_; rintro e w1 ⟨rfl, hB1, v1', h1⟩; have HB1 := Aside0.mk hB1; have HS1 := Aside0.mk h1; clear h1 hB1; have hz0 := HS1.out.H.c0; have hz1 := HS1.out.H.c1; have hz2 := HS1.out.H.c2; have hz3 := HS1.out.H.c3; have hzf := HS1.out.H.fz; have hzl := HS1.out.H.lt) | (go_at_call 36; refine (ref_endRow w.heap.size (rows.map rowB) (rowB row ++ [⟨cell.toArray⟩]) [] _ _ _ _ _ HS1.out (by rw [List.length_append, List.length_singleton, rowB_len]; omega) (by rw [List.length_map]; omega)).mono ?_; rintro e w2 ⟨rfl, hB2, v0', h2⟩; have HB2 := Aside0.mk hB2; have HS2 := Aside0.mk h2; clear h2 hB2; have hz0 := HS2.out.H.c0; have hz1 := HS2.out.H.c1; have hz2 := HS2.out.H.c2; have hz3 := HS2.out.H.c3; have hzf := HS2.out.H.fz; have hzl := HS2.out.H.lt))
              go_roundg (s.size - (i + 1))
              case measure => omega
              case rel => exact ⟨i + 1, op, 0, rows ++ [row ++ [cell] ++ [[]]], [], [], _, _, _, rfl, rfl, by omega, by rw [List.length_append, List.length_singleton]; omega, by simp, by simp, HP, ⟨by rw [← rows_snoc2]; exact HS2.out⟩, ⟨(HB.out.trans HB1.out).trans HB2.out⟩⟩
            · rw [if_neg ht] at hP
              have hie : i + 1 < s.size := by
                rcases Nat.lt_or_ge (i + 1) s.size with h | h
                · exact h
                · exact absurd (List.drop_eq_nil_of_le (by rw [← Lib.size_eq]; omega)) ht
              have hi1 : (((i : Int) + 1) == (s.size : Int)) = false := beq_eq_false_iff_ne.2 (by omega)
              have HP := Aside0.mk hP
              clear hP ht
              go_wp2_with (first | (go_at_call 35; refine (ref_endCell w.heap.size (rows.map rowB) (rowB row) cell _ _ _ _ _ HS.out (by rw [rowB_len]; omega)).mono ?_; rintro e w1 ⟨rfl, hB1, v1', h1⟩; have HB1 := Aside0.mk hB1; have HS1 := Aside0.mk h1; clear h1 hB1; have hz0 := HS1.out.H.c0; have hz1 := HS1.out.H.c1; have hz2 := HS1.out.H.c2; have hz3 := HS1.out.H.c3; have hzf := HS1.out.H.fz; have hzl := HS1.out.H.lt))
              go_roundg (s.size - (i + 1))
              case measure => omega
              case rel => exact ⟨i + 1, op, 0, rows, row ++ [cell], [], _, _, _, rfl, rfl, by omega, by omega, by rw [List.length_append, List.length_singleton]; omega, by simp, HP, ⟨by rw [← row_snoc]; exact HS1.out⟩, ⟨HB.out.trans HB1.out⟩⟩
          rw [if_neg c44] at hP
          by_cases c10 : x = 10
          · subst c10
            rw [if_pos rfl] at hP
            have HP := Aside0.mk hP
            clear hP c44
            go_wp2_with (first | (go_at_call 36; refine (ref_endRow w.heap.size (rows.map rowB) (rowB row) cell _ _ _ _ _ HS.out (by rw [rowB_len]; omega) (by rw [List.length_map]; omega)).mono ?_; rintro e w1 ⟨rfl, hB1, v0', h1⟩; have HB1 := Aside0.mk hB1; have HS1 := Aside0.mk h1; clear h1 hB1; have hz0 := HS1.out.H.c0; have hz1 := HS1.out.H.c1; have hz2 := HS1.out.H.c2; have hz3 := HS1.out.H.c3; have hzf := HS1.out.H.fz; have hzl := HS1.out.H.lt))
            go_roundg (s.size - (i + 1))
            case measure => omega
            case rel => exact ⟨i + 1, op, 0, rows ++ [row ++ [cell]], [], [], _, _, _, rfl, rfl, by omega, by rw [List.length_append, List.length_singleton]; omega, by simp, by simp, HP, ⟨by rw [← rows_snoc]; exact HS1.out⟩, ⟨HB.out.trans HB1.out⟩⟩
          rw [if_neg c10] at hP
          by_cases c13 : x = 13
          · subst c13
            rw [if_pos rfl] at hP
            clear c44 c10
            by_cases ht : (s.data.toList.drop (i + 1)).head? = some 10
            · rw [if_pos ht] at hP
              have hie : i + 1 < s.size := by
                rcases Nat.lt_or_ge (i + 1) s.size with h | h
                · exact h
                · rw [List.drop_eq_nil_of_le (by rw [← Lib.size_eq]; omega)] at ht
                  exact absurd ht (by simp)
              rw [drop_cons hie, List.head?_cons] at ht
              have hx1 : s[i + 1] = 10 := Option.some.inj ht
              have hi1 : (((i : Int) + 1) == (s.size : Int)) = false := beq_eq_false_iff_ne.2 (by omega)
              have HP := Aside0.mk hP
              clear hP ht
              go_wp2
              go_roundg (s.size - (i + 1))
              case measure => omega
              case rel => exact ⟨i + 1, op, st, rows, row, cell, _, _, _, rfl, rfl, by omega, by omega, by omega, by omega, HP, ⟨HS.out⟩, ⟨HB.out⟩⟩
            · rw [if_neg ht] at hP
              have HP := Aside0.mk hP
              clear hP
              by_cases hie : i + 1 < s.size
              · rw [drop_cons hie, List.head?_cons] at ht
                obtain ⟨y, hy⟩ : ∃ y : UInt8, s[i + 1] = y := ⟨_, rfl⟩
                rw [hy] at ht
                have d10 : ((y.toNat : Int) != 10) = true := u8bn 10 (fun e => ht (by rw [e]))
                have hi1 : (((i : Int) + 1) == (s.size : Int)) = false := beq_eq_false_iff_ne.2 (by omega)
                clear ht
                go_wp2
                go_ret3
                have hr := HP.out
                subst hr
                have h := HH.out
                simp only [Prod.mk.injEq, List.map_nil] at h
                obtain ⟨rfl, rfl, rfl⟩ := h
                exact ⟨_, rfl, Kd.S_nil _ _ _ _ _, HB.out⟩
              · have hi1 : (((i : Int) + 1) == (s.size : Int)) = true := beq_iff_eq.2 (by omega)
                clear ht
                go_wp2
                go_ret3
                have hr := HP.out
                subst hr
                have h := HH.out
                simp only [Prod.mk.injEq, List.map_nil] at h
                obtain ⟨rfl, rfl, rfl⟩ := h
                exact ⟨_, rfl, Kd.S_nil _ _ _ _ _, HB.out⟩
          rw [if_neg c13] at hP
          by_cases c34 : x = 34
          · subst c34
            clear c44 c10 c13
            by_cases s0 : st = 0
            · subst s0
              rw [if_pos ⟨rfl, rfl⟩] at hP
              have HP := Aside0.mk hP
              clear hP
              go_wp2
              go_roundg (s.size - (i + 1))
              case measure => omega
              case rel => exact ⟨i + 1, i, 2, rows, row, cell, _, _, _, rfl, rfl, by omega, by omega, by omega, by omega, HP, ⟨HS.out.putSt 2⟩, ⟨Below.setCell HB.out (Nat.le_refl _) _⟩⟩
            · rw [if_neg (fun e => s0 e.2)] at hP
              have e0 : ((st : Int) == 0) = false := beq_eq_false_iff_ne.2 (by omega)
              by_cases s3 : st = 3
              · subst s3
                rw [if_pos ⟨rfl, rfl⟩] at hP
                have HP := Aside0.mk hP
                clear hP
                go_wp2_with (((with_reducible refine gate_builtin (b := .append) (xs := #[.tmp 117, .tmp 118]) rfl ?_); at_builtin; refine Kd.R_append (Kd.int .u8) (w0 := wr) w.heap.size rfl (.tmp 117) (.tmp 118) 39 5 (.int .u8 0) 1 rfl Tryd.underlying39 info5 rfl (by decide) (by omega) v2 (bs cell) 34 [.int .u8 34] (fun k => k ≠ w.heap.size) (fun _ => False) rfl rfl rfl (fun _ hk => hk.elim) ?aF HS.out.C ?aB ?aS ?aL ?_; (case aF => exact fun k hk e => by subst e; exact Nat.lt_irrefl _ (Nat.lt_of_lt_of_le HS.out.H.lt hk)); (case aB => exact Below.refl _ _); (case aS => exact Nat.le_of_lt HS.out.H.lt); (case aL => rw [bs, List.length_map]; omega); intro v4 w4 ho hb hg hat; obtain ⟨A4, c4, e4⟩ := Kd.R_slice ho; rw [List.length_append, List.length_singleton] at e4; have HS4 := Aside0.mk (HS.out.app (x := 34) ho hg); have HB4 := Aside0.mk hb; have hH4 : Sh w.heap.size v0 v1 v2 _ w4 := (hg.block _ HS.out.H.lt (fun e => HS.out.C.1 _ e.symm rfl)).trans HS.out.H; have hz2 := hH4.c2; have hz3 := hH4.c3; have hzf := hH4.fz; subst e4; clear ho hb hg hat))
                go_roundg (s.size - (i + 1))
                case measure => omega
                case rel => exact ⟨i + 1, op, 2, rows, row, cell ++ [34], _, _, _, rfl, rfl, by omega, by omega, by omega, by rw [List.length_append, List.length_singleton]; omega, HP, ⟨HS4.out.putSt 2⟩, ⟨Below.setCell (Below.setCell (HB.out.trans HB4.out) (Nat.le_refl _) _) (Nat.le_refl _) _⟩⟩
              · rw [if_neg (fun e => s3 e.2), if_pos (.inl rfl)] at hP
                have e3 : ((st : Int) == 3) = false := beq_eq_false_iff_ne.2 (by omega)
                have HP := Aside0.mk hP
                clear hP
                go_wp2
                go_ret3
                have hr := HP.out
                subst hr
                have h := HH.out
                simp only [Prod.mk.injEq, List.map_nil] at h
                obtain ⟨rfl, rfl, rfl⟩ := h
                exact ⟨_, rfl, Kd.S_nil _ _ _ _ _, HB.out⟩
          rw [if_neg (fun e => c34 e.1), if_neg (fun e => c34 e.1)] at hP
          have d44 : ((x.toNat : Int) == 44) = false := u8ne 44 c44
          have d10 : ((x.toNat : Int) == 10) = false := u8ne 10 c10
          have d13 : ((x.toNat : Int) == 13) = false := u8ne 13 c13
          have d34 : ((x.toNat : Int) == 34) = false := u8ne 34 c34
          by_cases s3 : st = 3
          · subst s3
            rw [if_pos (.inr rfl)] at hP
            have HP := Aside0.mk hP
            clear hP c44 c10 c13 c34
            go_wp2
            go_ret3
            have hr := HP.out
            subst hr
            have h := HH.out
            simp only [Prod.mk.injEq, List.map_nil] at h
            obtain ⟨rfl, rfl, rfl⟩ := h
            exact ⟨_, rfl, Kd.S_nil _ _ _ _ _, HB.out⟩
          · rw [if_neg (fun e => e.elim c34 s3)] at hP
            have e3 : ((st : Int) == 3) = false := beq_eq_false_iff_ne.2 (by omega)
            have HP := Aside0.mk hP
            clear hP c44 c10 c13 c34
            go_wp2_with (((with_reducible refine gate_builtin (b := .append) (xs := #[.tmp 47, .tmp 49]) rfl ?_); at_builtin; refine Kd.R_append (Kd.int .u8) (w0 := wr) w.heap.size rfl (.tmp 47) (.tmp 49) 39 5 (.int .u8 0) 1 rfl Tryd.underlying39 info5 rfl (by decide) (by omega) v2 (bs cell) (x.toNat : Int) [.int .u8 (x.toNat : Int)] (fun k => k ≠ w.heap.size) (fun _ => False) rfl rfl rfl (fun _ hk => hk.elim) ?aF HS.out.C ?aB ?aS ?aL ?_; (case aF => exact fun k hk e => by subst e; exact Nat.lt_irrefl _ (Nat.lt_of_lt_of_le HS.out.H.lt hk)); (case aB => exact Below.refl _ _); (case aS => exact Nat.le_of_lt HS.out.H.lt); (case aL => rw [bs, List.length_map]; omega); intro v4 w4 ho hb hg hat; obtain ⟨A4, c4, e4⟩ := Kd.R_slice ho; rw [List.length_append, List.length_singleton] at e4; have HS4 := Aside0.mk (HS.out.app (x := x) ho hg); have HB4 := Aside0.mk hb; have hH4 : Sh w.heap.size v0 v1 v2 _ w4 := (hg.block _ HS.out.H.lt (fun e => HS.out.C.1 _ e.symm rfl)).trans HS.out.H; have hz2 := hH4.c2; have hz3 := hH4.c3; have hzf := hH4.fz; subst e4; clear ho hb hg hat))
            go_roundg (s.size - (i + 1))
            case measure => omega
            case rel => exact ⟨i + 1, op, 1, rows, row, cell ++ [x], _, _, _, rfl, rfl, by omega, by omega, by omega, by rw [List.length_append, List.length_singleton]; omega, HP, ⟨HS4.out.putSt 1⟩, ⟨Below.setCell (Below.setCell (HB.out.trans HB4.out) (Nat.le_refl _) _) (Nat.le_refl _) _⟩⟩
      · have hdi : decide ((i : Int) < (s.size : Int)) = false := decide_eq_false (by omega)
        rw [List.drop_eq_nil_of_le (by rw [← Lib.size_eq]; omega), CsvP.refL] at hP
        by_cases cst : st = 2
        · subst cst
          rw [if_pos rfl] at hP
          have HP := Aside0.mk hP
          clear hP
          go_wp2
          go_ret3
          have hr := HP.out
          subst hr
          have h := HH.out
          simp only [Prod.mk.injEq, List.map_nil] at h
          obtain ⟨rfl, rfl, rfl⟩ := h
          exact ⟨_, rfl, Kd.S_nil _ _ _ _ _, HB.out⟩
        · rw [if_neg cst] at hP
          have d2 : ((st : Int) == 2) = false := beq_eq_false_iff_ne.2 (by omega)
          by_cases s0 : st = 0
          · subst s0
            rw [if_pos rfl] at hP
            have HP := Aside0.mk hP
            clear hP
            go_wp2
            go_ret3
            have hr := HP.out
            subst hr
            have h := HH.out
            simp only [Prod.mk.injEq] at h
            obtain ⟨rfl, rfl, rfl⟩ := h
            exact ⟨_, rfl, Kd.S_mono HS.out.A (fun _ _ => trivial), HB.out⟩
          · rw [if_neg s0] at hP
            have e0 : ((st : Int) != 0) = true := by rw [bne, beq_eq_false_iff_ne.2 (by omega)]; rfl
            have HP := Aside0.mk hP
            clear hP
            go_wp2_with (first | (go_at_call 36; refine (ref_endRow w.heap.size (rows.map rowB) (rowB row) cell _ _ _ _ _ HS.out (by rw [rowB_len]; omega) (by rw [List.length_map]; omega)).mono ?_; rintro e w1 ⟨rfl, hB1, v0', h1⟩; have HB1 := Aside0.mk hB1; have HS1 := Aside0.mk h1; clear h1 hB1; have hz0 := HS1.out.H.c0; have hz1 := HS1.out.H.c1; have hz2 := HS1.out.H.c2; have hz3 := HS1.out.H.c3; have hzf := HS1.out.H.fz; have hzl := HS1.out.H.lt))
            go_ret3
            have hr := HP.out
            subst hr
            have h := HH.out
            simp only [Prod.mk.injEq] at h
            obtain ⟨rfl, rfl, rfl⟩ := h
            exact ⟨_, rfl, by rw [← rows_snoc]; exact Kd.S_mono HS1.out.A (fun _ _ => trivial), HB.out.trans HB1.out⟩
end Go.Proofs.YthmcapdakplhdaaDoor.Pr
