import Derived.Test.YthhpeeckiggpaaaDoorPrx2
import Derived.Test.YthhpeeckiggpaaaDoorExtVq
import Derived.Test.YthhpeeckiggpaaaDoorShV
import Derived.Test.YthhpeeckiggpaaaDoorExtG
namespace Go.Proofs.YthhpeeckiggpaaaDoor.Pr
open Go.RowKit Go.Proofs.YthhpeeckiggpaaaDoor.Pu Go.Proofs.YthhpeeckiggpaaaDoorW.PrintWords Go.Proofs.YthhpeeckiggpaaaDoorW.PrintLast Go.Proofs.YthhpeeckiggpaaaDoorW.PrintMore
set_option linter.unusedVariables false
set_option linter.unusedSimpArgs false
/-- May a value be? -/
def validV (kd n : Int) (s : ByteArray) (b : Bool) : Bool :=
  if kd = 1 then s.toList == [] && b == false else if kd = 2 then n == 0 && b == false && decide (s.size ≤ 256) else if kd = 3 then n == 0 && s.toList == [] else false
/-- A value's text and error, as value.Show tells them. -/
def showV (kd n : Int) (s : ByteArray) (b : Bool) : ByteArray × Int :=
  if validV kd n s b = false then (⟨#[]⟩, 12)
  else if kd = 1 then (⟨(Lib.itoa n).toArray⟩, 0)
  else if kd = 2 then (⟨(qvs s.data.toList).toArray⟩, 0)
  else (if b then ⟨#[84, 82, 85, 69]⟩ else ⟨#[70, 65, 76, 83, 69]⟩, 0)
def value_Show.f (a0_0 a0_1 : Int) (a0_2 : ByteArray) (a0_3 : Bool) : Option (ByteArray × Int) := if -9223372036854775808 ≤ a0_1 ∧ a0_1 ≤ 9223372036854775807 then some (showV a0_0 a0_1 a0_2 a0_3) else none
theorem valid_f (kd n : Int) (s : ByteArray) (b : Bool) : value_Valid.f kd n s b = some (validV kd n s b) := by
  unfold value_Valid.f validV value_number.f value_text.f value_truth.f
  by_cases h1 : kd = 1
  · subst h1; simp
  rw [if_neg h1, if_neg h1]
  by_cases h2 : kd = 2
  · subst h2
    simp
    by_cases h3 : n = 0
    · by_cases h4 : b = false
      · simp [h3, h4]; omega
      · simp [h3, h4]
    · simp [h3]
  rw [if_neg h2, if_neg h2]
  by_cases h3 : kd = 3
  · subst h3; simp
  · rw [if_neg h3, if_neg h3]
theorem tab_of {w : World} (h : LG1 w) : Lib.TabIs Tryd.prog w "internal/strconv.uint64pow10" .u64 Lib.pow10Tab := h
theorem up_size (b : Bool) : (⟨(Lib.formatBool b).toArray⟩ : ByteArray).size ≤ 140737488355328 := by cases b <;> decide
theorem up_ascii (b : Bool) : ∀ (j : Nat) (c : UInt8), (⟨(Lib.formatBool b).toArray⟩ : ByteArray).data.toList[j]? = some c → c.toNat < 128 := by
  intro j c h
  have hm : c ∈ Lib.formatBool b := by have := List.mem_of_getElem? h; simpa using this
  clear h
  cases b
  · revert hm; revert c; decide
  · revert hm; revert c; decide
theorem bel_grow (w : World) (k : Nat) (os : Array Obj) : Below w.heap.size w (Sort.grow (w.drewN k) os) :=
  ⟨rfl, rfl, rfl, by show w.heap.size ≤ (w.heap ++ os).size; rw [Array.size_append]; omega, fun j hj => by show (w.heap ++ os)[j]? = w.heap[j]?; rw [Array.getElem?_append_left hj]⟩
set_option maxHeartbeats 2000000 in
theorem value_Show.calls (a0_0 a0_1 : Int) (a0_2 : ByteArray) (a0_3 : Bool) (r1 : ByteArray) (r2 : Int) (w : World) (HL_LG1 : Aside0 (LG1 w)) (h : value_Show.f a0_0 a0_1 a0_2 a0_3 = some (r1, r2)) :
    Calls Tryd.prog 13 #[.agg #[.int .i64 a0_0, .int .i64 a0_1, .string a0_2, .bool a0_3]] w fun e w' => e = .returned (.tuple #[.string r1, .int .i64 r2]) ∧ Below w.heap.size w w' := by
  unfold value_Show.f at h
  by_cases hb : -9223372036854775808 ≤ a0_1 ∧ a0_1 ≤ 9223372036854775807
  rotate_left
  · rw [if_neg hb] at h; cases h
  rw [if_pos hb] at h
  have HR := Aside0.mk (Option.some.inj h)
  have HBD := Aside0.mk hb
  have HV := Aside0.mk (valid_f a0_0 a0_1 a0_2 a0_3)
  have HTAB := HL_LG1
  clear h hb HL_LG1
  go_enter Tryd.func13, Tryd.ntmps13
  go_upto_region 1 with (fail)
  have hcell : (w.alloc (.cells #[.int .i64 a0_0, .int .i64 a0_1, .string a0_2, .bool a0_3] 26)).heap[w.heap.size]? = some (.cells #[.int .i64 a0_0, .int .i64 a0_1, .string a0_2, .bool a0_3] 26 (0, 0)) := heap_alloc_new w _
  have HB1 := Aside0.mk (below_alloc (Below.refl w.heap.size w) (.cells #[.int .i64 a0_0, .int .i64 a0_1, .string a0_2, .bool a0_3] 26))
  have hsz : w.heap.size < (w.alloc (.cells #[.int .i64 a0_0, .int .i64 a0_1, .string a0_2, .bool a0_3] 26)).heap.size := by simp
  generalize w.alloc (.cells #[.int .i64 a0_0, .int .i64 a0_1, .string a0_2, .bool a0_3] 26) = w1 at *
  have hx0 : w1.cell? ⟨w.heap.size, 0, none⟩ = some (.int .i64 a0_0) := by simp [World.cell?, hcell]
  have hx1 : w1.cell? ⟨w.heap.size, 1, none⟩ = some (.int .i64 a0_1) := by simp [World.cell?, hcell]
  have hx2 : w1.cell? ⟨w.heap.size, 2, none⟩ = some (.string a0_2) := by simp [World.cell?, hcell]
  have hx3 : w1.cell? ⟨w.heap.size, 3, none⟩ = some (.bool a0_3) := by simp [World.cell?, hcell]
  clear hcell
  have HR2 : Aside0 ((if validV a0_0 a0_1 a0_2 a0_3 = false then ((⟨#[]⟩ : ByteArray), (12 : Int)) else if a0_0 = 1 then (⟨(Lib.itoa a0_1).toArray⟩, 0) else if a0_0 = 2 then (⟨(qvs a0_2.data.toList).toArray⟩, 0) else (if a0_3 then ⟨#[84, 82, 85, 69]⟩ else ⟨#[70, 65, 76, 83, 69]⟩, 0)) = (r1, r2)) := HR
  have HS2 : Aside0 (validV a0_0 a0_1 a0_2 a0_3 = true → a0_0 = 2 → a0_2.size ≤ 256) := ⟨fun hv h2 => by
    unfold validV at hv
    rw [if_neg (by omega), if_pos h2] at hv
    simp only [Bool.and_eq_true, decide_eq_true_eq] at hv
    exact hv.2⟩
  clear HR
  generalize validV a0_0 a0_1 a0_2 a0_3 = vb at *
  cases vb with
  | false =>
    have hr := HR2.out
    rw [if_pos rfl] at hr
    obtain ⟨rfl, rfl⟩ := Prod.mk.inj hr
    clear hr HR2 HS2
    go_wp2_with (go_at_call 11; (with_reducible refine (value_Valid.calls _ _ _ _ _ _ HV.out).mono ?_); rintro e w2 ⟨rfl, hb2⟩)
    go_ret2
    exact ⟨rfl, HB1.out.trans (hb2.mono (Nat.le_of_lt hsz))⟩
  | true =>
    have hr := HR2.out
    rw [if_neg (by simp)] at hr
    have HR3 := Aside0.mk hr
    clear hr HR2
    go_upto_region 3 with (go_at_call 11; (with_reducible refine (value_Valid.calls _ _ _ _ _ _ HV.out).mono ?_); rintro e w2 ⟨rfl, hb2⟩)
    replace hx0 := (hb2.cell (p := ⟨w.heap.size, 0, none⟩) hsz).trans hx0
    replace hx1 := (hb2.cell (p := ⟨w.heap.size, 1, none⟩) hsz).trans hx1
    replace hx2 := (hb2.cell (p := ⟨w.heap.size, 2, none⟩) hsz).trans hx2
    replace hx3 := (hb2.cell (p := ⟨w.heap.size, 3, none⟩) hsz).trans hx3
    replace HB1 := Aside0.mk (HB1.out.trans (hb2.mono (Nat.le_of_lt hsz)))
    replace hsz : w.heap.size < w2.heap.size := by have := hb2.size; omega
    have hle := Nat.le_of_lt hsz
    replace HTAB := Aside0.mk (HTAB.out.below HB1.out)
    clear hb2
    by_cases k1 : a0_0 = 1
    · have k1b : (a0_0 == 1) = true := beq_iff_eq.mpr k1
      have hr := HR3.out
      rw [if_pos k1] at hr
      obtain ⟨rfl, rfl⟩ := Prod.mk.inj hr
      clear hr HR3 k1 HS2 HV
      go_wp2_with (go_at_call 29; (with_reducible refine (Tryd.strconv_FormatInt_10 _ HBD.out.1 HBD.out.2 _ (tab_of HTAB.out)).mono ?_); rintro e w3 ⟨rfl, hgr⟩)
      go_ret2
      obtain ⟨kk, os, rfl⟩ := hgr
      exact ⟨rfl, HB1.out.trans ((bel_grow _ _ _).mono hle)⟩
    have k1b : (a0_0 == 1) = false := beq_eq_false_iff_ne.mpr k1
    have hr := HR3.out
    rw [if_neg k1] at hr
    replace HR3 := Aside0.mk hr
    clear hr k1
    by_cases k2 : a0_0 = 2
    · have k2b : (a0_0 == 2) = true := beq_iff_eq.mpr k2
      have hr := HR3.out
      rw [if_pos k2] at hr
      obtain ⟨rfl, rfl⟩ := Prod.mk.inj hr
      have hs := HS2.out (by trivial) k2
      have HS3 := Aside0.mk hs
      clear hr HR3 k2 HS2 HV hs
      go_wp2_with (go_at_call 30; (with_reducible refine (value_quoted_walk _ _ (by have := HS3.out; omega)).mono ?_); rintro e w3 ⟨rfl, hb3⟩)
      go_ret2
      exact ⟨rfl, HB1.out.trans (hb3.mono hle)⟩
    have k2b : (a0_0 == 2) = false := beq_eq_false_iff_ne.mpr k2
    have hr := HR3.out
    rw [if_neg k2] at hr
    obtain ⟨hr1, rfl⟩ := Prod.mk.inj hr
    have HR4 := Aside0.mk hr1
    clear hr HR3 k2 HS2 HV hr1
    go_wp2_with (first | (go_at_call 32; (with_reducible refine (Tryd.strconv_FormatBool _ _).mono ?_); rintro e w3 ⟨rfl, rfl⟩) | (go_at_call 31; (with_reducible refine (Tryd.strings_ToUpper_ascii _ _ (up_size _) (up_ascii _)).mono ?_); rintro e w4 ⟨rfl, hb4⟩))
    go_ret2
    refine ⟨?_, HB1.out.trans (hb4.mono hle)⟩
    rw [← HR4.out]
    cases a0_3 <;> rfl
end Go.Proofs.YthhpeeckiggpaaaDoor.Pr
