import Derived.Test.YthhpeeckiggpaaaDoorPvRead
import Derived.Test.YthhpeeckiggpaaaDoorPrx8
import Derived.Test.YthhpeeckiggpaaaDoorPrx7
namespace Go.Proofs.YthhpeeckiggpaaaDoor.Pv
open Go.RowKit Go.Proofs.YthhpeeckiggpaaaDoor.Pu Go.Proofs.YthhpeeckiggpaaaDoor.Pr Go.Proofs.YthhpeeckiggpaaaDoorW.PrintWords Go.Proofs.YthhpeeckiggpaaaDoorW.PrintLast Go.Proofs.YthhpeeckiggpaaaDoorW.PrintMore
set_option linter.unusedVariables false
set_option linter.unusedSimpArgs false

abbrev SV := S26
def okV (x : SV) : Bool := validV x.f0 x.f1 x.f2 x.f3
/-- What an operation wants of a kind. -/
def fitS (want kd : Int) : Bool := if want = 1 then kd == 1 else if want = 2 then kd == 3 else if want = 4 then kd != 3 else true
theorem fits1 (want : Int) (v : SV) : value_fits.f 4 want [v] = some (fitS want v.f0) := by
  unfold value_fits.f fitS
  have e : rd_T26 [v] 0 = v := rfl
  have w0 : wrap64 (0 + 1) = 1 := w64 (by omega) (by omega)
  rw [if_pos (by simp), e, value_fits.l0, if_pos (by simp), if_pos (by omega), if_pos (by simp), e, if_pos rfl, w0, value_fits.l0, if_neg (by simp)]
  repeat' split
  all_goals rfl
theorem fits2 (want : Int) (v w : SV) : value_fits.f 4 want [v, w] = some (if w.f0 = v.f0 then fitS want v.f0 else false) := by
  unfold value_fits.f fitS
  have e : rd_T26 [v, w] 0 = v := rfl
  have e1 : rd_T26 [v, w] 1 = w := rfl
  have w0 : wrap64 (0 + 1) = 1 := w64 (by omega) (by omega)
  have w1 : wrap64 (1 + 1) = 2 := w64 (by omega) (by omega)
  rw [if_pos (by first | (simp; done) | (simp; omega)), e, value_fits.l0, if_pos (by first | (simp; done) | (simp; omega)), if_pos (by omega), if_pos (by first | (simp; done) | (simp; omega)), e, if_pos rfl, w0, value_fits.l0, if_pos (by simp), if_pos (by omega), if_pos (by simp), e1]
  by_cases h : w.f0 = v.f0
  · rw [if_pos h, if_pos h, w1, value_fits.l0, if_neg (by simp)]
    repeat' split
    all_goals rfl
  · rw [if_neg h, if_neg h]
/-- Why an operation is refused: 0: it is not. -/
def refS (op lo hi : Int) (vs : List SV) : Int :=
  if op < lo ∨ hi < op then 11 else if vs.all okV = true then (if vs.all (fun w => w.f0 == (vs.headD z26).f0) && fitS (rd G0c0 op) (vs.headD z26).f0 then 0 else 10) else 12
theorem ref_out (op lo hi : Int) (vs : List SV) (h : op < lo ∨ hi < op) : value_refusal.f 8 op lo hi vs = some 11 := by
  unfold value_refusal.f
  by_cases h1 : op < lo
  · rw [if_pos h1, value_refusal.j0, if_pos rfl]
  · rw [if_neg h1, value_refusal.j0, if_pos (by first | (simp; done) | (simp; omega))]
theorem ref_in (op lo hi : Int) (vs : List SV) (h : ¬ (op < lo ∨ hi < op)) : value_refusal.f 8 op lo hi vs = value_refusal.l0 7 op vs vs (vs.length : Int) 0 := by
  unfold value_refusal.f
  rw [if_neg (by omega), value_refusal.j0, if_neg (by first | (simp; done) | (simp; omega))]
theorem fits_mono {k : Nat} {want : Int} {vs : List SV} {r : Bool} (h : value_fits.f 4 want vs = some r) (hk : 4 ≤ k) : value_fits.f k want vs = some r := at_rounds (fun k => value_fits.mono want vs k) hk h
theorem ref1 (op lo hi : Int) (v : SV) (h0 : 0 ≤ lo) (h1 : hi ≤ 13) : value_refusal.f 8 op lo hi [v] = some (refS op lo hi [v]) := by
  unfold refS
  by_cases h : op < lo ∨ hi < op
  · rw [if_pos h, ref_out _ _ _ _ h]
  rw [if_neg h, ref_in _ _ _ _ h]
  have e : rd_T26 [v] 0 = v := rfl
  have w0 : wrap64 (0 + 1) = 1 := w64 (by omega) (by omega)
  rw [value_refusal.l0, if_pos (by simp), if_pos (by omega), if_pos (by simp), e, valid_f, Option.bind_some]
  have hall : [v].all okV = okV v := by simp
  rw [hall]
  change (if okV v = true then _ else _) = _
  by_cases hv : okV v = true
  · rw [if_pos hv, if_pos hv, w0, value_refusal.l0, if_neg (by simp), if_pos (by omega), if_pos (by omega), fits_mono (fits1 _ v) (by omega), Option.bind_some]
    simp
    split <;> rfl
  · rw [if_neg hv, if_neg hv]
theorem ref2 (op lo hi : Int) (v w : SV) (h0 : 0 ≤ lo) (h1 : hi ≤ 13) : value_refusal.f 8 op lo hi [v, w] = some (refS op lo hi [v, w]) := by
  unfold refS
  by_cases h : op < lo ∨ hi < op
  · rw [if_pos h, ref_out _ _ _ _ h]
  rw [if_neg h, ref_in _ _ _ _ h]
  have e : rd_T26 [v, w] 0 = v := rfl
  have e1 : rd_T26 [v, w] 1 = w := rfl
  have w0 : wrap64 (0 + 1) = 1 := w64 (by omega) (by omega)
  have w1 : wrap64 (1 + 1) = 2 := w64 (by omega) (by omega)
  rw [value_refusal.l0, if_pos (by first | (simp; done) | (simp; omega)), if_pos (by omega), if_pos (by first | (simp; done) | (simp; omega)), e, valid_f, Option.bind_some]
  have hall : [v, w].all okV = (okV v && okV w) := by simp
  rw [hall]
  change (if okV v = true then _ else _) = _
  by_cases hv : okV v = true
  · rw [if_pos hv, hv, Bool.true_and, w0, value_refusal.l0, if_pos (by simp), if_pos (by omega), if_pos (by simp), e1, valid_f, Option.bind_some]
    change (if okV w = true then _ else _) = _
    by_cases hw : okV w = true
    · rw [if_pos hw, if_pos hw, w1, value_refusal.l0, if_neg (by simp), if_pos (by omega), if_pos (by omega), fits_mono (fits2 _ v w) (by omega), Option.bind_some]
      by_cases hk : w.f0 = v.f0
      · simp [hk]
        split <;> rfl
      · simp [hk]
    · rw [if_neg hw, if_neg hw]
  · rw [if_neg hv, if_neg (by simp [hv])]
/-- Three ways. -/
def cmpI (a b : Int) : Int := if a < b then -1 else if a > b then 1 else 0
def cmpS (a b : ByteArray) : Int := if Op.bytesLess a.toList b.toList = true then -1 else if a.toList = b.toList then 0 else 1
def bitI (b : Bool) : Int := if b = true then 1 else 0
def orI (a b : Int) : Int := if a = 0 then b else a
def cmpV (x y : SV) : Int := orI (cmpI x.f0 y.f0) (orI (cmpI x.f1 y.f1) (orI (cmpS x.f2 y.f2) (cmpI (bitI x.f3) (bitI y.f3))))
theorem or4 (a b c d : Int) : cmp_Or_int.f 6 [a, b, c, d] = some (orI a (orI b (orI c d))) := by
  unfold cmp_Or_int.f orI
  have w0 : wrap64 (0 + 1) = 1 := w64 (by omega) (by omega)
  have w1 : wrap64 (1 + 1) = 2 := w64 (by omega) (by omega)
  have w2 : wrap64 (2 + 1) = 3 := w64 (by omega) (by omega)
  have w3 : wrap64 (3 + 1) = 4 := w64 (by omega) (by omega)
  have e0 : rd [a, b, c, d] 0 = a := rfl
  have e1 : rd [a, b, c, d] 1 = b := rfl
  have e2 : rd [a, b, c, d] 2 = c := rfl
  have e3 : rd [a, b, c, d] 3 = d := rfl
  rw [cmp_Or_int.l0, if_pos (by simp), if_pos (by omega), if_pos (by simp), e0]
  by_cases h0 : a = 0
  · rw [if_pos h0, if_pos h0, w0, cmp_Or_int.l0, if_pos (by simp), if_pos (by omega), if_pos (by simp), e1]
    by_cases h1 : b = 0
    · rw [if_pos h1, if_pos h1, w1, cmp_Or_int.l0, if_pos (by simp), if_pos (by omega), if_pos (by simp), e2]
      by_cases h2 : c = 0
      · rw [if_pos h2, if_pos h2, w2, cmp_Or_int.l0, if_pos (by simp), if_pos (by omega), if_pos (by simp), e3]
        by_cases h3 : d = 0
        · rw [if_pos h3, w3, cmp_Or_int.l0, if_neg (by simp), h3]
        · rw [if_neg h3]
      · rw [if_neg h2, if_neg h2]
    · rw [if_neg h1, if_neg h1]
  · rw [if_neg h0, if_neg h0]
theorem cmpI_f (a b : Int) : cmp_Compare_int.f a b = some (cmpI a b) := by
  simp only [cmp_Compare_int.f, cmp_isNaN_int.f, cmpI, bne_self_eq_false, Option.bind_some]
  rw [if_neg (by simp), if_neg (by simp)]
  repeat' split
  all_goals rfl
theorem cmpL_f (a b : Int) : cmp_Compare_int64.f a b = some (cmpI a b) := by
  simp only [cmp_Compare_int64.f, cmp_isNaN_int64.f, cmpI, bne_self_eq_false, Option.bind_some]
  rw [if_neg (by simp), if_neg (by simp)]
  repeat' split
  all_goals rfl
theorem cmpS_f (a b : ByteArray) : cmp_Compare_string.f a b = some (cmpS a b) := by
  simp only [cmp_Compare_string.f, cmp_isNaN_string.f, cmpS, bne_self_eq_false, Option.bind_some]
  rw [if_neg (by simp), if_neg (by simp)]
  repeat' split
  all_goals rfl
theorem bit_f (b : Bool) : value_bit.f b = some (bitI b) := by cases b <;> rfl
theorem compare_f (x y : SV) : value_Compare.f 6 x.f0 x.f1 x.f2 x.f3 y.f0 y.f1 y.f2 y.f3 = some (cmpV x y) := by
  unfold value_Compare.f
  rw [cmpI_f, Option.bind_some, cmpL_f, Option.bind_some, cmpS_f, Option.bind_some, bit_f, Option.bind_some, bit_f, Option.bind_some, cmpI_f, Option.bind_some, or4, Option.bind_some]
  rfl
theorem compare_ev (x y : SV) : Ev (fun k => value_Compare.f k x.f0 x.f1 x.f2 x.f3 y.f0 y.f1 y.f2 y.f3) (cmpV x y) := Ev.of (fun k => value_Compare.mono _ _ _ _ _ _ _ _ k) (compare_f x y)
/-- What a relation of a number says. -/
def relS (op : Int) (x y : SV) : Bool :=
  if op = 11 then decide (0 ≤ cmpV x y) else if op = 6 then cmpV x y == 0 else if op = 9 then decide (cmpV x y ≤ 0) else if op = 8 then decide (cmpV x y < 0) else if op = 7 then cmpV x y != 0
  else if op = 10 then decide (0 < cmpV x y) else if op = 12 then x.f3 && y.f3 else if op = 13 then x.f3 || y.f3 else false
theorem related_ev (op : Int) (x y : SV) : Ev (fun k => value_related.f k op x.f0 x.f1 x.f2 x.f3 y.f0 y.f1 y.f2 y.f3) (relS op x y) := by
  unfold value_related.f relS
  refine Ev.bind (f := fun _ t => _) (compare_ev x y) ?_
  generalize cmpV x y = c
  refine Ev.congr (f := fun _ => some _) (fun k => ?_) (Ev.now _)
  by_cases h1 : op = 11
  · rw [if_pos h1, if_pos h1]
    by_cases hc : c > 0
    · rw [if_pos hc]; simp; omega
    · rw [if_neg hc]; congr 1; rw [Bool.eq_iff_iff]; simp; omega
  rw [if_neg h1, if_neg h1]
  by_cases h2 : op = 6
  · rw [if_pos h2, if_pos h2]
  rw [if_neg h2, if_neg h2]
  by_cases h3 : op = 9
  · rw [if_pos h3, if_pos h3]
    by_cases hc : c = 0
    · rw [if_pos hc]; simp; omega
    · rw [if_neg hc]; congr 1; rw [Bool.eq_iff_iff]; simp; omega
  rw [if_neg h3, if_neg h3]
  by_cases h4 : op = 8
  · rw [if_pos h4, if_pos h4]
  rw [if_neg h4, if_neg h4]
  by_cases h5 : op = 7
  · rw [if_pos h5, if_pos h5]
  rw [if_neg h5, if_neg h5]
  by_cases h6 : op = 10
  · rw [if_pos h6, if_pos h6]
  rw [if_neg h6, if_neg h6]
  by_cases h7 : op = 12
  · rw [if_pos h7, if_pos h7]; cases x.f3 <;> rfl
  rw [if_neg h7, if_neg h7]
  by_cases h8 : op = 13
  · rw [if_pos h8, if_pos h8]; cases x.f3 <;> rfl
  rw [if_neg h8, if_neg h8]
/-- What an operation makes of two values, and its error. -/
def binS (op : Int) (x y : SV) : Int × Int × ByteArray × Bool × Int :=
  if refS op 3 13 [x, y] = 0 then
    (if op = 3 then (1, wrap64 (x.f1 + y.f1), ⟨#[]⟩, false, 0) else if op = 4 then (1, wrap64 (x.f1 - y.f1), ⟨#[]⟩, false, 0) else if op = 5 then (1, wrap64 (x.f1 * y.f1), ⟨#[]⟩, false, 0) else (3, 0, ⟨#[]⟩, relS op x y, 0))
  else (0, 0, ⟨#[]⟩, false, refS op 3 13 [x, y])
theorem binary_ev (op : Int) (x y : SV) : Ev (fun k => value_Binary.f k op x.f0 x.f1 x.f2 x.f3 y.f0 y.f1 y.f2 y.f3) (binS op x y) := by
  unfold value_Binary.f binS
  refine Ev.bind (f := fun k t => _) (Ev.of (fun k => value_refusal.mono _ _ _ _ k) (ref2 op 3 13 x y (by omega) (by omega))) ?_
  generalize refS op 3 13 [x, y] = r
  by_cases h : r = 0
  · simp only [if_pos h]
    by_cases h3 : op = 3
    · simp only [if_pos h3, value_number.f, Option.bind_some]; exact Ev.now _
    simp only [if_neg h3]
    by_cases h4 : op = 4
    · simp only [if_pos h4, value_number.f, Option.bind_some]; exact Ev.now _
    simp only [if_neg h4]
    by_cases h5 : op = 5
    · simp only [if_pos h5, value_number.f, Option.bind_some]; exact Ev.now _
    simp only [if_neg h5]
    exact Ev.bind (f := fun _ t => _) (related_ev op x y) (Ev.now _)
  · simp only [if_neg h]; exact Ev.now _
theorem itoa_m12 : Lib.itoa (-12) = [45, 49, 50] := by
  have h1 : Lib.decDigits 12 = [49, 50] := by
    rw [Lib.decDigits, dif_neg (by decide), show 12 / 10 = 1 from rfl, Lib.decDigits, dif_pos (by decide)]
    rfl
  unfold Lib.itoa
  rw [if_pos (by decide)]
  rw [show (-12 : Int).natAbs = 12 from rfl, h1]
theorem nil_tl : (⟨#[]⟩ : ByteArray).toList = [] := by rw [tl_data]
theorem v5 : validV 1 5 ⟨#[]⟩ false = true := by unfold validV; simp
theorem v2 : validV 1 2 ⟨#[]⟩ false = true := by unfold validV; simp
theorem v3 : validV 1 3 ⟨#[]⟩ false = true := by unfold validV; simp
theorem begun_ev : Ev (fun k => refrainlaw1_begun.f k) true := by
  unfold refrainlaw1_begun.f
  rw [show_f 1 (-12) ⟨#[]⟩ false (by omega)]
  have hs : showV 1 (-12) ⟨#[]⟩ false = (⟨#[45, 49, 50]⟩, 0) := by
    have hv : validV 1 (-12) ⟨#[]⟩ false = true := by unfold validV; simp
    unfold showV
    rw [if_neg (by rw [hv]; simp), if_pos rfl, itoa_m12]
  rw [hs]
  simp only [Option.bind_some]
  have hb : Ev (fun k => value_Binary.f k 3 1 2 (⟨#[]⟩ : ByteArray) false 1 3 (⟨#[]⟩ : ByteArray) false) (1, 5, ⟨#[]⟩, false, 0) := by
    have := binary_ev 3 ⟨1, 2, ⟨#[]⟩, false⟩ ⟨1, 3, ⟨#[]⟩, false⟩
    have e : binS 3 ⟨1, 2, ⟨#[]⟩, false⟩ ⟨1, 3, ⟨#[]⟩, false⟩ = (1, 5, ⟨#[]⟩, false, 0) := by
      have hr : refS 3 3 13 [⟨1, 2, ⟨#[]⟩, false⟩, ⟨1, 3, ⟨#[]⟩, false⟩] = 0 := by
        unfold refS
        rw [if_neg (by omega), if_pos (by simp [okV, v2, v3]), if_pos (by simp [fitS, rd, G0c0])]
      unfold binS
      rw [if_pos hr, if_pos rfl]
      exact congrArg (fun z => ((1 : Int), z, (⟨#[]⟩ : ByteArray), false, (0 : Int))) (w64 (n := 2 + 3) (by omega) (by omega))
    rw [e] at this
    exact this
  refine Ev.bind (f := fun k b => _) hb ?_
  have hr : Ev (fun k => value_Read.f k (⟨#[34, 97, 34]⟩ : ByteArray)) (2, 0, ⟨#[97]⟩, false, 0) := by
    have h1 := read_ev [34, 97, 34] (by decide)
    have h2 := (read_show 2 0 ⟨#[97]⟩ false (by unfold validV; simp [ByteArray.size]) (by decide) (by decide)).1
    have e : (showV 2 0 ⟨#[97]⟩ false).1.data.toList = [34, 97, 34] := by
      unfold showV
      rw [if_neg (by decide), if_neg (by decide), if_pos rfl]
      decide
    rw [e] at h2
    rw [h2] at h1
    exact h1
  refine Ev.bind (f := fun k b => _) hr ?_
  have hv : value_Valid.f 1 5 (⟨#[]⟩ : ByteArray) false = some true := by rw [valid_f, v5]
  rw [hv]
  refine Ev.congr (f := fun _ => some true) (fun k => ?_) (Ev.now _)
  simp [nil_tl]
end Go.Proofs.YthhpeeckiggpaaaDoor.Pv
