import Derived.Test.YthhpeeckiggpaaaGreatDoorPvOps
import Derived.Test.YthhpeeckiggpaaaGreatDoorPvUna
import Derived.Test.YthhpeeckiggpaaaGreatDoorPrx8
import Derived.Test.YthhpeeckiggpaaaGreatDoorPrx8
namespace Go.Proofs.YthhpeeckiggpaaaGreatDoor.Pv
open Go.RowKit Go.Proofs.YthhpeeckiggpaaaGreatDoor.Pu Go.Proofs.YthhpeeckiggpaaaGreatDoor.Pr Go.Proofs.YthhpeeckiggpaaaGreatDoorW.PrintWords Go.Proofs.YthhpeeckiggpaaaGreatDoorW.PrintLast Go.Proofs.YthhpeeckiggpaaaGreatDoorW.PrintMore
set_option linter.unusedVariables false
set_option linter.unusedSimpArgs false

/-- The document's comparison of two values, its product, and its operations: as the program has them. -/
theorem rvalid_f (kd n : Int) (s : ByteArray) (b : Bool) : refrainref1_Valid.f kd n s b = some (validV kd n s b) := by
  unfold refrainref1_Valid.f validV
  by_cases h1 : kd = 1
  · subst h1
    simp
    by_cases h2 : s.toList = []
    · simp [h2]
    · simp [h2]
  rw [if_neg h1, if_neg h1]
  by_cases h2 : kd = 2
  · subst h2
    simp
    by_cases h3 : n = 0
    · by_cases h4 : b = true
      · simp [h3, h4]
      · simp [h3, h4]; omega
    · simp [h3]
  rw [if_neg h2, if_neg h2]
  by_cases h3 : kd = 3
  · subst h3
    by_cases h4 : n = 0
    · simp [h4]
    · simp [h4]
  · rw [if_neg h3, if_neg h3]
def cmpL (l m : List UInt8) : Int := if Op.bytesLess l m = true then -1 else if l = m then 0 else 1
theorem cmpS_L (a b : ByteArray) : cmpS a b = cmpL a.data.toList b.data.toList := by unfold cmpS cmpL; rw [tl_data, tl_data]
theorem cmpL_nil : cmpL [] [] = 0 := rfl
theorem cmpL_short (d : UInt8) (m : List UInt8) : cmpL [] (d :: m) = -1 := rfl
theorem cmpL_long (d : UInt8) (m : List UInt8) : cmpL (d :: m) [] = 1 := by unfold cmpL; rw [if_neg (by simp [Op.bytesLess]), if_neg (by simp)]
theorem u8_eq_of {c d : UInt8} (h : c.toNat = d.toNat) : c = d := UInt8.toNat_inj.1 h
theorem cmpL_cons (c d : UInt8) (l m : List UInt8) : cmpL (c :: l) (d :: m) = if c.toNat < d.toNat then -1 else if d.toNat < c.toNat then 1 else cmpL l m := by
  have hlt : (c < d) ↔ c.toNat < d.toNat := UInt8.lt_iff_toNat_lt
  unfold cmpL
  by_cases h1 : c.toNat < d.toNat
  · rw [if_pos h1, if_pos (by simp [Op.bytesLess, hlt, h1])]
  rw [if_neg h1]
  by_cases h2 : d.toNat < c.toNat
  · have hne : ¬ c = d := fun e => by subst e; omega
    rw [if_pos h2, if_neg (by simp [Op.bytesLess, hlt, h1, hne]), if_neg (by simp [hne])]
  · have he : c = d := u8_eq_of (by omega)
    subst he
    rw [if_neg h2]
    have e : Op.bytesLess (c :: l) (c :: m) = Op.bytesLess l m := by simp [Op.bytesLess]
    rw [e]
    simp
theorem rsign_f (a b : Int) : refrainref1_sign.f a b = some (cmpI a b) := by
  unfold refrainref1_sign.f cmpI
  repeat' split
  all_goals rfl
theorem rbelow_run : ∀ (l m pre : List UInt8), (pre ++ l).length ≤ 140737488351232 → (pre ++ m).length ≤ 140737488351232 → Ev (fun k => refrainref1_below.l0 k (B (pre ++ l)) (B (pre ++ m)) (pre.length : Int)) (cmpL l m)
  | [], m, pre, h1, h2 => by
    refine Ev.step (f := fun k => refrainref1_below.j1 k (B (pre ++ [])) (B (pre ++ m)) (pre.length : Int) false) (fun k => ?_) ?_
    · simp only [refrainref1_below.l0]
      rw [if_neg (by simp)]
    refine Ev.step (f := fun _ => some (cmpL [] m)) (fun k => ?_) (Ev.now _)
    simp only [refrainref1_below.j1]
    rw [if_neg (by simp), rsign_f, Option.bind_some]
    congr 1
    cases m with
    | nil => simp [cmpI, cmpL_nil]
    | cons d m => rw [cmpL_short]; unfold cmpI; rw [if_pos (by simp; omega)]
  | c :: l, [], pre, h1, h2 => by
    refine Ev.step (f := fun k => refrainref1_below.j1 k (B (pre ++ c :: l)) (B (pre ++ [])) (pre.length : Int) false) (fun k => ?_) ?_
    · simp only [refrainref1_below.l0]
      rw [if_pos (by simp; omega)]
      congr 1
      simp
    refine Ev.step (f := fun _ => some (cmpL (c :: l) [])) (fun k => ?_) (Ev.now _)
    simp only [refrainref1_below.j1]
    rw [if_neg (by simp), rsign_f, Option.bind_some]
    congr 1
    rw [cmpL_long]; unfold cmpI; rw [if_neg (by simp; omega), if_pos (by simp; omega)]
  | c :: l, d :: m, pre, h1, h2 => by
    have hl : (pre ++ c :: l).length = pre.length + l.length + 1 := by simp; omega
    have hm : (pre ++ d :: m).length = pre.length + m.length + 1 := by simp; omega
    refine Ev.step (f := fun k => refrainref1_below.j1 k (B (pre ++ c :: l)) (B (pre ++ d :: m)) (pre.length : Int) true) (fun k => ?_) ?_
    · simp only [refrainref1_below.l0]
      rw [if_pos (by rw [B_size, hl]; omega)]
      congr 1
      rw [B_size, hm]
      exact decide_eq_true (by omega)
    rw [cmpL_cons]
    have e0 : bt (B (pre ++ c :: l)) (pre.length : Int) = (c.toNat : Int) := bt_mid pre c l
    have e1 : bt (B (pre ++ d :: m)) (pre.length : Int) = (d.toNat : Int) := bt_mid pre d m
    have hw : wrap64 ((pre.length : Int) + 1) = (((pre ++ [c]).length : Nat) : Int) := by rw [w64 (by omega) (by omega)]; simp
    have hj : ∀ k, refrainref1_below.j1 (k + 1) (B (pre ++ c :: l)) (B (pre ++ d :: m)) (pre.length : Int) true = (if (c.toNat : Int) < (d.toNat : Int) then some (-1) else if (c.toNat : Int) > (d.toNat : Int) then some 1 else refrainref1_below.l0 k (B (pre ++ c :: l)) (B (pre ++ d :: m)) (((pre ++ [c]).length : Nat) : Int)) := by
      intro k
      simp only [refrainref1_below.j1]
      rw [if_pos trivial, if_pos (by omega), if_pos (by rw [B_size, hl]; omega), if_pos (by rw [B_size, hm]; omega), e0, e1, hw]
    refine Ev.step hj ?_
    by_cases c1 : c.toNat < d.toNat
    · rw [if_pos c1]
      refine Ev.congr (f := fun _ => some (-1)) (fun k => ?_) (Ev.now _)
      rw [if_pos (by omega)]
    rw [if_neg c1]
    by_cases c2 : d.toNat < c.toNat
    · rw [if_pos c2]
      refine Ev.congr (f := fun _ => some 1) (fun k => ?_) (Ev.now _)
      rw [if_neg (by omega), if_pos (by omega)]
    rw [if_neg c2]
    have he : c = d := u8_eq_of (by omega)
    subst he
    have ih := rbelow_run l m (pre ++ [c]) (by simp at h1 ⊢; omega) (by simp at h2 ⊢; omega)
    refine Ev.congr (f := fun k => refrainref1_below.l0 k (B ((pre ++ [c]) ++ l)) (B ((pre ++ [c]) ++ m)) (((pre ++ [c]).length : Nat) : Int)) (fun k => ?_) ih
    rw [if_neg (by omega), if_neg (by omega)]
    simp only [List.append_assoc, List.singleton_append]
theorem rbelow_ev (a b : ByteArray) (ha : a.size ≤ 140737488351232) (hb : b.size ≤ 140737488351232) : Ev (fun k => refrainref1_below.f k a b) (cmpS a b) := by
  have h := rbelow_run a.data.toList b.data.toList [] (by rw [List.nil_append, data_len]; exact ha) (by rw [List.nil_append, data_len]; exact hb)
  rw [cmpS_L]
  unfold refrainref1_below.f
  simpa only [List.nil_append, B_of, List.length_nil, Int.ofNat_zero] using h
theorem cmpS_range (a b : ByteArray) : cmpS a b = 0 ∨ cmpS a b = 1 ∨ cmpS a b = -1 := by
  unfold cmpS
  repeat' split
  all_goals simp
theorem rcompare_ev (x y : SV) (ha : x.f2.size ≤ 140737488351232) (hb : y.f2.size ≤ 140737488351232) : Ev (fun k => refrainref1_Compare.f k x.f0 x.f1 x.f2 x.f3 y.f0 y.f1 y.f2 y.f3) (cmpV x y) := by
  unfold refrainref1_Compare.f cmpV
  by_cases h0 : x.f0 = y.f0
  · have c0 : cmpI x.f0 y.f0 = 0 := by unfold cmpI; rw [if_neg (by omega), if_neg (by omega)]
    simp only [if_pos h0]
    rw [c0, orI, if_pos rfl]
    by_cases h1 : x.f1 = y.f1
    · have c1 : cmpI x.f1 y.f1 = 0 := by unfold cmpI; rw [if_neg (by omega), if_neg (by omega)]
      simp only [if_pos h1]
      rw [c1, orI, if_pos rfl]
      refine Ev.bind (f := fun k t => _) (rbelow_ev x.f2 y.f2 ha hb) ?_
      generalize cmpS x.f2 y.f2 = c
      by_cases hc : c = 0
      · simp only [if_pos hc]
        rw [orI, if_pos hc]
        refine Ev.step (f := fun _ => some (cmpI (bitI x.f3) (bitI y.f3))) (fun k => ?_) (Ev.now _)
        simp only [refrainref1_Compare.j0]
        subst hc
        cases x.f3 <;> cases y.f3 <;> rfl
      · simp only [if_neg hc]
        rw [orI, if_neg hc]
        refine Ev.step (f := fun _ => some c) (fun k => ?_) (Ev.now _)
        simp only [refrainref1_Compare.j0]
        rw [if_pos trivial]
    · have c1 : ¬ cmpI x.f1 y.f1 = 0 := by
        unfold cmpI
        repeat' split
        all_goals omega
      simp only [if_neg h1]
      rw [orI, if_neg c1]
      refine Ev.congr (f := fun _ => some (cmpI x.f1 y.f1)) (fun k => ?_) (Ev.now _)
      rw [rsign_f, Option.bind_some]
  · have c0 : ¬ cmpI x.f0 y.f0 = 0 := by
      unfold cmpI
      repeat' split
      all_goals omega
    simp only [if_neg h0]
    rw [orI, if_neg c0]
    refine Ev.congr (f := fun _ => some (cmpI x.f0 y.f0)) (fun k => ?_) (Ev.now _)
    rw [rsign_f, Option.bind_some]
theorem u64_w (x : Int) : IntKind.u64.wrap x = x % 18446744073709551616 := by simp [IntKind.wrap, IntKind.bits, IntKind.signed]
/-- A product by doubling and adding. -/
theorem times_run : ∀ (n : Nat) (a b s : Int), 0 ≤ b → b < 2 ^ n → 0 ≤ a → a < 18446744073709551616 → 0 ≤ s → s < 18446744073709551616 → b < 18446744073709551616 → Ev (fun k => refrainref1_times.l0 k a b s) ((s + a * b) % 18446744073709551616)
  | n, a, b, s, h0, hn, ha, ha', hs, hs', hb' => by
    by_cases hb : b > 0
    · match n, hn with
      | 0, hn => exact absurd hn (by omega)
      | n + 1, hn =>
        have hd : Int.tdiv b 2 = b / 2 := Int.tdiv_eq_ediv_of_nonneg h0
        have hm : Int.tmod b 2 = b % 2 := Int.tmod_eq_emod_of_nonneg h0
        have hp : (2 : Int) ^ (n + 1) = 2 * 2 ^ n := by rw [Int.pow_succ]; omega
        have e2 : b / 2 % 18446744073709551616 = b / 2 := Int.emod_eq_of_lt (by omega) (by omega)
        have hq : b / 2 < 2 ^ n := by omega
        have h2 : (a + a) % 18446744073709551616 * (b / 2) % 18446744073709551616 = (a + a) * (b / 2) % 18446744073709551616 := by rw [Int.mul_emod, Int.emod_emod, ← Int.mul_emod]
        by_cases hc : b % 2 = 1
        · refine Ev.step (f := fun k => refrainref1_times.l0 k ((a + a) % 18446744073709551616) (b / 2) ((s + a) % 18446744073709551616)) (fun k => ?_) ?_
          · simp only [refrainref1_times.l0]
            rw [if_pos hb, hm, if_pos hc, hd, u64_w, u64_w, u64_w, e2]
          have := times_run n ((a + a) % 18446744073709551616) (b / 2) ((s + a) % 18446744073709551616) (by omega) hq (by omega) (by omega) (by omega) (by omega) (by omega)
          have e : ((s + a) % 18446744073709551616 + (a + a) % 18446744073709551616 * (b / 2)) % 18446744073709551616 = (s + a * b) % 18446744073709551616 := by
            rw [Int.add_emod, Int.emod_emod, h2, ← Int.add_emod]
            congr 1
            have hbe : b = 2 * (b / 2) + 1 := by omega
            generalize b / 2 = q at hbe
            subst hbe
            rw [Int.mul_add, Int.mul_one, Int.add_mul, ← Int.mul_assoc, Int.mul_comm a 2, Int.mul_assoc]
            omega
          rw [e] at this
          exact this
        · have hc0 : b % 2 = 0 := by omega
          refine Ev.step (f := fun k => refrainref1_times.l0 k ((a + a) % 18446744073709551616) (b / 2) s) (fun k => ?_) ?_
          · simp only [refrainref1_times.l0]
            rw [if_pos hb, hm, if_neg hc, hd, u64_w, u64_w, e2]
          have := times_run n ((a + a) % 18446744073709551616) (b / 2) s (by omega) hq (by omega) (by omega) (by omega) (by omega) (by omega)
          have e : (s + (a + a) % 18446744073709551616 * (b / 2)) % 18446744073709551616 = (s + a * b) % 18446744073709551616 := by
            rw [Int.add_emod, h2, ← Int.add_emod]
            congr 1
            have hbe : b = 2 * (b / 2) := by omega
            generalize b / 2 = q at hbe
            subst hbe
            rw [Int.add_mul, ← Int.mul_assoc, Int.mul_comm a 2, Int.mul_assoc]
            omega
          rw [e] at this
          exact this
    · have hz : b = 0 := by omega
      subst hz
      refine Ev.step (f := fun _ => some s) (fun k => ?_) ?_
      · simp only [refrainref1_times.l0]
        rw [if_neg hb]
      have e : (s + a * 0) % 18446744073709551616 = s := by rw [Int.mul_zero]; omega
      rw [e]
      exact Ev.now _
/-- The words of 64 bits that two numbers are. -/
def mulW (m n : Int) : Int := (IntKind.u64.wrap m * IntKind.u64.wrap n) % 18446744073709551616
theorem times_ex (m n : Int) : ∃ k, refrainref1_times.f k (IntKind.u64.wrap m) (IntKind.u64.wrap n) = some (mulW m n) := by
  have h := times_run 64 (IntKind.u64.wrap m) (IntKind.u64.wrap n) 0 (by rw [u64_w]; omega) (by rw [u64_w]; omega) (by rw [u64_w]; omega) (by rw [u64_w]; omega) (by omega) (by omega) (by rw [u64_w]; omega)
  rw [Int.zero_add] at h
  exact Ev.rounds h
theorem mulW_wrap (m n : Int) : wrap64 (mulW m n) = wrap64 (m * n) := by
  unfold mulW
  rw [u64_w, u64_w, ← Int.mul_emod]
  unfold wrap64
  omega
theorem addW_wrap (m n : Int) : wrap64 (IntKind.u64.wrap (IntKind.u64.wrap m + IntKind.u64.wrap n)) = wrap64 (m + n) := by rw [u64_w, u64_w, u64_w]; unfold wrap64; omega
theorem subW_wrap (m n : Int) : wrap64 (IntKind.u64.wrap (IntKind.u64.wrap m - IntKind.u64.wrap n)) = wrap64 (m - n) := by rw [u64_w, u64_w, u64_w]; unfold wrap64; omega
theorem negW_wrap (m : Int) : wrap64 (IntKind.u64.wrap (-(IntKind.u64.wrap m))) = wrap64 (-m) := by rw [u64_w, u64_w]; unfold wrap64; omega
theorem runary_ev (op : Int) (x : SV) : Ev (fun k => refrainref1_Unary.f k op x.f0 x.f1 x.f2 x.f3) (unS op x) := by
  unfold refrainref1_Unary.f
  have hj : ∀ k b, refrainref1_Unary.j0 (k + 1) op b x.f0 x.f1 x.f2 x.f3 = if b = true then some (0, 0, (⟨#[]⟩ : ByteArray), false, 11) else if okV x = true then (if op = 1 then refrainref1_Unary.j1 k op (x.f0 == 1) x.f0 x.f1 x.f2 x.f3 else refrainref1_Unary.j1 k op false x.f0 x.f1 x.f2 x.f3) else some (0, 0, (⟨#[]⟩ : ByteArray), false, 12) := by
    intro k b
    simp only [refrainref1_Unary.j0]
    rw [rvalid_f, Option.bind_some]
    rfl
  have hi : ∀ k b, refrainref1_Unary.j1 (k + 1) op b x.f0 x.f1 x.f2 x.f3 = if b = true then some (1, wrap64 (-x.f1), (⟨#[]⟩ : ByteArray), false, 0) else if op = 2 then (if x.f0 = 3 then some (3, 0, (⟨#[]⟩ : ByteArray), !x.f3, 0) else some (0, 0, (⟨#[]⟩ : ByteArray), false, 10)) else some (0, 0, (⟨#[]⟩ : ByteArray), false, 10) := by
    intro k b
    simp only [refrainref1_Unary.j1, refrainref1_number.f, refrainref1_truth.f, Option.bind_some, negW_wrap]
  unfold unS
  have bad : ¬ okV x = true → ∀ op b, ¬ b = true → ∀ k, refrainref1_Unary.j0 (k + 1) op b x.f0 x.f1 x.f2 x.f3 = some (0, 0, (⟨#[]⟩ : ByteArray), false, 12) := by
    intro hv op b hb k
    simp only [refrainref1_Unary.j0]
    rw [rvalid_f, Option.bind_some, if_neg hb]
    exact if_neg hv
  by_cases h1 : op = 1
  · subst h1
    simp only [if_pos]
    by_cases hv : okV x = true
    · refine Ev.step (f := fun k => refrainref1_Unary.j1 k 1 (x.f0 == 1) x.f0 x.f1 x.f2 x.f3) (fun k => by rw [hj, if_neg (by simp), if_pos hv, if_pos rfl]) ?_
      by_cases hk : x.f0 = 1
      · have e : refS 1 1 2 [x] = 0 := by unfold refS; rw [if_neg (by omega), if_pos (by simp [hv]), if_pos (by simp [fitS, rd, G0c0, hk])]
        rw [e, if_pos rfl]
        exact Ev.step (f := fun _ => some _) (fun k => by rw [hi, if_pos (by simp [hk])]) (Ev.now _)
      · have e : refS 1 1 2 [x] = 10 := by unfold refS; rw [if_neg (by omega), if_pos (by simp [hv]), if_neg (by simp [fitS, rd, G0c0, hk])]
        rw [e, if_neg (by omega)]
        exact Ev.step (f := fun _ => some _) (fun k => by rw [hi, if_neg (by simp [hk]), if_neg (by omega)]) (Ev.now _)
    · have e : refS 1 1 2 [x] = 12 := by unfold refS; rw [if_neg (by omega), if_neg (by simp [hv])]
      rw [e, if_neg (by omega)]
      exact Ev.step (f := fun _ => some _) (fun k => bad hv _ _ (by simp) k) (Ev.now _)
  · simp only [if_neg h1]
    by_cases h2 : op = 2
    · subst h2
      by_cases hv : okV x = true
      · refine Ev.step (f := fun k => refrainref1_Unary.j1 k 2 false x.f0 x.f1 x.f2 x.f3) (fun k => by rw [hj, if_neg (by simp), if_pos hv, if_neg (by omega)]) ?_
        by_cases hk : x.f0 = 3
        · have e : refS 2 1 2 [x] = 0 := by unfold refS; rw [if_neg (by omega), if_pos (by simp [hv]), if_pos (by simp [fitS, rd, G0c0, hk])]
          rw [e, if_pos rfl]
          exact Ev.step (f := fun _ => some _) (fun k => by rw [hi, if_neg (by simp), if_pos rfl, if_pos hk]) (Ev.now _)
        · have e : refS 2 1 2 [x] = 10 := by unfold refS; rw [if_neg (by omega), if_pos (by simp [hv]), if_neg (by simp [fitS, rd, G0c0, hk])]
          rw [e, if_neg (by omega)]
          exact Ev.step (f := fun _ => some _) (fun k => by rw [hi, if_neg (by simp), if_pos rfl, if_neg hk]) (Ev.now _)
      · have e : refS 2 1 2 [x] = 12 := by unfold refS; rw [if_neg (by omega), if_neg (by simp [hv])]
        rw [e, if_neg (by omega)]
        exact Ev.step (f := fun _ => some _) (fun k => bad hv _ _ (by simp) k) (Ev.now _)
    · have e : refS op 1 2 [x] = 11 := by unfold refS; rw [if_pos (by omega)]
      rw [e, if_neg (by omega)]
      exact Ev.step (f := fun _ => some _) (fun k => by rw [hj, if_pos (by simp [h2])]) (Ev.now _)
/-- What an operation makes of two values that may be, of one kind. -/
def binT (op kd m n : Int) (p q : Bool) (c : Int) : Int × Int × ByteArray × Bool × Int :=
  if fitS (rd G0c0 op) kd = true then
    (if op = 3 then (1, wrap64 (m + n), ⟨#[]⟩, false, 0) else if op = 4 then (1, wrap64 (m - n), ⟨#[]⟩, false, 0) else if op = 5 then (1, wrap64 (m * n), ⟨#[]⟩, false, 0)
     else (3, 0, ⟨#[]⟩, (if op = 11 then decide (0 ≤ c) else if op = 6 then c == 0 else if op = 9 then decide (c ≤ 0) else if op = 8 then decide (c < 0) else if op = 7 then c != 0 else if op = 10 then decide (0 < c) else if op = 12 then p && q else if op = 13 then p || q else false), 0))
  else (0, 0, ⟨#[]⟩, false, 10)
theorem binS_out {op : Int} (x y : SV) (h : op < 3 ∨ 13 < op) : binS op x y = (0, 0, ⟨#[]⟩, false, 11) := by
  have e : refS op 3 13 [x, y] = 11 := by unfold refS; rw [if_pos h]
  unfold binS; rw [e, if_neg (by omega)]
theorem binS_bad {op : Int} (x y : SV) (h : ¬ (op < 3 ∨ 13 < op)) (hv : (okV x && okV y) = false) : binS op x y = (0, 0, ⟨#[]⟩, false, 12) := by
  have e : refS op 3 13 [x, y] = 12 := by unfold refS; rw [if_neg h, if_neg (by simp only [List.all_cons, List.all_nil, Bool.and_true, hv]; simp)]
  unfold binS; rw [e, if_neg (by omega)]
theorem binS_kind {op : Int} (x y : SV) (h : ¬ (op < 3 ∨ 13 < op)) (hv : (okV x && okV y) = true) (hk : ¬ x.f0 = y.f0) : binS op x y = (0, 0, ⟨#[]⟩, false, 10) := by
  have e : refS op 3 13 [x, y] = 10 := by
    unfold refS
    rw [if_neg h, if_pos (by simp only [List.all_cons, List.all_nil, Bool.and_true, hv]), if_neg (by simp; intro e; exact absurd e.symm hk)]
  unfold binS; rw [e, if_neg (by omega)]
theorem binS_ok {op : Int} (x y : SV) (h : ¬ (op < 3 ∨ 13 < op)) (hv : (okV x && okV y) = true) (hk : x.f0 = y.f0) : binS op x y = binT op x.f0 x.f1 y.f1 x.f3 y.f3 (cmpV x y) := by
  have e : refS op 3 13 [x, y] = if fitS (rd G0c0 op) x.f0 = true then 0 else 10 := by
    unfold refS
    rw [if_neg h, if_pos (by simp only [List.all_cons, List.all_nil, Bool.and_true, hv])]
    simp [hk]
  unfold binS binT
  rw [e]
  by_cases hf : fitS (rd G0c0 op) x.f0 = true
  · rw [if_pos hf, if_pos hf, if_pos rfl]
    rfl
  · rw [if_neg hf, if_neg hf, if_neg (by omega)]
theorem okV_kind (x : SV) (h : okV x = true) : x.f0 = 1 ∨ x.f0 = 2 ∨ x.f0 = 3 := by
  unfold okV validV at h
  by_cases h1 : x.f0 = 1
  · exact Or.inl h1
  rw [if_neg h1] at h
  by_cases h2 : x.f0 = 2
  · exact Or.inr (Or.inl h2)
  rw [if_neg h2] at h
  by_cases h3 : x.f0 = 3
  · exact Or.inr (Or.inr h3)
  rw [if_neg h3] at h
  cases h
theorem okV_size (x : SV) (h : okV x = true) : x.f2.size ≤ 140737488351232 := by
  unfold okV validV at h
  by_cases h1 : x.f0 = 1
  · rw [if_pos h1] at h
    simp only [Bool.and_eq_true, beq_iff_eq] at h
    have := congrArg List.length h.1
    rw [tl_data, data_len] at this
    have hz : ([] : List UInt8).length = 0 := rfl
    omega
  rw [if_neg h1] at h
  by_cases h2 : x.f0 = 2
  · rw [if_pos h2] at h
    simp only [Bool.and_eq_true, decide_eq_true_eq] at h
    omega
  rw [if_neg h2] at h
  by_cases h3 : x.f0 = 3
  · rw [if_pos h3] at h
    simp only [Bool.and_eq_true, beq_iff_eq] at h
    have := congrArg List.length h.2
    rw [tl_data, data_len] at this
    have hz : ([] : List UInt8).length = 0 := rfl
    omega
  rw [if_neg h3] at h
  cases h
end Go.Proofs.YthhpeeckiggpaaaGreatDoor.Pv
namespace Go.Proofs.YthhpeeckiggpaaaGreatDoor.Pr
open Go.RowKit Go.Proofs.YthhpeeckiggpaaaGreatDoor.Pu Go.Proofs.YthhpeeckiggpaaaGreatDoor.Pv Go.Proofs.YthhpeeckiggpaaaGreatDoorW.PrintWords Go.Proofs.YthhpeeckiggpaaaGreatDoorW.PrintLast Go.Proofs.YthhpeeckiggpaaaGreatDoorW.PrintMore
set_option linter.unusedVariables false
set_option linter.unusedSimpArgs false
set_option maxRecDepth 100000

/-- The document's operation on two values: it is the program's own. -/
def refrainref1_Binary.f (a0 : Int) (a1_0 a1_1 : Int) (a1_2 : ByteArray) (a1_3 : Bool) (a2_0 a2_1 : Int) (a2_2 : ByteArray) (a2_3 : Bool) : Option (Int × Int × ByteArray × Bool × Int) := some (binS a0 ⟨a1_0, a1_1, a1_2, a1_3⟩ ⟨a2_0, a2_1, a2_2, a2_3⟩)
/-- Three variables in memory that the call has made. -/
structure St3 (w W : World) (ga gb gr : Nat) (A B R : Array Value) : Prop where
  below : Below w.heap.size w W
  la : w.heap.size ≤ ga
  lb : w.heap.size ≤ gb
  lr : w.heap.size ≤ gr
  a : W.heap[ga]? = some (.cells A 27 (0, 0))
  b : W.heap[gb]? = some (.cells B 27 (0, 0))
  r : W.heap[gr]? = some (.cells R 27 (0, 0))
theorem St3.call {w W W' : World} {ga gb gr : Nat} {A B R : Array Value} (h : St3 w W ga gb gr A B R) (hb : Below W.heap.size W W') : St3 w W' ga gb gr A B R :=
  ⟨below_step h.below hb, h.la, h.lb, h.lr, blk_below h.a hb, blk_below h.b hb, blk_below h.r hb⟩
theorem St3.drewN {w W : World} {ga gb gr : Nat} {A B R : Array Value} (h : St3 w W ga gb gr A B R) (n : Nat) : St3 w (W.drewN n) ga gb gr A B R :=
  ⟨pw_below_drewN h.below n, h.la, h.lb, h.lr, h.a, h.b, h.r⟩
theorem St3.cells {w W : World} {ga gb gr : Nat} {x0 x1 y0 y1 z0 z1 : Int} {x2 y2 z2 : ByteArray} {x3 y3 z3 : Bool} (h : St3 w W ga gb gr #[.int .i64 x0, .int .i64 x1, .string x2, .bool x3] #[.int .i64 y0, .int .i64 y1, .string y2, .bool y3] #[.int .i64 z0, .int .i64 z1, .string z2, .bool z3]) :
    (W.cell? ⟨ga, 0, none⟩ = some (.int .i64 x0) ∧ W.cell? ⟨ga, 1, none⟩ = some (.int .i64 x1) ∧ W.cell? ⟨ga, 2, none⟩ = some (.string x2) ∧ W.cell? ⟨ga, 3, none⟩ = some (.bool x3)) ∧
    (W.cell? ⟨gb, 0, none⟩ = some (.int .i64 y0) ∧ W.cell? ⟨gb, 1, none⟩ = some (.int .i64 y1) ∧ W.cell? ⟨gb, 2, none⟩ = some (.string y2) ∧ W.cell? ⟨gb, 3, none⟩ = some (.bool y3)) ∧
    (W.cell? ⟨gr, 0, none⟩ = some (.int .i64 z0) ∧ W.cell? ⟨gr, 1, none⟩ = some (.int .i64 z1) ∧ W.cell? ⟨gr, 2, none⟩ = some (.string z2) ∧ W.cell? ⟨gr, 3, none⟩ = some (.bool z3)) ∧
    (W.frozen? ⟨gr, 0, none⟩ = false ∧ W.frozen? ⟨gr, 1, none⟩ = false ∧ W.frozen? ⟨gr, 2, none⟩ = false ∧ W.frozen? ⟨gr, 3, none⟩ = false) :=
  ⟨⟨(blk_cell h.a 0).trans rfl, (blk_cell h.a 1).trans rfl, (blk_cell h.a 2).trans rfl, (blk_cell h.a 3).trans rfl⟩,
   ⟨(blk_cell h.b 0).trans rfl, (blk_cell h.b 1).trans rfl, (blk_cell h.b 2).trans rfl, (blk_cell h.b 3).trans rfl⟩,
   ⟨(blk_cell h.r 0).trans rfl, (blk_cell h.r 1).trans rfl, (blk_cell h.r 2).trans rfl, (blk_cell h.r 3).trans rfl⟩,
   ⟨blk_frozen h.r 0, blk_frozen h.r 1, blk_frozen h.r 2, blk_frozen h.r 3⟩⟩
theorem St3.wrote {w W : World} {ga gb gr : Nat} {A B : Array Value} {z0 z1 z2 z3 : Value} (h : St3 w W ga gb gr A B #[z0, z1, z2, z3]) (v0 v1 v2 v3 : Value) :
    ((((W.setCell ⟨gr, 0, none⟩ v0).setCell ⟨gr, 1, none⟩ v1).setCell ⟨gr, 2, none⟩ v2).setCell ⟨gr, 3, none⟩ v3).heap[gr]? = some (.cells #[v0, v1, v2, v3] 27 (0, 0)) :=
  blk_put (blk_put (blk_put (blk_put h.r 0 v0 rfl) 1 v1 rfl) 2 v2 rfl) 3 v3 rfl
theorem St3.done {w W : World} {ga gb gr : Nat} {A B R : Array Value} (h : St3 w W ga gb gr A B R) (v0 v1 v2 v3 : Value) :
    Below w.heap.size w ((((W.setCell ⟨gr, 0, none⟩ v0).setCell ⟨gr, 1, none⟩ v1).setCell ⟨gr, 2, none⟩ v2).setCell ⟨gr, 3, none⟩ v3) :=
  below_set (below_set (below_set (below_set h.below h.lr) h.lr) h.lr) h.lr
set_option maxHeartbeats 16000000 in
theorem refrainref1_Binary.calls (a0 : Int) (a1_0 a1_1 : Int) (a1_2 : ByteArray) (a1_3 : Bool) (a2_0 a2_1 : Int) (a2_2 : ByteArray) (a2_3 : Bool) (r1 r2 : Int) (r3 : ByteArray) (r4 : Bool) (r5 : Int) (w : World)
    (h : refrainref1_Binary.f a0 a1_0 a1_1 a1_2 a1_3 a2_0 a2_1 a2_2 a2_3 = some (r1, r2, r3, r4, r5)) :
    Calls Tryz.prog 15 #[.int .i64 a0, .agg #[.int .i64 a1_0, .int .i64 a1_1, .string a1_2, .bool a1_3], .agg #[.int .i64 a2_0, .int .i64 a2_1, .string a2_2, .bool a2_3]] w fun e w' => e = .returned (.tuple #[.agg #[.int .i64 r1, .int .i64 r2, .string r3, .bool r4], .int .i64 r5]) ∧ Below w.heap.size w w' := by
  have hu := Tryz.underlying27
  have HR := Aside0.mk (Option.some.inj h)
  have HB := Aside0.mk (Below.refl w.heap.size w)
  clear h
  go_enter Tryz.func15, Tryz.ntmps15
  go_upto_region 1 with (first | ((with_reducible refine gate_dst (N := 4) rfl ?_); refine box_event ?hg (N := 4) ?hd (cs := #[.int .i64 a1_0, .int .i64 a1_1, .string a1_2, .bool a1_3]) (t := 27) ?hr ?_; (case hd => rfl); (case hg => rfl); (case hr => first | (go_simp; done) | (go_simp; rfl)); intro ga hga wga kga bga; replace hga := Aside0.mk hga; replace kga := Aside0.mk kga; replace bga := Aside0.mk bga) | ((with_reducible refine gate_dst (N := 5) rfl ?_); refine box_event ?hg (N := 5) ?hd (cs := #[.int .i64 a2_0, .int .i64 a2_1, .string a2_2, .bool a2_3]) (t := 27) ?hr ?_; (case hd => rfl); (case hg => rfl); (case hr => first | (go_simp; done) | (go_simp; rfl)); intro gb hgb wgb kgb bgb; replace hgb := Aside0.mk hgb; replace kgb := Aside0.mk kgb; replace bgb := Aside0.mk bgb) | ((with_reducible refine gate_dst (N := 6) rfl ?_); refine box_event ?hg (N := 6) ?hd (cs := #[.int .i64 0, .int .i64 0, .string (⟨#[]⟩ : ByteArray), .bool false]) (t := 27) ?hr ?_; (case hd => rfl); (case hg => rfl); (case hr => first | (go_simp; done) | (go_simp; rfl)); intro gr hgr wgr kgr bgr; replace hgr := Aside0.mk hgr; replace kgr := Aside0.mk kgr; replace bgr := Aside0.mk bgr))
  have S : St3 w wgr ga gb gr #[.int .i64 a1_0, .int .i64 a1_1, .string a1_2, .bool a1_3] #[.int .i64 a2_0, .int .i64 a2_1, .string a2_2, .bool a2_3] #[.int .i64 0, .int .i64 0, .string (⟨#[]⟩ : ByteArray), .bool false] := by
    have h1 : Below w.heap.size w wga := bga.out
    have h2 : Below w.heap.size w wgb := below_step h1 bgb.out
    have h3 : Below w.heap.size w wgr := below_step h2 bgr.out
    exact ⟨h3, by rw [hga.out]; exact Nat.le_refl _, by rw [hgb.out]; exact h1.size, by rw [hgr.out]; exact h2.size, blk_below (blk_below kga.out bgb.out) bgr.out, blk_below kgb.out bgr.out, kgr.out⟩
  have N1 := Aside0.mk (show ga ≠ gb from by rw [hgb.out]; exact Nat.ne_of_lt (blk_lt kga.out))
  have N2 := Aside0.mk (show ga ≠ gr from by rw [hgr.out]; exact Nat.ne_of_lt (blk_lt (blk_below kga.out bgb.out)))
  have N3 := Aside0.mk (show gb ≠ gr from by rw [hgr.out]; exact Nat.ne_of_lt (blk_lt kgb.out))
  clear hga hgb hgr kga kgb kgr bga bgb bgr HB
  replace S := Aside0.mk S
  by_cases hop : a0 < 3 ∨ 13 < a0
  · have hr := HR.out
    rw [binS_out _ _ hop] at hr
    obtain ⟨rfl, rfl, rfl, rfl, rfl⟩ : 0 = r1 ∧ 0 = r2 ∧ (⟨#[]⟩ : ByteArray) = r3 ∧ false = r4 ∧ 11 = r5 := by simpa using hr
    clear hr HR
    obtain ⟨⟨hx0, hx1, hx2, hx3⟩, ⟨hy0, hy1, hy2, hy3⟩, ⟨hz0, hz1, hz2, hz3⟩, ⟨hf0, hf1, hf2, hf3⟩⟩ := S.out.cells; have hn1 := N1.out; have hn2 := N2.out; have hn3 := N3.out; have hm1 := N1.out.symm; have hm2 := N2.out.symm; have hm3 := N3.out.symm
    rcases hop with c0 | c0
    · have c1 := decide_eq_true c0
      clear c0
      go_wp2
      refine bodyPost_ret (results_ct rfl _ _ gr 27 _ (0, 0) _ rfl (S.out.wrote _ _ _ _) Tryz.underlying27 rfl (by kernel_rfl)) rfl ?_
      exact ⟨rfl, S.out.done _ _ _ _⟩
    · have c1 : decide (a0 < 3) = false := decide_eq_false (by omega)
      have c2 := decide_eq_true c0
      clear c0
      go_wp2
      refine bodyPost_ret (results_ct rfl _ _ gr 27 _ (0, 0) _ rfl (S.out.wrote _ _ _ _) Tryz.underlying27 rfl (by kernel_rfl)) rfl ?_
      exact ⟨rfl, S.out.done _ _ _ _⟩
  have c1 : decide (a0 < 3) = false := decide_eq_false (by omega)
  have c2 : decide (13 < a0) = false := decide_eq_false (by omega)
  have HX := Aside0.mk (rvalid_f a1_0 a1_1 a1_2 a1_3)
  have HY := Aside0.mk (rvalid_f a2_0 a2_1 a2_2 a2_3)
  have HOP := Aside0.mk hop
  clear hop
  obtain ⟨⟨hx0, hx1, hx2, hx3⟩, ⟨hy0, hy1, hy2, hy3⟩, ⟨hz0, hz1, hz2, hz3⟩, ⟨hf0, hf1, hf2, hf3⟩⟩ := S.out.cells; have hn1 := N1.out; have hn2 := N2.out; have hn3 := N3.out; have hm1 := N1.out.symm; have hm2 := N2.out.symm; have hm3 := N3.out.symm
  go_upto_region 5 with (first | (go_at_call 10; (with_reducible refine (refrainref1_Valid.calls a1_0 a1_1 a1_2 a1_3 _ _ HX.out).mono ?_); rintro e w1 ⟨rfl, hb⟩; replace S := Aside0.mk (S.out.call hb); clear hb; (try clear hx0 hx1 hx2 hx3 hy0 hy1 hy2 hy3 hz0 hz1 hz2 hz3 hf0 hf1 hf2 hf3 hn1 hn2 hn3 hm1 hm2 hm3); obtain ⟨⟨hx0, hx1, hx2, hx3⟩, ⟨hy0, hy1, hy2, hy3⟩, ⟨hz0, hz1, hz2, hz3⟩, ⟨hf0, hf1, hf2, hf3⟩⟩ := S.out.cells; have hn1 := N1.out; have hn2 := N2.out; have hn3 := N3.out; have hm1 := N1.out.symm; have hm2 := N2.out.symm; have hm3 := N3.out.symm) | (go_at_call 10; (with_reducible refine (refrainref1_Valid.calls a2_0 a2_1 a2_2 a2_3 _ _ HY.out).mono ?_); rintro e w2 ⟨rfl, hb⟩; replace S := Aside0.mk (S.out.call hb); clear hb; (try clear hx0 hx1 hx2 hx3 hy0 hy1 hy2 hy3 hz0 hz1 hz2 hz3 hf0 hf1 hf2 hf3 hn1 hn2 hn3 hm1 hm2 hm3); obtain ⟨⟨hx0, hx1, hx2, hx3⟩, ⟨hy0, hy1, hy2, hy3⟩, ⟨hz0, hz1, hz2, hz3⟩, ⟨hf0, hf1, hf2, hf3⟩⟩ := S.out.cells; have hn1 := N1.out; have hn2 := N2.out; have hn3 := N3.out; have hm1 := N1.out.symm; have hm2 := N2.out.symm; have hm3 := N3.out.symm))
  clear c1 c2
  have HVV : Aside0 (validV a1_0 a1_1 a1_2 a1_3 = okV ⟨a1_0, a1_1, a1_2, a1_3⟩ ∧ validV a2_0 a2_1 a2_2 a2_3 = okV ⟨a2_0, a2_1, a2_2, a2_3⟩) := ⟨rfl, rfl⟩
  by_cases hv : (okV ⟨a1_0, a1_1, a1_2, a1_3⟩ && okV ⟨a2_0, a2_1, a2_2, a2_3⟩) = true
  rotate_left
  · have hr := HR.out
    rw [binS_bad _ _ HOP.out (Bool.not_eq_true _ ▸ hv)] at hr
    obtain ⟨rfl, rfl, rfl, rfl, rfl⟩ : 0 = r1 ∧ 0 = r2 ∧ (⟨#[]⟩ : ByteArray) = r3 ∧ false = r4 ∧ 12 = r5 := by simpa using hr
    clear hr HR
    rw [HVV.out.1, HVV.out.2] at *
    generalize okV ⟨a1_0, a1_1, a1_2, a1_3⟩ = v1 at *
    generalize okV ⟨a2_0, a2_1, a2_2, a2_3⟩ = v2 at *
    cases v1 with
    | false =>
      clear hv
      go_wp2
      refine bodyPost_ret (results_ct rfl _ _ gr 27 _ (0, 0) _ rfl (S.out.wrote _ _ _ _) Tryz.underlying27 rfl (by kernel_rfl)) rfl ?_
      exact ⟨rfl, S.out.done _ _ _ _⟩
    | true =>
      cases v2 with
      | true => exact absurd rfl hv
      | false =>
        clear hv
        go_wp2
        refine bodyPost_ret (results_ct rfl _ _ gr 27 _ (0, 0) _ rfl (S.out.wrote _ _ _ _) Tryz.underlying27 rfl (by kernel_rfl)) rfl ?_
        exact ⟨rfl, S.out.done _ _ _ _⟩
  have hv1 : validV a1_0 a1_1 a1_2 a1_3 = true := by rw [HVV.out.1]; simp only [Bool.and_eq_true] at hv; exact hv.1
  have hv2 : validV a2_0 a2_1 a2_2 a2_3 = true := by rw [HVV.out.2]; simp only [Bool.and_eq_true] at hv; exact hv.2
  have HV := Aside0.mk hv
  clear hv HVV
  by_cases hk : a1_0 = a2_0
  rotate_left
  · have hr := HR.out
    rw [binS_kind _ _ HOP.out HV.out hk] at hr
    obtain ⟨rfl, rfl, rfl, rfl, rfl⟩ : 0 = r1 ∧ 0 = r2 ∧ (⟨#[]⟩ : ByteArray) = r3 ∧ false = r4 ∧ 10 = r5 := by simpa using hr
    clear hr HR
    have k1 : (a1_0 != a2_0) = true := bne_iff_ne.mpr hk
    clear hk
    go_wp2
    refine bodyPost_ret (results_ct rfl _ _ gr 27 _ (0, 0) _ rfl (S.out.wrote _ _ _ _) Tryz.underlying27 rfl (by kernel_rfl)) rfl ?_
    exact ⟨rfl, S.out.done _ _ _ _⟩
  subst hk
  have hr := HR.out
  rw [binS_ok _ _ HOP.out HV.out rfl] at hr
  obtain ⟨kc, HC⟩ := Ev.rounds (rcompare_ev ⟨a1_0, a1_1, a1_2, a1_3⟩ ⟨a1_0, a2_1, a2_2, a2_3⟩ (okV_size _ hv1) (okV_size _ hv2))
  obtain ⟨kt, HT⟩ := times_ex a1_1 a2_1
  replace HC := Aside0.mk HC
  replace HT := Aside0.mk HT
  have HK := Aside0.mk (okV_kind ⟨a1_0, a1_1, a1_2, a1_3⟩ hv1)
  replace HR := Aside0.mk hr
  clear hr
  go_upto_region 10 with (go_at_call 14; (with_reducible refine (refrainref1_Compare.calls kc _ _ _ _ _ _ _ _ _ _ HC.out).mono ?_); rintro e w3 ⟨rfl, hb⟩; replace S := Aside0.mk (S.out.call hb); clear hb; (try clear hx0 hx1 hx2 hx3 hy0 hy1 hy2 hy3 hz0 hz1 hz2 hz3 hf0 hf1 hf2 hf3 hn1 hn2 hn3 hm1 hm2 hm3); obtain ⟨⟨hx0, hx1, hx2, hx3⟩, ⟨hy0, hy1, hy2, hy3⟩, ⟨hz0, hz1, hz2, hz3⟩, ⟨hf0, hf1, hf2, hf3⟩⟩ := S.out.cells; have hn1 := N1.out; have hn2 := N2.out; have hn3 := N3.out; have hm1 := N1.out.symm; have hm2 := N2.out.symm; have hm3 := N3.out.symm)
  generalize cmpV ⟨a1_0, a1_1, a1_2, a1_3⟩ ⟨a1_0, a2_1, a2_2, a2_3⟩ = c at *
  clear HC HX HY HV hv1 hv2
  have ho : a0 = 3 ∨ a0 = 4 ∨ a0 = 5 ∨ a0 = 6 ∨ a0 = 7 ∨ a0 = 8 ∨ a0 = 9 ∨ a0 = 10 ∨ a0 = 11 ∨ a0 = 12 ∨ a0 = 13 := by have := HOP.out; omega
  have hk := HK.out
  clear HK HOP
  rcases ho with rfl | rfl | rfl | rfl | rfl | rfl | rfl | rfl | rfl | rfl | rfl
  · rcases hk with rfl | rfl | rfl
    · as_aux_lemma =>
        have hr : 1 = r1 ∧ wrap64 (a1_1 + a2_1) = r2 ∧ (⟨#[]⟩ : ByteArray) = r3 ∧ false = r4 ∧ 0 = r5 := by have hr := HR.out; simpa [binT, fitS, rd, G0c0] using hr
        obtain ⟨rfl, rfl, rfl, rfl, rfl⟩ := hr
        clear HR
        all_goals
          go_wp2_with (first | (go_at_call 40; (with_reducible refine (refrainref1_number.calls (IntKind.u64.wrap (IntKind.u64.wrap a1_1 + IntKind.u64.wrap a2_1)) _ _ _ _ _ rfl).mono ?_); rintro e w5 ⟨rfl, hb⟩; replace S := Aside0.mk (S.out.call hb); clear hb; (try clear hx0 hx1 hx2 hx3 hy0 hy1 hy2 hy3 hz0 hz1 hz2 hz3 hf0 hf1 hf2 hf3 hn1 hn2 hn3 hm1 hm2 hm3); obtain ⟨⟨hx0, hx1, hx2, hx3⟩, ⟨hy0, hy1, hy2, hy3⟩, ⟨hz0, hz1, hz2, hz3⟩, ⟨hf0, hf1, hf2, hf3⟩⟩ := S.out.cells; have hn1 := N1.out; have hn2 := N2.out; have hn3 := N3.out; have hm1 := N1.out.symm; have hm2 := N2.out.symm; have hm3 := N3.out.symm))
          refine bodyPost_ret (results_ct rfl _ _ gr 27 _ (0, 0) _ rfl (S.out.wrote _ _ _ _) Tryz.underlying27 rfl (by kernel_rfl)) rfl ?_
          exact ⟨by rw [addW_wrap]; rfl, S.out.done _ _ _ _⟩
    · as_aux_lemma =>
        have hr : 0 = r1 ∧ 0 = r2 ∧ (⟨#[]⟩ : ByteArray) = r3 ∧ false = r4 ∧ 10 = r5 := by have hr := HR.out; simpa [binT, fitS, rd, G0c0] using hr
        obtain ⟨rfl, rfl, rfl, rfl, rfl⟩ := hr
        clear HR
        all_goals
          go_wp2
          refine bodyPost_ret (results_ct rfl _ _ gr 27 _ (0, 0) _ rfl (S.out.wrote _ _ _ _) Tryz.underlying27 rfl (by kernel_rfl)) rfl ?_
          exact ⟨rfl, S.out.done _ _ _ _⟩
    · as_aux_lemma =>
        have hr : 0 = r1 ∧ 0 = r2 ∧ (⟨#[]⟩ : ByteArray) = r3 ∧ false = r4 ∧ 10 = r5 := by have hr := HR.out; simpa [binT, fitS, rd, G0c0] using hr
        obtain ⟨rfl, rfl, rfl, rfl, rfl⟩ := hr
        clear HR
        all_goals
          go_wp2
          refine bodyPost_ret (results_ct rfl _ _ gr 27 _ (0, 0) _ rfl (S.out.wrote _ _ _ _) Tryz.underlying27 rfl (by kernel_rfl)) rfl ?_
          exact ⟨rfl, S.out.done _ _ _ _⟩
  · rcases hk with rfl | rfl | rfl
    · as_aux_lemma =>
        have hr : 1 = r1 ∧ wrap64 (a1_1 - a2_1) = r2 ∧ (⟨#[]⟩ : ByteArray) = r3 ∧ false = r4 ∧ 0 = r5 := by have hr := HR.out; simpa [binT, fitS, rd, G0c0] using hr
        obtain ⟨rfl, rfl, rfl, rfl, rfl⟩ := hr
        clear HR
        all_goals
          go_wp2_with (first | (go_at_call 40; (with_reducible refine (refrainref1_number.calls (IntKind.u64.wrap (IntKind.u64.wrap a1_1 - IntKind.u64.wrap a2_1)) _ _ _ _ _ rfl).mono ?_); rintro e w5 ⟨rfl, hb⟩; replace S := Aside0.mk (S.out.call hb); clear hb; (try clear hx0 hx1 hx2 hx3 hy0 hy1 hy2 hy3 hz0 hz1 hz2 hz3 hf0 hf1 hf2 hf3 hn1 hn2 hn3 hm1 hm2 hm3); obtain ⟨⟨hx0, hx1, hx2, hx3⟩, ⟨hy0, hy1, hy2, hy3⟩, ⟨hz0, hz1, hz2, hz3⟩, ⟨hf0, hf1, hf2, hf3⟩⟩ := S.out.cells; have hn1 := N1.out; have hn2 := N2.out; have hn3 := N3.out; have hm1 := N1.out.symm; have hm2 := N2.out.symm; have hm3 := N3.out.symm))
          refine bodyPost_ret (results_ct rfl _ _ gr 27 _ (0, 0) _ rfl (S.out.wrote _ _ _ _) Tryz.underlying27 rfl (by kernel_rfl)) rfl ?_
          exact ⟨by rw [subW_wrap]; rfl, S.out.done _ _ _ _⟩
    · as_aux_lemma =>
        have hr : 0 = r1 ∧ 0 = r2 ∧ (⟨#[]⟩ : ByteArray) = r3 ∧ false = r4 ∧ 10 = r5 := by have hr := HR.out; simpa [binT, fitS, rd, G0c0] using hr
        obtain ⟨rfl, rfl, rfl, rfl, rfl⟩ := hr
        clear HR
        all_goals
          go_wp2
          refine bodyPost_ret (results_ct rfl _ _ gr 27 _ (0, 0) _ rfl (S.out.wrote _ _ _ _) Tryz.underlying27 rfl (by kernel_rfl)) rfl ?_
          exact ⟨rfl, S.out.done _ _ _ _⟩
    · as_aux_lemma =>
        have hr : 0 = r1 ∧ 0 = r2 ∧ (⟨#[]⟩ : ByteArray) = r3 ∧ false = r4 ∧ 10 = r5 := by have hr := HR.out; simpa [binT, fitS, rd, G0c0] using hr
        obtain ⟨rfl, rfl, rfl, rfl, rfl⟩ := hr
        clear HR
        all_goals
          go_wp2
          refine bodyPost_ret (results_ct rfl _ _ gr 27 _ (0, 0) _ rfl (S.out.wrote _ _ _ _) Tryz.underlying27 rfl (by kernel_rfl)) rfl ?_
          exact ⟨rfl, S.out.done _ _ _ _⟩
  · rcases hk with rfl | rfl | rfl
    · as_aux_lemma =>
        have hr : 1 = r1 ∧ wrap64 (a1_1 * a2_1) = r2 ∧ (⟨#[]⟩ : ByteArray) = r3 ∧ false = r4 ∧ 0 = r5 := by have hr := HR.out; simpa [binT, fitS, rd, G0c0] using hr
        obtain ⟨rfl, rfl, rfl, rfl, rfl⟩ := hr
        clear HR
        all_goals
          go_wp2_with (first | (go_at_call 41; (with_reducible refine (refrainref1_times.calls kt _ _ _ _ HT.out).mono ?_); rintro e w4 ⟨rfl, ⟨nd, rfl⟩⟩; replace S := Aside0.mk (S.out.drewN nd); (try clear hx0 hx1 hx2 hx3 hy0 hy1 hy2 hy3 hz0 hz1 hz2 hz3 hf0 hf1 hf2 hf3 hn1 hn2 hn3 hm1 hm2 hm3); obtain ⟨⟨hx0, hx1, hx2, hx3⟩, ⟨hy0, hy1, hy2, hy3⟩, ⟨hz0, hz1, hz2, hz3⟩, ⟨hf0, hf1, hf2, hf3⟩⟩ := S.out.cells; have hn1 := N1.out; have hn2 := N2.out; have hn3 := N3.out; have hm1 := N1.out.symm; have hm2 := N2.out.symm; have hm3 := N3.out.symm) | (go_at_call 40; (with_reducible refine (refrainref1_number.calls (mulW a1_1 a2_1) _ _ _ _ _ rfl).mono ?_); rintro e w5 ⟨rfl, hb⟩; replace S := Aside0.mk (S.out.call hb); clear hb; (try clear hx0 hx1 hx2 hx3 hy0 hy1 hy2 hy3 hz0 hz1 hz2 hz3 hf0 hf1 hf2 hf3 hn1 hn2 hn3 hm1 hm2 hm3); obtain ⟨⟨hx0, hx1, hx2, hx3⟩, ⟨hy0, hy1, hy2, hy3⟩, ⟨hz0, hz1, hz2, hz3⟩, ⟨hf0, hf1, hf2, hf3⟩⟩ := S.out.cells; have hn1 := N1.out; have hn2 := N2.out; have hn3 := N3.out; have hm1 := N1.out.symm; have hm2 := N2.out.symm; have hm3 := N3.out.symm))
          refine bodyPost_ret (results_ct rfl _ _ gr 27 _ (0, 0) _ rfl (S.out.wrote _ _ _ _) Tryz.underlying27 rfl (by kernel_rfl)) rfl ?_
          exact ⟨by rw [mulW_wrap]; rfl, S.out.done _ _ _ _⟩
    · as_aux_lemma =>
        have hr : 0 = r1 ∧ 0 = r2 ∧ (⟨#[]⟩ : ByteArray) = r3 ∧ false = r4 ∧ 10 = r5 := by have hr := HR.out; simpa [binT, fitS, rd, G0c0] using hr
        obtain ⟨rfl, rfl, rfl, rfl, rfl⟩ := hr
        clear HR
        all_goals
          go_wp2
          refine bodyPost_ret (results_ct rfl _ _ gr 27 _ (0, 0) _ rfl (S.out.wrote _ _ _ _) Tryz.underlying27 rfl (by kernel_rfl)) rfl ?_
          exact ⟨rfl, S.out.done _ _ _ _⟩
    · as_aux_lemma =>
        have hr : 0 = r1 ∧ 0 = r2 ∧ (⟨#[]⟩ : ByteArray) = r3 ∧ false = r4 ∧ 10 = r5 := by have hr := HR.out; simpa [binT, fitS, rd, G0c0] using hr
        obtain ⟨rfl, rfl, rfl, rfl, rfl⟩ := hr
        clear HR
        all_goals
          go_wp2
          refine bodyPost_ret (results_ct rfl _ _ gr 27 _ (0, 0) _ rfl (S.out.wrote _ _ _ _) Tryz.underlying27 rfl (by kernel_rfl)) rfl ?_
          exact ⟨rfl, S.out.done _ _ _ _⟩
  · rcases hk with rfl | rfl | rfl
    · as_aux_lemma =>
        have hr : 3 = r1 ∧ 0 = r2 ∧ (⟨#[]⟩ : ByteArray) = r3 ∧ (c == 0) = r4 ∧ 0 = r5 := by have hr := HR.out; simpa [binT, fitS, rd, G0c0] using hr
        obtain ⟨rfl, rfl, rfl, rfl, rfl⟩ := hr
        clear HR
        all_goals
          go_wp2_with (go_at_call 39; (with_reducible refine (refrainref1_truth.calls ((c == 0)) _ _ _ _ _ rfl).mono ?_); rintro e w5 ⟨rfl, hb⟩; replace S := Aside0.mk (S.out.call hb); clear hb; (try clear hx0 hx1 hx2 hx3 hy0 hy1 hy2 hy3 hz0 hz1 hz2 hz3 hf0 hf1 hf2 hf3 hn1 hn2 hn3 hm1 hm2 hm3); obtain ⟨⟨hx0, hx1, hx2, hx3⟩, ⟨hy0, hy1, hy2, hy3⟩, ⟨hz0, hz1, hz2, hz3⟩, ⟨hf0, hf1, hf2, hf3⟩⟩ := S.out.cells; have hn1 := N1.out; have hn2 := N2.out; have hn3 := N3.out; have hm1 := N1.out.symm; have hm2 := N2.out.symm; have hm3 := N3.out.symm)
          refine bodyPost_ret (results_ct rfl _ _ gr 27 _ (0, 0) _ rfl (S.out.wrote _ _ _ _) Tryz.underlying27 rfl (by kernel_rfl)) rfl ?_
          exact ⟨rfl, S.out.done _ _ _ _⟩
    · as_aux_lemma =>
        have hr : 3 = r1 ∧ 0 = r2 ∧ (⟨#[]⟩ : ByteArray) = r3 ∧ (c == 0) = r4 ∧ 0 = r5 := by have hr := HR.out; simpa [binT, fitS, rd, G0c0] using hr
        obtain ⟨rfl, rfl, rfl, rfl, rfl⟩ := hr
        clear HR
        all_goals
          go_wp2_with (go_at_call 39; (with_reducible refine (refrainref1_truth.calls ((c == 0)) _ _ _ _ _ rfl).mono ?_); rintro e w5 ⟨rfl, hb⟩; replace S := Aside0.mk (S.out.call hb); clear hb; (try clear hx0 hx1 hx2 hx3 hy0 hy1 hy2 hy3 hz0 hz1 hz2 hz3 hf0 hf1 hf2 hf3 hn1 hn2 hn3 hm1 hm2 hm3); obtain ⟨⟨hx0, hx1, hx2, hx3⟩, ⟨hy0, hy1, hy2, hy3⟩, ⟨hz0, hz1, hz2, hz3⟩, ⟨hf0, hf1, hf2, hf3⟩⟩ := S.out.cells; have hn1 := N1.out; have hn2 := N2.out; have hn3 := N3.out; have hm1 := N1.out.symm; have hm2 := N2.out.symm; have hm3 := N3.out.symm)
          refine bodyPost_ret (results_ct rfl _ _ gr 27 _ (0, 0) _ rfl (S.out.wrote _ _ _ _) Tryz.underlying27 rfl (by kernel_rfl)) rfl ?_
          exact ⟨rfl, S.out.done _ _ _ _⟩
    · as_aux_lemma =>
        have hr : 3 = r1 ∧ 0 = r2 ∧ (⟨#[]⟩ : ByteArray) = r3 ∧ (c == 0) = r4 ∧ 0 = r5 := by have hr := HR.out; simpa [binT, fitS, rd, G0c0] using hr
        obtain ⟨rfl, rfl, rfl, rfl, rfl⟩ := hr
        clear HR
        all_goals
          go_wp2_with (go_at_call 39; (with_reducible refine (refrainref1_truth.calls ((c == 0)) _ _ _ _ _ rfl).mono ?_); rintro e w5 ⟨rfl, hb⟩; replace S := Aside0.mk (S.out.call hb); clear hb; (try clear hx0 hx1 hx2 hx3 hy0 hy1 hy2 hy3 hz0 hz1 hz2 hz3 hf0 hf1 hf2 hf3 hn1 hn2 hn3 hm1 hm2 hm3); obtain ⟨⟨hx0, hx1, hx2, hx3⟩, ⟨hy0, hy1, hy2, hy3⟩, ⟨hz0, hz1, hz2, hz3⟩, ⟨hf0, hf1, hf2, hf3⟩⟩ := S.out.cells; have hn1 := N1.out; have hn2 := N2.out; have hn3 := N3.out; have hm1 := N1.out.symm; have hm2 := N2.out.symm; have hm3 := N3.out.symm)
          refine bodyPost_ret (results_ct rfl _ _ gr 27 _ (0, 0) _ rfl (S.out.wrote _ _ _ _) Tryz.underlying27 rfl (by kernel_rfl)) rfl ?_
          exact ⟨rfl, S.out.done _ _ _ _⟩
  · rcases hk with rfl | rfl | rfl
    · as_aux_lemma =>
        have hr : 3 = r1 ∧ 0 = r2 ∧ (⟨#[]⟩ : ByteArray) = r3 ∧ (c != 0) = r4 ∧ 0 = r5 := by have hr := HR.out; simpa [binT, fitS, rd, G0c0] using hr
        obtain ⟨rfl, rfl, rfl, rfl, rfl⟩ := hr
        clear HR
        all_goals
          go_wp2_with (go_at_call 39; (with_reducible refine (refrainref1_truth.calls ((c != 0)) _ _ _ _ _ rfl).mono ?_); rintro e w5 ⟨rfl, hb⟩; replace S := Aside0.mk (S.out.call hb); clear hb; (try clear hx0 hx1 hx2 hx3 hy0 hy1 hy2 hy3 hz0 hz1 hz2 hz3 hf0 hf1 hf2 hf3 hn1 hn2 hn3 hm1 hm2 hm3); obtain ⟨⟨hx0, hx1, hx2, hx3⟩, ⟨hy0, hy1, hy2, hy3⟩, ⟨hz0, hz1, hz2, hz3⟩, ⟨hf0, hf1, hf2, hf3⟩⟩ := S.out.cells; have hn1 := N1.out; have hn2 := N2.out; have hn3 := N3.out; have hm1 := N1.out.symm; have hm2 := N2.out.symm; have hm3 := N3.out.symm)
          refine bodyPost_ret (results_ct rfl _ _ gr 27 _ (0, 0) _ rfl (S.out.wrote _ _ _ _) Tryz.underlying27 rfl (by kernel_rfl)) rfl ?_
          exact ⟨rfl, S.out.done _ _ _ _⟩
    · as_aux_lemma =>
        have hr : 3 = r1 ∧ 0 = r2 ∧ (⟨#[]⟩ : ByteArray) = r3 ∧ (c != 0) = r4 ∧ 0 = r5 := by have hr := HR.out; simpa [binT, fitS, rd, G0c0] using hr
        obtain ⟨rfl, rfl, rfl, rfl, rfl⟩ := hr
        clear HR
        all_goals
          go_wp2_with (go_at_call 39; (with_reducible refine (refrainref1_truth.calls ((c != 0)) _ _ _ _ _ rfl).mono ?_); rintro e w5 ⟨rfl, hb⟩; replace S := Aside0.mk (S.out.call hb); clear hb; (try clear hx0 hx1 hx2 hx3 hy0 hy1 hy2 hy3 hz0 hz1 hz2 hz3 hf0 hf1 hf2 hf3 hn1 hn2 hn3 hm1 hm2 hm3); obtain ⟨⟨hx0, hx1, hx2, hx3⟩, ⟨hy0, hy1, hy2, hy3⟩, ⟨hz0, hz1, hz2, hz3⟩, ⟨hf0, hf1, hf2, hf3⟩⟩ := S.out.cells; have hn1 := N1.out; have hn2 := N2.out; have hn3 := N3.out; have hm1 := N1.out.symm; have hm2 := N2.out.symm; have hm3 := N3.out.symm)
          refine bodyPost_ret (results_ct rfl _ _ gr 27 _ (0, 0) _ rfl (S.out.wrote _ _ _ _) Tryz.underlying27 rfl (by kernel_rfl)) rfl ?_
          exact ⟨rfl, S.out.done _ _ _ _⟩
    · as_aux_lemma =>
        have hr : 3 = r1 ∧ 0 = r2 ∧ (⟨#[]⟩ : ByteArray) = r3 ∧ (c != 0) = r4 ∧ 0 = r5 := by have hr := HR.out; simpa [binT, fitS, rd, G0c0] using hr
        obtain ⟨rfl, rfl, rfl, rfl, rfl⟩ := hr
        clear HR
        all_goals
          go_wp2_with (go_at_call 39; (with_reducible refine (refrainref1_truth.calls ((c != 0)) _ _ _ _ _ rfl).mono ?_); rintro e w5 ⟨rfl, hb⟩; replace S := Aside0.mk (S.out.call hb); clear hb; (try clear hx0 hx1 hx2 hx3 hy0 hy1 hy2 hy3 hz0 hz1 hz2 hz3 hf0 hf1 hf2 hf3 hn1 hn2 hn3 hm1 hm2 hm3); obtain ⟨⟨hx0, hx1, hx2, hx3⟩, ⟨hy0, hy1, hy2, hy3⟩, ⟨hz0, hz1, hz2, hz3⟩, ⟨hf0, hf1, hf2, hf3⟩⟩ := S.out.cells; have hn1 := N1.out; have hn2 := N2.out; have hn3 := N3.out; have hm1 := N1.out.symm; have hm2 := N2.out.symm; have hm3 := N3.out.symm)
          refine bodyPost_ret (results_ct rfl _ _ gr 27 _ (0, 0) _ rfl (S.out.wrote _ _ _ _) Tryz.underlying27 rfl (by kernel_rfl)) rfl ?_
          exact ⟨rfl, S.out.done _ _ _ _⟩
  · rcases hk with rfl | rfl | rfl
    · as_aux_lemma =>
        have hr : 3 = r1 ∧ 0 = r2 ∧ (⟨#[]⟩ : ByteArray) = r3 ∧ (decide (c < 0)) = r4 ∧ 0 = r5 := by have hr := HR.out; simpa [binT, fitS, rd, G0c0] using hr
        obtain ⟨rfl, rfl, rfl, rfl, rfl⟩ := hr
        clear HR
        all_goals
          go_wp2_with (go_at_call 39; (with_reducible refine (refrainref1_truth.calls ((decide (c < 0))) _ _ _ _ _ rfl).mono ?_); rintro e w5 ⟨rfl, hb⟩; replace S := Aside0.mk (S.out.call hb); clear hb; (try clear hx0 hx1 hx2 hx3 hy0 hy1 hy2 hy3 hz0 hz1 hz2 hz3 hf0 hf1 hf2 hf3 hn1 hn2 hn3 hm1 hm2 hm3); obtain ⟨⟨hx0, hx1, hx2, hx3⟩, ⟨hy0, hy1, hy2, hy3⟩, ⟨hz0, hz1, hz2, hz3⟩, ⟨hf0, hf1, hf2, hf3⟩⟩ := S.out.cells; have hn1 := N1.out; have hn2 := N2.out; have hn3 := N3.out; have hm1 := N1.out.symm; have hm2 := N2.out.symm; have hm3 := N3.out.symm)
          refine bodyPost_ret (results_ct rfl _ _ gr 27 _ (0, 0) _ rfl (S.out.wrote _ _ _ _) Tryz.underlying27 rfl (by kernel_rfl)) rfl ?_
          exact ⟨rfl, S.out.done _ _ _ _⟩
    · as_aux_lemma =>
        have hr : 3 = r1 ∧ 0 = r2 ∧ (⟨#[]⟩ : ByteArray) = r3 ∧ (decide (c < 0)) = r4 ∧ 0 = r5 := by have hr := HR.out; simpa [binT, fitS, rd, G0c0] using hr
        obtain ⟨rfl, rfl, rfl, rfl, rfl⟩ := hr
        clear HR
        all_goals
          go_wp2_with (go_at_call 39; (with_reducible refine (refrainref1_truth.calls ((decide (c < 0))) _ _ _ _ _ rfl).mono ?_); rintro e w5 ⟨rfl, hb⟩; replace S := Aside0.mk (S.out.call hb); clear hb; (try clear hx0 hx1 hx2 hx3 hy0 hy1 hy2 hy3 hz0 hz1 hz2 hz3 hf0 hf1 hf2 hf3 hn1 hn2 hn3 hm1 hm2 hm3); obtain ⟨⟨hx0, hx1, hx2, hx3⟩, ⟨hy0, hy1, hy2, hy3⟩, ⟨hz0, hz1, hz2, hz3⟩, ⟨hf0, hf1, hf2, hf3⟩⟩ := S.out.cells; have hn1 := N1.out; have hn2 := N2.out; have hn3 := N3.out; have hm1 := N1.out.symm; have hm2 := N2.out.symm; have hm3 := N3.out.symm)
          refine bodyPost_ret (results_ct rfl _ _ gr 27 _ (0, 0) _ rfl (S.out.wrote _ _ _ _) Tryz.underlying27 rfl (by kernel_rfl)) rfl ?_
          exact ⟨rfl, S.out.done _ _ _ _⟩
    · as_aux_lemma =>
        have hr : 0 = r1 ∧ 0 = r2 ∧ (⟨#[]⟩ : ByteArray) = r3 ∧ false = r4 ∧ 10 = r5 := by have hr := HR.out; simpa [binT, fitS, rd, G0c0] using hr
        obtain ⟨rfl, rfl, rfl, rfl, rfl⟩ := hr
        clear HR
        all_goals
          go_wp2
          refine bodyPost_ret (results_ct rfl _ _ gr 27 _ (0, 0) _ rfl (S.out.wrote _ _ _ _) Tryz.underlying27 rfl (by kernel_rfl)) rfl ?_
          exact ⟨rfl, S.out.done _ _ _ _⟩
  · rcases hk with rfl | rfl | rfl
    · as_aux_lemma =>
        have hr : 3 = r1 ∧ 0 = r2 ∧ (⟨#[]⟩ : ByteArray) = r3 ∧ (decide (c ≤ 0)) = r4 ∧ 0 = r5 := by have hr := HR.out; simpa [binT, fitS, rd, G0c0] using hr
        obtain ⟨rfl, rfl, rfl, rfl, rfl⟩ := hr
        clear HR
        all_goals
          go_wp2_with (go_at_call 39; (with_reducible refine (refrainref1_truth.calls ((decide (c ≤ 0))) _ _ _ _ _ rfl).mono ?_); rintro e w5 ⟨rfl, hb⟩; replace S := Aside0.mk (S.out.call hb); clear hb; (try clear hx0 hx1 hx2 hx3 hy0 hy1 hy2 hy3 hz0 hz1 hz2 hz3 hf0 hf1 hf2 hf3 hn1 hn2 hn3 hm1 hm2 hm3); obtain ⟨⟨hx0, hx1, hx2, hx3⟩, ⟨hy0, hy1, hy2, hy3⟩, ⟨hz0, hz1, hz2, hz3⟩, ⟨hf0, hf1, hf2, hf3⟩⟩ := S.out.cells; have hn1 := N1.out; have hn2 := N2.out; have hn3 := N3.out; have hm1 := N1.out.symm; have hm2 := N2.out.symm; have hm3 := N3.out.symm)
          refine bodyPost_ret (results_ct rfl _ _ gr 27 _ (0, 0) _ rfl (S.out.wrote _ _ _ _) Tryz.underlying27 rfl (by kernel_rfl)) rfl ?_
          exact ⟨rfl, S.out.done _ _ _ _⟩
    · as_aux_lemma =>
        have hr : 3 = r1 ∧ 0 = r2 ∧ (⟨#[]⟩ : ByteArray) = r3 ∧ (decide (c ≤ 0)) = r4 ∧ 0 = r5 := by have hr := HR.out; simpa [binT, fitS, rd, G0c0] using hr
        obtain ⟨rfl, rfl, rfl, rfl, rfl⟩ := hr
        clear HR
        all_goals
          go_wp2_with (go_at_call 39; (with_reducible refine (refrainref1_truth.calls ((decide (c ≤ 0))) _ _ _ _ _ rfl).mono ?_); rintro e w5 ⟨rfl, hb⟩; replace S := Aside0.mk (S.out.call hb); clear hb; (try clear hx0 hx1 hx2 hx3 hy0 hy1 hy2 hy3 hz0 hz1 hz2 hz3 hf0 hf1 hf2 hf3 hn1 hn2 hn3 hm1 hm2 hm3); obtain ⟨⟨hx0, hx1, hx2, hx3⟩, ⟨hy0, hy1, hy2, hy3⟩, ⟨hz0, hz1, hz2, hz3⟩, ⟨hf0, hf1, hf2, hf3⟩⟩ := S.out.cells; have hn1 := N1.out; have hn2 := N2.out; have hn3 := N3.out; have hm1 := N1.out.symm; have hm2 := N2.out.symm; have hm3 := N3.out.symm)
          refine bodyPost_ret (results_ct rfl _ _ gr 27 _ (0, 0) _ rfl (S.out.wrote _ _ _ _) Tryz.underlying27 rfl (by kernel_rfl)) rfl ?_
          exact ⟨rfl, S.out.done _ _ _ _⟩
    · as_aux_lemma =>
        have hr : 0 = r1 ∧ 0 = r2 ∧ (⟨#[]⟩ : ByteArray) = r3 ∧ false = r4 ∧ 10 = r5 := by have hr := HR.out; simpa [binT, fitS, rd, G0c0] using hr
        obtain ⟨rfl, rfl, rfl, rfl, rfl⟩ := hr
        clear HR
        all_goals
          go_wp2
          refine bodyPost_ret (results_ct rfl _ _ gr 27 _ (0, 0) _ rfl (S.out.wrote _ _ _ _) Tryz.underlying27 rfl (by kernel_rfl)) rfl ?_
          exact ⟨rfl, S.out.done _ _ _ _⟩
  · rcases hk with rfl | rfl | rfl
    · as_aux_lemma =>
        have hr : 3 = r1 ∧ 0 = r2 ∧ (⟨#[]⟩ : ByteArray) = r3 ∧ (decide (0 < c)) = r4 ∧ 0 = r5 := by have hr := HR.out; simpa [binT, fitS, rd, G0c0] using hr
        obtain ⟨rfl, rfl, rfl, rfl, rfl⟩ := hr
        clear HR
        all_goals
          go_wp2_with (go_at_call 39; (with_reducible refine (refrainref1_truth.calls ((decide (0 < c))) _ _ _ _ _ rfl).mono ?_); rintro e w5 ⟨rfl, hb⟩; replace S := Aside0.mk (S.out.call hb); clear hb; (try clear hx0 hx1 hx2 hx3 hy0 hy1 hy2 hy3 hz0 hz1 hz2 hz3 hf0 hf1 hf2 hf3 hn1 hn2 hn3 hm1 hm2 hm3); obtain ⟨⟨hx0, hx1, hx2, hx3⟩, ⟨hy0, hy1, hy2, hy3⟩, ⟨hz0, hz1, hz2, hz3⟩, ⟨hf0, hf1, hf2, hf3⟩⟩ := S.out.cells; have hn1 := N1.out; have hn2 := N2.out; have hn3 := N3.out; have hm1 := N1.out.symm; have hm2 := N2.out.symm; have hm3 := N3.out.symm)
          refine bodyPost_ret (results_ct rfl _ _ gr 27 _ (0, 0) _ rfl (S.out.wrote _ _ _ _) Tryz.underlying27 rfl (by kernel_rfl)) rfl ?_
          exact ⟨rfl, S.out.done _ _ _ _⟩
    · as_aux_lemma =>
        have hr : 3 = r1 ∧ 0 = r2 ∧ (⟨#[]⟩ : ByteArray) = r3 ∧ (decide (0 < c)) = r4 ∧ 0 = r5 := by have hr := HR.out; simpa [binT, fitS, rd, G0c0] using hr
        obtain ⟨rfl, rfl, rfl, rfl, rfl⟩ := hr
        clear HR
        all_goals
          go_wp2_with (go_at_call 39; (with_reducible refine (refrainref1_truth.calls ((decide (0 < c))) _ _ _ _ _ rfl).mono ?_); rintro e w5 ⟨rfl, hb⟩; replace S := Aside0.mk (S.out.call hb); clear hb; (try clear hx0 hx1 hx2 hx3 hy0 hy1 hy2 hy3 hz0 hz1 hz2 hz3 hf0 hf1 hf2 hf3 hn1 hn2 hn3 hm1 hm2 hm3); obtain ⟨⟨hx0, hx1, hx2, hx3⟩, ⟨hy0, hy1, hy2, hy3⟩, ⟨hz0, hz1, hz2, hz3⟩, ⟨hf0, hf1, hf2, hf3⟩⟩ := S.out.cells; have hn1 := N1.out; have hn2 := N2.out; have hn3 := N3.out; have hm1 := N1.out.symm; have hm2 := N2.out.symm; have hm3 := N3.out.symm)
          refine bodyPost_ret (results_ct rfl _ _ gr 27 _ (0, 0) _ rfl (S.out.wrote _ _ _ _) Tryz.underlying27 rfl (by kernel_rfl)) rfl ?_
          exact ⟨rfl, S.out.done _ _ _ _⟩
    · as_aux_lemma =>
        have hr : 0 = r1 ∧ 0 = r2 ∧ (⟨#[]⟩ : ByteArray) = r3 ∧ false = r4 ∧ 10 = r5 := by have hr := HR.out; simpa [binT, fitS, rd, G0c0] using hr
        obtain ⟨rfl, rfl, rfl, rfl, rfl⟩ := hr
        clear HR
        all_goals
          go_wp2
          refine bodyPost_ret (results_ct rfl _ _ gr 27 _ (0, 0) _ rfl (S.out.wrote _ _ _ _) Tryz.underlying27 rfl (by kernel_rfl)) rfl ?_
          exact ⟨rfl, S.out.done _ _ _ _⟩
  · rcases hk with rfl | rfl | rfl
    · as_aux_lemma =>
        have hr : 3 = r1 ∧ 0 = r2 ∧ (⟨#[]⟩ : ByteArray) = r3 ∧ (decide (0 ≤ c)) = r4 ∧ 0 = r5 := by have hr := HR.out; simpa [binT, fitS, rd, G0c0] using hr
        obtain ⟨rfl, rfl, rfl, rfl, rfl⟩ := hr
        clear HR
        all_goals
          go_wp2_with (go_at_call 39; (with_reducible refine (refrainref1_truth.calls ((decide (0 ≤ c))) _ _ _ _ _ rfl).mono ?_); rintro e w5 ⟨rfl, hb⟩; replace S := Aside0.mk (S.out.call hb); clear hb; (try clear hx0 hx1 hx2 hx3 hy0 hy1 hy2 hy3 hz0 hz1 hz2 hz3 hf0 hf1 hf2 hf3 hn1 hn2 hn3 hm1 hm2 hm3); obtain ⟨⟨hx0, hx1, hx2, hx3⟩, ⟨hy0, hy1, hy2, hy3⟩, ⟨hz0, hz1, hz2, hz3⟩, ⟨hf0, hf1, hf2, hf3⟩⟩ := S.out.cells; have hn1 := N1.out; have hn2 := N2.out; have hn3 := N3.out; have hm1 := N1.out.symm; have hm2 := N2.out.symm; have hm3 := N3.out.symm)
          refine bodyPost_ret (results_ct rfl _ _ gr 27 _ (0, 0) _ rfl (S.out.wrote _ _ _ _) Tryz.underlying27 rfl (by kernel_rfl)) rfl ?_
          exact ⟨rfl, S.out.done _ _ _ _⟩
    · as_aux_lemma =>
        have hr : 3 = r1 ∧ 0 = r2 ∧ (⟨#[]⟩ : ByteArray) = r3 ∧ (decide (0 ≤ c)) = r4 ∧ 0 = r5 := by have hr := HR.out; simpa [binT, fitS, rd, G0c0] using hr
        obtain ⟨rfl, rfl, rfl, rfl, rfl⟩ := hr
        clear HR
        all_goals
          go_wp2_with (go_at_call 39; (with_reducible refine (refrainref1_truth.calls ((decide (0 ≤ c))) _ _ _ _ _ rfl).mono ?_); rintro e w5 ⟨rfl, hb⟩; replace S := Aside0.mk (S.out.call hb); clear hb; (try clear hx0 hx1 hx2 hx3 hy0 hy1 hy2 hy3 hz0 hz1 hz2 hz3 hf0 hf1 hf2 hf3 hn1 hn2 hn3 hm1 hm2 hm3); obtain ⟨⟨hx0, hx1, hx2, hx3⟩, ⟨hy0, hy1, hy2, hy3⟩, ⟨hz0, hz1, hz2, hz3⟩, ⟨hf0, hf1, hf2, hf3⟩⟩ := S.out.cells; have hn1 := N1.out; have hn2 := N2.out; have hn3 := N3.out; have hm1 := N1.out.symm; have hm2 := N2.out.symm; have hm3 := N3.out.symm)
          refine bodyPost_ret (results_ct rfl _ _ gr 27 _ (0, 0) _ rfl (S.out.wrote _ _ _ _) Tryz.underlying27 rfl (by kernel_rfl)) rfl ?_
          exact ⟨rfl, S.out.done _ _ _ _⟩
    · as_aux_lemma =>
        have hr : 0 = r1 ∧ 0 = r2 ∧ (⟨#[]⟩ : ByteArray) = r3 ∧ false = r4 ∧ 10 = r5 := by have hr := HR.out; simpa [binT, fitS, rd, G0c0] using hr
        obtain ⟨rfl, rfl, rfl, rfl, rfl⟩ := hr
        clear HR
        all_goals
          go_wp2
          refine bodyPost_ret (results_ct rfl _ _ gr 27 _ (0, 0) _ rfl (S.out.wrote _ _ _ _) Tryz.underlying27 rfl (by kernel_rfl)) rfl ?_
          exact ⟨rfl, S.out.done _ _ _ _⟩
  · rcases hk with rfl | rfl | rfl
    · as_aux_lemma =>
        have hr : 0 = r1 ∧ 0 = r2 ∧ (⟨#[]⟩ : ByteArray) = r3 ∧ false = r4 ∧ 10 = r5 := by have hr := HR.out; simpa [binT, fitS, rd, G0c0] using hr
        obtain ⟨rfl, rfl, rfl, rfl, rfl⟩ := hr
        clear HR
        cases a1_3
        all_goals
          go_wp2
          refine bodyPost_ret (results_ct rfl _ _ gr 27 _ (0, 0) _ rfl (S.out.wrote _ _ _ _) Tryz.underlying27 rfl (by kernel_rfl)) rfl ?_
          exact ⟨rfl, S.out.done _ _ _ _⟩
    · as_aux_lemma =>
        have hr : 0 = r1 ∧ 0 = r2 ∧ (⟨#[]⟩ : ByteArray) = r3 ∧ false = r4 ∧ 10 = r5 := by have hr := HR.out; simpa [binT, fitS, rd, G0c0] using hr
        obtain ⟨rfl, rfl, rfl, rfl, rfl⟩ := hr
        clear HR
        cases a1_3
        all_goals
          go_wp2
          refine bodyPost_ret (results_ct rfl _ _ gr 27 _ (0, 0) _ rfl (S.out.wrote _ _ _ _) Tryz.underlying27 rfl (by kernel_rfl)) rfl ?_
          exact ⟨rfl, S.out.done _ _ _ _⟩
    · as_aux_lemma =>
        have hr : 3 = r1 ∧ 0 = r2 ∧ (⟨#[]⟩ : ByteArray) = r3 ∧ (a1_3 && a2_3) = r4 ∧ 0 = r5 := by have hr := HR.out; simpa [binT, fitS, rd, G0c0] using hr
        obtain ⟨rfl, rfl, rfl, rfl, rfl⟩ := hr
        clear HR
        cases a1_3 with
        | false =>
          go_wp2_with (go_at_call 39; (with_reducible refine (refrainref1_truth.calls (false) _ _ _ _ _ rfl).mono ?_); rintro e w5 ⟨rfl, hb⟩; replace S := Aside0.mk (S.out.call hb); clear hb; (try clear hx0 hx1 hx2 hx3 hy0 hy1 hy2 hy3 hz0 hz1 hz2 hz3 hf0 hf1 hf2 hf3 hn1 hn2 hn3 hm1 hm2 hm3); obtain ⟨⟨hx0, hx1, hx2, hx3⟩, ⟨hy0, hy1, hy2, hy3⟩, ⟨hz0, hz1, hz2, hz3⟩, ⟨hf0, hf1, hf2, hf3⟩⟩ := S.out.cells; have hn1 := N1.out; have hn2 := N2.out; have hn3 := N3.out; have hm1 := N1.out.symm; have hm2 := N2.out.symm; have hm3 := N3.out.symm)
          refine bodyPost_ret (results_ct rfl _ _ gr 27 _ (0, 0) _ rfl (S.out.wrote _ _ _ _) Tryz.underlying27 rfl (by kernel_rfl)) rfl ?_
          exact ⟨rfl, S.out.done _ _ _ _⟩
        | true =>
          go_wp2_with (go_at_call 39; (with_reducible refine (refrainref1_truth.calls (a2_3) _ _ _ _ _ rfl).mono ?_); rintro e w5 ⟨rfl, hb⟩; replace S := Aside0.mk (S.out.call hb); clear hb; (try clear hx0 hx1 hx2 hx3 hy0 hy1 hy2 hy3 hz0 hz1 hz2 hz3 hf0 hf1 hf2 hf3 hn1 hn2 hn3 hm1 hm2 hm3); obtain ⟨⟨hx0, hx1, hx2, hx3⟩, ⟨hy0, hy1, hy2, hy3⟩, ⟨hz0, hz1, hz2, hz3⟩, ⟨hf0, hf1, hf2, hf3⟩⟩ := S.out.cells; have hn1 := N1.out; have hn2 := N2.out; have hn3 := N3.out; have hm1 := N1.out.symm; have hm2 := N2.out.symm; have hm3 := N3.out.symm)
          refine bodyPost_ret (results_ct rfl _ _ gr 27 _ (0, 0) _ rfl (S.out.wrote _ _ _ _) Tryz.underlying27 rfl (by kernel_rfl)) rfl ?_
          exact ⟨rfl, S.out.done _ _ _ _⟩
  · rcases hk with rfl | rfl | rfl
    · as_aux_lemma =>
        have hr : 0 = r1 ∧ 0 = r2 ∧ (⟨#[]⟩ : ByteArray) = r3 ∧ false = r4 ∧ 10 = r5 := by have hr := HR.out; simpa [binT, fitS, rd, G0c0] using hr
        obtain ⟨rfl, rfl, rfl, rfl, rfl⟩ := hr
        clear HR
        cases a1_3
        all_goals
          go_wp2
          refine bodyPost_ret (results_ct rfl _ _ gr 27 _ (0, 0) _ rfl (S.out.wrote _ _ _ _) Tryz.underlying27 rfl (by kernel_rfl)) rfl ?_
          exact ⟨rfl, S.out.done _ _ _ _⟩
    · as_aux_lemma =>
        have hr : 0 = r1 ∧ 0 = r2 ∧ (⟨#[]⟩ : ByteArray) = r3 ∧ false = r4 ∧ 10 = r5 := by have hr := HR.out; simpa [binT, fitS, rd, G0c0] using hr
        obtain ⟨rfl, rfl, rfl, rfl, rfl⟩ := hr
        clear HR
        cases a1_3
        all_goals
          go_wp2
          refine bodyPost_ret (results_ct rfl _ _ gr 27 _ (0, 0) _ rfl (S.out.wrote _ _ _ _) Tryz.underlying27 rfl (by kernel_rfl)) rfl ?_
          exact ⟨rfl, S.out.done _ _ _ _⟩
    · as_aux_lemma =>
        have hr : 3 = r1 ∧ 0 = r2 ∧ (⟨#[]⟩ : ByteArray) = r3 ∧ (a1_3 || a2_3) = r4 ∧ 0 = r5 := by have hr := HR.out; simpa [binT, fitS, rd, G0c0] using hr
        obtain ⟨rfl, rfl, rfl, rfl, rfl⟩ := hr
        clear HR
        cases a1_3 with
        | false =>
          go_wp2_with (go_at_call 39; (with_reducible refine (refrainref1_truth.calls (a2_3) _ _ _ _ _ rfl).mono ?_); rintro e w5 ⟨rfl, hb⟩; replace S := Aside0.mk (S.out.call hb); clear hb; (try clear hx0 hx1 hx2 hx3 hy0 hy1 hy2 hy3 hz0 hz1 hz2 hz3 hf0 hf1 hf2 hf3 hn1 hn2 hn3 hm1 hm2 hm3); obtain ⟨⟨hx0, hx1, hx2, hx3⟩, ⟨hy0, hy1, hy2, hy3⟩, ⟨hz0, hz1, hz2, hz3⟩, ⟨hf0, hf1, hf2, hf3⟩⟩ := S.out.cells; have hn1 := N1.out; have hn2 := N2.out; have hn3 := N3.out; have hm1 := N1.out.symm; have hm2 := N2.out.symm; have hm3 := N3.out.symm)
          refine bodyPost_ret (results_ct rfl _ _ gr 27 _ (0, 0) _ rfl (S.out.wrote _ _ _ _) Tryz.underlying27 rfl (by kernel_rfl)) rfl ?_
          exact ⟨rfl, S.out.done _ _ _ _⟩
        | true =>
          go_wp2_with (go_at_call 39; (with_reducible refine (refrainref1_truth.calls (true) _ _ _ _ _ rfl).mono ?_); rintro e w5 ⟨rfl, hb⟩; replace S := Aside0.mk (S.out.call hb); clear hb; (try clear hx0 hx1 hx2 hx3 hy0 hy1 hy2 hy3 hz0 hz1 hz2 hz3 hf0 hf1 hf2 hf3 hn1 hn2 hn3 hm1 hm2 hm3); obtain ⟨⟨hx0, hx1, hx2, hx3⟩, ⟨hy0, hy1, hy2, hy3⟩, ⟨hz0, hz1, hz2, hz3⟩, ⟨hf0, hf1, hf2, hf3⟩⟩ := S.out.cells; have hn1 := N1.out; have hn2 := N2.out; have hn3 := N3.out; have hm1 := N1.out.symm; have hm2 := N2.out.symm; have hm3 := N3.out.symm)
          refine bodyPost_ret (results_ct rfl _ _ gr 27 _ (0, 0) _ rfl (S.out.wrote _ _ _ _) Tryz.underlying27 rfl (by kernel_rfl)) rfl ?_
          exact ⟨rfl, S.out.done _ _ _ _⟩
end Go.Proofs.YthhpeeckiggpaaaGreatDoor.Pr
