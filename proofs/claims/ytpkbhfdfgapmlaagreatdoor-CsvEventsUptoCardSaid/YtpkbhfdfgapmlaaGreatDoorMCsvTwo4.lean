/-
Part 4 of the proof of the law CsvTwo: texts ExtEv3.
-/
import Derived.Deep.DrawnRows
import Derived.Deep.RegionHeld3
import Derived.IntWalk
import Derived.Test.YtpkbhfdfgapmlaaGreatDoorMCsvTwo3
/-! ## text ExtEv3 -/
section
/- csv.Event. -/
namespace Go.Proofs.YtpkbhfdfgapmlaaGreatDoor.Pr
open Go Go.RowKit Go.Proofs.YtpkbhfdfgapmlaaGreatDoorW.PrintWords Go.Proofs.YtpkbhfdfgapmlaaGreatDoorW.PrintLast Go.Proofs.YtpkbhfdfgapmlaaGreatDoorW.PrintMore
set_option maxRecDepth 100000
set_option linter.unusedVariables false
set_option linter.unusedSimpArgs false
/-- A cell read as a value of a kind. -/
def rdE (k : Nat) (kind : Int) (s : ByteArray) : Option (Int × Int × ByteArray × Bool × Bool) :=
  if kind = 1 then csv_shown.f k s 1 else if kind = 2 then (value_Valid.f 2 0 s false).map fun ok => (2, 0, s, false, ok) else if kind = 3 then csv_shown.f k s 3 else none
/-- The values from the cell behind the i-th on. -/
def valsE (k : Nat) (at' : List (S30)) (row : List ByteArray) : Nat → Nat → List (S43) → Option (Option (List (S43)))
  | 0, _, acc => some (some acc)
  | n + 1, i, acc => (rdE k ((rd_T30 at' (i : Int)).f1) (rdOf ByteArray.empty row ((i : Int) + 1))).bind fun r => if r.2.2.2.2 = true then valsE k at' row n (i + 1) (acc ++ [⟨r.1, r.2.1, r.2.2.1, r.2.2.2.1⟩]) else some none
/-- csv.Event. -/
def evE (k : Nat) (name : ByteArray) (at' : List (S30)) (row : List ByteArray) : Option (ByteArray × Int × List (S43) × Int) :=
  if row.length = at'.length + 1 then (csv_shown.f k (rdOf ByteArray.empty row 0) 1).bind fun t => if t.2.2.2.2 = true ∧ 0 ≤ t.2.1 ∧ t.2.1 ≤ 4611686018427387904 then (if ∀ a ∈ at', 1 ≤ a.f1 ∧ a.f1 ≤ 3 then (valsE k at' row at'.length 0 []).map fun r => match r with | none => (⟨#[]⟩, 0, [], 12) | some vs => (name, t.2.1, vs, 0) else some (⟨#[]⟩, 0, [], 10)) else some (⟨#[]⟩, 0, [], 23)
  else some (⟨#[]⟩, 0, [], 22)
attribute [local go_sem ↓] Go.wp_at_zero Go.wp_at_succ
theorem timely_f (n : Int) : csv_timely.f n = some (decide (0 ≤ n ∧ n ≤ 4611686018427387904)) := by
  unfold csv_timely.f
  by_cases h : n ≥ 0
  · rw [if_pos h]
    congr 1
    by_cases h2 : n ≤ 4611686018427387904
    · rw [decide_eq_true h2, decide_eq_true ⟨h, h2⟩]
    · rw [decide_eq_false h2, decide_eq_false (fun e => h2 e.2)]
  · rw [if_neg h, decide_eq_false (fun e => h e.1)]
theorem blk_new1 (w : World) (o o' : Obj) : ((w.alloc o).alloc o').heap[w.heap.size + 1]? = some o' := by
  have h := blk_new (w.alloc o) o'
  have e : (w.alloc o).heap.size = w.heap.size + 1 := Array.size_push _
  rwa [e] at h
theorem R_put3 {w : World} {base g t : Nat} {v a b c : Value} {xs : List (S43)} {cells : Array Value} (h : Kd.R k43 43 w base (fun _ => True) v xs) (hg : w.heap[g]? = some (.cells cells t (0, 0))) (ht : 43 ≠ t) : Kd.R k43 43 (((w.setCell ⟨g, 0, none⟩ a).setCell ⟨g, 1, none⟩ b).setCell ⟨g, 2, none⟩ c) base (fun _ => True) v xs := by
  have hne : ∀ k, k ≠ g → k ≠ g := fun _ h => h
  exact Kd.R_mono (Kd.R_far (p := ⟨g, 2, none⟩) (Kd.R_far (p := ⟨g, 1, none⟩) (Kd.R_far (p := ⟨g, 0, none⟩) (Kd.R_far1 h rfl (Kd.R_ne h hg ht)) (fun _ hk => hk.2) a) (fun _ hk => hk.2) b) (fun _ hk => hk.2) c) (fun _ _ => trivial)
theorem evB {w w' : World} {a : Addr} {v : Value} (h : w.cell? a = some v) (hb : Aside0 (Below w.heap.size w w')) : w'.cell? a = some v := pw_cell_below hb.out h
theorem evD {w W : World} (h : Aside0 (Below w.heap.size w W)) : Aside0 (Below w.heap.size w W.drew) := ⟨below_drew1 h.out⟩
theorem evN {w W : World} {n : Nat} (h : Aside0 (Below w.heap.size w W)) : Aside0 (Below w.heap.size w (W.drewN n)) := ⟨pw_below_drewN h.out n⟩
theorem evA {w W : World} {o : Obj} (h : Aside0 (Below w.heap.size w W)) : Aside0 (Below w.heap.size w (W.alloc o)) := ⟨below_alloc h.out o⟩
theorem evC {w W W' : World} (hb : Below W.heap.size W W') (h : Aside0 (Below w.heap.size w W)) : Aside0 (Below w.heap.size w W') := ⟨below_step h.out hb⟩
theorem evS {w W : World} {g j : Nat} {v : Value} (h : Aside0 (Below w.heap.size w W)) (hg : w.heap.size ≤ g := by omega) : Aside0 (Below w.heap.size w (W.setCell ⟨g, j, none⟩ v)) := ⟨Below.setCell h.out hg v⟩
theorem rd30_eq {xs : List (S30)} {i : Nat} (h : i < xs.length) : rd_T30 xs (i : Int) = xs[i] := by
  show xs.getD _ _ = _
  rw [Int.toNat_natCast, List.getD_eq_getElem?_getD, List.getElem?_eq_getElem h]; rfl
theorem mem_rd30 {xs : List (S30)} {i : Nat} (h : i < xs.length) : rd_T30 xs (i : Int) ∈ xs := by rw [rd30_eq h]; exact List.getElem_mem h
theorem mem_rdO {xs : List ByteArray} {i : Nat} (h : i + 1 < xs.length) : rdOf ByteArray.empty xs ((i : Int) + 1) ∈ xs := by
  have e : rdOf ByteArray.empty xs ((i : Int) + 1) = xs[i + 1] := by
    show xs.getD _ _ = _
    rw [show ((i : Int) + 1).toNat = i + 1 from by omega, List.getD_eq_getElem?_getD, List.getElem?_eq_getElem h]; rfl
  rw [e]; exact List.getElem_mem h
theorem ofP_some {b : Nat} {kind : Int} (h : 1 ≤ kind ∧ kind ≤ 3) : ∃ q, ofP b kind = .pointer (some q) := by
  unfold ofP
  obtain rfl | rfl | rfl : kind = 1 ∨ kind = 2 ∨ kind = 3 := by omega
  · exact ⟨_, rfl⟩
  · exact ⟨_, rfl⟩
  · exact ⟨_, rfl⟩
theorem ofP_none {b : Nat} {kind : Int} (h : ¬ (1 ≤ kind ∧ kind ≤ 3)) : ofP b kind = .pointer none := by
  unfold ofP
  rw [if_neg (by omega), if_neg (by omega), if_neg (by omega)]
theorem put3 {W : World} {g : Nat} {a b c a' b' c' : Value} {t : TypeId} (h : W.heap[g]? = some (.cells #[a', b', c'] t (0, 0))) :
    (((W.setCell ⟨g, 0, none⟩ a).setCell ⟨g, 1, none⟩ b).setCell ⟨g, 2, none⟩ c).heap[g]? = some (.cells #[a, b, c] t (0, 0)) :=
  blk_put (cs := #[a, b, c']) (blk_put (cs := #[a, b', c']) (blk_put h 0 a rfl) 1 b rfl) 2 c rfl
theorem below_put3 {w W : World} {g n : Nat} {a b c : Value} (h : Below n w W) (hg : n ≤ g) : Below n w (((W.setCell ⟨g, 0, none⟩ a).setCell ⟨g, 1, none⟩ b).setCell ⟨g, 2, none⟩ c) := Below.setCell (Below.setCell (Below.setCell h hg _) hg _) hg _
set_option maxHeartbeats 16000000 in
theorem csv_Event (k : Nat) (name : ByteArray) (A0 : Option Addr) (c0 : Nat) (at' : List (S30)) (A1 : Option Addr) (c1 : Nat) (row : List ByteArray) (r1 : ByteArray) (r2 : Int) (r3 : List (S43)) (r4 : Int) (w : World)
    (HL : Aside0 (LErr w)) (HG : Aside0 (LG0 w)) (HY : Aside0 (LSyn w)) (hr0 : Kd.C k30 w A0 at'.length at') (hc0 : at'.length ≤ c0) (hr1 : Kd.C Kd.string w A1 row.length row) (hc1 : row.length ≤ c1) (hn : at'.length ≤ 3518437208882) (hs : ∀ s ∈ row, s.size ≤ 140737488355328) (h : evE k name at' row = some (r1, r2, r3, r4)) :
    Calls Tryz.prog 10 #[.agg #[.string name, .slice A0 at'.length c0], .slice A1 row.length c1] w fun e w' => ∃ v2_ : Value, e = .returned (.tuple #[.agg #[.string r1, .int .i64 r2, v2_], .int .i64 r4]) ∧ Kd.R k43 43 w' w.heap.size (fun _ => True) v2_ r3 ∧ Below w.heap.size w w' := by
  have HR0 := Aside0.mk hr0
  have HC0 := Aside0.mk hc0
  have HR1 := Aside0.mk hr1
  have HC1 := Aside0.mk hc1
  have HN := Aside0.mk hn
  have HS := Aside0.mk hs
  have H0 := Aside0.mk h
  clear hr0 hc0 hr1 hc1 hs h
  have hw : wrap64 ((at'.length : Int) + 1) = (at'.length : Int) + 1 := by unfold wrap64; omega
  go_enter Tryz.func10, Tryz.ntmps10
  go_upto_region 1 with (fail)
  obtain ⟨g2, e2⟩ : ∃ g, g = w.heap.size := ⟨_, rfl⟩
  obtain ⟨g4, e4⟩ : ∃ g, g = w.heap.size + 1 := ⟨_, rfl⟩
  obtain ⟨w1, hw1⟩ : ∃ w1, w1 = (w.alloc (.cells #[.string name, .slice A0 at'.length c0] 24)).alloc (.cells #[.string ⟨#[]⟩, .int .i64 0, .slice none 0 0] 35) := ⟨_, rfl⟩
  have K2 : Aside0 (w1.heap[g2]? = some (.cells #[.string name, .slice A0 at'.length c0] 24 (0, 0))) := ⟨by rw [hw1, e2]; exact blk_alloc (blk_new _ _) _⟩
  have K4 : Aside0 (w1.heap[g4]? = some (.cells #[.string ⟨#[]⟩, .int .i64 0, .slice none 0 0] 35 (0, 0))) := ⟨by rw [hw1, e4]; exact blk_new1 _ _ _⟩
  have HB : Aside0 (Below w.heap.size w w1) := ⟨by rw [hw1]; exact below_alloc (below_alloc (Below.refl _ _) _) _⟩
  rw [← e4, ← e2, ← hw1]
  have G2 : Aside0 (w.heap.size ≤ g2) := ⟨by omega⟩
  have G4 : Aside0 (w.heap.size ≤ g4) := ⟨by omega⟩
  have G24 : g2 ≠ g4 := by omega
  clear e2 e4 hw1
  have a0 : w1.cell? ⟨g2, 0, none⟩ = some (.string name) := blk_cell K2.out 0
  have a1 : w1.cell? ⟨g2, 1, none⟩ = some (.slice A0 at'.length c0) := blk_cell K2.out 1
  have b0 : w1.cell? ⟨g4, 0, none⟩ = some (.string ⟨#[]⟩) := blk_cell K4.out 0
  have b1 : w1.cell? ⟨g4, 1, none⟩ = some (.int .i64 0) := blk_cell K4.out 1
  have b2 : w1.cell? ⟨g4, 2, none⟩ = some (.slice none 0 0) := blk_cell K4.out 2
  have bz : ∀ j, w1.frozen? ⟨g4, j, none⟩ = false := fun j => blk_frozen K4.out j
  have bl := blk_lt K4.out
  by_cases hlen : row.length = at'.length + 1
  · have hx : ((row.length : Int) != wrap64 ((at'.length : Int) + 1)) = false := by rw [hw, hlen]; exact bne_eq_false_iff_eq.2 (by omega)
    have H := H0.out
    unfold evE at H
    rw [if_pos hlen] at H
    clear H0
    replace H := Option.bind_eq_some_iff.mp H
    obtain ⟨⟨t1, t2, t3, t4, t5⟩, HT0, H⟩ := H
    have HT := Aside0.mk HT0
    clear HT0
    have H0 := Aside0.mk H
    clear H
    have p0 : 0 ≤ (0 : Int) := by omega
    have q0 : (0 : Int) < (row.length : Int) := by omega
    obtain ⟨ad, ead, hxd⟩ := Kd.at_string HR1.out 0 p0 q0
    cases ead
    have qi : (0 < row.length) = True := eq_true (by omega)
    rw [show ((0 : Int)).toNat = 0 from rfl, Addr.add_zero'] at hxd
    replace hxd := (HB.out.cell (World.block_lt_of_cell? w _ hxd)).trans hxd
    replace p0 := eq_true p0
    replace q0 := eq_true q0
    have HL1 := Aside0.mk (HL.out.below HB.out)
    have HG1 := Aside0.mk (HG.out.below HB.out)
    have HY1 := Aside0.mk (HY.out.below HB.out)
    go_upto_region 4 with (go_at_call 26; refine (csv_shown.calls k _ 1 t1 t2 t3 t4 t5 w1 HL1 HG1 HY1 HT.out).mono ?_; rintro e w2 ⟨rfl, hb⟩; replace K2 := Aside0.mk (blk_below K2.out hb); replace K4 := Aside0.mk (blk_below K4.out hb); replace HB := Aside0.mk (below_step HB.out hb); clear hb a0 a1 b0 b1 b2 bz bl HL1 HG1 HY1 hxd)
    obtain ⟨g6, e6⟩ : ∃ g, g = w2.heap.size := ⟨_, rfl⟩
    obtain ⟨w3, hw3⟩ : ∃ w3, w3 = w2.alloc (.cells #[.int .i64 t1, .int .i64 t2, .string t3, .bool t4] 43) := ⟨_, rfl⟩
    have G26 : g2 ≠ g6 := by have := blk_lt K2.out; omega
    have G46 : g4 ≠ g6 := by have := blk_lt K4.out; omega
    have G6 : Aside0 (w.heap.size ≤ g6) := ⟨by have := blk_lt K4.out; have := G4.out; omega⟩
    have K6 : Aside0 (w3.heap[g6]? = some (.cells #[.int .i64 t1, .int .i64 t2, .string t3, .bool t4] 43 (0, 0))) := ⟨by rw [hw3, e6]; exact blk_new _ _⟩
    replace K2 : Aside0 (w3.heap[g2]? = some (.cells #[.string name, .slice A0 at'.length c0] 24 (0, 0))) := ⟨by rw [hw3]; exact blk_alloc K2.out _⟩
    replace K4 : Aside0 (w3.heap[g4]? = some (.cells #[.string ⟨#[]⟩, .int .i64 0, .slice none 0 0] 35 (0, 0))) := ⟨by rw [hw3]; exact blk_alloc K4.out _⟩
    replace HB : Aside0 (Below w.heap.size w w3) := ⟨by rw [hw3]; exact below_alloc HB.out _⟩
    rw [← hw3, ← e6]
    clear hw3 e6 hx
    have a1 : w3.cell? ⟨g6, 1, none⟩ = some (.int .i64 t2) := blk_cell K6.out 1
    have b0 : w3.cell? ⟨g4, 0, none⟩ = some (.string ⟨#[]⟩) := blk_cell K4.out 0
    have b1 : w3.cell? ⟨g4, 1, none⟩ = some (.int .i64 0) := blk_cell K4.out 1
    have b2 : w3.cell? ⟨g4, 2, none⟩ = some (.slice none 0 0) := blk_cell K4.out 2
    have bz : ∀ j, w3.frozen? ⟨g4, j, none⟩ = false := fun j => blk_frozen K4.out j
    have bl := blk_lt K4.out
    by_cases hok : t5 = true ∧ 0 ≤ t2 ∧ t2 ≤ 4611686018427387904
    · have H := H0.out
      obtain ⟨rfl, ht⟩ := hok
      replace H : (if true = true ∧ 0 ≤ t2 ∧ t2 ≤ 4611686018427387904 then _ else _) = _ := H
      rw [if_pos ⟨rfl, ht⟩] at H
      replace H0 := Aside0.mk H
      clear H
      have htm : csv_timely.f t2 = some true := by rw [timely_f, decide_eq_true ht]
      have HTM := Aside0.mk htm
      clear htm ht
      go_upto_region 6 with (go_at_call 27; refine (csv_timely.calls t2 true w3 HTM.out).mono ?_; rintro e w4 ⟨rfl, hd⟩; obtain ⟨n, rfl⟩ := hd)
      replace K2 := Aside0.mk (blk_drewN K2.out n)
      replace K4 := Aside0.mk (blk_drewN K4.out n)
      replace K6 := Aside0.mk (blk_drewN K6.out n)
      replace HB := Aside0.mk (pw_below_drewN HB.out n)
      clear a1 b0 b1 b2 bz bl HT HTM
      generalize w3.drewN n = w4 at *
      go_upto_region 7 with (go_at_call 28; refine (csv_formsOf w4).mono ?_; rintro e w5 ⟨rfl, hb⟩; unfold formsC; replace K2 := Aside0.mk (blk_below K2.out hb); replace K4 := Aside0.mk (blk_below K4.out hb); replace K6 := Aside0.mk (blk_below K6.out hb); replace HB := Aside0.mk (below_step HB.out hb); clear hb)
      obtain ⟨g8, e8⟩ : ∃ g, g = w5.heap.size := ⟨_, rfl⟩
      obtain ⟨w6, hw6⟩ : ∃ w6, w6 = w5.alloc (.cells formsC 80) := ⟨_, rfl⟩
      have G28 : g2 ≠ g8 := by have := blk_lt K2.out; omega
      have G48 : g4 ≠ g8 := by have := blk_lt K4.out; omega
      have G68 : g6 ≠ g8 := by have := blk_lt K6.out; omega
      have G8 : Aside0 (w.heap.size ≤ g8) := ⟨by have := blk_lt K4.out; have := G4.out; omega⟩
      have K8 : Aside0 (w6.heap[g8]? = some (.cells formsC 80 (0, 0))) := ⟨by rw [hw6, e8]; exact blk_new _ _⟩
      replace K2 : Aside0 (w6.heap[g2]? = some (.cells #[.string name, .slice A0 at'.length c0] 24 (0, 0))) := ⟨by rw [hw6]; exact blk_alloc K2.out _⟩
      replace K4 : Aside0 (w6.heap[g4]? = some (.cells #[.string ⟨#[]⟩, .int .i64 0, .slice none 0 0] 35 (0, 0))) := ⟨by rw [hw6]; exact blk_alloc K4.out _⟩
      replace K6 : Aside0 (w6.heap[g6]? = some (.cells #[.int .i64 t1, .int .i64 t2, .string t3, .bool t4] 43 (0, 0))) := ⟨by rw [hw6]; exact blk_alloc K6.out _⟩
      replace HB : Aside0 (Below w.heap.size w w6) := ⟨by rw [hw6]; exact below_alloc HB.out _⟩
      unfold formsC at hw6
      rw [← hw6, ← e8]
      clear hw6 e8
      have a1 : w6.cell? ⟨g2, 1, none⟩ = some (.slice A0 at'.length c0) := blk_cell K2.out 1
      go_upto_region 8 with (fail)
      go_loopg [44] at'.length (fun gk v44 wx => ∃ i : Nat, v44 = .int .i64 i ∧ i + gk = at'.length ∧ Aside0 (∀ j : Nat, j < i → 1 ≤ (rd_T30 at' (j : Int)).f1 ∧ (rd_T30 at' (j : Int)).f1 ≤ 3) ∧ Aside0 (wx.heap[g2]? = some (.cells #[.string name, .slice A0 at'.length c0] 24 (0, 0))) ∧ Aside0 (wx.heap[g4]? = some (.cells #[.string ⟨#[]⟩, .int .i64 0, .slice none 0 0] 35 (0, 0))) ∧ Aside0 (wx.heap[g6]? = some (.cells #[.int .i64 t1, .int .i64 t2, .string t3, .bool t4] 43 (0, 0))) ∧ Aside0 (wx.heap[g8]? = some (.cells formsC 80 (0, 0))) ∧ Aside0 (Below w.heap.size w wx))
      case atStart => exact ⟨0, rfl, by omega, ⟨fun j hj => by omega⟩, K2, K4, K6, K8, HB⟩
      case round =>
        clear K2 K4 K6 K8 HB a1
        obtain ⟨i, rfl, hig, HK, K2, K4, K6, K8, HB⟩ := hrel
        by_cases hi : i < at'.length
        · have hd : decide ((i : Int) < (at'.length : Int)) = true := decide_eq_true (by omega)
          have p1 : 0 ≤ (i : Int) := by omega
          have q1 : (i : Int) < (at'.length : Int) := by omega
          obtain ⟨ae, ee, hx0, hx1⟩ := at_T30 HR0.out (i : Int) p1 q1
          cases ee
          rw [Int.toNat_natCast] at hx0 hx1
          replace hx0 := (HB.out.cell (World.block_lt_of_cell? w _ hx0)).trans hx0
          replace hx1 := (HB.out.cell (World.block_lt_of_cell? w _ hx1)).trans hx1
          replace p1 := eq_true p1
          replace q1 := eq_true q1
          obtain ⟨aN, haN⟩ : ∃ x, x = (rd_T30 at' (i : Int)).f0 := ⟨_, rfl⟩
          obtain ⟨aK, haK⟩ : ∃ x, x = (rd_T30 at' (i : Int)).f1 := ⟨_, rfl⟩
          rw [← haN] at hx0
          rw [← haK] at hx1
          have HAK := Aside0.mk haK
          clear haN haK
          go_upto_region 10 with (fail)
          obtain ⟨g10, e10⟩ : ∃ g, g = wr.heap.size := ⟨_, rfl⟩
          obtain ⟨w7, hw7⟩ : ∃ w7, w7 = wr.alloc (.cells #[.string aN, .int .i64 aK] 30) := ⟨_, rfl⟩
          have K10 : Aside0 (w7.heap[g10]? = some (.cells #[.string aN, .int .i64 aK] 30 (0, 0))) := ⟨by rw [hw7, e10]; exact blk_new _ _⟩
          replace K2 : Aside0 (w7.heap[g2]? = some (.cells #[.string name, .slice (some ae) at'.length c0] 24 (0, 0))) := ⟨by rw [hw7]; exact blk_alloc K2.out _⟩
          replace K4 : Aside0 (w7.heap[g4]? = some (.cells #[.string ⟨#[]⟩, .int .i64 0, .slice none 0 0] 35 (0, 0))) := ⟨by rw [hw7]; exact blk_alloc K4.out _⟩
          replace K6 : Aside0 (w7.heap[g6]? = some (.cells #[.int .i64 t1, .int .i64 t2, .string t3, .bool t4] 43 (0, 0))) := ⟨by rw [hw7]; exact blk_alloc K6.out _⟩
          replace K8 : Aside0 (w7.heap[g8]? = some (.cells formsC 80 (0, 0))) := ⟨by rw [hw7]; exact blk_alloc K8.out _⟩
          replace HB : Aside0 (Below w.heap.size w w7) := ⟨by rw [hw7]; exact below_alloc HB.out _⟩
          rw [← hw7, ← e10]
          clear hw7 e10 hx0 hx1
          have a1 : w7.cell? ⟨g10, 1, none⟩ = some (.int .i64 aK) := blk_cell K10.out 1
          have b0 : w7.cell? ⟨g4, 0, none⟩ = some (.string ⟨#[]⟩) := blk_cell K4.out 0
          have b1 : w7.cell? ⟨g4, 1, none⟩ = some (.int .i64 0) := blk_cell K4.out 1
          have b2 : w7.cell? ⟨g4, 2, none⟩ = some (.slice none 0 0) := blk_cell K4.out 2
          have bz : ∀ j, w7.frozen? ⟨g4, j, none⟩ = false := fun j => blk_frozen K4.out j
          have bl := blk_lt K4.out
          by_cases hk : 1 ≤ aK ∧ aK ≤ 3
          · obtain ⟨q, hq⟩ := ofP_some (b := g8) hk
            have HQ := Aside0.mk hq
            have HKK := Aside0.mk hk
            clear hq hk
            go_wp2_with (go_at_call 29; refine (csv_of g8 aK w7 K8.out).mono ?_; rintro e w8 ⟨rfl, rfl⟩; rw [HQ.out])
            go_roundg (at'.length - (i + 1))
            case measure => omega
            case rel => exact ⟨i + 1, rfl, by omega, ⟨fun j hj => by
              rcases Nat.lt_or_ge j i with h | h
              · exact HK.out j h
              · obtain rfl : j = i := by omega
                rw [← HAK.out]; exact HKK.out⟩, K2, K4, K6, K8, HB⟩
          · have H := H0.out
            rw [if_neg (fun e => hk (by rw [HAK.out]; exact e _ (mem_rd30 hi)))] at H
            simp only [Option.some.injEq, Prod.mk.injEq] at H
            obtain ⟨rfl, rfl, rfl, rfl⟩ := H
            clear H0
            have HQ := Aside0.mk (ofP_none (b := g8) hk)
            clear hk
            go_wp2_with (go_at_call 29; refine (csv_of g8 aK w7 K8.out).mono ?_; rintro e w8 ⟨rfl, rfl⟩; rw [HQ.out])
            refine bodyPost_ret (results_ct rfl _ _ g4 35 #[.string ⟨#[]⟩, .int .i64 0, .slice none 0 0] (0, 0) _ rfl (put3 K4.out) Tryz.underlying35 rfl (by kernel_rfl)) rfl ?_
            exact ⟨_, rfl, Kd.R_nil _ _ _ _ _, below_put3 HB.out G4.out⟩
        · have hd : decide ((i : Int) < (at'.length : Int)) = false := decide_eq_false (by omega)
          have H := H0.out
          rw [if_pos (fun a ha => by
            obtain ⟨j, hj, rfl⟩ := List.getElem_of_mem ha
            have h := HK.out j (by omega)
            rw [rd30_eq hj] at h
            exact h)] at H
          obtain ⟨v, HV0, hv⟩ := Option.map_eq_some_iff.1 H
          have HV := Aside0.mk HV0
          have HE := Aside0.mk hv
          clear H0 H HV0 hv HK
          have a0 : wr.cell? ⟨g2, 0, none⟩ = some (.string name) := blk_cell K2.out 0
          have a1 : wr.cell? ⟨g2, 1, none⟩ = some (.slice A0 at'.length c0) := blk_cell K2.out 1
          have a6 : wr.cell? ⟨g6, 1, none⟩ = some (.int .i64 t2) := blk_cell K6.out 1
          go_upto_region 14 with (fail)
          obtain ⟨g11, e11⟩ : ∃ g, g = wr.heap.size := ⟨_, rfl⟩
          obtain ⟨w7, hw7⟩ : ∃ w7, w7 = wr.alloc (.cells #[.string name, .int .i64 t2, .slice none 0 0] 35) := ⟨_, rfl⟩
          have K11 : Aside0 (w7.heap[g11]? = some (.cells #[.string name, .int .i64 t2, .slice none 0 0] 35 (0, 0))) := ⟨by rw [hw7, e11]; exact blk_new _ _⟩
          have G411 : g4 ≠ g11 := by have := blk_lt K4.out; omega
          have G211 : g2 ≠ g11 := by have := blk_lt K2.out; omega
          have G811 : g8 ≠ g11 := by have := blk_lt K8.out; omega
          have G11 : Aside0 (w.heap.size ≤ g11) := ⟨by have := blk_lt K4.out; have := G4.out; omega⟩
          replace K2 : Aside0 (w7.heap[g2]? = some (.cells #[.string name, .slice A0 at'.length c0] 24 (0, 0))) := ⟨by rw [hw7]; exact blk_alloc K2.out _⟩
          replace K4 : Aside0 (w7.heap[g4]? = some (.cells #[.string ⟨#[]⟩, .int .i64 0, .slice none 0 0] 35 (0, 0))) := ⟨by rw [hw7]; exact blk_alloc K4.out _⟩
          replace K8 : Aside0 (w7.heap[g8]? = some (.cells formsC 80 (0, 0))) := ⟨by rw [hw7]; exact blk_alloc K8.out _⟩
          replace HB : Aside0 (Below w.heap.size w w7) := ⟨by rw [hw7]; exact below_alloc HB.out _⟩
          rw [← hw7, ← e11]
          clear hw7 e11 a0 a1 a6 K6 hi hig hd
          have a1 : w7.cell? ⟨g2, 1, none⟩ = some (.slice A0 at'.length c0) := blk_cell K2.out 1
          go_upto_region 15 with (fail)
          go_loopg [62] at'.length (fun gk v62 wx => ∃ (i : Nat) (acc : List (S43)) (u : Value), v62 = .int .i64 i ∧ i + gk = at'.length ∧ Aside0 (acc.length = i) ∧ Aside0 (valsE k at' row gk i acc = some v) ∧ Aside0 (Kd.R k43 43 wx w.heap.size (fun _ => True) u acc) ∧ Aside0 (wx.heap[g2]? = some (.cells #[.string name, .slice A0 at'.length c0] 24 (0, 0))) ∧ Aside0 (wx.heap[g4]? = some (.cells #[.string ⟨#[]⟩, .int .i64 0, .slice none 0 0] 35 (0, 0))) ∧ Aside0 (wx.heap[g8]? = some (.cells formsC 80 (0, 0))) ∧ Aside0 (wx.heap[g11]? = some (.cells #[.string name, .int .i64 t2, u] 35 (0, 0))) ∧ Aside0 (Below w.heap.size w wx))
          case atStart => exact ⟨0, [], _, rfl, by omega, ⟨rfl⟩, HV, ⟨Kd.R_nil _ _ _ _ _⟩, K2, K4, K8, K11, HB⟩
          case round =>
            clear K2 K4 K8 K11 HB a1 HV
            obtain ⟨i, acc, u, rfl, hig, HAL, HV, HR, K2, K4, K8, K11, HB⟩ := hrel
            by_cases hi : i < at'.length
            · have hd : decide ((i : Int) < (at'.length : Int)) = true := decide_eq_true (by omega)
              have p1 : 0 ≤ (i : Int) := by omega
              have q1 : (i : Int) < (at'.length : Int) := by omega
              obtain ⟨ae, ee, hx0, hx1⟩ := at_T30 HR0.out (i : Int) p1 q1
              cases ee
              rw [Int.toNat_natCast] at hx0 hx1
              replace hx0 := (HB.out.cell (World.block_lt_of_cell? w _ hx0)).trans hx0
              replace hx1 := (HB.out.cell (World.block_lt_of_cell? w _ hx1)).trans hx1
              replace p1 := eq_true p1
              replace q1 := eq_true q1
              obtain ⟨aN, haN⟩ : ∃ x, x = (rd_T30 at' (i : Int)).f0 := ⟨_, rfl⟩
              obtain ⟨aK, haK⟩ : ∃ x, x = (rd_T30 at' (i : Int)).f1 := ⟨_, rfl⟩
              rw [← haN] at hx0
              rw [← haK] at hx1
              obtain ⟨gk', rfl⟩ : ∃ m, gk = m + 1 := ⟨gk - 1, by omega⟩
              have hv := HV.out
              unfold valsE at hv
              rw [← haK] at hv
              obtain ⟨⟨z1, z2, z3, z4, z5⟩, HZ0, hv⟩ := Option.bind_eq_some_iff.1 hv
              have HZ := Aside0.mk HZ0
              have HVV := Aside0.mk hv
              clear HV hv HZ0 haN haK
              go_upto_region 17 with (fail)
              obtain ⟨g13, e13⟩ : ∃ g, g = wr.heap.size := ⟨_, rfl⟩
              obtain ⟨w7, hw7⟩ : ∃ w7, w7 = wr.alloc (.cells #[.string aN, .int .i64 aK] 30) := ⟨_, rfl⟩
              have K13 : Aside0 (w7.heap[g13]? = some (.cells #[.string aN, .int .i64 aK] 30 (0, 0))) := ⟨by rw [hw7, e13]; exact blk_new _ _⟩
              replace K2 : Aside0 (w7.heap[g2]? = some (.cells #[.string name, .slice (some ae) at'.length c0] 24 (0, 0))) := ⟨by rw [hw7]; exact blk_alloc K2.out _⟩
              replace K4 : Aside0 (w7.heap[g4]? = some (.cells #[.string ⟨#[]⟩, .int .i64 0, .slice none 0 0] 35 (0, 0))) := ⟨by rw [hw7]; exact blk_alloc K4.out _⟩
              replace K8 : Aside0 (w7.heap[g8]? = some (.cells formsC 80 (0, 0))) := ⟨by rw [hw7]; exact blk_alloc K8.out _⟩
              replace K11 : Aside0 (w7.heap[g11]? = some (.cells #[.string name, .int .i64 t2, u] 35 (0, 0))) := ⟨by rw [hw7]; exact blk_alloc K11.out _⟩
              replace HR : Aside0 (Kd.R k43 43 w7 w.heap.size (fun _ => True) u acc) := ⟨by rw [hw7]; exact Kd.R_alloc HR.out _⟩
              replace HB : Aside0 (Below w.heap.size w w7) := ⟨by rw [hw7]; exact below_alloc HB.out _⟩
              rw [← hw7, ← e13]
              clear hw7 e13 hx0 hx1 hd
              have hsum : IntKind.i64.wrap ((i : Int) + 1) = (i : Int) + 1 := IntWalk.i64_in _ (by omega)
              have p3 : 0 ≤ (i : Int) + 1 := by omega
              have q3 : (i : Int) + 1 < (row.length : Int) := by omega
              obtain ⟨ad', ead, hxd⟩ := Kd.at_string HR1.out ((i : Int) + 1) p3 q3
              obtain rfl : ad = ad' := by injection ead
              have hn3 : ((i : Int) + 1).toNat = i + 1 := by omega
              rw [hn3] at hxd
              replace hxd := (HB.out.cell (World.block_lt_of_cell? w _ hxd)).trans hxd
              have p2 : ((i : Int) + 1 < (at'.length : Int) + 1) = True := eq_true (by omega)
              replace p3 := eq_true p3
              replace q3 := eq_true q3
              have hsz := HS.out (rdOf ByteArray.empty row ((i : Int) + 1)) (mem_rdO (by omega))
              obtain ⟨cs, hcs⟩ : ∃ x, x = rdOf ByteArray.empty row ((i : Int) + 1) := ⟨_, rfl⟩
              rw [← hcs] at hxd hsz HZ
              have HCS := Aside0.mk hcs
              clear hcs
              have hx1 : w7.cell? ⟨g13, 1, none⟩ = some (.int .i64 aK) := blk_cell K13.out 1
              go_cut [14, 15] (fun v14 v15 wc => ∃ g14 : Nat, v14 = .pointer (some ⟨g14, 0, none⟩) ∧ v15 = .bool z5 ∧ Aside0 (wc.heap[g14]? = some (.cells #[.int .i64 z1, .int .i64 z2, .string z3, .bool z4] 43 (0, 0))) ∧ Aside0 (Below w7.heap.size w7 wc))
              case rest =>
                obtain ⟨g14, rfl, rfl, K14, HB7⟩ := hcut
                replace K2 := Aside0.mk (blk_below K2.out HB7.out)
                replace K4 := Aside0.mk (blk_below K4.out HB7.out)
                replace K8 := Aside0.mk (blk_below K8.out HB7.out)
                replace K11 := Aside0.mk (blk_below K11.out HB7.out)
                replace HR := Aside0.mk (Kd.R_below HR.out HB7.out)
                replace HB := Aside0.mk (below_step HB.out HB7.out)
                clear HB7 K13 hx1 hxd HZ
                have b0 : wc.cell? ⟨g4, 0, none⟩ = some (.string ⟨#[]⟩) := blk_cell K4.out 0
                have b1 : wc.cell? ⟨g4, 1, none⟩ = some (.int .i64 0) := blk_cell K4.out 1
                have b2 : wc.cell? ⟨g4, 2, none⟩ = some (.slice none 0 0) := blk_cell K4.out 2
                have bz : ∀ j, wc.frozen? ⟨g4, j, none⟩ = false := fun j => blk_frozen K4.out j
                have bl := blk_lt K4.out
                cases z5 with
                | false =>
                  have hv := HVV.out
                  have hv2 : v = none := (Option.some.inj hv).symm
                  subst hv2
                  have hE := HE.out
                  simp only [Option.some.injEq, Prod.mk.injEq] at hE
                  obtain ⟨rfl, rfl, rfl, rfl⟩ := hE
                  clear hv HVV HE
                  go_wp2
                  refine bodyPost_ret (results_ct rfl _ _ g4 35 #[.string ⟨#[]⟩, .int .i64 0, .slice none 0 0] (0, 0) _ rfl (put3 K4.out) Tryz.underlying35 rfl (by kernel_rfl)) rfl ?_
                  exact ⟨_, rfl, Kd.R_nil _ _ _ _ _, below_put3 HB.out G4.out⟩
                | true =>
                  have hv := HVV.out
                  replace hv : valsE k at' row gk' (i + 1) (acc ++ [⟨z1, z2, z3, z4⟩]) = some v := hv
                  replace HVV := Aside0.mk hv
                  clear hv
                  obtain ⟨Av, cv, rfl⟩ := Kd.R_slice HR.out
                  have c0 : wc.cell? ⟨g11, 2, none⟩ = some (.slice Av acc.length cv) := blk_cell K11.out 2
                  have d0 : wc.cell? ⟨g14, 0, none⟩ = some (.int .i64 z1) := blk_cell K14.out 0
                  have d1 : wc.cell? ⟨g14, 1, none⟩ = some (.int .i64 z2) := blk_cell K14.out 1
                  have d2 : wc.cell? ⟨g14, 2, none⟩ = some (.string z3) := blk_cell K14.out 2
                  have d3 : wc.cell? ⟨g14, 3, none⟩ = some (.bool z4) := blk_cell K14.out 3
                  clear b0 b1 b2 bz bl
                  go_wp2_with (((with_reducible refine gate_builtin (b := .append) (xs := #[.tmp 86, .tmp 88]) rfl ?_); at_builtin; refine Kd.R_append k43 (w0 := w) w.heap.size rfl (.tmp 86) (.tmp 88) 33 43 (.agg #[(.int .i64 0), (.int .i64 0), (.string ⟨#[]⟩), (.bool false)]) 40 rfl Tryz.underlying33 info43 rfl (by decide) (by omega) (.slice Av acc.length cv) acc (⟨z1, z2, z3, z4⟩ : S43) [.int .i64 z1, .int .i64 z2, .string z3, .bool z4] (fun _ => True) (fun _ => False) rfl (by first | (go_simp; done) | (go_simp; rfl)) ?aP (fun _ hk => hk.elim) ?aF ?aO ?aB ?aS ?aL ?_; (case aP => exact k43_mkM _ _ _ (⟨z1, z2, z3, z4⟩ : S43)); (case aB => exact HB.out); (case aF => exact fun _ _ => trivial); (case aO => exact HR.out); (case aS => exact below_size HB.out); (case aL => have := HAL.out; have := HN.out; omega); intro v1 w1 ho hb1 hg hat; obtain ⟨A5, c5, e5⟩ := Kd.R_slice ho; rw [List.length_append, List.length_singleton] at e5; subst e5; have n2 := Aside0.mk (blk_grown K2.out hg (Kd.R_ne HR.out K2.out (by decide))); have n4 := Aside0.mk (blk_grown K4.out hg (Kd.R_ne HR.out K4.out (by decide))); have n8 := Aside0.mk (blk_grown K8.out hg (Kd.R_ne HR.out K8.out (by decide))); have n11 := Aside0.mk (blk_grown K11.out hg (Kd.R_ne HR.out K11.out (by decide))); have e2 : w1.cell? ⟨g11, 2, none⟩ = some (.slice Av acc.length cv) := blk_cell n11.out 2; have ez : ∀ j, w1.frozen? ⟨g11, j, none⟩ = false := fun j => blk_frozen n11.out j; have el := blk_lt n11.out; have HO := Aside0.mk ho; have HB1 := Aside0.mk hb1; clear ho hb1 hat hg c0 d0 d1 d2 d3))
                  go_roundg (at'.length - (i + 1))
                  case measure => omega
                  case rel => exact ⟨i + 1, acc ++ [⟨z1, z2, z3, z4⟩], _, rfl, by omega, ⟨by rw [List.length_append, HAL.out]; rfl⟩, by
                    have e : at'.length - (i + 1) = gk' := by omega
                    rw [e]; exact HVV, ⟨Kd.R_mono (Kd.R_far (p := ⟨g11, 2, none⟩) (Kd.R_far1 HO.out rfl (Kd.R_ne HO.out n11.out (by decide))) (fun _ hk => hk.2) _) (fun _ _ => trivial)⟩, ⟨blk_far n2.out G211 _⟩, ⟨blk_far n4.out G411 _⟩, ⟨blk_far n8.out G811 _⟩, ⟨blk_put n11.out 2 _ rfl⟩, ⟨Below.setCell HB1.out G11.out _⟩⟩
              case first =>
                by_cases hk1 : aK = 1
                · subst hk1
                  have hf : w7.cell? ⟨g8, 1, none⟩ = some (.func (.func 59) #[] #[]) := blk_cell K8.out 1
                  have HSX : Aside0 (Below w7.heap.size w7 w7) := ⟨Below.refl _ _⟩
                  unfold rdE at HZ
                  rw [if_pos rfl] at HZ
                  go_region_held3 (fun W' => W'.cell? ⟨g13, 1, none⟩ = some (.int .i64 1) ∧ W'.cell? ⟨g8, 1, none⟩ = some (.func (.func 59) #[] #[]) ∧ W'.cell? ⟨ad.block, ad.off + (i + 1), none⟩ = some (.string cs) ∧ Aside0 (Below w7.heap.size w7 W')) (refine ⟨evB hx1 ?_, evB hf ?_, evB hxd ?_, ?_⟩ <;> (repeat (first | assumption | exact HSX | exact And.right (And.right (And.right (by assumption))) | refine evD ?_ | refine evN ?_ | refine evC (by assumption) ?_ | refine evA ?_ | refine evS ?_))) (first | (go_at_call 29; (refine (csv_of g8 1 _ (blk_below K8.out (Aside0.out (by (repeat (first | assumption | exact HSX | exact And.right (And.right (And.right (by assumption))) | refine evD ?_ | refine evN ?_ | refine evC (by assumption) ?_ | refine evA ?_ | refine evS ?_)))))).mono ?_; rintro e w8 ⟨rfl, rfl⟩; rw [show ofP g8 1 = Value.pointer (some ⟨g8, 0, none⟩) from rfl])) | (go_at_call 59; (refine (form_int k cs z1 z2 z3 z4 z5 _ ⟨HL.out.below (below_step HB.out (Aside0.out (by (repeat (first | assumption | exact HSX | exact And.right (And.right (And.right (by assumption))) | refine evD ?_ | refine evN ?_ | refine evC (by assumption) ?_ | refine evA ?_ | refine evS ?_)))))⟩ ⟨HG.out.below (below_step HB.out (Aside0.out (by (repeat (first | assumption | exact HSX | exact And.right (And.right (And.right (by assumption))) | refine evD ?_ | refine evN ?_ | refine evC (by assumption) ?_ | refine evA ?_ | refine evS ?_)))))⟩ ⟨HY.out.below (below_step HB.out (Aside0.out (by (repeat (first | assumption | exact HSX | exact And.right (And.right (And.right (by assumption))) | refine evD ?_ | refine evN ?_ | refine evC (by assumption) ?_ | refine evA ?_ | refine evS ?_)))))⟩ HZ.out).mono ?_; rintro e w8 ⟨rfl, hb⟩; (first | (have K14 := Aside0.mk (blk_below (blk_drew (blk_new _ _)) hb); have h140 := blk_cell K14.out 0; have h141 := blk_cell K14.out 1; have h142 := blk_cell K14.out 2; have h143 := blk_cell K14.out 3; have h14z := fun j => blk_frozen K14.out j; have h14l := blk_lt K14.out) | skip))))
                  all_goals go_wp2
                  all_goals go_meet
                  all_goals (refine ⟨_, rfl, rfl, ⟨by first | exact put4 K14.out | exact blk_new _ _ | exact put4 (blk_new _ _)⟩, ?_⟩)
                  all_goals (first | exact evA (evC hb (evD HSX)) | exact evA (evD (evC hb (evD HSX))) | exact evS (evS (evS (evS (evC hb (evD (evA HSX))) (Nat.le_refl _)) (Nat.le_refl _)) (Nat.le_refl _)) (Nat.le_refl _) | exact evS (evS (evS (evS (evC hb (evA (evD HSX))) (Nat.le_refl _)) (Nat.le_refl _)) (Nat.le_refl _)) (Nat.le_refl _))
                · by_cases hk2 : aK = 2
                  · subst hk2
                    have hf : w7.cell? ⟨g8, 4, none⟩ = some (.func (.func 60) #[] #[]) := blk_cell K8.out 4
                    have HSX : Aside0 (Below w7.heap.size w7 w7) := ⟨Below.refl _ _⟩
                    unfold rdE at HZ
                    rw [if_neg (by decide), if_pos rfl] at HZ
                    obtain ⟨ok, hok, he⟩ := Option.map_eq_some_iff.1 HZ.out
                    simp only [Prod.mk.injEq] at he
                    obtain ⟨rfl, rfl, rfl, rfl, rfl⟩ := he
                    have HOK := Aside0.mk hok
                    clear hok HZ hk1
                    go_region_held3 (fun W' => W'.cell? ⟨g13, 1, none⟩ = some (.int .i64 2) ∧ W'.cell? ⟨g8, 4, none⟩ = some (.func (.func 60) #[] #[]) ∧ W'.cell? ⟨ad.block, ad.off + (i + 1), none⟩ = some (.string cs) ∧ Aside0 (Below w7.heap.size w7 W')) (refine ⟨evB hx1 ?_, evB hf ?_, evB hxd ?_, ?_⟩ <;> (repeat (first | assumption | exact HSX | exact And.right (And.right (And.right (by assumption))) | refine evD ?_ | refine evN ?_ | refine evC (by assumption) ?_ | refine evA ?_ | refine evS ?_))) (first | (go_at_call 29; (refine (csv_of g8 2 _ (blk_below K8.out (Aside0.out (by (repeat (first | assumption | exact HSX | exact And.right (And.right (And.right (by assumption))) | refine evD ?_ | refine evN ?_ | refine evC (by assumption) ?_ | refine evA ?_ | refine evS ?_)))))).mono ?_; rintro e w8 ⟨rfl, rfl⟩; rw [show ofP g8 2 = Value.pointer (some ⟨g8, 3, none⟩) from rfl])) | (go_at_call 60; (refine (form_str cs ok _ hsz HOK.out).mono ?_; rintro e w8 ⟨rfl, hb⟩; (first | (have K14 := Aside0.mk (blk_below (blk_drew (blk_new _ _)) hb); have h140 := blk_cell K14.out 0; have h141 := blk_cell K14.out 1; have h142 := blk_cell K14.out 2; have h143 := blk_cell K14.out 3; have h14z := fun j => blk_frozen K14.out j; have h14l := blk_lt K14.out) | skip))))
                    all_goals go_wp2
                    all_goals go_meet
                    all_goals (refine ⟨_, rfl, rfl, ⟨by first | exact put4 K14.out | exact blk_new _ _ | exact put4 (blk_new _ _)⟩, ?_⟩)
                    all_goals (first | exact evA (evC hb (evD HSX)) | exact evA (evD (evC hb (evD HSX))) | exact evS (evS (evS (evS (evC hb (evD (evA HSX))) (Nat.le_refl _)) (Nat.le_refl _)) (Nat.le_refl _)) (Nat.le_refl _) | exact evS (evS (evS (evS (evC hb (evA (evD HSX))) (Nat.le_refl _)) (Nat.le_refl _)) (Nat.le_refl _)) (Nat.le_refl _))
                  · by_cases hk3 : aK = 3
                    · subst hk3
                      have hf : w7.cell? ⟨g8, 7, none⟩ = some (.func (.func 63) #[] #[]) := blk_cell K8.out 7
                      have HSX : Aside0 (Below w7.heap.size w7 w7) := ⟨Below.refl _ _⟩
                      unfold rdE at HZ
                      rw [if_neg (by decide), if_neg (by decide), if_pos rfl] at HZ
                      clear hk1 hk2
                      go_region_held3 (fun W' => W'.cell? ⟨g13, 1, none⟩ = some (.int .i64 3) ∧ W'.cell? ⟨g8, 7, none⟩ = some (.func (.func 63) #[] #[]) ∧ W'.cell? ⟨ad.block, ad.off + (i + 1), none⟩ = some (.string cs) ∧ Aside0 (Below w7.heap.size w7 W')) (refine ⟨evB hx1 ?_, evB hf ?_, evB hxd ?_, ?_⟩ <;> (repeat (first | assumption | exact HSX | exact And.right (And.right (And.right (by assumption))) | refine evD ?_ | refine evN ?_ | refine evC (by assumption) ?_ | refine evA ?_ | refine evS ?_))) (first | (go_at_call 29; (refine (csv_of g8 3 _ (blk_below K8.out (Aside0.out (by (repeat (first | assumption | exact HSX | exact And.right (And.right (And.right (by assumption))) | refine evD ?_ | refine evN ?_ | refine evC (by assumption) ?_ | refine evA ?_ | refine evS ?_)))))).mono ?_; rintro e w8 ⟨rfl, rfl⟩; rw [show ofP g8 3 = Value.pointer (some ⟨g8, 6, none⟩) from rfl])) | (go_at_call 63; (refine (form_bool k cs z1 z2 z3 z4 z5 _ ⟨HL.out.below (below_step HB.out (Aside0.out (by (repeat (first | assumption | exact HSX | exact And.right (And.right (And.right (by assumption))) | refine evD ?_ | refine evN ?_ | refine evC (by assumption) ?_ | refine evA ?_ | refine evS ?_)))))⟩ ⟨HG.out.below (below_step HB.out (Aside0.out (by (repeat (first | assumption | exact HSX | exact And.right (And.right (And.right (by assumption))) | refine evD ?_ | refine evN ?_ | refine evC (by assumption) ?_ | refine evA ?_ | refine evS ?_)))))⟩ ⟨HY.out.below (below_step HB.out (Aside0.out (by (repeat (first | assumption | exact HSX | exact And.right (And.right (And.right (by assumption))) | refine evD ?_ | refine evN ?_ | refine evC (by assumption) ?_ | refine evA ?_ | refine evS ?_)))))⟩ HZ.out).mono ?_; rintro e w8 ⟨rfl, hb⟩; (first | (have K14 := Aside0.mk (blk_below (blk_drew (blk_new _ _)) hb); have h140 := blk_cell K14.out 0; have h141 := blk_cell K14.out 1; have h142 := blk_cell K14.out 2; have h143 := blk_cell K14.out 3; have h14z := fun j => blk_frozen K14.out j; have h14l := blk_lt K14.out) | skip))))
                      all_goals go_wp2
                      all_goals go_meet
                      all_goals (refine ⟨_, rfl, rfl, ⟨by first | exact put4 K14.out | exact blk_new _ _ | exact put4 (blk_new _ _)⟩, ?_⟩)
                      all_goals (first | exact evA (evC hb (evD HSX)) | exact evA (evD (evC hb (evD HSX))) | exact evS (evS (evS (evS (evC hb (evD (evA HSX))) (Nat.le_refl _)) (Nat.le_refl _)) (Nat.le_refl _)) (Nat.le_refl _) | exact evS (evS (evS (evS (evC hb (evA (evD HSX))) (Nat.le_refl _)) (Nat.le_refl _)) (Nat.le_refl _)) (Nat.le_refl _))
                    · have hz := HZ.out
                      unfold rdE at hz
                      rw [if_neg hk1, if_neg hk2, if_neg hk3] at hz
                      cases hz
            · have hd : decide ((i : Int) < (at'.length : Int)) = false := decide_eq_false (by omega)
              have hgk : gk = 0 := by omega
              subst hgk
              have e := HV.out
              have hv : v = some acc := (Option.some.inj e).symm
              subst hv
              have hE := HE.out
              simp only [Option.some.injEq, Prod.mk.injEq] at hE
              obtain ⟨rfl, rfl, rfl, rfl⟩ := hE
              obtain ⟨Av, cv, rfl⟩ := Kd.R_slice HR.out
              have a0 : wr.cell? ⟨g11, 0, none⟩ = some (.string name) := blk_cell K11.out 0
              have a1 : wr.cell? ⟨g11, 1, none⟩ = some (.int .i64 t2) := blk_cell K11.out 1
              have a2 : wr.cell? ⟨g11, 2, none⟩ = some (.slice Av acc.length cv) := blk_cell K11.out 2
              have b0 : wr.cell? ⟨g4, 0, none⟩ = some (.string ⟨#[]⟩) := blk_cell K4.out 0
              have b1 : wr.cell? ⟨g4, 1, none⟩ = some (.int .i64 0) := blk_cell K4.out 1
              have b2 : wr.cell? ⟨g4, 2, none⟩ = some (.slice none 0 0) := blk_cell K4.out 2
              have bz : ∀ j, wr.frozen? ⟨g4, j, none⟩ = false := fun j => blk_frozen K4.out j
              have bl := blk_lt K4.out
              go_wp2
              refine bodyPost_ret (results_ct rfl _ _ g4 35 #[.string name, .int .i64 t2, .slice Av acc.length cv] (0, 0) _ rfl (put3 K4.out) Tryz.underlying35 rfl (by kernel_rfl)) rfl ?_
              exact ⟨_, rfl, R_put3 HR.out K4.out (by decide), below_put3 HB.out G4.out⟩
    · have H := H0.out
      replace H : (if t5 = true ∧ 0 ≤ t2 ∧ t2 ≤ 4611686018427387904 then _ else _) = _ := H
      rw [if_neg hok] at H
      simp only [Option.some.injEq, Prod.mk.injEq] at H
      obtain ⟨rfl, rfl, rfl, rfl⟩ := H
      clear H0
      cases t5 with
      | false =>
        go_wp2
        refine bodyPost_ret (results_ct rfl _ _ g4 35 #[.string ⟨#[]⟩, .int .i64 0, .slice none 0 0] (0, 0) _ rfl (put3 K4.out) Tryz.underlying35 rfl (by kernel_rfl)) rfl ?_
        exact ⟨_, rfl, Kd.R_nil _ _ _ _ _, below_put3 HB.out G4.out⟩
      | true =>
        have htm : csv_timely.f t2 = some false := by rw [timely_f, decide_eq_false (fun e => hok ⟨rfl, e⟩)]
        have HTM := Aside0.mk htm
        clear htm hok
        go_wp2_with (go_at_call 27; refine (csv_timely.calls t2 false w3 HTM.out).mono ?_; rintro e w4 ⟨rfl, hd⟩; obtain ⟨n, rfl⟩ := hd)
        refine bodyPost_ret (results_ct rfl _ _ g4 35 #[.string ⟨#[]⟩, .int .i64 0, .slice none 0 0] (0, 0) _ rfl (put3 (blk_drewN K4.out n)) Tryz.underlying35 rfl (by kernel_rfl)) rfl ?_
        exact ⟨_, rfl, Kd.R_nil _ _ _ _ _, below_put3 (pw_below_drewN HB.out n) G4.out⟩
  · have hx : ((row.length : Int) != wrap64 ((at'.length : Int) + 1)) = true := by rw [hw]; exact bne_iff_ne.2 (by omega)
    have H := H0.out
    unfold evE at H
    rw [if_neg hlen] at H
    simp only [Option.some.injEq, Prod.mk.injEq] at H
    obtain ⟨rfl, rfl, rfl, rfl⟩ := H
    clear H0
    go_wp2
    refine bodyPost_ret (results_ct rfl _ _ g4 35 #[.string ⟨#[]⟩, .int .i64 0, .slice none 0 0] (0, 0) _ rfl (put3 K4.out) Tryz.underlying35 rfl (by kernel_rfl)) rfl ?_
    exact ⟨_, rfl, Kd.R_nil _ _ _ _ _, below_put3 HB.out G4.out⟩
end Go.Proofs.YtpkbhfdfgapmlaaGreatDoor.Pr
end
