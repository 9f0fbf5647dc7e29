/-
Part 5 of the proof of the law CsvTwo: texts ExtEv4.
-/
import Derived.Deep.DrawnRows
import Derived.Test.YtpkbhfdfgapmlaaGreatDoorMCsvTwo3
import Derived.Test.YtpkbhfdfgapmlaaGreatDoorMCsvTwo4
/-! ## text ExtEv4 -/
section
/- csv.Row. -/
namespace Go.Proofs.YtpkbhfdfgapmlaaGreatDoor.Pr
open Go Go.RowKit Go.Proofs.YtpkbhfdfgapmlaaGreatDoorW.PrintWords Go.Proofs.YtpkbhfdfgapmlaaGreatDoorW.PrintLast Go.Proofs.YtpkbhfdfgapmlaaGreatDoorW.PrintMore
set_option maxRecDepth 100000
set_option linter.unusedVariables false
set_option linter.unusedSimpArgs false
attribute [local go_sem ↓] Go.wp_at_zero Go.wp_at_succ
/-- A value as it stands in a cell. -/
def wrE (z1 z2 : Int) (z3 : ByteArray) (z4 : Bool) : Option ByteArray := if z1 = 2 then some z3 else csv_show.f z1 z2 z3 z4
/-- The cells from the i-th value on. -/
def cellsE (at' : List (S30)) (vals : List (S43)) : Nat → Nat → List ByteArray → Option (List ByteArray × Int)
  | 0, _, acc => some (acc, 0)
  | n + 1, i, acc => (value_Valid.f (rd_T43 vals (i : Int)).f0 (rd_T43 vals (i : Int)).f1 (rd_T43 vals (i : Int)).f2 (rd_T43 vals (i : Int)).f3).bind fun ok => if ok = true then (if (rd_T43 vals (i : Int)).f0 = (rd_T30 at' (i : Int)).f1 then (wrE (rd_T43 vals (i : Int)).f0 (rd_T43 vals (i : Int)).f1 (rd_T43 vals (i : Int)).f2 (rd_T43 vals (i : Int)).f3).bind fun s => cellsE at' vals n (i + 1) (acc ++ [s]) else some ([], 10)) else some ([], 12)
/-- csv.Row. -/
def rowE (name : ByteArray) (at' : List (S30)) (tn : ByteArray) (tm : Int) (vals : List (S43)) : Option (List ByteArray × Int) :=
  if tn.toList = name.toList then (if 0 ≤ tm ∧ tm ≤ 4611686018427387904 then (if vals.length = at'.length then (csv_show.f 1 tm ⟨#[]⟩ false).bind fun s => cellsE at' vals vals.length 0 [s] else some ([], 22)) else some ([], 23)) else some ([], 21)
theorem valid_kind {z1 z2 : Int} {z3 : ByteArray} {z4 : Bool} (h : value_Valid.f z1 z2 z3 z4 = some true) : z1 = 1 ∨ z1 = 2 ∨ z1 = 3 := by
  unfold value_Valid.f at h
  by_cases h1 : z1 = 1
  · exact .inl h1
  · rw [if_neg h1] at h
    by_cases h2 : z1 = 2
    · exact .inr (.inl h2)
    · rw [if_neg h2] at h
      by_cases h3 : z1 = 3
      · exact .inr (.inr h3)
      · rw [if_neg h3] at h
        cases h
theorem evCD {w : World} {a : Addr} {v : Value} (h : w.cell? a = some v) : w.drew.cell? a = some v := h
theorem evCN {w : World} {n : Nat} {a : Addr} {v : Value} (h : w.cell? a = some v) : (w.drewN n).cell? a = some v := h
theorem evCA {w : World} {o : Obj} {a : Addr} {v : Value} (h : w.cell? a = some v) : (w.alloc o).cell? a = some v := pw_cell_below (below_alloc (Below.refl _ _) o) h
theorem rd43_eq {xs : List (S43)} {i : Nat} (h : i < xs.length) : rd_T43 xs (i : Int) = xs[i] := by
  show xs.getD _ _ = _
  rw [Int.toNat_natCast, List.getD_eq_getElem?_getD, List.getElem?_eq_getElem h]; rfl
set_option maxHeartbeats 16000000 in
theorem csv_Row (name : ByteArray) (A0 : Option Addr) (c0 : Nat) (at' : List (S30)) (tn : ByteArray) (tm : Int) (A1 : Option Addr) (c1 : Nat) (vals : List (S43)) (r1 : List ByteArray) (r2 : Int) (w : World)
    (HG : Aside0 (LG0 w)) (hr0 : Kd.C k30 w A0 at'.length at') (hc0 : at'.length ≤ c0) (hr1 : Kd.C k43 w A1 vals.length vals) (hc1 : vals.length ≤ c1) (hn : at'.length ≤ 3518437208882) (hs : ∀ v ∈ vals, v.f2.size ≤ 140737488355328) (h : rowE name at' tn tm vals = some (r1, r2)) :
    Calls Tryz.prog 14 #[.agg #[.string name, .slice A0 at'.length c0], .agg #[.string tn, .int .i64 tm, .slice A1 vals.length c1]] w fun e w' => ∃ v0_ : Value, e = .returned (.tuple #[v0_, .int .i64 r2]) ∧ Kd.R Kd.string 9 w' w.heap.size (fun _ => True) v0_ r1 ∧ Below w.heap.size w w' := by
  have HR0 := Aside0.mk hr0
  have HR1 := Aside0.mk hr1
  have HN := Aside0.mk hn
  have HS := Aside0.mk hs
  have H0 := Aside0.mk h
  clear hr0 hc0 hr1 hc1 hs h hn
  go_enter Tryz.func14, Tryz.ntmps14
  go_upto_region 1 with (fail)
  obtain ⟨g2, e2⟩ : ∃ g, g = w.heap.size := ⟨_, rfl⟩
  obtain ⟨g3, e3⟩ : ∃ g, g = w.heap.size + 1 := ⟨_, rfl⟩
  obtain ⟨w1, hw1⟩ : ∃ w1, w1 = (w.alloc (.cells #[.string name, .slice A0 at'.length c0] 24)).alloc (.cells #[.string tn, .int .i64 tm, .slice A1 vals.length c1] 35) := ⟨_, rfl⟩
  have K2 : Aside0 (w1.heap[g2]? = some (.cells #[.string name, .slice A0 at'.length c0] 24 (0, 0))) := ⟨by rw [hw1, e2]; exact blk_alloc (blk_new _ _) _⟩
  have K3 : Aside0 (w1.heap[g3]? = some (.cells #[.string tn, .int .i64 tm, .slice A1 vals.length c1] 35 (0, 0))) := ⟨by rw [hw1, e3]; exact blk_new1 _ _ _⟩
  have HB : Aside0 (Below w.heap.size w w1) := ⟨by rw [hw1]; exact below_alloc (below_alloc (Below.refl _ _) _) _⟩
  rw [← e3, ← e2, ← hw1]
  have G2 : Aside0 (w.heap.size ≤ g2) := ⟨by omega⟩
  have G3 : Aside0 (w.heap.size ≤ g3) := ⟨by omega⟩
  have G23 : g2 ≠ g3 := by omega
  clear e2 e3 hw1
  have a0 : w1.cell? ⟨g2, 0, none⟩ = some (.string name) := blk_cell K2.out 0
  have a1 : w1.cell? ⟨g2, 1, none⟩ = some (.slice A0 at'.length c0) := blk_cell K2.out 1
  have b0 : w1.cell? ⟨g3, 0, none⟩ = some (.string tn) := blk_cell K3.out 0
  have b1 : w1.cell? ⟨g3, 1, none⟩ = some (.int .i64 tm) := blk_cell K3.out 1
  have b2 : w1.cell? ⟨g3, 2, none⟩ = some (.slice A1 vals.length c1) := blk_cell K3.out 2
  by_cases htn : tn.toList = name.toList
  · have H := H0.out
    unfold rowE at H
    rw [if_pos htn] at H
    replace H0 := Aside0.mk H
    have t1 : (tn.toList == name.toList) = true := beq_iff_eq.mpr htn
    have t2 : (tn.toList != name.toList) = false := bne_eq_false_iff_eq.mpr htn
    clear H htn
    by_cases htm : 0 ≤ tm ∧ tm ≤ 4611686018427387904
    · have H := H0.out
      rw [if_pos htm] at H
      replace H0 := Aside0.mk H
      have HTM := Aside0.mk (show csv_timely.f tm = some true by rw [timely_f, decide_eq_true htm])
      clear H htm
      go_upto_region 5 with (go_at_call 27; refine (csv_timely.calls tm true w1 HTM.out).mono ?_; rintro e w4 ⟨rfl, hd⟩; obtain ⟨n, rfl⟩ := hd)
      replace K2 := Aside0.mk (blk_drewN K2.out n)
      replace K3 := Aside0.mk (blk_drewN K3.out n)
      replace HB := Aside0.mk (pw_below_drewN HB.out n)
      clear a0 a1 b0 b1 b2 HTM t1 t2
      generalize w1.drewN n = w4 at *
      have a1 : w4.cell? ⟨g2, 1, none⟩ = some (.slice A0 at'.length c0) := blk_cell K2.out 1
      have b2 : w4.cell? ⟨g3, 2, none⟩ = some (.slice A1 vals.length c1) := blk_cell K3.out 2
      by_cases hlen : vals.length = at'.length
      · have H := H0.out
        rw [if_pos hlen] at H
        obtain ⟨s0, hs0, H⟩ := Option.bind_eq_some_iff.1 H
        replace H0 := Aside0.mk H
        have HS0 := Aside0.mk hs0
        have u1 : ((vals.length : Int) != (at'.length : Int)) = false := bne_eq_false_iff_eq.mpr (by omega)
        have HLE := Aside0.mk hlen
        clear H hs0 hlen
        go_upto_region 8 with (go_at_call 28; refine (csv_formsOf w4).mono ?_; rintro e w5 ⟨rfl, hb⟩; unfold formsC; replace K2 := Aside0.mk (blk_below K2.out hb); replace K3 := Aside0.mk (blk_below K3.out hb); replace HB := Aside0.mk (below_step HB.out hb); clear hb a1 b2)
        clear u1
        obtain ⟨g6, e6⟩ : ∃ g, g = w5.heap.size := ⟨_, rfl⟩
        obtain ⟨w6, hw6⟩ : ∃ w6, w6 = w5.alloc (.cells formsC 80) := ⟨_, rfl⟩
        have G26 : g2 ≠ g6 := by have := blk_lt K2.out; omega
        have G36 : g3 ≠ g6 := by have := blk_lt K3.out; omega
        have G6 : Aside0 (w.heap.size ≤ g6) := ⟨by have := blk_lt K3.out; have := G3.out; omega⟩
        have K6 : Aside0 (w6.heap[g6]? = some (.cells formsC 80 (0, 0))) := ⟨by rw [hw6, e6]; exact blk_new _ _⟩
        replace K2 : Aside0 (w6.heap[g2]? = some (.cells #[.string name, .slice A0 at'.length c0] 24 (0, 0))) := ⟨by rw [hw6]; exact blk_alloc K2.out _⟩
        replace K3 : Aside0 (w6.heap[g3]? = some (.cells #[.string tn, .int .i64 tm, .slice A1 vals.length c1] 35 (0, 0))) := ⟨by rw [hw6]; exact blk_alloc K3.out _⟩
        replace HB : Aside0 (Below w.heap.size w w6) := ⟨by rw [hw6]; exact below_alloc HB.out _⟩
        unfold formsC at hw6
        rw [← hw6, ← e6]
        clear hw6 e6
        have b1 : w6.cell? ⟨g3, 1, none⟩ = some (.int .i64 tm) := blk_cell K3.out 1
        have b2 : w6.cell? ⟨g3, 2, none⟩ = some (.slice A1 vals.length c1) := blk_cell K3.out 2
        go_upto_region 9 with (first | (go_at_call 33; refine (csv_show.calls 1 tm ⟨#[]⟩ false s0 w6 ⟨HG.out.below HB.out⟩ HS0.out).mono ?_; rintro e w7 ⟨rfl, hb⟩; replace K2 := Aside0.mk (blk_below K2.out hb); replace K3 := Aside0.mk (blk_below K3.out hb); replace K6 := Aside0.mk (blk_below K6.out hb); replace HB := Aside0.mk (below_step HB.out hb); clear hb b1 b2) | ((with_reducible refine gate_dst (N := 34) rfl ?_); refine Kd.R_lit Kd.string _ 9 ?hg (N := 34) ?hd (xs := ([s0] : List ByteArray)) (inner := [.string s0]) (ok := fun _ => True) (okp := fun _ => True) ?hr ?hp (fun _ hk => hk) trivial (Below.refl _ _) (Nat.le_refl _) (by simp) ?_; (case hd => rfl); (case hg => rfl); (case hr => first | (go_simp; done) | (go_simp; rfl)); (case hp => exact (Reps.one (show Kd.M Kd.string _ _ _ s0 [.string s0] from rfl) (Reps.none _ _))); intro v34 w8 ho hb hg_ hnew_; clear hg_ hnew_; have HO := Aside0.mk (Kd.R_lower ho (below_size HB.out)); replace K2 := Aside0.mk (blk_below K2.out hb); replace K3 := Aside0.mk (blk_below K3.out hb); replace K6 := Aside0.mk (blk_below K6.out hb); replace HB := Aside0.mk (below_step HB.out hb); clear hb ho))
        have b2 : w8.cell? ⟨g3, 2, none⟩ = some (.slice A1 vals.length c1) := blk_cell K3.out 2
        go_upto_region 10 with (fail)
        clear b2
        go_loopg [38, 7] vals.length (fun gk v38 v7 wx => ∃ (i : Nat) (acc : List ByteArray), v38 = .int .i64 i ∧ i + gk = vals.length ∧ Aside0 (cellsE at' vals gk i acc = some (r1, r2)) ∧ Aside0 (acc.length = i + 1) ∧ Aside0 (Kd.R Kd.string 9 wx w.heap.size (fun _ => True) v7 acc) ∧ Aside0 (wx.heap[g2]? = some (.cells #[.string name, .slice A0 at'.length c0] 24 (0, 0))) ∧ Aside0 (wx.heap[g3]? = some (.cells #[.string tn, .int .i64 tm, .slice A1 vals.length c1] 35 (0, 0))) ∧ Aside0 (wx.heap[g6]? = some (.cells formsC 80 (0, 0))) ∧ Aside0 (Below w.heap.size w wx))
        case atStart => exact ⟨0, [s0], rfl, by omega, H0, ⟨rfl⟩, HO, K2, K3, K6, HB⟩
        case round =>
          clear K2 K3 K6 HB HO H0
          obtain ⟨i, acc, rfl, hig, H0, HAL, HO, K2, K3, K6, HB⟩ := hrel
          obtain ⟨A7, c7, e7⟩ := Kd.R_slice HO.out
          subst e7
          have hn9 : vals.length ≤ 3518437208882 := by have := HLE.out; have := HN.out; omega
          by_cases hi : i < vals.length
          · have hd : decide ((i : Int) < (vals.length : Int)) = true := decide_eq_true (by omega)
            have hla := HLE.out
            have p1 : 0 ≤ (i : Int) := by omega
            have q1 : (i : Int) < (vals.length : Int) := by omega
            have q2 : (i : Int) < (at'.length : Int) := by omega
            obtain ⟨ad, ed, hx0, hx1, hx2, hx3⟩ := at_T43 HR1.out (i : Int) p1 q1
            cases ed
            obtain ⟨ae, ee, hy0, hy1⟩ := at_T30 HR0.out (i : Int) p1 q2
            cases ee
            rw [Int.toNat_natCast] at hx0 hx1 hx2 hx3 hy0 hy1
            replace hx0 := (HB.out.cell (World.block_lt_of_cell? w _ hx0)).trans hx0
            replace hx1 := (HB.out.cell (World.block_lt_of_cell? w _ hx1)).trans hx1
            replace hx2 := (HB.out.cell (World.block_lt_of_cell? w _ hx2)).trans hx2
            replace hx3 := (HB.out.cell (World.block_lt_of_cell? w _ hx3)).trans hx3
            replace hy1 := (HB.out.cell (World.block_lt_of_cell? w _ hy1)).trans hy1
            clear hy0
            have hs3 := HS.out (rd_T43 vals (i : Int)) (by rw [rd43_eq hi]; exact List.getElem_mem hi)
            obtain ⟨gk', rfl⟩ : ∃ m, gk = m + 1 := ⟨gk - 1, by omega⟩
            have H := H0.out
            unfold cellsE at H
            obtain ⟨⟨z1, z2, z3, z4⟩, hz⟩ : ∃ x : S43, x = rd_T43 vals (i : Int) := ⟨_, rfl⟩
            obtain ⟨aK, haK⟩ : ∃ x, x = (rd_T30 at' (i : Int)).f1 := ⟨_, rfl⟩
            rw [← hz] at hx0 hx1 hx2 hx3 hs3 H
            rw [← haK] at hy1 H
            obtain ⟨ok, hok, H⟩ := Option.bind_eq_some_iff.1 H
            replace hok : value_Valid.f z1 z2 z3 z4 = some ok := hok
            replace H : (if ok = true then (if z1 = aK then (wrE z1 z2 z3 z4).bind fun s => cellsE at' vals gk' (i + 1) (acc ++ [s]) else some ([], 10)) else some ([], 12)) = some (r1, r2) := H
            have HOK := Aside0.mk hok
            replace H0 := Aside0.mk H
            replace p1 := eq_true p1
            replace q1 := eq_true q1
            replace q2 := eq_true q2
            clear H hok hz haK hla
            go_upto_region 12 with (fail)
            obtain ⟨g9, e9⟩ : ∃ g, g = wr.heap.size := ⟨_, rfl⟩
            obtain ⟨w9, hw9⟩ : ∃ w9, w9 = wr.alloc (.cells #[.int .i64 z1, .int .i64 z2, .string z3, .bool z4] 43) := ⟨_, rfl⟩
            have K9 : Aside0 (w9.heap[g9]? = some (.cells #[.int .i64 z1, .int .i64 z2, .string z3, .bool z4] 43 (0, 0))) := ⟨by rw [hw9, e9]; exact blk_new _ _⟩
            replace K2 : Aside0 (w9.heap[g2]? = some (.cells #[.string name, .slice (some ae) at'.length c0] 24 (0, 0))) := ⟨by rw [hw9]; exact blk_alloc K2.out _⟩
            replace K3 : Aside0 (w9.heap[g3]? = some (.cells #[.string tn, .int .i64 tm, .slice (some ad) vals.length c1] 35 (0, 0))) := ⟨by rw [hw9]; exact blk_alloc K3.out _⟩
            replace K6 : Aside0 (w9.heap[g6]? = some (.cells formsC 80 (0, 0))) := ⟨by rw [hw9]; exact blk_alloc K6.out _⟩
            replace HO : Aside0 (Kd.R Kd.string 9 w9 w.heap.size (fun _ => True) (.slice A7 acc.length c7) acc) := ⟨by rw [hw9]; exact Kd.R_alloc HO.out _⟩
            replace HB : Aside0 (Below w.heap.size w w9) := ⟨by rw [hw9]; exact below_alloc HB.out _⟩
            replace hy1 := evCA (o := .cells #[.int .i64 z1, .int .i64 z2, .string z3, .bool z4] 43) hy1
            rw [← hw9] at hy1
            rw [← hw9, ← e9]
            clear hw9 e9 hx0 hx1 hx2 hx3 hd
            have c90 : w9.cell? ⟨g9, 0, none⟩ = some (.int .i64 z1) := blk_cell K9.out 0
            have c91 : w9.cell? ⟨g9, 1, none⟩ = some (.int .i64 z2) := blk_cell K9.out 1
            have c92 : w9.cell? ⟨g9, 2, none⟩ = some (.string z3) := blk_cell K9.out 2
            have c93 : w9.cell? ⟨g9, 3, none⟩ = some (.bool z4) := blk_cell K9.out 3
            cases ok with
            | false =>
              have H := H0.out
              replace H : some (([] : List ByteArray), (12 : Int)) = some (r1, r2) := H
              simp only [Option.some.injEq, Prod.mk.injEq] at H
              obtain ⟨rfl, rfl⟩ := H
              clear H0 hy1
              go_wp2_with (go_at_call 17; refine (value_Valid.calls z1 z2 z3 z4 false w9 HOK.out).mono ?_; rintro e w10 ⟨rfl, hb⟩; replace HB := Aside0.mk (below_step HB.out hb); clear hb c90 c91 c92 c93)
              go_ret2
              exact ⟨_, rfl, Kd.R_nil _ _ _ _ _, HB.out⟩
            | true =>
              have H := H0.out
              replace H : (if z1 = aK then (wrE z1 z2 z3 z4).bind fun s => cellsE at' vals gk' (i + 1) (acc ++ [s]) else some ([], 10)) = some (r1, r2) := H
              replace H0 := Aside0.mk H
              clear H
              have HY1 := Aside0.mk hy1
              clear hy1
              go_upto_region 14 with (go_at_call 17; refine (value_Valid.calls z1 z2 z3 z4 true w9 HOK.out).mono ?_; rintro e w10 ⟨rfl, hb⟩; replace K2 := Aside0.mk (blk_below K2.out hb); replace K3 := Aside0.mk (blk_below K3.out hb); replace K6 := Aside0.mk (blk_below K6.out hb); replace K9 := Aside0.mk (blk_below K9.out hb); replace HO := Aside0.mk (Kd.R_below HO.out hb); replace HB := Aside0.mk (below_step HB.out hb); replace HY1 := Aside0.mk (pw_cell_below hb HY1.out); clear hb c90 c91 c92 c93)
              have c90 : w10.cell? ⟨g9, 0, none⟩ = some (.int .i64 z1) := blk_cell K9.out 0
              have a1 : w10.cell? ⟨g2, 1, none⟩ = some (.slice (some ae) at'.length c0) := blk_cell K2.out 1
              have hy1 := HY1.out
              by_cases hk : z1 = aK
              · have H := H0.out
                rw [if_pos hk] at H
                obtain ⟨s, hs, H⟩ := Option.bind_eq_some_iff.1 H
                replace H0 := Aside0.mk H
                have HWR := Aside0.mk hs
                have u1 : (z1 != aK) = false := bne_eq_false_iff_eq.mpr hk
                have u2 : (z1 == aK) = true := beq_iff_eq.mpr hk
                clear H hs hk
                go_quiet (fail)
                go_upto_region 16 with (fail)
                replace K2 := Aside0.mk (blk_drewN K2.out nq)
                replace K3 := Aside0.mk (blk_drewN K3.out nq)
                replace K6 := Aside0.mk (blk_drewN K6.out nq)
                replace K9 := Aside0.mk (blk_drewN K9.out nq)
                replace HO := Aside0.mk (Kd.R_drewN HO.out nq)
                replace HB := Aside0.mk (pw_below_drewN HB.out nq)
                clear c90 a1 hy1 HY1 u1 u2
                generalize w10.drewN nq = w11 at *
                have c90 : w11.cell? ⟨g9, 0, none⟩ = some (.int .i64 z1) := blk_cell K9.out 0
                have c91 : w11.cell? ⟨g9, 1, none⟩ = some (.int .i64 z2) := blk_cell K9.out 1
                have c92 : w11.cell? ⟨g9, 2, none⟩ = some (.string z3) := blk_cell K9.out 2
                have c93 : w11.cell? ⟨g9, 3, none⟩ = some (.bool z4) := blk_cell K9.out 3
                have hzk := valid_kind HOK.out
                have hsz : z3.size ≤ 140737488355328 := hs3
                have HSZ := Aside0.mk hsz
                clear hs3 hsz
                rcases hzk with rfl | rfl | rfl
                · have c6 : w11.cell? ⟨g6, 2, none⟩ = some (.func (.func 33) #[] #[]) := blk_cell K6.out 2
                  have HWS : Aside0 (csv_show.f 1 z2 z3 z4 = some s) := ⟨HWR.out⟩
                  go_region_held3 (fun W' => W'.cell? ⟨g9, 0, none⟩ = some (.int .i64 1) ∧ W'.cell? ⟨g9, 1, none⟩ = some (.int .i64 z2) ∧ W'.cell? ⟨g9, 2, none⟩ = some (.string z3) ∧ W'.cell? ⟨g9, 3, none⟩ = some (.bool z4) ∧ W'.cell? ⟨g6, 2, none⟩ = some (.func (.func 33) #[] #[])) ((go_split_ands; refine ⟨?_, ?_, ?_, ?_, ?_⟩ <;> (repeat (first | assumption | refine evCD ?_ | refine evCN ?_ | refine evCA ?_)))) (first | (go_at_call 29; (refine (csv_of g6 1 _ (by first | exact K6.out | exact blk_drew K6.out)).mono ?_; rintro e w13 ⟨rfl, rfl⟩; rw [show ofP g6 1 = Value.pointer (some ⟨g6, 0, none⟩) from rfl])) | (go_at_call 33; (refine (csv_show.calls 1 z2 z3 z4 s _ ⟨HG.out.below (by first | exact HB.out | exact below_drew1 HB.out)⟩ HWS.out).mono ?_; rintro e w12 ⟨rfl, hb⟩; have N2 := Aside0.mk (blk_below (by first | exact K2.out | exact blk_drew K2.out) hb); have N3 := Aside0.mk (blk_below (by first | exact K3.out | exact blk_drew K3.out) hb); have N6 := Aside0.mk (blk_below (by first | exact K6.out | exact blk_drew K6.out) hb); have N9 := Aside0.mk (blk_below (by first | exact K9.out | exact blk_drew K9.out) hb); have NO := Aside0.mk (Kd.R_below (by first | exact HO.out | exact Kd.R_drew HO.out) hb); have NB := Aside0.mk (below_step (by first | exact HB.out | exact below_drew1 HB.out) hb); have d0 := blk_cell N9.out 0; have d1 := blk_cell N9.out 1; have d2 := blk_cell N9.out 2; have d3 := blk_cell N9.out 3; have d6 := blk_cell N6.out 2; replace d0 : w12.cell? ⟨g9, 0, none⟩ = some (.int .i64 1) := d0; replace d1 : w12.cell? ⟨g9, 1, none⟩ = some (.int .i64 z2) := d1; replace d2 : w12.cell? ⟨g9, 2, none⟩ = some (.string z3) := d2; replace d3 : w12.cell? ⟨g9, 3, none⟩ = some (.bool z4) := d3; replace d6 : w12.cell? ⟨g6, 2, none⟩ = some (.func (.func 33) #[] #[]) := d6; clear hb)) | ((refine Kd.R_append_step Kd.string (w0 := w) w.heap.size (by rfl) (.tmp 55) (.tmp 64) 39 9 (.string ⟨#[]⟩) 16 (by rfl) Tryz.underlying39 info9 rfl (by decide) (by decide) (.slice A7 acc.length c7) acc s [.string s] (fun _ => True) (fun _ => False) (by rfl) (by rfl) rfl (fun _ hk => hk.elim) (fun _ _ => trivial) (by first | exact NO.out | exact Kd.R_drew NO.out) (by first | exact NB.out | exact below_drew1 NB.out) (by first | exact below_size NB.out | exact below_size (below_drew1 NB.out)) (by have := HAL.out; have := HN.out; have := HLE.out; omega) ?_; intro v13 w13 ho hb hg hat; have M2 := Aside0.mk (blk_grown N2.out hg (Kd.R_ne NO.out N2.out (by decide))); have M3 := Aside0.mk (blk_grown N3.out hg (Kd.R_ne NO.out N3.out (by decide))); have M6 := Aside0.mk (blk_grown N6.out hg (Kd.R_ne NO.out N6.out (by decide))); have M9 := Aside0.mk (blk_grown N9.out hg (Kd.R_ne NO.out N9.out (by decide))); have MO := Aside0.mk ho; have MB := Aside0.mk hb; have f0 : w13.cell? ⟨g9, 0, none⟩ = some (.int .i64 1) := blk_cell M9.out 0; have f1 : w13.cell? ⟨g9, 1, none⟩ = some (.int .i64 z2) := blk_cell M9.out 1; have f2 : w13.cell? ⟨g9, 2, none⟩ = some (.string z3) := blk_cell M9.out 2; have f3 : w13.cell? ⟨g9, 3, none⟩ = some (.bool z4) := blk_cell M9.out 3; have f6 : w13.cell? ⟨g6, 2, none⟩ = some (.func (.func 33) #[] #[]) := blk_cell M6.out 2; clear ho hb hg hat)))
                  all_goals (go_wp2; go_roundg (vals.length - (i + 1)); (case measure => omega); (case rel => exact ⟨i + 1, acc ++ [s], by first | rfl | go_num, by omega, (show vals.length - (i + 1) = gk' by omega) ▸ H0, ⟨by rw [List.length_append, HAL.out]; rfl⟩, ⟨by first | exact MO.out | exact Kd.R_drew MO.out⟩, ⟨by first | exact M2.out | exact blk_drew M2.out⟩, ⟨by first | exact M3.out | exact blk_drew M3.out⟩, ⟨by first | exact M6.out | exact blk_drew M6.out⟩, ⟨by first | exact MB.out | exact below_drew1 MB.out⟩⟩))
                · have c6 : w11.cell? ⟨g6, 5, none⟩ = some (.func (.func 62) #[] #[]) := blk_cell K6.out 5
                  have e : z3 = s := Option.some.inj HWR.out
                  subst e
                  go_region_held3 (fun W' => W'.cell? ⟨g9, 0, none⟩ = some (.int .i64 2) ∧ W'.cell? ⟨g9, 1, none⟩ = some (.int .i64 z2) ∧ W'.cell? ⟨g9, 2, none⟩ = some (.string z3) ∧ W'.cell? ⟨g9, 3, none⟩ = some (.bool z4) ∧ W'.cell? ⟨g6, 5, none⟩ = some (.func (.func 62) #[] #[])) ((go_split_ands; refine ⟨?_, ?_, ?_, ?_, ?_⟩ <;> (repeat (first | assumption | refine evCD ?_ | refine evCN ?_ | refine evCA ?_)))) (first | (go_at_call 29; (refine (csv_of g6 2 _ (by first | exact K6.out | exact blk_drew K6.out)).mono ?_; rintro e w13 ⟨rfl, rfl⟩; rw [show ofP g6 2 = Value.pointer (some ⟨g6, 3, none⟩) from rfl])) | (go_at_call 62; (refine (form_write 2 z2 z3 z4 _ HSZ.out).mono ?_; rintro e w12 ⟨rfl, hb⟩; have N2 := Aside0.mk (blk_below (by first | exact K2.out | exact blk_drew K2.out) hb); have N3 := Aside0.mk (blk_below (by first | exact K3.out | exact blk_drew K3.out) hb); have N6 := Aside0.mk (blk_below (by first | exact K6.out | exact blk_drew K6.out) hb); have N9 := Aside0.mk (blk_below (by first | exact K9.out | exact blk_drew K9.out) hb); have NO := Aside0.mk (Kd.R_below (by first | exact HO.out | exact Kd.R_drew HO.out) hb); have NB := Aside0.mk (below_step (by first | exact HB.out | exact below_drew1 HB.out) hb); have d0 := blk_cell N9.out 0; have d1 := blk_cell N9.out 1; have d2 := blk_cell N9.out 2; have d3 := blk_cell N9.out 3; have d6 := blk_cell N6.out 5; replace d0 : w12.cell? ⟨g9, 0, none⟩ = some (.int .i64 2) := d0; replace d1 : w12.cell? ⟨g9, 1, none⟩ = some (.int .i64 z2) := d1; replace d2 : w12.cell? ⟨g9, 2, none⟩ = some (.string z3) := d2; replace d3 : w12.cell? ⟨g9, 3, none⟩ = some (.bool z4) := d3; replace d6 : w12.cell? ⟨g6, 5, none⟩ = some (.func (.func 62) #[] #[]) := d6; clear hb)) | ((refine Kd.R_append_step Kd.string (w0 := w) w.heap.size (by rfl) (.tmp 55) (.tmp 64) 39 9 (.string ⟨#[]⟩) 16 (by rfl) Tryz.underlying39 info9 rfl (by decide) (by decide) (.slice A7 acc.length c7) acc z3 [.string z3] (fun _ => True) (fun _ => False) (by rfl) (by rfl) rfl (fun _ hk => hk.elim) (fun _ _ => trivial) (by first | exact NO.out | exact Kd.R_drew NO.out) (by first | exact NB.out | exact below_drew1 NB.out) (by first | exact below_size NB.out | exact below_size (below_drew1 NB.out)) (by have := HAL.out; have := HN.out; have := HLE.out; omega) ?_; intro v13 w13 ho hb hg hat; have M2 := Aside0.mk (blk_grown N2.out hg (Kd.R_ne NO.out N2.out (by decide))); have M3 := Aside0.mk (blk_grown N3.out hg (Kd.R_ne NO.out N3.out (by decide))); have M6 := Aside0.mk (blk_grown N6.out hg (Kd.R_ne NO.out N6.out (by decide))); have M9 := Aside0.mk (blk_grown N9.out hg (Kd.R_ne NO.out N9.out (by decide))); have MO := Aside0.mk ho; have MB := Aside0.mk hb; have f0 : w13.cell? ⟨g9, 0, none⟩ = some (.int .i64 2) := blk_cell M9.out 0; have f1 : w13.cell? ⟨g9, 1, none⟩ = some (.int .i64 z2) := blk_cell M9.out 1; have f2 : w13.cell? ⟨g9, 2, none⟩ = some (.string z3) := blk_cell M9.out 2; have f3 : w13.cell? ⟨g9, 3, none⟩ = some (.bool z4) := blk_cell M9.out 3; have f6 : w13.cell? ⟨g6, 5, none⟩ = some (.func (.func 62) #[] #[]) := blk_cell M6.out 5; clear ho hb hg hat)))
                  all_goals (go_wp2; go_roundg (vals.length - (i + 1)); (case measure => omega); (case rel => exact ⟨i + 1, acc ++ [z3], by first | rfl | go_num, by omega, (show vals.length - (i + 1) = gk' by omega) ▸ H0, ⟨by rw [List.length_append, HAL.out]; rfl⟩, ⟨by first | exact MO.out | exact Kd.R_drew MO.out⟩, ⟨by first | exact M2.out | exact blk_drew M2.out⟩, ⟨by first | exact M3.out | exact blk_drew M3.out⟩, ⟨by first | exact M6.out | exact blk_drew M6.out⟩, ⟨by first | exact MB.out | exact below_drew1 MB.out⟩⟩))
                · have c6 : w11.cell? ⟨g6, 8, none⟩ = some (.func (.func 33) #[] #[]) := blk_cell K6.out 8
                  have HWS : Aside0 (csv_show.f 3 z2 z3 z4 = some s) := ⟨HWR.out⟩
                  go_region_held3 (fun W' => W'.cell? ⟨g9, 0, none⟩ = some (.int .i64 3) ∧ W'.cell? ⟨g9, 1, none⟩ = some (.int .i64 z2) ∧ W'.cell? ⟨g9, 2, none⟩ = some (.string z3) ∧ W'.cell? ⟨g9, 3, none⟩ = some (.bool z4) ∧ W'.cell? ⟨g6, 8, none⟩ = some (.func (.func 33) #[] #[])) ((go_split_ands; refine ⟨?_, ?_, ?_, ?_, ?_⟩ <;> (repeat (first | assumption | refine evCD ?_ | refine evCN ?_ | refine evCA ?_)))) (first | (go_at_call 29; (refine (csv_of g6 3 _ (by first | exact K6.out | exact blk_drew K6.out)).mono ?_; rintro e w13 ⟨rfl, rfl⟩; rw [show ofP g6 3 = Value.pointer (some ⟨g6, 6, none⟩) from rfl])) | (go_at_call 33; (refine (csv_show.calls 3 z2 z3 z4 s _ ⟨HG.out.below (by first | exact HB.out | exact below_drew1 HB.out)⟩ HWS.out).mono ?_; rintro e w12 ⟨rfl, hb⟩; have N2 := Aside0.mk (blk_below (by first | exact K2.out | exact blk_drew K2.out) hb); have N3 := Aside0.mk (blk_below (by first | exact K3.out | exact blk_drew K3.out) hb); have N6 := Aside0.mk (blk_below (by first | exact K6.out | exact blk_drew K6.out) hb); have N9 := Aside0.mk (blk_below (by first | exact K9.out | exact blk_drew K9.out) hb); have NO := Aside0.mk (Kd.R_below (by first | exact HO.out | exact Kd.R_drew HO.out) hb); have NB := Aside0.mk (below_step (by first | exact HB.out | exact below_drew1 HB.out) hb); have d0 := blk_cell N9.out 0; have d1 := blk_cell N9.out 1; have d2 := blk_cell N9.out 2; have d3 := blk_cell N9.out 3; have d6 := blk_cell N6.out 8; replace d0 : w12.cell? ⟨g9, 0, none⟩ = some (.int .i64 3) := d0; replace d1 : w12.cell? ⟨g9, 1, none⟩ = some (.int .i64 z2) := d1; replace d2 : w12.cell? ⟨g9, 2, none⟩ = some (.string z3) := d2; replace d3 : w12.cell? ⟨g9, 3, none⟩ = some (.bool z4) := d3; replace d6 : w12.cell? ⟨g6, 8, none⟩ = some (.func (.func 33) #[] #[]) := d6; clear hb)) | ((refine Kd.R_append_step Kd.string (w0 := w) w.heap.size (by rfl) (.tmp 55) (.tmp 64) 39 9 (.string ⟨#[]⟩) 16 (by rfl) Tryz.underlying39 info9 rfl (by decide) (by decide) (.slice A7 acc.length c7) acc s [.string s] (fun _ => True) (fun _ => False) (by rfl) (by rfl) rfl (fun _ hk => hk.elim) (fun _ _ => trivial) (by first | exact NO.out | exact Kd.R_drew NO.out) (by first | exact NB.out | exact below_drew1 NB.out) (by first | exact below_size NB.out | exact below_size (below_drew1 NB.out)) (by have := HAL.out; have := HN.out; have := HLE.out; omega) ?_; intro v13 w13 ho hb hg hat; have M2 := Aside0.mk (blk_grown N2.out hg (Kd.R_ne NO.out N2.out (by decide))); have M3 := Aside0.mk (blk_grown N3.out hg (Kd.R_ne NO.out N3.out (by decide))); have M6 := Aside0.mk (blk_grown N6.out hg (Kd.R_ne NO.out N6.out (by decide))); have M9 := Aside0.mk (blk_grown N9.out hg (Kd.R_ne NO.out N9.out (by decide))); have MO := Aside0.mk ho; have MB := Aside0.mk hb; have f0 : w13.cell? ⟨g9, 0, none⟩ = some (.int .i64 3) := blk_cell M9.out 0; have f1 : w13.cell? ⟨g9, 1, none⟩ = some (.int .i64 z2) := blk_cell M9.out 1; have f2 : w13.cell? ⟨g9, 2, none⟩ = some (.string z3) := blk_cell M9.out 2; have f3 : w13.cell? ⟨g9, 3, none⟩ = some (.bool z4) := blk_cell M9.out 3; have f6 : w13.cell? ⟨g6, 8, none⟩ = some (.func (.func 33) #[] #[]) := blk_cell M6.out 8; clear ho hb hg hat)))
                  all_goals (go_wp2; go_roundg (vals.length - (i + 1)); (case measure => omega); (case rel => exact ⟨i + 1, acc ++ [s], by first | rfl | go_num, by omega, (show vals.length - (i + 1) = gk' by omega) ▸ H0, ⟨by rw [List.length_append, HAL.out]; rfl⟩, ⟨by first | exact MO.out | exact Kd.R_drew MO.out⟩, ⟨by first | exact M2.out | exact blk_drew M2.out⟩, ⟨by first | exact M3.out | exact blk_drew M3.out⟩, ⟨by first | exact M6.out | exact blk_drew M6.out⟩, ⟨by first | exact MB.out | exact below_drew1 MB.out⟩⟩))
              · have H := H0.out
                rw [if_neg hk] at H
                simp only [Option.some.injEq, Prod.mk.injEq] at H
                obtain ⟨rfl, rfl⟩ := H
                have u1 : (z1 != aK) = true := bne_iff_ne.mpr hk
                have u2 : (z1 == aK) = false := beq_eq_false_iff_ne.mpr hk
                clear H0 hk
                go_quiet (fail)
                go_wp2
                go_ret2
                exact ⟨_, rfl, Kd.R_nil _ _ _ _ _, by first | exact pw_below_drewN HB.out _ | exact HB.out⟩
          · have hd : decide ((i : Int) < (vals.length : Int)) = false := decide_eq_false (by omega)
            have hgk : gk = 0 := by omega
            subst hgk
            have e := H0.out
            replace e : some (acc, (0 : Int)) = some (r1, r2) := e
            simp only [Option.some.injEq, Prod.mk.injEq] at e
            obtain ⟨rfl, rfl⟩ := e
            clear H0
            go_wp2
            go_ret2
            exact ⟨_, rfl, HO.out, HB.out⟩
      · have H := H0.out
        rw [if_neg hlen] at H
        simp only [Option.some.injEq, Prod.mk.injEq] at H
        obtain ⟨rfl, rfl⟩ := H
        have u1 : ((vals.length : Int) != (at'.length : Int)) = true := bne_iff_ne.mpr (by omega)
        clear H0 hlen
        go_wp2
        go_ret2
        exact ⟨_, rfl, Kd.R_nil _ _ _ _ _, HB.out⟩
    · have H := H0.out
      rw [if_neg htm] at H
      simp only [Option.some.injEq, Prod.mk.injEq] at H
      obtain ⟨rfl, rfl⟩ := H
      have HTM := Aside0.mk (show csv_timely.f tm = some false by rw [timely_f, decide_eq_false htm])
      clear H0 htm
      go_wp2_with (go_at_call 27; refine (csv_timely.calls tm false w1 HTM.out).mono ?_; rintro e w4 ⟨rfl, hd⟩; obtain ⟨n, rfl⟩ := hd)
      go_ret2
      exact ⟨_, rfl, Kd.R_nil _ _ _ _ _, pw_below_drewN HB.out n⟩
  · have H := H0.out
    unfold rowE at H
    rw [if_neg htn] at H
    simp only [Option.some.injEq, Prod.mk.injEq] at H
    obtain ⟨rfl, rfl⟩ := H
    have t1 : (tn.toList == name.toList) = false := beq_eq_false_iff_ne.mpr htn
    have t2 : (tn.toList != name.toList) = true := bne_iff_ne.mpr htn
    clear H0 htn
    go_wp2
    go_ret2
    exact ⟨_, rfl, Kd.R_nil _ _ _ _ _, HB.out⟩
end Go.Proofs.YtpkbhfdfgapmlaaGreatDoor.Pr
end
