import Derived.Test.YthmcapdakplhdaaDoorPrx15
import Derived.Test.YthmcapdakplhdaaDoorPrx16
import Derived.Test.YthmcapdakplhdaaDoorShB
namespace Go.Proofs.YthmcapdakplhdaaDoor.Pr
open Go.RowKit Go.Proofs.YthmcapdakplhdaaDoorW.PrintWords Go.Proofs.YthmcapdakplhdaaDoorW.PrintLast Go.Proofs.YthmcapdakplhdaaDoorW.PrintMore
set_option maxRecDepth 100000
set_option linter.unusedVariables false
set_option linter.unusedSimpArgs false
attribute [local go_sem high] Go.Proofs.YthmcapdakplhdaaDoor.isSome_setCell

/-- Are all tokens such as can be? (The last one may be the end.) -/
def spellOk (canB : S44 → Bool → Bool) : List S44 → Bool
  | [] => true
  | t :: r => canB t r.isEmpty && spellOk canB r
/-- What is written of tokens, behind what stands. -/
def spellW (quo : ByteArray → ByteArray) : List S44 → List UInt8 → ByteArray × Int
  | [], acc => (⟨acc.toArray⟩, 0)
  | t :: r, acc =>
    if t.f0 = 5 then (⟨acc.toArray⟩, 0)
    else if 4096 < ((if 0 < acc.length then acc ++ [32] else acc) ++ (if t.f0 = 3 then quo t.f1 else t.f1).data.toList).length then (⟨#[]⟩, 2)
    else spellW quo r ((if 0 < acc.length then acc ++ [32] else acc) ++ (if t.f0 = 3 then quo t.f1 else t.f1).data.toList)

theorem kept_cells {w w' : World} {b c : Nat} {o : Array Value} (h : Lib.OthersKept 5 (some b) w w') (hc : w.heap[c]? = some (.cells o 44 (0, 0))) (hb : c ≠ b) : w'.heap[c]? = some (.cells o 44 (0, 0)) :=
  h c _ hc (by simpa using hb) (by intro c' fz e; injection e; rename_i h1 h2 h3; exact absurd h2 (by decide))

theorem builder_below {T e : TypeId} {B b : Nat} {bs : List Value} {w w' : World} (h : Lib.IsBuilderF T e B b bs w) (hb : Below w.heap.size w w') : Lib.IsBuilderF T e B b bs w' := by
  have lt : ∀ k o, w.heap[k]? = some o → w'.heap[k]? = some o := fun k o h => by rw [hb.block k (Array.getElem?_eq_some_iff.1 h).1]; exact h
  have key : ∀ p, Lib.BuilderAtF T e B b p bs w → Lib.BuilderAtF T e B b p bs w' := by
    rintro p ⟨h1, v, h2, ⟨h3, h4⟩, h5⟩
    refine ⟨h1, v, lt _ _ h2, ⟨h3, ?_⟩, h5⟩
    rcases h4 with hn | ⟨g, cap, cur, fz, hv, hbg, hgg, rest⟩
    · exact .inl hn
    · exact .inr ⟨g, cap, cur, fz, hv, hbg, lt _ _ hgg, rest⟩
  rcases h with h | h
  · exact .inl (key _ h)
  · exact .inr (key _ h)
theorem spell_below {w w1 : World} {o : Obj} (h : Below w.heap.size w w1) : Below w.heap.size w (w1.alloc o) := below_alloc h o
set_option maxHeartbeats 4000000 in
theorem spell_walk (canB : S44 → Bool → Bool) (quo : ByteArray → ByteArray) (A0 : Option Addr) (c0 : Nat) (l0 : List S44) (R1 : ByteArray) (R2 : Int) (w : World) (hr0 : Kd.C k44 w A0 l0.length l0) (hc0 : l0.length ≤ c0) (HN : Aside0 (l0.length ≤ 1099511627776)) (HL : Aside0 (LErr w))
    (HC : Aside0 (∀ t ∈ l0, ∀ b, ∃ k, token_canBe.f k t.f0 t.f1 t.f2 b = some (canB t b)))
    (HQ : Aside0 (∀ t ∈ l0, ∃ k, token_quoted.f k t.f1 = some (quo t.f1)))
    (HS : Aside0 (∀ t ∈ l0, t.f1.size ≤ 70368744177664 ∧ (quo t.f1).size ≤ 70368744177664))
    (HR : Aside0 ((if spellOk canB l0 = true then spellW quo l0 [] else (⟨#[]⟩, 1)) = (R1, R2))) :
    Calls Tryd.prog 23 #[.slice A0 l0.length c0] w fun e w' => e = .returned (.tuple #[.string R1, .int .i64 R2]) ∧ Below w.heap.size w w' := by
  have HR0 := Aside0.mk hr0
  clear hr0
  go_enter Tryd.func23, Tryd.ntmps23
  go_wp2
  go_loopw [11] (fun v w' => ∃ (i : Nat), v = .int .i64 i ∧ i ≤ l0.length ∧ Aside0 (spellOk canB l0 = spellOk canB (l0.drop i)) ∧ Aside0 (Below w.heap.size w w')) (fun v _ => l0.length - (match v with | .int _ i => i.toNat | _ => 0))
  case atStart => exact ⟨0, rfl, by omega, ⟨by simp⟩, ⟨by repeat (first | (with_reducible first | exact Below.refl _ _ | apply below_alloc | apply pw_below_drewN | apply below_drew1) | exact Below.refl _ _)⟩⟩
  case round =>
    obtain ⟨i, rfl, hi, HO, HB⟩ := hrel
    by_cases hlt : i < l0.length
    · as_aux_lemma =>
      have hd : decide ((i : Int) < (l0.length : Int)) = true := decide_eq_true (by omega)
      have p1 : 0 ≤ (i : Int) := by omega
      have q1 : (i : Int) < (l0.length : Int) := by omega
      obtain ⟨ad1, e1, hx1_0, hx1_1, hx1_2⟩ := at_T44 (Kd.C_below HR0.out HB.out) (i : Int) p1 q1
      cases e1
      (try simp only [Go.IntWalk.toNatUp] at hx1_0)
      (try simp only [Go.IntWalk.toNatUp] at hx1_1)
      (try simp only [Go.IntWalk.toNatUp] at hx1_2)
      replace p1 := eq_true p1
      replace q1 := eq_true q1
      have hmem : rd_T44 l0 (i : Int) ∈ l0 := by
        show l0.getD _ _ ∈ l0
        rw [Int.toNat_natCast, List.getD_eq_getElem?_getD, List.getElem?_eq_getElem hlt]
        exact List.getElem_mem _
      generalize hX : rd_T44 l0 (i : Int) = X at *
      have hdrop : l0.drop i = X :: l0.drop (i + 1) := by
        rw [List.drop_eq_getElem_cons hlt, ← hX]
        show _ = l0.getD _ _ :: _
        rw [Int.toNat_natCast, List.getD_eq_getElem?_getD, List.getElem?_eq_getElem hlt]
        rfl
      have hlast : ((i : Int) == wrap64 ((l0.length : Int) - 1)) = (l0.drop (i + 1)).isEmpty := by
        rw [Bool.eq_iff_iff]
        simp only [beq_iff_eq, List.isEmpty_iff, List.drop_eq_nil_iff]
        rw [show wrap64 ((l0.length : Int) - 1) = (l0.length : Int) - 1 by unfold wrap64; have := HN.out; omega]
        omega
      obtain ⟨kc, hkc⟩ := HC.out X hmem ((i : Int) == wrap64 ((l0.length : Int) - 1))
      have HO2 : Aside0 (spellOk canB l0 = (canB X ((i : Int) == wrap64 ((l0.length : Int) - 1)) && spellOk canB (l0.drop (i + 1)))) := ⟨by rw [HO.out, hdrop, spellOk, hlast]⟩
      generalize canB X ((i : Int) == wrap64 ((l0.length : Int) - 1)) = cb at *
      have HK := Aside0.mk hkc
      have HB0 : Aside0 (∀ o, Below w.heap.size w (wr.alloc o)) := ⟨fun o => below_alloc HB.out o⟩
      have HL2 : Aside0 (∀ w1, Below w.heap.size w w1 → LErr w1) := ⟨fun w1 h => HL.out.below h⟩
      have HLT := Aside0.mk hlt
      have hw64 : wrap64 ((i : Int) + 1) = ((i + 1 : Nat) : Int) := by unfold wrap64; have := HN.out; omega
      have HW := Aside0.mk hw64
      clear hkc hdrop hlast hmem HO hX hw64
      cases cb with
      | false =>
        have hR : (R1, R2) = ((⟨#[]⟩ : ByteArray), (1 : Int)) := by rw [← HR.out, HO2.out]; rfl
        obtain ⟨rfl, rfl⟩ := Prod.mk.inj hR
        clear hR HR
        go_upto_region 4 with (fail)
        go_wp2_with (go_at_call 52; (with_reducible refine (token_canBe.calls kc _ _ _ _ _ _ ⟨HL2.out _ (by repeat (first | (with_reducible first | exact HB.out | apply below_alloc | apply pw_below_drewN | apply below_drew1) | exact HB.out))⟩ HK.out).mono ?_); rintro e w2 ⟨rfl, hw2⟩)
        go_ret2
        exact ⟨rfl, below_step (HB0.out _) hw2⟩
      | true =>
        go_upto_region 4 with (fail)
        go_wp2_with (go_at_call 52; (with_reducible refine (token_canBe.calls kc _ _ _ _ _ _ ⟨HL2.out _ (by repeat (first | (with_reducible first | exact HB.out | apply below_alloc | apply pw_below_drewN | apply below_drew1) | exact HB.out))⟩ HK.out).mono ?_); rintro e w2 ⟨rfl, hw2⟩)
        rw [HW.out]
        exact ⟨⟨i + 1, rfl, by have := HLT.out; omega, ⟨by rw [HO2.out, Bool.true_and]⟩, ⟨below_step (HB0.out _) hw2⟩⟩, by have := HLT.out; simp; omega⟩
    · have hd : decide ((i : Int) < (l0.length : Int)) = false := decide_eq_false (by omega)
      have hi2 : ((i : Int) < (l0.length : Int)) = False := eq_false (by omega)
      have hok : spellOk canB l0 = true := by rw [HO.out, List.drop_eq_nil_of_le (by omega)]; rfl
      have HR2 : Aside0 (spellW quo l0 [] = (R1, R2)) := ⟨by rw [← HR.out, if_pos hok]⟩
      clear hok HO HR HC HL
      go_upto_region 9 with (fail)
      have hfresh := Lib.IsBuilderF.of (Lib.fresh_isBuilder 81 5 wr)
      have HB1 := Aside0.mk (below_alloc HB.out (.cells #[.pointer none, .slice none 0 0] 81))
      have hle : w.heap.size ≤ wr.heap.size := HB.out.size
      have hsz : wr.heap.size < (wr.alloc (.cells #[.pointer none, .slice none 0 0] 81)).heap.size := by simp
      generalize wr.alloc (.cells #[.pointer none, .slice none 0 0] 81) = w1 at *
      generalize wr.heap.size = b at *
      clear hd hi2 hlt hi HB
      go_loopw [27] (fun v w' => ∃ (j : Nat) (acc : List UInt8), v = .int .i64 j ∧ j ≤ l0.length ∧ acc.length ≤ 4096 ∧ Aside0 (spellW quo (l0.drop j) acc = (R1, R2)) ∧ Aside0 (Lib.IsBuilderF 81 5 b b (Lib.byteCells acc) w') ∧ b < w'.heap.size ∧ Aside0 (Below w.heap.size w w')) (fun v _ => l0.length - (match v with | .int _ i => i.toNat | _ => 0))
      case atStart => exact ⟨0, [], rfl, by omega, by simp, HR2, ⟨hfresh⟩, hsz, HB1⟩
      case round =>
        clear HR2 hfresh HB1 hsz
        obtain ⟨j, acc, rfl, hj, hacc, HW, HBd, hbs, HB⟩ := hrel
        by_cases hlt : j < l0.length
        · as_aux_lemma =>
          have hd : decide ((j : Int) < (l0.length : Int)) = true := decide_eq_true (by omega)
          have p1 : 0 ≤ (j : Int) := by omega
          have q1 : (j : Int) < (l0.length : Int) := by omega
          obtain ⟨ad1, e1, hx1_0, hx1_1, hx1_2⟩ := at_T44 (Kd.C_below HR0.out HB.out) (j : Int) p1 q1
          cases e1
          (try simp only [Go.IntWalk.toNatUp] at hx1_0)
          (try simp only [Go.IntWalk.toNatUp] at hx1_1)
          (try simp only [Go.IntWalk.toNatUp] at hx1_2)
          replace p1 := eq_true p1
          replace q1 := eq_true q1
          have hmem : rd_T44 l0 (j : Int) ∈ l0 := by
            show l0.getD _ _ ∈ l0
            rw [Int.toNat_natCast, List.getD_eq_getElem?_getD, List.getElem?_eq_getElem hlt]
            exact List.getElem_mem _
          generalize hX : rd_T44 l0 (j : Int) = X at *
          have hdrop : l0.drop j = X :: l0.drop (j + 1) := by
            rw [List.drop_eq_getElem_cons hlt, ← hX]
            show _ = l0.getD _ _ :: _
            rw [Int.toNat_natCast, List.getD_eq_getElem?_getD, List.getElem?_eq_getElem hlt]
            rfl
          have hw64 : wrap64 ((j : Int) + 1) = ((j + 1 : Nat) : Int) := by unfold wrap64; have := HN.out; omega
          have HW64 := Aside0.mk hw64
          have hspell := HW.out
          rw [hdrop, spellW] at hspell
          obtain ⟨kq, hkq⟩ := HQ.out X hmem
          have HK := Aside0.mk hkq
          have HSX := Aside0.mk (HS.out X hmem)
          have HLT := Aside0.mk hlt
          clear hkq hdrop hmem hX hw64 hlt HW
          by_cases c5 : X.f0 = 5
          · have c5b : (X.f0 == 5) = true := beq_iff_eq.mpr c5
            rw [if_pos c5] at hspell
            obtain ⟨rfl, rfl⟩ := Prod.mk.inj hspell
            clear hspell c5
            go_upto_region 20 with (fail)
            go_wp2_with (go_at_call 43; (with_reducible refine (Tryd.Builder_String_any_k b b acc _ (HBd.out.alloc _) (by simp; omega)).mono ?_); rintro e w2 ⟨rfl, hw2, hw3, hw4⟩)
            go_ret2
            exact ⟨rfl, (below_alloc HB.out _).trans (hw3.mono hle)⟩
          · have c5b : (X.f0 == 5) = false := beq_eq_false_iff_ne.mpr c5
            rw [if_neg c5] at hspell
            have HSP := Aside0.mk hspell
            clear hspell c5
            go_upto_region 12 with (fail)
            have hcell : (wr.alloc (.cells #[.int .i64 X.f0, .string X.f1, .int .i64 X.f2] 44)).heap[wr.heap.size]? = some (.cells #[.int .i64 X.f0, .string X.f1, .int .i64 X.f2] 44 (0, 0)) := heap_alloc_new wr _
            have HBd1 := Aside0.mk (HBd.out.alloc (.cells #[.int .i64 X.f0, .string X.f1, .int .i64 X.f2] 44))
            have HB1 := Aside0.mk (below_alloc HB.out (.cells #[.int .i64 X.f0, .string X.f1, .int .i64 X.f2] 44))
            have hsz1 : b < (wr.alloc (.cells #[.int .i64 X.f0, .string X.f1, .int .i64 X.f2] 44)).heap.size := by simp; omega
            generalize wr.alloc (.cells #[.int .i64 X.f0, .string X.f1, .int .i64 X.f2] 44) = w1 at *
            have hcb : wr.heap.size ≠ b := by omega
            generalize wr.heap.size = c at *
            have HCell := Aside0.mk hcell
            clear HBd HB hcell hbs hx1_0 hx1_1 hx1_2
            -- the blank
            have hblank : ∃ a1, a1 = (if 0 < acc.length then acc ++ [32] else acc) ∧ a1.length ≤ 4097 := ⟨_, rfl, by split <;> (try simp only [List.length_append, List.length_singleton]) <;> omega⟩
            obtain ⟨a1, ha1, hl1⟩ := hblank
            rw [← ha1] at HSP
            have HA1 := Aside0.mk ha1
            have hlen := Lib.byteCells_length acc
            clear ha1
            by_cases hpos : 0 < acc.length
            focus
              have hpb : decide ((acc.length : Int) > 0) = true := decide_eq_true (by omega)
              have ha2 := HA1.out
              rw [if_pos hpos] at ha2
              subst ha2
              go_upto_region 14 with (first | (go_at_call 42; (with_reducible refine (Tryd.Builder_Len_f b b _ _ HBd1.out).mono ?_); rintro e w2 ⟨rfl, rfl⟩; rw [hlen]) | (go_at_call 39; (with_reducible refine (Tryd.Builder_WriteByte_k b b _ 32 _ HBd1.out (by omega) (by omega)).mono ?_); rintro e w3 ⟨rfl, hw2, hw3, hw4⟩))
              replace HBd1 : Aside0 (Lib.IsBuilderF 81 5 b b (Lib.byteCells (acc ++ [32])) w3) := ⟨by rw [show Lib.byteCells (acc ++ [32]) = Lib.byteCells acc ++ [.int .u8 32] by simp [Lib.byteCells]]; exact Or.inr hw2⟩
              replace hsz1 : b < w3.heap.size := by have := hw3.size; omega
              replace HCell := Aside0.mk (kept_cells hw4 HCell.out hcb)
              replace HB1 := Aside0.mk (HB1.out.trans (hw3.mono hle))
              clear hpos hpb hlen hw2 hw3 hw4
              generalize acc ++ [32] = a1 at *
            rotate_left
            focus
              have hpb : decide ((acc.length : Int) > 0) = false := decide_eq_false (by omega)
              have ha2 := HA1.out
              rw [if_neg hpos] at ha2
              subst ha2
              go_upto_region 14 with (go_at_call 42; (with_reducible refine (Tryd.Builder_Len_f b b _ _ HBd1.out).mono ?_); rintro e w3 ⟨rfl, rfl⟩; rw [hlen])
              clear hpos hpb hlen
              generalize a1 = a1 at *
            all_goals
              clear HA1
              have hlen := Lib.byteCells_length a1
              have hx0 : w3.cell? ⟨c, 0, none⟩ = some (.int .i64 X.f0) := by simp [World.cell?, HCell.out]
              have hx1 : w3.cell? ⟨c, 1, none⟩ = some (.string X.f1) := by simp [World.cell?, HCell.out]
              by_cases c3 : X.f0 = 3
              focus
                have c3b : (X.f0 == 3) = true := beq_iff_eq.mpr c3
                have HSP2 := HSP.out
                rw [if_pos c3] at HSP2
                clear HSP c3
                go_upto_region 17 with (first | (go_at_call 53; (with_reducible refine (token_quoted.calls kq _ _ _ HK.out).mono ?_); rintro e w4 ⟨rfl, hq⟩; have hB4 := builder_below HBd1.out hq) | (go_at_call 40; (with_reducible refine (Tryd.Builder_WriteString_k b b _ _ _ hB4 (by have := HSX.out; omega) (by have := hq.size; omega)).mono ?_); rintro e w5 ⟨rfl, hw2, hw3, hw4⟩))
                replace HBd1 : Aside0 (Lib.IsBuilderF 81 5 b b (Lib.byteCells (a1 ++ (quo X.f1).data.toList)) w5) := ⟨by rw [show Lib.byteCells (a1 ++ (quo X.f1).data.toList) = Lib.byteCells a1 ++ Lib.strCells (quo X.f1) by simp [Lib.byteCells, Lib.strCells]]; exact Or.inr hw2⟩
                replace hsz1 : b < w5.heap.size := by have := hw3.size; have := hq.size; omega
                replace HB1 : Aside0 (Below w.heap.size w w5) := ⟨(below_step HB1.out hq).trans (hw3.mono hle)⟩
                clear hlen hw2 hw3 hw4 hq hB4 c3b hx0 hx1 HCell
                generalize a1 ++ (quo X.f1).data.toList = a2 at *
              rotate_left
              focus
                have c3b : (X.f0 == 3) = false := beq_eq_false_iff_ne.mpr c3
                have HSP2 := HSP.out
                rw [if_neg c3] at HSP2
                clear HSP c3
                go_upto_region 17 with (go_at_call 40; (with_reducible refine (Tryd.Builder_WriteString_k b b _ _ _ HBd1.out (by have := HSX.out; omega) (by omega)).mono ?_); rintro e w5 ⟨rfl, hw2, hw3, hw4⟩)
                replace HBd1 : Aside0 (Lib.IsBuilderF 81 5 b b (Lib.byteCells (a1 ++ X.f1.data.toList)) w5) := ⟨by rw [show Lib.byteCells (a1 ++ X.f1.data.toList) = Lib.byteCells a1 ++ Lib.strCells X.f1 by simp [Lib.byteCells, Lib.strCells]]; exact Or.inr hw2⟩
                replace hsz1 : b < w5.heap.size := by have := hw3.size; omega
                replace HB1 : Aside0 (Below w.heap.size w w5) := ⟨HB1.out.trans (hw3.mono hle)⟩
                clear hlen hw2 hw3 hw4 c3b hx0 hx1 HCell
                generalize a1 ++ X.f1.data.toList = a2 at *
              all_goals
                have hlen := Lib.byteCells_length a2
                by_cases hbig : 4096 < a2.length
                · have hbb : decide ((a2.length : Int) > 4096) = true := decide_eq_true (by omega)
                  rw [if_pos hbig] at HSP2
                  obtain ⟨rfl, rfl⟩ := Prod.mk.inj HSP2
                  clear HSP2 hbig
                  go_wp2_with (go_at_call 42; (with_reducible refine (Tryd.Builder_Len_f b b _ _ HBd1.out).mono ?_); rintro e w6 ⟨rfl, rfl⟩; rw [hlen])
                  go_ret2
                  exact ⟨rfl, HB1.out⟩
                · have hbb : decide ((a2.length : Int) > 4096) = false := decide_eq_false (by omega)
                  rw [if_neg hbig] at HSP2
                  have HSP3 := Aside0.mk HSP2
                  have HBG := Aside0.mk hbig
                  clear HSP2 hbig
                  go_wp2_with (go_at_call 42; (with_reducible refine (Tryd.Builder_Len_f b b _ _ HBd1.out).mono ?_); rintro e w6 ⟨rfl, rfl⟩; rw [hlen])
                  rw [HW64.out]
                  exact ⟨⟨j + 1, a2, rfl, by have := HLT.out; omega, by have := HBG.out; omega, HSP3, HBd1, hsz1, HB1⟩, by have := HLT.out; simp; omega⟩
        · as_aux_lemma =>
          have hd : decide ((j : Int) < (l0.length : Int)) = false := decide_eq_false (by omega)
          have hspell := HW.out
          rw [List.drop_eq_nil_of_le (by omega), spellW] at hspell
          obtain ⟨rfl, rfl⟩ := Prod.mk.inj hspell
          clear hspell
          go_upto_region 20 with (fail)
          go_wp2_with (go_at_call 43; (with_reducible refine (Tryd.Builder_String_any_k b b acc _ HBd.out (by omega)).mono ?_); rintro e w2 ⟨rfl, hw2, hw3, hw4⟩)
          go_ret2
          exact ⟨rfl, HB.out.trans (hw3.mono hle)⟩
