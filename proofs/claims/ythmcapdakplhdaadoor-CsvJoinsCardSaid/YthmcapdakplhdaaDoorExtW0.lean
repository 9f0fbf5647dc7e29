import Derived.Test.YthmcapdakplhdaaDoorExtR1
import Derived.Test.YthmcapdakplhdaaDoorShC
import Derived.Laws.RangeAny
namespace Go.Proofs.YthmcapdakplhdaaDoor.Pr
open Go.RowKit Go.Proofs.YthmcapdakplhdaaDoorW.PrintWords Go.Proofs.YthmcapdakplhdaaDoorW.PrintLast Go.Proofs.YthmcapdakplhdaaDoorW.PrintMore
set_option maxRecDepth 100000
set_option linter.unusedVariables false
set_option linter.unusedSimpArgs false
attribute [local go_sem high] Go.Proofs.YthmcapdakplhdaaDoor.isSome_setCell

def specB : ByteArray := ⟨#[44, 34, 13, 10]⟩
/-- A rune beyond ASCII is written in two to four bytes, the last one beyond ASCII. -/
theorem enc_last (r : Int) (h : 128 ≤ r) : ∃ (n : Nat) (x : UInt8), (Utf8.encode r).size = n + 1 ∧ 1 ≤ n ∧ n ≤ 3 ∧ 128 ≤ x.toNat ∧ ∀ h : n < (Utf8.encode r).size, (Utf8.encode r)[n]'h = x := by
  obtain ⟨c, hc, h128⟩ : ∃ c : Nat, (if Utf8.valid r then r.toNat else Utf8.runeError) = c ∧ 128 ≤ c := ⟨_, rfl, by split; omega; decide⟩
  have hx : 128 ≤ (UInt8.ofNat (128 + c % 64)).toNat := by
    rw [UInt8.toNat_ofNat']
    omega
  obtain ⟨S, hS⟩ : ∃ S, Utf8.encode r = S := ⟨_, rfl⟩
  rw [hS]
  simp only [Utf8.encode, hc] at hS
  rw [if_neg (by omega)] at hS
  by_cases h1 : c < 2048
  · rw [if_pos h1] at hS; subst hS; exact ⟨1, _, rfl, by omega, by omega, hx, fun _ => rfl⟩
  · rw [if_neg h1] at hS
    by_cases h2 : c < 65536
    · rw [if_pos h2] at hS; subst hS; exact ⟨2, _, rfl, by omega, by omega, hx, fun _ => rfl⟩
    · rw [if_neg h2] at hS; subst hS; exact ⟨3, _, rfl, by omega, by omega, hx, fun _ => rfl⟩
theorem spec_at (i : Nat) (h : i < specB.size) : (specB[i]'h).toNat < 128 := by
  have h' : i < 4 := h
  match i, h' with
  | 0, _ => (show (44 : UInt8).toNat < 128; decide)
  | 1, _ => (show (34 : UInt8).toNat < 128; decide)
  | 2, _ => (show (13 : UInt8).toNat < 128; decide)
  | 3, _ => (show (10 : UInt8).toNat < 128; decide)
theorem spec_index (k : Nat) (x : UInt8) (hx : 128 ≤ x.toNat) : Lib.indexByte (specB.extract k 4).data.toList x = -1 := by
  have key : ∀ l : List UInt8, (∀ b ∈ l, b.toNat < 128) → Lib.indexByte l x = -1 := by
    intro l
    induction l with
    | nil => intro _; rfl
    | cons b t ih =>
      intro hl
      have hb := hl b List.mem_cons_self
      have : ¬ b = x := fun e => by subst e; omega
      rw [Lib.indexByte, ih (fun b hb => hl b (List.mem_cons_of_mem _ hb))]
      simp [this]
  refine key _ (fun b hb => ?_)
  rw [cut_ext] at hb
  have hb2 : b ∈ cut_ specB k 4 := hb
  unfold cut_ at hb2
  have hb3 : b ∈ ([44, 34, 13, 10] : List UInt8) := List.mem_of_mem_drop (List.mem_of_mem_take hb2)
  simp at hb3
  rcases hb3 with rfl | rfl | rfl | rfl <;> decide
theorem wrap_small (n : Nat) (h : n ≤ 3) : IntKind.i64.wrap ((n : Int) + 1) = (n : Int) + 1 := by
  refine (IntKind.wrap_i64 _).trans ?_
  omega
set_option maxHeartbeats 8000000 in
/-- strings.IndexRune at the four bytes and a rune beyond ASCII: none. -/
theorem index_rune (r : Int) (w : World) (h0 : 128 ≤ r) (h1 : r ≤ 2147483647) :
    Calls Tryd.prog 88 #[.string specB, .int .i32 r] w fun e w' => e = .returned (.int .i64 (-1)) ∧ Below w.heap.size w w' := by
  have hsz : specB.size = 4 := rfl
  by_cases hr : r = 65533
  · subst hr
    go_enter Tryd.func88, Tryd.ntmps88
    go_wp2
    go_loopg [] 4 (fun g wx => ∃ i : Nat, i + g = 4 ∧ wx = w.iter specB i)
    case atStart => exact ⟨0, rfl, rfl⟩
    case round =>
      obtain ⟨i, hig, rfl⟩ := hrel
      by_cases hi : i < specB.size
      · have hb := spec_at i hi
        obtain ⟨y, hy⟩ : ∃ y : UInt8, specB[i]'hi = y := ⟨_, rfl⟩
        have hnx := fun ty => run_next_ascii (P := Tryd.prog) w specB i ty hi (by rw [hy]; rw [← hy]; exact hb)
        rw [hy] at hnx hb
        have hyb : ((y.toNat : Int) == 65533) = false := beq_eq_false_iff_ne.2 (by omega)
        have hi4 : i < 4 := hi
        clear hy
        go_wp2
        cases gk with
        | zero => omega
        | succ g =>
          go_roundg g
          case measure => omega
          case rel => exact ⟨i + 1, by omega, rfl⟩
      · have hnx := fun ty => run_next_end (P := Tryd.prog) w specB i ty hi
        go_wp2
        go_ret
        exact ⟨rfl, (Below.refl _ _).alloc (Nat.le_refl _) _⟩
  · have hrb : (r == 65533) = false := beq_eq_false_iff_ne.2 hr
    have h128 : ¬ r < 128 := by omega
    obtain ⟨n, x, hn, hn1, hn3, hx, hxl⟩ := enc_last r h0
    generalize hS : Utf8.encode r = S at *
    have HXL := Aside0.mk hxl
    rcases hv : Lib.validRune r with _ | _
    · go_enter Tryd.func88, Tryd.ntmps88
      go_wp2_with (go_at_call 105; refine (Tryd.utf8_ValidRune r _).mono ?_; rintro e w' ⟨rfl, hw⟩; rw [hw, hv])
      go_ret
      exact ⟨rfl, Below.refl _ _⟩
    · have hcv : ∀ w : World, (convert 21 9 (.int .i32 r)).run Tryd.prog w = .ok (.string S) w := by
        intro w
        rw [← hS]
        kernel_rfl
      have hn2 : (S.size : Int) - 1 = n := by omega
      go_enter Tryd.func88, Tryd.ntmps88
      go_wp2_with (go_at_call 105; refine (Tryd.utf8_ValidRune r _).mono ?_; rintro e w' ⟨rfl, hw⟩; rw [hw, hv])
      go_step3
      go_wp2
      go_loopg [9] 1 (fun g v9 wx => v9 = .int .i64 n ∧ wx = w)
      case atStart => exact ⟨rfl, rfl⟩
      case round =>
        obtain ⟨rfl, rfl⟩ := hrel
        have hlt : n < specB.size := by omega
        have hlS : n < S.size := by omega
        have hd : decide ((n : Int) < (specB.size : Int)) = true := decide_eq_true (by omega)
        have hb := spec_at n hlt
        obtain ⟨y, hy⟩ : ∃ y : UInt8, specB[n]'hlt = y := ⟨_, rfl⟩
        rw [hy] at hb
        have hxx := HXL.out hlS
        have hyx : ((y.toNat : Int) != (x.toNat : Int)) = true := by rw [bne, beq_eq_false_iff_ne.2 (by omega)]; rfl
        have hsl : ∀ w, (Instr.slice 9 (.string specB) (some (.int .i64 ((n : Int) + 1))) none none).run Tryd.prog w = .ok (.string (specB.extract (n + 1) specB.size)) w := fun w => by rw [run_slice_string_from_if w 9 specB .i64 _ Tryd.underlying9, if_pos (by omega)]; rfl
        have hix := spec_index (n + 1) x hx
        have HIX := Aside0.mk hix
        clear hix
        go_wp2
        go_step3
        go_wp2
        go_quiet (fail)
        go_wp2
        have hbw := pw_below_drewN (Below.refl wr.heap.size wr) nq
        have HBW := Aside0.mk hbw
        clear hbw
        generalize wr.drewN nq = w8 at *
        have hwr := wrap_small n hn3
        have hback : ((x.toNat : Int)).toNat.toUInt8 = x := by simp
        have HBK := Aside0.mk hback
        clear hback
        go_quiet ((go_at_call 104; refine Calls.quiet_of_same (v := .int .i64 (-1)) ((Tryd.strings_IndexByte _ _ _).mono ?_); rintro e w2 ⟨rfl, rfl⟩; exact ⟨by rw [HBK.out, HIX.out], rfl⟩))
        go_wp2
        repeat (first | rw [Exit.noGoto_ret] | (simp only [Exit.inBlock, Exit.then]; done) | simp only [Exit.inBlock, Exit.then])
        go_ret
        exact ⟨rfl, pw_below_drewN HBW.out _⟩
end Go.Proofs.YthmcapdakplhdaaDoor.Pr
