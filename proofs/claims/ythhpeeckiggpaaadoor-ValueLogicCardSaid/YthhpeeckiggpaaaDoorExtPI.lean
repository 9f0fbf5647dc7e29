import Derived.Test.YthhpeeckiggpaaaDoorPrx0
import Derived.Test.YthhpeeckiggpaaaDoorExtErr
import Derived.Test.YthhpeeckiggpaaaDoorShV
import Derived.Lib.AtoiErrMem
namespace Go.Proofs.YthhpeeckiggpaaaDoor.Pr
open Go.RowKit Go.Proofs.YthhpeeckiggpaaaDoorW.PrintWords Go.Proofs.YthhpeeckiggpaaaDoorW.PrintLast Go.Proofs.YthhpeeckiggpaaaDoorW.PrintMore
set_option linter.unusedVariables false
set_option linter.unusedSimpArgs false
/-- strconv.ParseInt(s, 10, 64), by the library's contracts. -/
def strconv_ParseInt.f (a0 : ByteArray) (a1 a2 : Int) : Option (Int × Option Int) :=
  if a1 = 10 ∧ a2 = 64 ∧ a0.size ≤ 281474976710656 then
    match Lib.parseIntB 64 a0.data.toList with
    | .ok v => some (v, none)
    | .range => some (Lib.intSat 64 a0.data.toList, some 0)
    | _ => some (0, some 0)
  else none
theorem below_bytesP {w w1 : World} {e : TypeId} (h : w1 = w ∨ ∃ t, w1 = Lib.bytesWorld w e t) : Below w.heap.size w w1 := by
  rcases h with rfl | ⟨t, rfl⟩
  · exact Below.refl _ _
  · exact Lib.bytesWorld_below _ _ _
theorem strconv_ParseInt.calls (a0 : ByteArray) (a1 a2 : Int) (r1 : Int) (r2 : Option Int) (w : World) (HL_LErr : Aside0 (LErr w)) (HL_LSyn : Aside0 (LSyn w)) (h : strconv_ParseInt.f a0 a1 a2 = some (r1, r2)) :
    Calls Tryd.prog 62 #[.string a0, .int .i64 a1, .int .i64 a2] w fun e w' => ∃ ev_, ErrX r2 ev_ ∧ e = .returned (.tuple #[.int .i64 r1, ev_]) ∧ Below w.heap.size w w' := by
  unfold strconv_ParseInt.f at h
  by_cases hc : a1 = 10 ∧ a2 = 64 ∧ a0.size ≤ 281474976710656
  · rw [if_pos hc] at h
    obtain ⟨rfl, rfl, hs⟩ := hc
    cases hp : Lib.parseIntB 64 a0.data.toList with
    | ok v =>
      rw [hp] at h
      obtain ⟨rfl, rfl⟩ := Prod.mk.inj (Option.some.inj h)
      exact (Tryd.strconv_ParseInt_10_at64_ok a0 (by omega) v hp w).mono fun e w' ⟨h1, h2⟩ => ⟨_, rfl, h1, below_bytesP h2⟩
    | range =>
      rw [hp] at h
      obtain ⟨rfl, rfl⟩ := Prod.mk.inj (Option.some.inj h)
      obtain ⟨g, ev, hg, hv, hev⟩ := HL_LErr.out
      have hgg : g = 7 := Option.some.inj (hg.symm.trans (by kernel_rfl))
      subst hgg
      exact (Tryd.strconv_ParseInt_10_at64_range a0 hs hp ev w hv hev).mono fun e w' ⟨N, h1, h2, h3, h4⟩ => ⟨_, ⟨N, rfl⟩, h1, h4⟩
    | _ =>
      rw [hp] at h
      obtain ⟨rfl, rfl⟩ := Prod.mk.inj (Option.some.inj h)
      obtain ⟨g, ev, hg, hv, hev⟩ := HL_LSyn.out
      have hgg : g = 6 := Option.some.inj (hg.symm.trans (by kernel_rfl))
      subst hgg
      exact (Tryd.strconv_ParseInt_10_at64_syntax a0 hs (fun v e => by rw [hp] at e; cases e) (fun e => by rw [hp] at e; cases e) ev w hv hev).mono fun e w' ⟨N, h1, h2, h3, h4⟩ => ⟨_, ⟨N, rfl⟩, h1, h4⟩
  · rw [if_neg hc] at h
    cases h
end Go.Proofs.YthhpeeckiggpaaaDoor.Pr
