import Derived.Test.YthmcapdakplhdaaDoorExtSpell
import Derived.Test.YthmcapdakplhdaaDoorPuTok6
namespace Go.Proofs.YthmcapdakplhdaaDoor.Pr
open Go.RowKit Go.Proofs.YthmcapdakplhdaaDoor.Pu Go.Proofs.YthmcapdakplhdaaDoorW.PrintWords Go.Proofs.YthmcapdakplhdaaDoorW.PrintLast Go.Proofs.YthmcapdakplhdaaDoorW.PrintMore
set_option linter.unusedVariables false
set_option linter.unusedSimpArgs false

/-- Can a token be? -/
def canT (t : S44) (last : Bool) : Bool := canL t.f0 t.f1.data.toList last
/-- What token.Spell answers. -/
def token_Spell.f (l0 : List S44) : Option (ByteArray × Int) :=
  if l0.length ≤ 1099511627776 ∧ (∀ t ∈ l0, t.f1.size ≤ 4398046511104) then some (if spellOk canT l0 = true then spellW quoB l0 [] else (⟨#[]⟩, 1)) else none

theorem quoB_size (s : ByteArray) : (quoB s).size ≤ 4 * s.size + 2 := by
  have h := pqs_len s.data.toList
  unfold quoB
  rw [strOfNums_nat, B_size, List.length_map, List.length_append, List.length_cons, List.length_singleton]
  have e : s.data.toList.length = s.size := by simp
  omega

theorem token_Spell.calls (A0 : Option Addr) (c0 : Nat) (l0 : List S44) (r1 : ByteArray) (r2 : Int) (w : World) (hr0 : Kd.C k44 w A0 l0.length l0) (hc0 : l0.length ≤ c0) (HL_LErr : Aside0 (LErr w)) (h : token_Spell.f l0 = some (r1, r2)) :
    Calls Tryd.prog 23 #[.slice A0 l0.length c0] w fun e w' => e = .returned (.tuple #[.string r1, .int .i64 r2]) ∧ Below w.heap.size w w' := by
  unfold token_Spell.f at h
  by_cases hs : l0.length ≤ 1099511627776 ∧ (∀ t ∈ l0, t.f1.size ≤ 4398046511104)
  · rw [if_pos hs] at h
    refine spell_walk canT quoB A0 c0 l0 r1 r2 w hr0 hc0 ⟨hs.1⟩ HL_LErr ⟨fun t ht b => ?_⟩ ⟨fun t ht => ?_⟩ ⟨fun t ht => ?_⟩ ⟨Option.some.inj h⟩
    · have := hs.2 t ht
      have h2 := can_ev t.f0 t.f1.data.toList t.f2 b (by simp; omega)
      rw [B_of] at h2
      exact h2
    · have := hs.2 t ht
      have h2 := quoted_ev t.f1.data.toList (by simp; omega)
      rw [B_of] at h2
      exact h2
    · have := hs.2 t ht
      have h2 := quoB_size t.f1
      omega
  · rw [if_neg hs] at h
    cases h
end Go.Proofs.YthmcapdakplhdaaDoor.Pr
