/-
Part 7 of the proof of the law TokenAll: texts PuR6, PureTokenAll.
-/
import Derived.Test.YthmcapdakplhdaaDoorMTokenAll6
/-! ## text PuR6 -/
section
/- The document's speller (refrainref5), part 2: it answers as the program's; words. -/
namespace Go.Proofs.YthmcapdakplhdaaDoor.Pu
open Go Go.RowKit Go.Proofs.YthmcapdakplhdaaDoor.Pr Go.Proofs.YthmcapdakplhdaaDoorW.PrintWords Go.Proofs.YthmcapdakplhdaaDoorW.PrintLast Go.Proofs.YthmcapdakplhdaaDoorW.PrintMore
set_option linter.unusedVariables false
set_option linter.unusedSimpArgs false
/-- Bytes as numbers. -/
def nm (l : List UInt8) : List Int := l.map fun c => (c.toNat : Int)
theorem nm_len (l : List UInt8) : (nm l).length = l.length := List.length_map ..
theorem nm_app (a b : List UInt8) : nm (a ++ b) = nm a ++ nm b := List.map_append
theorem nm_str (l : List UInt8) : strOfNums (nm l) = B l := strOfNums_bytes l
theorem nm_bytes (s : ByteArray) : bytesOf s = nm s.data.toList := rfl
theorem rdK (xs : List S44) (i : Nat) (t : S44) (ts : List S44) (h : xs.drop i = t :: ts) : rd_T44 xs (i : Int) = t := by
  show xs.getD _ _ = _
  have hl : i < xs.length := by
    rcases Nat.lt_or_ge i xs.length with h1 | h1
    · exact h1
    · rw [List.drop_eq_nil_of_le h1] at h; cases h
  rw [Int.toNat_natCast, List.getD_eq_getElem?_getD, List.getElem?_eq_getElem hl]
  rw [List.drop_eq_getElem_cons hl] at h
  injection h
/-- What is written of a token. -/
def wrt (t : S44) : List UInt8 := (if t.f0 = 3 then quoB t.f1 else t.f1).data.toList
theorem wrt_pos {t : S44} {last : Bool} (h : canT t last = true) (h5 : t.f0 ≠ 5) : 1 ≤ (wrt t).length := by
  unfold canT canL at h
  unfold wrt
  by_cases k3 : t.f0 = 3
  · rw [if_pos k3]
    unfold quoB
    rw [strOfNums_nat]
    show 1 ≤ (List.map _ _).length
    simp
  · rw [if_neg k3]
    by_cases k1 : t.f0 = 1
    · rw [if_pos k1] at h
      cases hq : t.f1.data.toList with
      | nil => rw [hq] at h; cases h
      | cons c r => simp
    rw [if_neg k1] at h
    by_cases k2 : t.f0 = 2
    · rw [if_pos k2] at h
      cases hq : t.f1.data.toList with
      | nil => rw [hq] at h; simp [isIntB] at h
      | cons c r => simp
    rw [if_neg k2, if_neg k3] at h
    by_cases k4 : t.f0 = 4
    · rw [if_pos k4] at h
      cases hq : t.f1.data.toList with
      | nil => rw [hq] at h; cases h
      | cons c r => simp
    rw [if_neg k4, if_neg h5] at h
    cases h
theorem wrt_le {t : S44} (h : t.f1.size ≤ 256) : t.f1.size ≤ (wrt t).length ∧ (wrt t).length ≤ 1026 := by
  unfold wrt
  by_cases k3 : t.f0 = 3
  · rw [if_pos k3]
    have h1 := pqs_len t.f1.data.toList
    have h2 := quoB_size t.f1
    rw [data_len] at h1 ⊢
    refine ⟨?_, by omega⟩
    unfold quoB
    rw [strOfNums_nat, B_size, List.length_map, List.length_append, List.length_cons]
    omega
  · rw [if_neg k3, data_len]
    omega
/-- What stands behind the blank. -/
def bl (acc : List UInt8) : List UInt8 := if 0 < acc.length then acc ++ [32] else acc
theorem spellW_cons (t : S44) (r : List S44) (acc : List UInt8) (h5 : t.f0 ≠ 5) : spellW quoB (t :: r) acc = (if 4096 < (bl acc ++ wrt t).length then (⟨#[]⟩, 2) else spellW quoB r (bl acc ++ wrt t)) := by
  rw [spellW, if_neg h5]; rfl
theorem mem_drop {xs : List S44} {i : Nat} {t : S44} {ts : List S44} (h : xs.drop i = t :: ts) : t ∈ xs := List.mem_of_mem_drop (h ▸ List.mem_cons_self ..)
/-- What is too long stays too long. -/
theorem rspell_long (xs : List S44) (hx : xs.length ≤ 4611686018427387904) (hs : ∀ t ∈ xs, t.f1.size ≤ 256) (i : Nat) (acc : List UInt8) (hi : 0 < i) (hle : i ≤ xs.length) (ha : 4096 < acc.length) (ha2 : acc.length ≤ 6000) :
    Ev (fun k => refrainref5_Spell.l1 k xs (nm acc) (i : Int)) ((⟨#[]⟩ : ByteArray), (2 : Int)) := by
  have hlen : ((nm acc).length : Int) > 4096 := by rw [nm_len]; omega
  cases hd : xs.drop i with
  | nil =>
    have hge : xs.length ≤ i := List.drop_eq_nil_iff.1 hd
    refine Ev.step (f := fun _ => some _) (fun k => ?_) (Ev.now _)
    simp only [refrainref5_Spell.l1]
    rw [if_neg (by omega), if_pos hlen]
  | cons t ts =>
    have hlt : i < xs.length := by
      rcases Nat.lt_or_ge i xs.length with h1 | h1
      · exact h1
      · rw [List.drop_eq_nil_of_le h1] at hd; cases hd
    have hr := rdK xs i t ts hd
    have hsz := hs t (mem_drop hd)
    by_cases h5 : t.f0 = 5
    · refine Ev.step (f := fun _ => some _) (fun k => ?_) (Ev.now _)
      simp only [refrainref5_Spell.l1]
      rw [if_pos (by omega), if_pos (by omega), hr, if_pos h5, if_pos hlen]
    · refine Ev.step (f := fun k => refrainref5_Spell.j2 k xs (nm (acc ++ [32])) (i : Int)) (fun k => ?_) (Ev.step (f := fun _ => some _) (fun k => ?_) (Ev.now _))
      · simp only [refrainref5_Spell.l1]
        rw [if_pos (by omega), if_pos (by omega), hr, if_neg h5, if_pos (by omega), if_pos (by rw [nm_len]; omega), nm_app]; rfl
      · simp only [refrainref5_Spell.j2]
        rw [if_pos (by omega), if_pos (by omega), hr, nm_len, List.length_append, List.length_singleton, if_pos (by unfold wrap64; omega)]
theorem rspell_loop (xs : List S44) (hx : xs.length ≤ 4611686018427387904) (hs : ∀ t ∈ xs, t.f1.size ≤ 256) : ∀ (ts : List S44) (i : Nat) (acc : List UInt8), xs.drop i = ts → i + ts.length = xs.length → spellOk canT ts = true → acc.length ≤ 4096 → (i = 0 ↔ acc.length = 0) →
    Ev (fun k => refrainref5_Spell.l1 k xs (nm acc) (i : Int)) (spellW quoB ts acc)
  | [], i, acc, hd, hl, hok, ha, hz => by
    simp only [List.length_nil] at hl
    refine Ev.step (f := fun _ => some _) (fun k => ?_) (Ev.now _)
    simp only [refrainref5_Spell.l1]
    rw [if_neg (by omega), if_neg (by rw [nm_len]; omega), nm_str, spellW]; rfl
  | t :: ts, i, acc, hd, hl, hok, ha, hz => by
    simp only [List.length_cons] at hl
    have hr := rdK xs i t ts hd
    have hsz := hs t (mem_drop hd)
    rw [spellOk, Bool.and_eq_true] at hok
    by_cases h5 : t.f0 = 5
    · refine Ev.step (f := fun _ => some _) (fun k => ?_) (Ev.now _)
      simp only [refrainref5_Spell.l1]
      rw [if_pos (by omega), if_pos (by omega), hr, if_pos h5, if_neg (by rw [nm_len]; omega), nm_str, spellW, if_pos h5]; rfl
    · have hpos := wrt_pos hok.1 h5
      obtain ⟨hw1, hw2⟩ := wrt_le hsz
      rw [spellW_cons t ts acc h5]
      have hbl : (bl acc).length ≤ 4097 ∧ acc.length ≤ (bl acc).length := by unfold bl; split <;> (try simp only [List.length_append, List.length_singleton]) <;> omega
      have h1 : Ev (fun k => refrainref5_Spell.j2 k xs (nm (bl acc)) (i : Int)) (if 4096 < (bl acc ++ wrt t).length then (⟨#[]⟩, 2) else spellW quoB ts (bl acc ++ wrt t)) := by
        have hnl : (bl acc ++ wrt t).length = (bl acc).length + (wrt t).length := List.length_append
        have hwr : wrap64 (((nm (bl acc)).length : Int) + (t.f1.size : Int)) = ((bl acc).length + t.f1.size : Nat) := by rw [nm_len]; unfold wrap64; omega
        by_cases hbig : 4096 < (bl acc).length + t.f1.size
        · rw [if_pos (by omega)]
          refine Ev.step (f := fun _ => some _) (fun k => ?_) (Ev.now _)
          simp only [refrainref5_Spell.j2]
          rw [if_pos (by omega), if_pos (by omega), hr, hwr, if_pos (by omega)]
        · have hnext : Ev (fun k => refrainref5_Spell.l1 k xs (nm (bl acc ++ wrt t)) ((i + 1 : Nat) : Int)) (if 4096 < (bl acc ++ wrt t).length then (⟨#[]⟩, 2) else spellW quoB ts (bl acc ++ wrt t)) := by
            by_cases hb2 : 4096 < (bl acc ++ wrt t).length
            · rw [if_pos hb2]
              exact rspell_long xs hx hs (i + 1) _ (by omega) (by omega) hb2 (by omega)
            · rw [if_neg hb2]
              exact rspell_loop xs hx hs ts (i + 1) _ (by rw [← List.drop_drop, hd]; rfl) (by omega) hok.2 (by omega) (by constructor <;> intro h <;> omega)
          by_cases k3 : t.f0 = 3
          · have hq := rquoted_ev t.f1.data.toList (by rw [data_len]; omega)
            rw [B_of] at hq
            have hwt : wrt t = (quoB t.f1).data.toList := by unfold wrt; rw [if_pos k3]
            have hqs : (quoB t.f1).size = (wrt t).length := by rw [hwt, data_len]
            refine Ev.step (f := fun k => (refrainref5_quoted.f k t.f1).bind fun t654 => (if (nm (bl acc)).length + t654.size < 140737488355328 then (refrainref5_Spell.l1 k xs (nm (bl acc) ++ bytesOf t654) (wrap64 ((i : Int) + 1))) else (none))) (fun k => ?_) (Ev.bind hq (Ev.congr (fun k => ?_) hnext))
            · simp only [refrainref5_Spell.j2]
              rw [if_pos (by omega), if_pos (by omega), hr, hwr, if_neg (by omega), if_pos k3]
            · rw [if_pos (by rw [nm_len, hqs]; omega), nm_bytes, ← hwt, ← nm_app, w1 _ (by omega)]
          · have hwt : wrt t = t.f1.data.toList := by unfold wrt; rw [if_neg k3]
            refine Ev.step (fun k => ?_) hnext
            simp only [refrainref5_Spell.j2]
            rw [if_pos (by omega), if_pos (by omega), hr, hwr, if_neg (by omega), if_neg k3, if_pos (by rw [nm_len]; omega), nm_bytes, ← hwt, ← nm_app, w1 _ (by omega)]
      refine Ev.step (fun k => ?_) h1
      simp only [refrainref5_Spell.l1]
      rw [if_pos (by omega), if_pos (by omega), hr, if_neg h5]
      by_cases hi : 0 < i
      · have : bl acc = acc ++ [32] := by unfold bl; rw [if_pos (by omega)]
        rw [if_pos (by omega), if_pos (by rw [nm_len]; omega), this, nm_app]; rfl
      · have : bl acc = acc := by unfold bl; rw [if_neg (by omega)]
        rw [if_neg (by omega), this]
theorem rspell_check (xs : List S44) (hx : xs.length ≤ 4611686018427387904) (hs : ∀ t ∈ xs, t.f1.size ≤ 140737488355328) (R : ByteArray × Int) (hR : spellOk canT xs = true → Ev (fun k => refrainref5_Spell.l1 k xs ([] : List Int) 0) R) :
    ∀ (ts : List S44) (i : Nat), xs.drop i = ts → i + ts.length = xs.length → spellOk canT xs = spellOk canT ts →
    Ev (fun k => refrainref5_Spell.l0 k xs (i : Int)) (if spellOk canT ts = true then R else ((⟨#[]⟩ : ByteArray), (1 : Int)))
  | [], i, hd, hl, hok => by
    simp only [List.length_nil] at hl
    rw [if_pos (by rfl)]
    refine Ev.step (fun k => ?_) (hR (by rw [hok]; rfl))
    simp only [refrainref5_Spell.l0]
    rw [if_neg (by omega)]
  | t :: ts, i, hd, hl, hok => by
    simp only [List.length_cons] at hl
    have hr := rdK xs i t ts hd
    have hsz := hs t (mem_drop hd)
    have hlast : ((i : Int) == wrap64 ((xs.length : Int) - 1)) = ts.isEmpty := by
      rw [Bool.eq_iff_iff]
      simp only [beq_iff_eq, List.isEmpty_iff]
      rw [show wrap64 ((xs.length : Int) - 1) = (xs.length : Int) - 1 by unfold wrap64; omega]
      constructor
      · intro h; exact List.eq_nil_of_length_eq_zero (by omega)
      · rintro rfl; simp only [List.length_nil] at hl; omega
    have hc := rcan_ev t.f0 t.f1.data.toList t.f2 ts.isEmpty (by rw [data_len]; omega)
    rw [B_of] at hc
    have hcd : canL t.f0 t.f1.data.toList ts.isEmpty = canT t ts.isEmpty := rfl
    rw [hcd] at hc
    rw [spellOk] at hok ⊢
    refine Ev.step (f := fun k => (refrainref5_can.f k t.f0 t.f1 t.f2 ts.isEmpty).bind fun t646 => (if t646 = true then (refrainref5_Spell.l0 k xs (wrap64 ((i : Int) + 1))) else (some ((⟨#[]⟩ : ByteArray), 1)))) (fun k => ?_) (Ev.bind hc ?_)
    · simp only [refrainref5_Spell.l0]
      rw [if_pos (by omega), if_pos (by omega), hr, hlast]
    · cases hct : canT t ts.isEmpty
      · simp only [Bool.false_and, Bool.false_eq_true, if_false]
        exact Ev.now _
      · rw [hct, Bool.true_and] at hok
        simp only [Bool.true_and, if_true]
        rw [w1 _ (by omega)]
        exact rspell_check xs hx hs R hR ts (i + 1) (by rw [← List.drop_drop, hd]; rfl) (by omega) hok
/-- The document spells tokens as the program does. -/
theorem rspell_ev (xs : List S44) (hx : xs.length ≤ 4611686018427387904) (hs : ∀ t ∈ xs, t.f1.size ≤ 140737488355328) : Ev (fun k => refrainref5_Spell.f k xs) (if spellOk canT xs = true then spellW quoB xs [] else (⟨#[]⟩, 1)) := by
  have h := rspell_check xs hx hs (spellW quoB xs []) (fun hok => rspell_loop xs hx (spellOk_mem xs hok) xs 0 [] rfl (by omega) hok (by simp) (by simp)) xs 0 rfl (by omega) rfl
  exact h
/-! words -/
def wordsB : List ByteArray := G0c0
theorem words_f : refrainref5_words.f = some wordsB := rfl
theorem rword_ev (s : ByteArray) : Ev (fun k => refrainref5_Word.f k s) (wordIn s) := by
  unfold refrainref5_Word.f
  rw [words_f]
  simp only [Option.bind_some]
  exact Ev.bind (among_ev wordsB (by decide) s wordsB 0 rfl (by decide)) (Ev.now _)
end Go.Proofs.YthmcapdakplhdaaDoor.Pu
end

/-! ## text PureTokenAll -/
section
namespace Go.Proofs.YthmcapdakplhdaaDoor.Pu
open Go Go.RowKit Go.Proofs.YthmcapdakplhdaaDoor.Pr Go.Proofs.YthmcapdakplhdaaDoorW.PrintWords Go.Proofs.YthmcapdakplhdaaDoorW.PrintLast Go.Proofs.YthmcapdakplhdaaDoorW.PrintMore
set_option linter.unusedVariables false
set_option linter.unusedSimpArgs false
set_option maxRecDepth 100000
theorem eqRefl_ev (xs : List S44) (hx : xs.length ≤ 4611686018427387904) : ∀ (ts : List S44) (i : Nat), xs.drop i = ts → i + ts.length = xs.length → Ev (fun k => refrainlaw5_eqToks.l0 k xs xs (i : Int)) true
  | [], i, hd, hl => by
    simp only [List.length_nil] at hl
    refine Ev.step (f := fun _ => some _) (fun k => ?_) (Ev.now _)
    simp only [refrainlaw5_eqToks.l0]
    rw [if_neg (by omega)]
  | t :: ts, i, hd, hl => by
    simp only [List.length_cons] at hl
    have ih := eqRefl_ev xs hx ts (i + 1) (by rw [← List.drop_drop, hd]; rfl) (by omega)
    refine Ev.step (fun k => ?_) ih
    simp only [refrainlaw5_eqToks.l0]
    rw [if_pos (by omega), if_pos (by omega), if_pos (by omega), if_neg (by simp), w1 _ (by omega)]
theorem eqToks_refl (xs : List S44) (hx : xs.length ≤ 4611686018427387904) : Ev (fun k => refrainlaw5_eqToks.f k xs xs) true := by
  have h := eqRefl_ev xs hx xs 0 rfl (by omega)
  refine Ev.congr (fun k => ?_) h
  unfold refrainlaw5_eqToks.f
  rw [if_pos rfl]; rfl
theorem scanL_len : ∀ (f : Nat) (rest : List UInt8) (out : List S44) (pos : Nat), (scanL f rest out pos).1.length ≤ out.length + f
  | 0, _, _, _ => by simp [scanL]
  | f + 1, [], out, pos => by simp [scanL]
  | f + 1, c :: t, out, pos => by
    have ih := scanL_len f
    rw [scanL]
    split
    · exact Nat.le_trans (ih _ _ _) (by omega)
    split
    · exact Nat.le_trans (ih _ _ _) (by omega)
    split
    · split
      · simp
      · exact Nat.le_trans (ih _ _ _) (by simp only [List.length_append, List.length_singleton]; omega)
    split
    · split
      · exact Nat.le_trans (ih _ _ _) (by simp only [List.length_append, List.length_singleton]; omega)
      · simp
    split
    · split
      · exact Nat.le_trans (ih _ _ _) (by simp only [List.length_append, List.length_singleton]; omega)
      · simp
    split
    · exact Nat.le_trans (ih _ _ _) (by simp only [List.length_append, List.length_singleton]; omega)
    · simp
theorem scan_len (l : List UInt8) : (scan l).1.length ≤ 4097 := by
  unfold scan
  by_cases h : 4096 < l.length
  · rw [if_pos h]; simp
  · rw [if_neg h]
    exact Nat.le_trans (scanL_len _ _ _ _) (by simp only [List.length_nil]; omega)
theorem agrees (o : S59) (ho : o.f2.length ≤ 4398046510976) (hs : ∀ t ∈ o.f2, t.f1.size ≤ 140737488355328) : Agrees o := by
  refine ⟨?_, ?_, ?_⟩
  · obtain ⟨k1, h1⟩ := Ev.rounds (scan_ev o.f1.data.toList)
    obtain ⟨k2, h2⟩ := Ev.rounds (rscan_ev o.f1.data.toList)
    have hl := scan_len o.f1.data.toList
    rw [B_of] at h1 h2
    obtain ⟨⟨r, a, e⟩, hr⟩ : ∃ x, scan o.f1.data.toList = x := ⟨_, rfl⟩
    rw [hr] at h1 h2 hl
    obtain ⟨k3, h3⟩ := Ev.rounds (eqToks_refl r (by simp only [] at hl; omega))
    exact ⟨k1, k2, k3, r, a, e, h1, h2, h3⟩
  · obtain ⟨k, h⟩ := Ev.rounds (rspell_ev o.f2 (by omega) hs)
    obtain ⟨⟨s, e⟩, hr⟩ : ∃ x, (if spellOk canT o.f2 = true then spellW quoB o.f2 [] else ((⟨#[]⟩ : ByteArray), (1 : Int))) = x := ⟨_, rfl⟩
    rw [hr] at h
    refine ⟨k, s, e, ?_, h⟩
    unfold token_Spell.f
    rw [if_pos ⟨by omega, hs⟩, hr]
  · obtain ⟨k, h⟩ := Ev.rounds (rword_ev o.f1)
    exact ⟨k, _, rfl, h⟩
theorem begun_scan : scan [97, 46, 98, 32, 62, 61, 32, 49, 50] = ([⟨1, B [97], 0⟩, ⟨4, B [46], 1⟩, ⟨1, B [98], 2⟩, ⟨4, B [62, 61], 4⟩, ⟨2, B [49, 50], 7⟩, ⟨5, B [], 9⟩], 0, 0) := by kernel_rfl
theorem begun_spell : spellOk canT [(⟨4, (⟨#[45]⟩ : ByteArray), 0⟩ : S44), (⟨4, (⟨#[45]⟩ : ByteArray), 0⟩ : S44), (⟨2, (⟨#[53]⟩ : ByteArray), 0⟩ : S44)] = true ∧ spellW quoB [(⟨4, (⟨#[45]⟩ : ByteArray), 0⟩ : S44), (⟨4, (⟨#[45]⟩ : ByteArray), 0⟩ : S44), (⟨2, (⟨#[53]⟩ : ByteArray), 0⟩ : S44)] [] = (B [45, 32, 45, 32, 53], 0) := ⟨by kernel_rfl, by kernel_rfl⟩
theorem begun_words : wordIn (B [83, 69, 81]) = true ∧ wordIn (B [115, 101, 113]) = false := by
  have h : ∀ l : List UInt8, wordIn (B l) = (G0c0.map (fun y => y.data.toList)).any (fun y => l == y) := by
    intro l
    unfold wordIn
    rw [List.any_map]
    congr 1
    funext y
    show ((B l).toList == y.toList) = (l == y.data.toList)
    rw [B_toList, tl_data]
  rw [h, h]
  exact ⟨by decide, by decide⟩
theorem begun5 : ∃ q, refrainlaw5_begun.f q = some true := by
  obtain ⟨k, h⟩ := Ev.rounds (scan_ev [97, 46, 98, 32, 62, 61, 32, 49, 50])
  refine ⟨k, ?_⟩
  rw [begun_scan] at h
  unfold refrainlaw5_begun.f
  rw [show token_Scan.f k (⟨#[97, 46, 98, 32, 62, 61, 32, 49, 50]⟩ : ByteArray) = _ from h, Option.bind_some]
  have hs : token_Spell.f [(⟨4, (⟨#[45]⟩ : ByteArray), 0⟩ : S44), (⟨4, (⟨#[45]⟩ : ByteArray), 0⟩ : S44), (⟨2, (⟨#[53]⟩ : ByteArray), 0⟩ : S44)] = some (B [45, 32, 45, 32, 53], 0) := by
    unfold token_Spell.f
    rw [if_pos ⟨by simp, by intro t ht; simp at ht; rcases ht with rfl | rfl <;> (show (1 : Nat) ≤ _; omega)⟩, if_pos begun_spell.1, begun_spell.2]
  rw [hs, Option.bind_some, if_pos rfl, if_pos rfl, if_pos (by decide), if_pos (by decide)]
  rw [if_pos (by
    show ((4 : Int) == 4 && (((B [62, 61]).toList == ([62, 61] : List UInt8)) && ((4 : Int) == 4))) = true
    rw [B_toList]; decide), if_pos rfl, if_pos (B_toList _)]
  show ((some (wordIn (B [83, 69, 81]))).bind fun t543 => (if t543 = true then ((some (wordIn (B [115, 101, 113]))).bind fun t544 => (some (!t544))) else (some false))) = some true
  rw [begun_words.1, begun_words.2]; rfl
end Go.Proofs.YthmcapdakplhdaaDoor.Pu
namespace Go.Proofs.YthmcapdakplhdaaDoor.tokenAll
open Go Go.RowKit Go.Proofs.YthmcapdakplhdaaDoor.Pr Go.Proofs.YthmcapdakplhdaaDoor.Pu Go.Proofs.YthmcapdakplhdaaDoor.Opn Go.Proofs.YthmcapdakplhdaaDoorW.PrintWords Go.Proofs.YthmcapdakplhdaaDoorW.PrintLast Go.Proofs.YthmcapdakplhdaaDoorW.PrintMore
theorem pureG : PureG := by
  intro x hG
  refine ⟨0, ?_⟩
  have h1 : ∀ o ∈ x, o.f2.length ≤ 4398046510976 ∧ (∀ t ∈ o.f2, t.f1.size ≤ 140737488355328) := fun o ho => by
    have h := (hG.2.2 o ho).2.2
    exact ⟨by have := h.2.1; omega, fun t ht => by have := (h.2.2 t ht).2.1; omega⟩
  unfold refrainlaw5_TokenAll.f
  rw [if_pos ⟨by have := hG.2.1; omega, fun o ho => (h1 o ho).1, fun o ho => agrees o (h1 o ho).1 (h1 o ho).2, begun5⟩]
end Go.Proofs.YthmcapdakplhdaaDoor.tokenAll
end
