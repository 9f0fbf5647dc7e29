import Derived.Test.YthmcapdakplhdaaDoorPuTok4
import Derived.Test.YthmcapdakplhdaaDoorPrx15
namespace Go.Proofs.YthmcapdakplhdaaDoor.Pure
open Go.RowKit Go.Proofs.YthmcapdakplhdaaDoor.Pr Go.Proofs.YthmcapdakplhdaaDoor.Pu Go.Proofs.YthmcapdakplhdaaDoorW.PrintWords Go.Proofs.YthmcapdakplhdaaDoorW.PrintLast Go.Proofs.YthmcapdakplhdaaDoorW.PrintMore
set_option linter.unusedVariables false
set_option linter.unusedSimpArgs false

/-- n blanks; the word of the law; the string's begin. -/
def sp (n : Nat) : List UInt8 := List.replicate n 32
def wd (n m : Nat) : List UInt8 := (List.range m).map fun i => UInt8.ofNat (97 + (n + i) % 26)

theorem sp_len (n : Nat) : (sp n).length = n := List.length_replicate
theorem scan_sp : ∀ (m f : Nat) (rest : List UInt8) (out : List S44) (pos : Nat), scanL (f + m) (sp m ++ rest) out pos = scanL f rest out (pos + m) := by
  intro m
  induction m with
  | zero => intro f rest out pos; rfl
  | succ m ih =>
    intro f rest out pos
    rw [show f + (m + 1) = (f + m) + 1 from rfl, show sp (m + 1) ++ rest = 32 :: (sp m ++ rest) from rfl]
    simp only [scanL]
    have e1 : ((32 : UInt8) :: (sp m ++ rest)).take 2 == [45, 45] ↔ False := by
      constructor
      · intro h
        have := eq_of_beq h
        simp at this
      · exact False.elim
    rw [if_neg (by rw [e1]; exact id), if_pos (by decide), ih]
    congr 1
    omega
theorem scan_gap (n : Nat) (rest : List UInt8) (h : n + rest.length ≤ 4096) : scan (sp n ++ rest) = scanL (rest.length + 1) rest [] n := by
  unfold scan
  have hl : (sp n ++ rest).length = n + rest.length := by rw [List.length_append, sp_len]
  rw [if_neg (by omega), hl, show n + rest.length + 1 = (rest.length + 1) + n by omega, scan_sp]
  simp

theorem word_all : ∀ n : Nat, n < 40 → (scanL 33 (wd n 32) [] n).2.2 = 0 ∧ (scanL 33 (wd n 32) [] n).1.map (·.f2) = [(n : Int), n + 32] := by decide +kernel
theorem word9_all : ∀ n : Nat, n < 40 → (scanL 34 (wd n 32 ++ [57]) [] n).2.2 = 51 ∧ (scanL 34 (wd n 32 ++ [57]) [] n).2.1 = n := by decide +kernel
theorem num_ok : (scan [57, 50, 50, 51, 51, 55, 50, 48, 51, 54, 56, 53, 52, 55, 55, 53, 56, 48, 55]).2.2 = 0 ∧ (scan [57, 50, 50, 51, 51, 55, 50, 48, 51, 54, 56, 53, 52, 55, 55, 53, 56, 48, 55]).1.length = 2 := by decide +kernel
theorem num_no : (scan [57, 50, 50, 51, 51, 55, 50, 48, 51, 54, 56, 53, 52, 55, 55, 53, 56, 48, 56]).2.2 = 51 := by decide +kernel
theorem long_ok : scan (sp 4096) = ([⟨5, B [], 4096⟩], 0, 0) := by
  have := scan_gap 4096 [] (by simp)
  rw [List.append_nil] at this
  rw [this]
  rfl
theorem long_no : (scan (sp 4097)).2.2 = 2 := by
  unfold scan
  rw [if_pos (by rw [sp_len]; omega)]

theorem unq_sp : ∀ (m f : Nat) (rest : List UInt8) (acc : List Int) (pos frm : Nat), acc.length + m ≤ 256 → unqL (f + m) (sp m ++ rest) acc pos frm = unqL f rest (acc ++ List.replicate m 32) (pos + m) frm := by
  intro m
  induction m with
  | zero => intro f rest acc pos frm _; simp [sp]
  | succ m ih =>
    intro f rest acc pos frm h
    rw [show f + (m + 1) = (f + m) + 1 from rfl, show sp (m + 1) ++ rest = 32 :: (sp m ++ rest) from rfl]
    simp only [unqL]
    rw [if_neg (by decide), if_neg (by decide), if_neg (by decide), if_neg (by omega), ih _ _ _ _ _ (by simp; omega)]
    rw [show pos + 1 + m = pos + (m + 1) by omega, List.append_assoc]
    rfl
theorem quote_at (f : Nat) (t : List UInt8) (out : List S44) (pos : Nat) : scanL (f + 1) (34 :: t) out pos =
    (if (unqL (t.length + 1) t [] (pos + 1) pos).2.2 = 0 then scanL f ((34 :: t).drop ((unqL (t.length + 1) t [] (pos + 1) pos).2.1.toNat - pos)) (out ++ [⟨3, (unqL (t.length + 1) t [] (pos + 1) pos).1, pos⟩]) (unqL (t.length + 1) t [] (pos + 1) pos).2.1.toNat
       else ([], (unqL (t.length + 1) t [] (pos + 1) pos).2.1, (unqL (t.length + 1) t [] (pos + 1) pos).2.2)) := by
  have e1 : ((34 : UInt8) :: t).take 2 == [45, 45] ↔ False := by
    constructor
    · intro h
      have := eq_of_beq h
      cases t <;> simp at this
    · exact False.elim
  rw [scanL]
  rw [if_neg (by rw [e1]; exact id), if_neg (by decide), if_neg (by decide), if_neg (by decide), if_pos (by decide)]
theorem str_ok (n : Nat) (hn : n < 40) : (scan (sp n ++ (34 :: (sp 256 ++ [34])))).2.2 = 0 := by
  have hl : (sp 256 ++ [34]).length = 257 := by rw [List.length_append, sp_len]; rfl
  rw [scan_gap _ _ (by rw [List.length_cons, hl]; omega), List.length_cons, hl, quote_at, hl]
  have hu : unqL (257 + 1) (sp 256 ++ [34]) [] (n + 1) n = (strOfNums (List.replicate 256 32), (((n + 1 + 256 : Nat) : Int) + 1), 0) := by
    rw [show 257 + 1 = 2 + 256 from rfl, unq_sp _ _ _ _ _ _ (by simp)]
    rfl
  rw [hu, if_pos rfl]
  have e : ((((n + 1 + 256 : Nat) : Int) + 1).toNat) = n + 258 := by omega
  simp only [e]
  rw [show n + 258 - n = 258 by omega, List.drop_eq_nil_of_le (by rw [List.length_cons, hl]; omega)]
  rfl
theorem str_no (n : Nat) (hn : n < 40) : (scan (sp n ++ (34 :: (sp 256 ++ [32, 34])))).2.2 = 51 ∧ (scan (sp n ++ (34 :: (sp 256 ++ [32, 34])))).2.1 = n := by
  have hl : (sp 256 ++ [32, 34]).length = 258 := by rw [List.length_append, sp_len]; rfl
  rw [scan_gap _ _ (by rw [List.length_cons, hl]; omega), List.length_cons, hl, quote_at, hl]
  have hu : unqL (258 + 1) (sp 256 ++ [32, 34]) [] (n + 1) n = ((B [], (n : Int), 51) : ByteArray × Int × Int) := by
    rw [show 258 + 1 = 3 + 256 from rfl, unq_sp _ _ _ _ _ _ (by simp)]
    rw [unqL, if_neg (by decide), if_neg (by decide), if_neg (by decide), if_pos (by rw [List.nil_append, List.length_replicate])]
  rw [hu, if_neg (show ¬ ((51 : Int) = 0) by decide)]
  exact ⟨rfl, rfl⟩

theorem S (l : List UInt8) : ∃ K, ∀ k, K ≤ k → token_Scan.f k (B l) = some (scan l) := scan_ev l
theorem lit (l : List UInt8) : (⟨l.toArray⟩ : ByteArray) = B l := rfl

theorem lim_end (n : Nat) (hn : n < 40) : Ev (fun k => refrainlaw5_TokenLimits.l2 k (n : Int) (B (wd n 32)) (B (sp n)) (B (sp 4096))) true := by
  have hw : (wd n 32).length = 32 := by simp [wd]
  obtain ⟨K1, h1⟩ := S (sp n ++ wd n 32)
  obtain ⟨K2, h2⟩ := S (sp n ++ (wd n 32 ++ [57]))
  obtain ⟨K3, h3⟩ := S [57, 50, 50, 51, 51, 55, 50, 48, 51, 54, 56, 53, 52, 55, 55, 53, 56, 48, 55]
  obtain ⟨K4, h4⟩ := S [57, 50, 50, 51, 51, 55, 50, 48, 51, 54, 56, 53, 52, 55, 55, 53, 56, 48, 56]
  obtain ⟨K5, h5⟩ := S (sp 4096)
  obtain ⟨K6, h6⟩ := S (sp 4097)
  obtain ⟨K7, h7⟩ := S (sp n ++ (34 :: (sp 256 ++ [34])))
  obtain ⟨K8, h8⟩ := S (sp n ++ (34 :: (sp 256 ++ [32, 34])))
  obtain ⟨w1, w2⟩ := word_all n hn
  obtain ⟨w3, w4⟩ := word9_all n hn
  have g1 := scan_gap n (wd n 32) (by rw [hw]; omega)
  rw [hw] at g1
  have g2 := scan_gap n (wd n 32 ++ [57]) (by rw [List.length_append, hw]; simp; omega)
  rw [List.length_append, hw] at g2
  rw [g1] at h1
  rw [g2] at h2
  obtain ⟨n1, n2⟩ := num_ok
  have n3 := num_no
  rw [long_ok] at h5
  have n6 := long_no
  have n7 := str_ok n hn
  obtain ⟨n8, n9⟩ := str_no n hn
  generalize scan [57, 50, 50, 51, 51, 55, 50, 48, 51, 54, 56, 53, 52, 55, 55, 53, 56, 48, 55] = r3 at h3 n1 n2
  generalize scan [57, 50, 50, 51, 51, 55, 50, 48, 51, 54, 56, 53, 52, 55, 55, 53, 56, 48, 56] = r4 at h4 n3
  generalize scan (sp 4097) = r6 at h6 n6
  generalize scan (sp n ++ (34 :: (sp 256 ++ [34]))) = r7 at h7 n7
  generalize scan (sp n ++ (34 :: (sp 256 ++ [32, 34]))) = r8 at h8 n8 n9
  rw [show 32 + 1 = 33 from rfl] at h1
  rw [show 32 + ([57] : List UInt8).length + 1 = 34 from rfl] at h2
  generalize scanL 33 (wd n 32) [] n = r1 at h1 w1 w2
  generalize scanL 34 (wd n 32 ++ [57]) [] n = r2 at h2 w3 w4
  have hK : ∃ K, K = K1 + K2 + K3 + K4 + K5 + K6 + K7 + K8 := ⟨_, rfl⟩
  obtain ⟨K, hK⟩ := hK
  have s1 : (B (sp n)).size = n := by rw [B_size, sp_len]
  have s2 : (B (wd n 32)).size = 32 := by rw [B_size, hw]
  have s3 : (B (sp 4096)).size = 4096 := by rw [B_size, sp_len]
  have s4 : (B (sp n) ++ B (wd n 32)).size = n + 32 := by rw [B_append, B_size, List.length_append, sp_len, hw]
  have e1 : B (sp n) ++ B (wd n 32) = B (sp n ++ wd n 32) := B_append _ _
  have e2 : B (sp n ++ wd n 32) ++ (⟨#[57]⟩ : ByteArray) = B (sp n ++ (wd n 32 ++ [57])) := by rw [← List.append_assoc]; exact B_append _ _
  have e3 : B (sp 4096) ++ (⟨#[32]⟩ : ByteArray) = B (sp 4097) := by
    have := B_append (sp 4096) [32]
    rw [show sp 4096 ++ [32] = sp 4097 from (List.replicate_succ' (n := 4096) (a := (32 : UInt8))).symm] at this
    exact this
  have e4 : (B (sp 4096)).extract 0 256 = B (sp 256) := by
    rw [B_extract, List.drop_zero]
    unfold sp
    rw [List.take_replicate]
    rfl
  have s5 : (B (sp n) ++ (⟨#[34]⟩ : ByteArray)).size = n + 1 := by
    have := B_append (sp n) [34]
    rw [show B (sp n) ++ (⟨#[34]⟩ : ByteArray) = B (sp n) ++ B [34] from rfl, this, B_size, List.length_append, sp_len]; rfl
  have e5 : B (sp n) ++ (⟨#[34]⟩ : ByteArray) ++ B (sp 256) = B (sp n ++ (34 :: sp 256)) := by
    rw [show (⟨#[34]⟩ : ByteArray) = B [34] from rfl, B_append, B_append, List.append_assoc]; rfl
  have s6 : (B (sp n ++ (34 :: sp 256))).size = n + 257 := by rw [B_size, List.length_append, List.length_cons, sp_len, sp_len]
  have e6 : B (sp n ++ (34 :: sp 256)) ++ (⟨#[34]⟩ : ByteArray) = B (sp n ++ (34 :: (sp 256 ++ [34]))) := by
    rw [show (⟨#[34]⟩ : ByteArray) = B [34] from rfl, B_append, List.append_assoc]; rfl
  have e7 : B (sp n ++ (34 :: sp 256)) ++ (⟨#[32, 34]⟩ : ByteArray) = B (sp n ++ (34 :: (sp 256 ++ [32, 34]))) := by
    rw [show (⟨#[32, 34]⟩ : ByteArray) = B [32, 34] from rfl, B_append, List.append_assoc]; rfl
  have s256 : (B (sp 256)).size = 256 := by rw [B_size, sp_len]
  have l1 : r1.1.length = 2 := by have := congrArg List.length w2; simpa using this
  have l1' : (rd_T44 r1.1 0).f2 = (n : Int) := by
    cases h : r1.1 with
    | nil => rw [h] at l1; simp at l1
    | cons a t => rw [h] at w2; simp at w2; exact w2.1
  have j5 : refrainlaw5_TokenLimits.j5 (K + 1) (n : Int) (B (sp n)) (B (sp 4096)) false = some true := by
    rw [refrainlaw5_TokenLimits.j5]
    rw [if_neg (by decide), if_pos (by decide), if_pos (by rw [s3]; decide), if_pos (by rw [s1]; omega), e4, if_pos (by rw [s5, s256]; omega), e5, if_pos (by rw [s6]; omega), e6, h7 K (by omega), Option.bind_some]
    rw [if_pos (by rw [s6]; omega), e7, h8 K (by omega), Option.bind_some, if_pos n7, if_pos n8, n9]
    simp
  have j4 : refrainlaw5_TokenLimits.j4 (K + 2) (n : Int) (B (sp n)) (B (sp 4096)) [⟨5, B [], 4096⟩] 0 0 2 false = some true := by
    rw [refrainlaw5_TokenLimits.j4]
    rw [if_neg (by decide), if_pos rfl, if_pos rfl]
    rw [if_pos (show ((([⟨5, B [], 4096⟩] : List S44).length : Nat) : Int) = 1 from rfl), if_pos (show (0 : Int) < ((([⟨5, B [], 4096⟩] : List S44).length : Nat) : Int) by decide), if_pos (show (rd_T44 [⟨5, B [], 4096⟩] 0).f2 = 4096 from rfl)]
    exact j5
  refine Ev.of (fun k => (refrainlaw5_TokenLimits.mono_l k).2.2.2.1 _ _ _ _) (k := K + 3) ?_
  show refrainlaw5_TokenLimits.l2 (K + 2 + 1) (n : Int) (B (wd n 32)) (B (sp n)) (B (sp 4096)) = some true
  rw [refrainlaw5_TokenLimits.l2]
  rw [if_neg (by rw [s3]; omega), if_pos (by rw [s1, s2]; omega), e1, h1 (K + 2) (by omega), Option.bind_some]
  rw [if_pos (by rw [← e1, s4]; omega), e2, h2 (K + 2) (by omega), Option.bind_some]
  rw [show (⟨#[57, 50, 50, 51, 51, 55, 50, 48, 51, 54, 56, 53, 52, 55, 55, 53, 56, 48, 55]⟩ : ByteArray) = B [57, 50, 50, 51, 51, 55, 50, 48, 51, 54, 56, 53, 52, 55, 55, 53, 56, 48, 55] from rfl, h3 (K + 2) (by omega), Option.bind_some]
  rw [show (⟨#[57, 50, 50, 51, 51, 55, 50, 48, 51, 54, 56, 53, 52, 55, 55, 53, 56, 48, 56]⟩ : ByteArray) = B [57, 50, 50, 51, 51, 55, 50, 48, 51, 54, 56, 53, 52, 55, 55, 53, 56, 48, 56] from rfl, h4 (K + 2) (by omega), Option.bind_some]
  rw [h5 (K + 2) (by omega), Option.bind_some, if_pos (by rw [s3]; omega), e3, h6 (K + 2) (by omega), Option.bind_some]
  rw [if_pos w1, if_pos (by rw [l1]; rfl), if_pos (by rw [l1]; decide), if_pos l1', if_pos w3, if_pos w4, if_pos n1, if_pos (by rw [n2]; rfl), n3, n6]
  exact j4

theorem long_loop (n : Nat) (hn : n < 40) : ∀ (d m : Nat), m + d = 4096 → Ev (fun k => refrainlaw5_TokenLimits.l2 k (n : Int) (B (wd n 32)) (B (sp n)) (B (sp m))) true := by
  intro d
  induction d with
  | zero => intro m h; rw [show m = 4096 by omega]; exact lim_end n hn
  | succ d ih =>
    intro m h
    refine Ev.step ?_ (ih (m + 1) (by omega))
    intro k
    rw [refrainlaw5_TokenLimits.l2]
    rw [if_pos (by rw [B_size, sp_len]; omega), if_pos (by rw [B_size, sp_len]; omega)]
    rw [show B (sp m) ++ (⟨#[32]⟩ : ByteArray) = B (sp (m + 1)) by
      have := B_append (sp m) [32]
      rw [show sp m ++ [32] = sp (m + 1) from (List.replicate_succ' (n := m) (a := (32 : UInt8))).symm] at this
      exact this]
theorem gap_loop (n : Nat) (hn : n < 40) : ∀ (d m : Nat), m + d = n → Ev (fun k => refrainlaw5_TokenLimits.l1 k (n : Int) (B (wd n 32)) (B (sp m)) (m : Int)) true := by
  intro d
  induction d with
  | zero =>
    intro m h
    rw [show m = n by omega]
    refine Ev.step ?_ (long_loop n hn 4096 0 (by omega))
    intro k
    rw [refrainlaw5_TokenLimits.l1]
    rw [if_neg (by omega)]
    rfl
  | succ d ih =>
    intro m h
    refine Ev.step ?_ (ih (m + 1) (by omega))
    intro k
    rw [refrainlaw5_TokenLimits.l1]
    rw [if_pos (by omega), if_pos (by rw [B_size, sp_len]; omega), w64 (by omega) (by omega)]
    rw [show B (sp m) ++ (⟨#[32]⟩ : ByteArray) = B (sp (m + 1)) by
      have := B_append (sp m) [32]
      rw [show sp m ++ [32] = sp (m + 1) from (List.replicate_succ' (n := m) (a := (32 : UInt8))).symm] at this
      exact this]
    rfl
theorem word_loop (n : Nat) (hn : n < 40) : ∀ (d m : Nat), m + d = 32 → Ev (fun k => refrainlaw5_TokenLimits.l0 k (n : Int) (B (wd n m)) (m : Int)) true := by
  intro d
  induction d with
  | zero =>
    intro m h
    rw [show m = 32 by omega]
    refine Ev.step ?_ (gap_loop n hn n 0 (by omega))
    intro k
    rw [refrainlaw5_TokenLimits.l0]
    rw [if_neg (by omega)]
    rfl
  | succ d ih =>
    intro m h
    refine Ev.step ?_ (ih (m + 1) (by omega))
    intro k
    rw [refrainlaw5_TokenLimits.l0]
    have hm : (wd n m).length = m := by simp [wd]
    have ht : Int.tmod ((n : Int) + m) 26 = (((n + m) % 26 : Nat) : Int) := by rw [Int.tmod_eq_emod_of_nonneg (by omega)]; omega
    rw [if_pos (by omega), Option.bind_some, if_pos (by rw [B_size, hm, strOfNums_size]; simp; omega), w64 (n := (n : Int) + m) (by omega) (by omega), ht, w64 (by omega) (by omega), w64 (by omega) (by omega)]
    rw [show (97 + (((n + m) % 26 : Nat) : Int)) % 256 = ((97 + (n + m) % 26 : Nat) : Int) by omega]
    rw [strOfNums_nat, B_append]
    rw [show wd n m ++ List.map (fun n => UInt8.ofNat n.toNat) [((97 + (n + m) % 26 : Nat) : Int)] = wd n (m + 1) by unfold wd; rw [List.range_succ, List.map_append]; rfl]
    rfl
theorem TokenLimits : refrainlaw5_TokenLimits.Pure := by
  intro a0 _
  have key : ∀ n : Nat, n < 40 → Ev (fun k => refrainlaw5_TokenLimits.j0 k (n : Int)) true := by
    intro n hn
    refine Ev.step ?_ (word_loop n hn 32 0 (by omega))
    intro k
    rw [refrainlaw5_TokenLimits.j0]
    rfl
  have hb : -39 ≤ Int.tmod a0 40 ∧ Int.tmod a0 40 ≤ 39 := by
    have := Int.tmod_lt_of_pos a0 (show (0 : Int) < 40 by decide)
    have h2 := Int.lt_tmod_of_pos a0 (show (0 : Int) < 40 by decide)
    omega
  unfold refrainlaw5_TokenLimits.f
  by_cases h : Int.tmod a0 40 < 0
  · obtain ⟨k, hk⟩ := (key (-(Int.tmod a0 40)).toNat (by omega)).rounds
    rw [show (((-(Int.tmod a0 40)).toNat : Nat) : Int) = -(Int.tmod a0 40) by omega] at hk
    exact ⟨k, by rw [if_pos h, w64 (by omega) (by omega)]; exact hk⟩
  · obtain ⟨k, hk⟩ := (key (Int.tmod a0 40).toNat (by omega)).rounds
    rw [show (((Int.tmod a0 40).toNat : Nat) : Int) = Int.tmod a0 40 by omega] at hk
    exact ⟨k, by rw [if_neg h]; exact hk⟩
end Go.Proofs.YthmcapdakplhdaaDoor.Pure
