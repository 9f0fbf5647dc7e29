import Derived.Test.YthhpeeckiggpaaaDoorWMore
import Derived.IntWalk
namespace Go.Proofs.YthhpeeckiggpaaaDoor.Pu
open Go.RowKit Go.Proofs.YthhpeeckiggpaaaDoorW.PrintWords Go.Proofs.YthhpeeckiggpaaaDoorW.PrintLast Go.Proofs.YthhpeeckiggpaaaDoorW.PrintMore
set_option linter.unusedVariables false
set_option linter.unusedSimpArgs false

/-- Plain facts on strings as lists of bytes, for the pure statements: no program, no memory. -/
def B (l : List UInt8) : ByteArray := ⟨l.toArray⟩
@[simp] theorem B_data (l : List UInt8) : (B l).data.toList = l := rfl
@[simp] theorem B_size (l : List UInt8) : (B l).size = l.length := by simp [B, ByteArray.size]
theorem B_of (s : ByteArray) : B s.data.toList = s := by cases s; rfl
theorem B_inj {a b : List UInt8} (h : B a = B b) : a = b := by have := congrArg (fun s => s.data.toList) h; simpa using this
theorem data_len (s : ByteArray) : s.data.toList.length = s.size := by simp
theorem tl_data (s : ByteArray) : s.toList = s.data.toList := by
  have hl := data_len s
  have h : ∀ (m i : Nat) (r : List UInt8), s.size - i = m → ByteArray.toList.loop s i r = r.reverse ++ s.data.toList.drop i := by
    intro m
    induction m with
    | zero =>
      intro i r hm
      rw [ByteArray.toList.loop, if_neg (by omega), List.drop_eq_nil_of_le (by omega), List.append_nil]
    | succ m ih =>
      intro i r hm
      have hi : i < s.size := by omega
      rw [ByteArray.toList.loop, if_pos hi, ih (i + 1) _ (by omega)]
      have e : s.get! i = s.data.toList[i]'(by omega) := by
        unfold ByteArray.get!
        simp only [Array.getElem_toList]
        exact getElem!_pos s.data i hi
      rw [e, List.reverse_cons, List.append_assoc, List.singleton_append, ← List.drop_eq_getElem_cons]
  have := h s.size 0 [] (by omega)
  simpa [ByteArray.toList] using this
@[simp] theorem B_toList (l : List UInt8) : (B l).toList = l := by rw [tl_data]; rfl
theorem B_append (a b : List UInt8) : B a ++ B b = B (a ++ b) := by
  have : (B a ++ B b).data.toList = a ++ b := by simp [B]
  rw [← B_of (B a ++ B b), this]
theorem B_extract (l : List UInt8) (i j : Nat) : (B l).extract i j = B ((l.take j).drop i) := by
  have : ((B l).extract i j).data.toList = (l.take j).drop i := by simp [B, ByteArray.data_extract, List.drop_take]
  rw [← B_of ((B l).extract i j), this]
theorem B_ext_mid (pre rest : List UInt8) (n : Nat) : (B (pre ++ rest)).extract pre.length (pre.length + n) = B (rest.take n) := by
  rw [B_extract, List.take_append, List.drop_append]
  have e : pre.take (pre.length + n) = pre := List.take_of_length_le (by omega)
  rw [e, List.drop_length, List.nil_append]
  congr 1
  rw [show pre.length + n - pre.length = n by omega, show pre.length - pre.length = 0 by omega, List.drop_zero]
theorem B_ext_rest (pre rest : List UInt8) : (B (pre ++ rest)).extract pre.length (B (pre ++ rest)).size = B rest := by
  have := B_ext_mid pre rest rest.length
  rw [List.take_length] at this
  rw [← this]
  congr 1
  simp
theorem bt_mid (pre : List UInt8) (c : UInt8) (t : List UInt8) : bt (B (pre ++ c :: t)) (pre.length : Int) = (c.toNat : Int) := by
  unfold bt
  have h : (pre.length : Int).toNat < (B (pre ++ c :: t)).size := by simp
  rw [dif_pos h]
  have e : (B (pre ++ c :: t))[((pre.length : Int)).toNat]'h = (pre ++ c :: t)[pre.length]'(by simp) := by
    simp only [Int.toNat_natCast]
    rfl
  rw [e]
  simp
theorem bt_head (c : UInt8) (t : List UInt8) : bt (B (c :: t)) 0 = (c.toNat : Int) := bt_mid [] c t
theorem w64 {n : Int} (h0 : -9223372036854775808 ≤ n) (h1 : n ≤ 9223372036854775807) : wrap64 n = n := by unfold wrap64; omega

theorem strOfNums_bytes (l : List UInt8) : strOfNums (l.map fun b => (b.toNat : Int)) = B l := by
  unfold strOfNums B
  congr 1
  simp [List.map_map, Function.comp_def]
theorem strOfNums_nat (xs : List Int) : strOfNums xs = B (xs.map fun n => UInt8.ofNat n.toNat) := rfl
theorem u8lt (c : UInt8) : c.toNat < 256 := c.toNat_lt
end Go.Proofs.YthhpeeckiggpaaaDoor.Pu
