/-
  DERIVED: THE SHELF's CONTRACTS AT THIS DUMP, IN PLAIN WORDS (tools/lay-plain.mjs out of 'TrydShelf.lean', which tools/lay-shelf.mjs wrote): THE SAME DECLARATIONS UNDER THE SAME NAMES: 'import', 'namespace', 'open', 'def', 'theorem' AND NOTHING ELSE: no command of the shelf's: FOR A HAND-IN. Each laying: the table of numbers ('.._ren') and one theorem, a field a fact of the dump's own or the kernel's comparison; each contract: ONE APPLICATION.
-/
import Derived.Shelf.Strings.Builder1
import Derived.Shelf.Strings.Builder2
import Derived.Shelf.Small.Utf8
import Derived.Shelf.Small.Strs
import Derived.Shelf.Strings.BuilderF
import Derived.Shelf.Strings.BuilderK
import Derived.Shelf.Utf8.RuneCount
import Derived.Shelf.Strconv.Itoa0
import Derived.Shelf.Strconv.Itoa1
import Derived.Shelf.LaysM
import Derived.Shelf.Strconv.Itoa2
import Derived.Shelf.Strconv.Itoa3
import Derived.Shelf.Strconv.Clone
import Derived.Shelf.Strconv.SyntaxError
import Derived.Shelf.LaysC
import Derived.Shelf.Strconv.ToError
import Derived.Shelf.Strconv.Lower
import Derived.Shelf.Strconv.ParseUint10
import Derived.Shelf.Strconv.ParseUint10Empty
import Derived.Shelf.Strconv.ParseUint10Any
import Derived.Shelf.Strconv.RangeError
import Derived.Shelf.Strconv.ToErrorRange
import Derived.Shelf.Strconv.ParseUintEmpty
import Derived.Shelf.Strconv.ParseUint10b64
import Derived.Shelf.Strconv.ParseUint10b32
import Derived.Shelf.Strconv.ParseUint10b16
import Derived.Shelf.Strconv.ParseUint10b8
import Derived.Shelf.Strconv.ParseUint10At
import Derived.Ground.MpProg
import Derived.Shelf.Pu.ParseUintPublic10
import Derived.Shelf.Pu.ErrVarParseUint
import Derived.Shelf.Strings.Search1
import Derived.Shelf.Strings.Search2
import Derived.Shelf.Strings.Search3
import Derived.Shelf.Strings.Count
import Derived.Shelf.Strings.Shaped
import Derived.Shelf.Strings.Prefix
import Derived.Shelf.Strings.Split
import Derived.Shelf.Strings.Replace
import Derived.Shelf.Strings.SplitShaped
import Derived.Shelf.Unicode.Decode
import Derived.Shelf.Strings.Runes
import Derived.Shelf.Strings.RuneCount
import Derived.Shelf.Strings.IndexAny
import Derived.Shelf.Strings.AsciiSet
import Derived.Shelf.Strings.IndexAnyAll
import Derived.Shelf.Unicode.DecodeSlow
import Derived.Shelf.Unicode.DecodeAny
import Derived.Test.YthmcapdakplhdaaDoorProg
namespace Go.Proofs
open Go.Shelf
def Tryd.laysPu14_ren : Go.Shelf.Ren := ⟨fun | 14 => 65 | 16 => 78 | 17 => 79 | 19 => 96 | 20 => 97 | 21 => 98 | 22 => 99 | 23 => 100 | 24 => 101 | 25 => 113 | 27 => 115 | 26 => 114 | 28 => 120 | 29 => 123 | 30 => 124 | 31 => 125 | 32 => 126 | 33 => 127 | 35 => 129 | 34 => 128 | 36 => 130 | 37 => 131 | 38 => 132 | 39 => 133 | 40 => 134 | n => n, fun | 9 => 9 | 3 => 3 | 22 => 104 | 24 => 83 | 25 => 105 | 4 => 4 | 34 => 131 | 5 => 5 | 36 => 109 | 37 => 39 | 0 => 0 | 39 => 133 | 21 => 21 | 44 => 143 | 47 => 103 | 50 => 152 | 48 => 150 | 2 => 2 | 52 => 157 | 55 => 160 | 59 => 163 | 60 => 153 | 20 => 20 | 61 => 164 | 65 => 167 | 66 => 168 | 67 => 89 | n => n, fun | 0 => 1 | 1 => 2 | 2 => 6 | 3 => 7 | 4 => 8 | n => n⟩
theorem Tryd.laysPu14 : Go.Proofs.LaysPu.n14 Tryd.prog Tryd.laysPu14_ren := {
  mixed := by kernel_rfl
  f14 := Tryd.func65.trans (congrArg some (by kernel_rfl))
  f16 := Tryd.func78.trans (congrArg some (by kernel_rfl))
  f17 := Tryd.func79.trans (congrArg some (by kernel_rfl))
  f19 := Tryd.func96.trans (congrArg some (by kernel_rfl))
  f20 := Tryd.func97.trans (congrArg some (by kernel_rfl))
  f21 := Tryd.func98.trans (congrArg some (by kernel_rfl))
  f22 := Tryd.func99.trans (congrArg some (by kernel_rfl))
  f23 := Tryd.func100.trans (congrArg some (by kernel_rfl))
  f24 := Tryd.func101.trans (congrArg some (by kernel_rfl))
  f25 := Tryd.func113.trans (congrArg some (by kernel_rfl))
  f26 := Tryd.func114.trans (congrArg some (by kernel_rfl))
  f27 := Tryd.func115.trans (congrArg some (by kernel_rfl))
  f28 := Tryd.func120.trans (congrArg some (by kernel_rfl))
  f29 := Tryd.func123.trans (congrArg some (by kernel_rfl))
  f30 := Tryd.func124.trans (congrArg some (by kernel_rfl))
  f31 := Tryd.func125.trans (congrArg some (by kernel_rfl))
  f32 := Tryd.func126.trans (congrArg some (by kernel_rfl))
  f33 := Tryd.func127.trans (congrArg some (by kernel_rfl))
  f34 := Tryd.func128.trans (congrArg some (by kernel_rfl))
  f35 := Tryd.func129.trans (congrArg some (by kernel_rfl))
  f36 := Tryd.func130.trans (congrArg some (by kernel_rfl))
  f37 := Tryd.func131.trans (congrArg some (by kernel_rfl))
  f38 := Tryd.func132.trans (congrArg some (by kernel_rfl))
  f39 := Tryd.func133.trans (congrArg some (by kernel_rfl))
  f40 := Tryd.func134.trans (congrArg some (by kernel_rfl))
  t0 := Tryd.underlying0
  a0 := Tryd.isAgg0
  z0 := Tryd.sizeOf0
  v0 := Tryd.zeroValue0
  i0 := by kernel_rfl
  t2 := Tryd.underlying2
  a2 := Tryd.isAgg2
  z2 := Tryd.sizeOf2
  v2 := Tryd.zeroValue2
  i2 := by kernel_rfl
  t3 := Tryd.underlying3
  a3 := Tryd.isAgg3
  z3 := Tryd.sizeOf3
  v3 := Tryd.zeroValue3
  i3 := by kernel_rfl
  t4 := Tryd.underlying4
  a4 := Tryd.isAgg4
  z4 := Tryd.sizeOf4
  v4 := Tryd.zeroValue4
  i4 := by kernel_rfl
  t5 := Tryd.underlying5
  a5 := Tryd.isAgg5
  z5 := Tryd.sizeOf5
  v5 := Tryd.zeroValue5
  i5 := by kernel_rfl
  t9 := Tryd.underlying9
  a9 := Tryd.isAgg9
  z9 := Tryd.sizeOf9
  v9 := Tryd.zeroValue9
  i9 := by kernel_rfl
  t20 := Tryd.underlying20
  a20 := Tryd.isAgg20
  z20 := Tryd.sizeOf20
  v20 := Tryd.zeroValue20
  i20 := by kernel_rfl
  t21 := Tryd.underlying21
  a21 := Tryd.isAgg21
  z21 := Tryd.sizeOf21
  v21 := Tryd.zeroValue21
  i21 := by kernel_rfl
  t22 := Tryd.underlying104
  a22 := Tryd.isAgg104
  z22 := Tryd.sizeOf104
  v22 := Tryd.zeroValue104
  i22 := by kernel_rfl
  t24 := Tryd.underlying83
  a24 := Tryd.isAgg83
  z24 := Tryd.sizeOf83
  v24 := Tryd.zeroValue83
  i24 := by kernel_rfl
  t25 := Tryd.underlying105
  a25 := Tryd.isAgg105
  z25 := Tryd.sizeOf105
  v25 := Tryd.zeroValue105
  i25 := by kernel_rfl
  t34 := Tryd.underlying131
  a34 := Tryd.isAgg131
  z34 := Tryd.sizeOf131
  v34 := Tryd.zeroValue131
  i34 := by kernel_rfl
  c34 := by kernel_rfl
  t36 := Tryd.underlying109
  a36 := Tryd.isAgg109
  z36 := Tryd.sizeOf109
  v36 := Tryd.zeroValue109
  i36 := by kernel_rfl
  t37 := Tryd.underlying39
  a37 := Tryd.isAgg39
  z37 := Tryd.sizeOf39
  v37 := Tryd.zeroValue39
  i37 := by kernel_rfl
  t39 := Tryd.underlying133
  a39 := Tryd.isAgg133
  z39 := Tryd.sizeOf133
  v39 := Tryd.zeroValue133
  i39 := by kernel_rfl
  t44 := Tryd.underlying143
  a44 := Tryd.isAgg143
  z44 := Tryd.sizeOf143
  v44 := Tryd.zeroValue143
  i44 := by kernel_rfl
  t47 := Tryd.underlying103
  a47 := Tryd.isAgg103
  z47 := Tryd.sizeOf103
  v47 := Tryd.zeroValue103
  i47 := by kernel_rfl
  t48 := Tryd.underlying150
  a48 := Tryd.isAgg150
  z48 := Tryd.sizeOf150
  v48 := Tryd.zeroValue150
  i48 := by kernel_rfl
  t50 := Tryd.underlying152
  a50 := Tryd.isAgg152
  z50 := Tryd.sizeOf152
  v50 := Tryd.zeroValue152
  i50 := by kernel_rfl
  t52 := Tryd.underlying157
  a52 := Tryd.isAgg157
  z52 := Tryd.sizeOf157
  v52 := Tryd.zeroValue157
  i52 := by kernel_rfl
  t55 := Tryd.underlying160
  a55 := Tryd.isAgg160
  z55 := Tryd.sizeOf160
  v55 := Tryd.zeroValue160
  i55 := by kernel_rfl
  t59 := Tryd.underlying163
  a59 := Tryd.isAgg163
  z59 := Tryd.sizeOf163
  v59 := Tryd.zeroValue163
  i59 := by kernel_rfl
  t60 := Tryd.underlying153
  a60 := Tryd.isAgg153
  z60 := Tryd.sizeOf153
  v60 := Tryd.zeroValue153
  i60 := by kernel_rfl
  t61 := Tryd.underlying164
  a61 := Tryd.isAgg164
  z61 := Tryd.sizeOf164
  t65 := Tryd.underlying167
  a65 := Tryd.isAgg167
  z65 := Tryd.sizeOf167
  v65 := Tryd.zeroValue167
  i65 := by kernel_rfl
  t66 := Tryd.underlying168
  a66 := Tryd.isAgg168
  z66 := Tryd.sizeOf168
  v66 := Tryd.zeroValue168
  i66 := by kernel_rfl
  t67 := Tryd.underlying89
  a67 := Tryd.isAgg89
  z67 := Tryd.sizeOf89
  v67 := Tryd.zeroValue89
  i67 := by kernel_rfl
  g0 := by kernel_rfl
  m0 := by kernel_rfl
  g1 := by kernel_rfl
  m1 := by kernel_rfl
  g2 := by kernel_rfl
  m2 := by kernel_rfl
  g3 := by kernel_rfl
  m3 := by kernel_rfl
  g4 := by kernel_rfl
  m4 := by kernel_rfl }
open Go.RowKit in
/-- strconv.ParseUint(s, 10, 64), AT EVERY STRING THAT SPELLS A uint64 ('Lib.parseUintB 64 s.data.toList = .ok u'): u, AND NO ERROR. (LAID: no walk: one application.) -/
theorem Tryd.strconv_ParseUint_10_at64_ok (s : ByteArray) (hmax : s.size ≤ 9223372036854775806) (u : Nat) (h : Lib.parseUintB 64 s.data.toList = .ok u) (w : World) :
    Calls Tryd.prog 65 #[.string s, .int .i64 10, .int .i64 64] w fun e w' => e = .returned (.tuple #[.int .u64 u, .nilIface]) ∧ (w' = w ∨ w' = Lib.bytesWorld w 5 s) := Any.strconv_ParseUint_10_at64_ok Tryd.laysPu14 s hmax u h w
open Go.RowKit in
/-- strconv.ParseUint(s, 10, 64), AT EVERY NUMERAL THAT NO uint64 HOLDS: THE GREATEST uint64, AND AN ERROR THAT IS NOT nil: a *NumError in a new block N: {Func: "ParseUint", Num: s's bytes, Err: what the variable ErrRange holds}. Of what was there nothing has turned. (LAID: no walk: one application.) -/
theorem Tryd.strconv_ParseUint_10_at64_range (s : ByteArray) (hlim : s.size ≤ 281474976710656) (h : Lib.parseUintB 64 s.data.toList = .range) (ev : Value) (w : World) (hv : w.cell? ⟨2, 0, none⟩ = some ev) (hev : ev = .nilIface ∨ ∃ te pe, ev = .iface te pe) :
    Calls Tryd.prog 65 #[.string s, .int .i64 10, .int .i64 64] w fun e w' => ∃ N, e = .returned (.tuple #[.int .u64 18446744073709551615, .iface 133 (.pointer (some ⟨N, 0, none⟩))]) ∧ w.heap.size ≤ N ∧ w'.heap[N]? = some (.cells #[.string ⟨#[80, 97, 114, 115, 101, 85, 105, 110, 116]⟩, .string s, ev] 143 (0, 0)) ∧ Below w.heap.size w w' := Any.strconv_ParseUint_10_at64_range Tryd.laysPu14 s hlim h ev w hv hev

end Go.Proofs
