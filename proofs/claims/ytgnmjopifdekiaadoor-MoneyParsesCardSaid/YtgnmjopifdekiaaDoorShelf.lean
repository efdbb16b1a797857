/-
  DERIVED: THE SHELF's CONTRACTS AT THIS DUMP, IN PLAIN WORDS (tools/lay-plain.mjs out of 'TrydShelf.lean', which tools/lay-shelf.mjs wrote): THE SAME DECLARATIONS UNDER THE SAME NAMES: 'import', 'namespace', 'open', 'def', 'theorem' AND NOTHING ELSE: no command of the shelf's: FOR A HAND-IN. Each laying: the table of numbers ('.._ren') and one theorem, a field a fact of the dump's own or the kernel's comparison; each contract: ONE APPLICATION.
-/
import Derived.Shelf.Strings.Builder1
import Derived.Shelf.Strings.Builder2
import Derived.Shelf.Small.Bits
import Derived.Shelf.Strings.BuilderF
import Derived.Shelf.Strings.BuilderK
import Derived.Shelf.Utf8.RuneCount
import Derived.Shelf.Strings.Builder2Cap
import Derived.Shelf.Strconv.Itoa0
import Derived.Shelf.Strconv.Itoa1
import Derived.Shelf.LaysM
import Derived.Shelf.Strconv.Itoa2
import Derived.Shelf.Strconv.Itoa3
import Derived.Shelf.Strconv.Itoa4
import Derived.Shelf.Strconv.ParseIntEmpty
import Derived.Shelf.Strconv.Clone
import Derived.Shelf.Strconv.SyntaxError
import Derived.Shelf.LaysC
import Derived.Shelf.Strconv.ToError
import Derived.Shelf.Strconv.Lower
import Derived.Shelf.Strconv.ParseUint10
import Derived.Shelf.Strconv.ParseUint10Empty
import Derived.Shelf.Strconv.ParseUint10Any
import Derived.Shelf.Strconv.ParseInt10
import Derived.Shelf.Strconv.RangeError
import Derived.Shelf.Strconv.ToErrorRange
import Derived.Shelf.Strconv.ParseUintEmpty
import Derived.Shelf.Strconv.ParseUint10b64
import Derived.Shelf.Strconv.ParseUint10b32
import Derived.Shelf.Strconv.ParseUint10b16
import Derived.Shelf.Strconv.ParseUint10b8
import Derived.Shelf.Strconv.ParseUint10At
import Derived.Shelf.Strconv.ParseInt10At64
import Derived.Shelf.Strconv.ParseInt10At32
import Derived.Shelf.Strconv.ParseInt10At16
import Derived.Shelf.Strconv.ParseInt10At8
import Derived.Shelf.Strconv.ParseInt10All
import Derived.Shelf.Strconv.ParseIntPublic10
import Derived.Shelf.Strconv.ErrVarParseInt
import Derived.Shelf.Strings.Search1
import Derived.Shelf.Strings.Search2
import Derived.Shelf.Strings.Search3
import Derived.Shelf.Strings.Cut
import Derived.Shelf.Strings.Count
import Derived.Shelf.Strings.Shaped
import Derived.Shelf.GgClosure.StringsIndexFunc
import Derived.Ground.GgwProg
import Derived.Shelf.GgClosure.StringsIndexFuncTop
import Derived.Shelf.GgClosure.StringsRunes
import Derived.Shelf.Strings.Prefix
import Derived.Shelf.Strings.Split
import Derived.Shelf.Strings.Replace
import Derived.Shelf.Strings.SplitShaped
import Derived.Shelf.Unicode.Decode
import Derived.Shelf.Strings.RuneCount
import Derived.Shelf.Bits.Mul64
import Derived.Shelf.Strings.Repeat
import Derived.Shelf.Unicode.DecodeSlow
import Derived.Shelf.Unicode.DecodeAny
import Derived.Shelf.Strings.FuncGrows
import Derived.Shelf.Strings.BuilderCap
import Derived.Test.YtgnmjopifdekiaaDoorProg
namespace Go.Proofs
open Go.Shelf
def Tryd.lays134_ren : Go.Shelf.Ren := ⟨fun | 134 => 53 | 129 => 70 | n => n, fun | 53 => 53 | 3 => 3 | 4 => 4 | 46 => 73 | 5 => 5 | 9 => 9 | n => n, fun | n => n⟩
theorem Tryd.lays134 : Go.Proofs.Lays.n134 Tryd.prog Tryd.lays134_ren := {
  mixed := by kernel_rfl
  f129 := Tryd.func70.trans (congrArg some (by kernel_rfl))
  f134 := Tryd.func53.trans (congrArg some (by kernel_rfl))
  t3 := Tryd.underlying3
  a3 := Tryd.isAgg3
  z3 := Tryd.sizeOf3
  v3 := Tryd.zeroValue3
  t4 := Tryd.underlying4
  a4 := Tryd.isAgg4
  z4 := Tryd.sizeOf4
  v4 := Tryd.zeroValue4
  t5 := Tryd.underlying5
  a5 := Tryd.isAgg5
  z5 := Tryd.sizeOf5
  v5 := Tryd.zeroValue5
  t9 := Tryd.underlying9
  a9 := Tryd.isAgg9
  z9 := Tryd.sizeOf9
  v9 := Tryd.zeroValue9
  t46 := Tryd.underlying73
  a46 := Tryd.isAgg73
  z46 := Tryd.sizeOf73
  v46 := Tryd.zeroValue73
  t53 := Tryd.underlying53
  a53 := Tryd.isAgg53
  z53 := Tryd.sizeOf53
  v53 := Tryd.zeroValue53 }
/-- bits.LeadingZeros64: "LeadingZeros64 returns the number of leading zero bits in x; the result is 64 for x == 0.": IT RETURNS '64 - Lib.bitLen x'; the world is as it was. ITS CALLEE bits.Len64 IS MET BY ITS OWN CONTRACT OFF THE SHELF (lay that first): entered in place it sends the kernel out of memory. (LAID: no walk: one application.) -/
theorem Tryd.bits_LeadingZeros64 (x : Int) (w : World) (h0 : 0 ≤ x) (h1 : x ≤ 18446744073709551615) :
    Calls Tryd.prog 53 #[.int .u64 x] w fun e w' => e = .returned (.int .i64 (64 - (Lib.bitLen x.toNat : Int))) ∧ w' = w := Any.bits_LeadingZeros64 Tryd.lays134 x w h0 h1
def Tryd.laysM173_ren : Go.Shelf.Ren := ⟨fun | 173 => 36 | 246 => 54 | 283 => 71 | 284 => 72 | 285 => 73 | 286 => 74 | 129 => 70 | 317 => 89 | 318 => 90 | 319 => 91 | 320 => 92 | 337 => 105 | 338 => 106 | n => n, fun | 2 => 2 | 3 => 3 | 9 => 9 | 4 => 4 | 171 => 96 | 0 => 0 | 53 => 53 | 37 => 79 | 5 => 5 | 173 => 98 | 212 => 113 | 51 => 32 | 20 => 20 | 213 => 114 | 46 => 73 | 232 => 135 | 233 => 136 | n => n, fun | 17 => 2 | 18 => 8 | 19 => 9 | n => n⟩
theorem Tryd.laysM173 : Go.Proofs.LaysM.n173 Tryd.prog Tryd.laysM173_ren := {
  mixed := by kernel_rfl
  f129 := Tryd.func70.trans (congrArg some (by kernel_rfl))
  f173 := Tryd.func36.trans (congrArg some (by kernel_rfl))
  f246 := Tryd.func54.trans (congrArg some (by kernel_rfl))
  f283 := Tryd.func71.trans (congrArg some (by kernel_rfl))
  f284 := Tryd.func72.trans (congrArg some (by kernel_rfl))
  f285 := Tryd.func73.trans (congrArg some (by kernel_rfl))
  f286 := Tryd.func74.trans (congrArg some (by kernel_rfl))
  f317 := Tryd.func89.trans (congrArg some (by kernel_rfl))
  f318 := Tryd.func90.trans (congrArg some (by kernel_rfl))
  f319 := Tryd.func91.trans (congrArg some (by kernel_rfl))
  f320 := Tryd.func92.trans (congrArg some (by kernel_rfl))
  f337 := Tryd.func105.trans (congrArg some (by kernel_rfl))
  f338 := Tryd.func106.trans (congrArg some (by kernel_rfl))
  t0 := Tryd.underlying0
  a0 := Tryd.isAgg0
  z0 := Tryd.sizeOf0
  v0 := Tryd.zeroValue0
  t2 := Tryd.underlying2
  a2 := Tryd.isAgg2
  z2 := Tryd.sizeOf2
  v2 := Tryd.zeroValue2
  t3 := Tryd.underlying3
  a3 := Tryd.isAgg3
  z3 := Tryd.sizeOf3
  v3 := Tryd.zeroValue3
  t4 := Tryd.underlying4
  a4 := Tryd.isAgg4
  z4 := Tryd.sizeOf4
  v4 := Tryd.zeroValue4
  t5 := Tryd.underlying5
  a5 := Tryd.isAgg5
  z5 := Tryd.sizeOf5
  v5 := Tryd.zeroValue5
  t9 := Tryd.underlying9
  a9 := Tryd.isAgg9
  z9 := Tryd.sizeOf9
  v9 := Tryd.zeroValue9
  t20 := Tryd.underlying20
  a20 := Tryd.isAgg20
  z20 := Tryd.sizeOf20
  v20 := Tryd.zeroValue20
  t37 := Tryd.underlying79
  a37 := Tryd.isAgg79
  z37 := Tryd.sizeOf79
  v37 := Tryd.zeroValue79
  t46 := Tryd.underlying73
  a46 := Tryd.isAgg73
  z46 := Tryd.sizeOf73
  v46 := Tryd.zeroValue73
  t51 := Tryd.underlying32
  a51 := Tryd.isAgg32
  z51 := Tryd.sizeOf32
  v51 := Tryd.zeroValue32
  t53 := Tryd.underlying53
  a53 := Tryd.isAgg53
  z53 := Tryd.sizeOf53
  v53 := Tryd.zeroValue53
  t171 := Tryd.underlying96
  a171 := Tryd.isAgg96
  z171 := Tryd.sizeOf96
  v171 := Tryd.zeroValue96
  t173 := Tryd.underlying98
  a173 := Tryd.isAgg98
  z173 := Tryd.sizeOf98
  v173 := Tryd.zeroValue98
  t212 := Tryd.underlying113
  a212 := Tryd.isAgg113
  z212 := Tryd.sizeOf113
  v212 := Tryd.zeroValue113
  t213 := Tryd.underlying114
  a213 := Tryd.isAgg114
  z213 := Tryd.sizeOf114
  t232 := Tryd.underlying135
  a232 := Tryd.isAgg135
  z232 := Tryd.sizeOf135
  v232 := Tryd.zeroValue135
  t233 := Tryd.underlying136
  a233 := Tryd.isAgg136
  z233 := Tryd.sizeOf136
  v233 := Tryd.zeroValue136
  g17 := by kernel_rfl
  g18 := by kernel_rfl
  g19 := by kernel_rfl
  i0 := by kernel_rfl
  i2 := by kernel_rfl
  i3 := by kernel_rfl
  i4 := by kernel_rfl
  i5 := by kernel_rfl
  i9 := by kernel_rfl
  i20 := by kernel_rfl
  i37 := by kernel_rfl
  i46 := by kernel_rfl
  i51 := by kernel_rfl
  i53 := by kernel_rfl
  i171 := by kernel_rfl
  i173 := by kernel_rfl
  i212 := by kernel_rfl
  i232 := by kernel_rfl
  i233 := by kernel_rfl
  m17 := by kernel_rfl
  m18 := by kernel_rfl
  m19 := by kernel_rfl }
open Go.RowKit Go.Sort Go.Lib in
/-- strconv.FormatInt: "FormatInt returns the string representation of i in the given base": AT BASE 10: i's decimal numeral, for every int64. (LAID: no walk: one application.) -/
theorem Tryd.strconv_FormatInt_10 (n : Int) (h0 : -9223372036854775808 ≤ n) (h1 : n ≤ 9223372036854775807) (w : World) (htab : Lib.TabIs Tryd.prog w "internal/strconv.uint64pow10" .u64 Lib.pow10Tab) :
    Calls Tryd.prog 36 #[.int .i64 n, .int .i64 10] w fun e w' => e = .returned (.string ⟨(Lib.itoa n).toArray⟩) ∧ ∃ k os, w' = grow (w.drewN k) os := Any.strconv_FormatInt_10 Tryd.laysM173 n h0 h1 w htab
def Tryd.laysC174_ren : Go.Shelf.Ren := ⟨fun | 174 => 39 | 247 => 62 | 245 => 63 | 287 => 80 | 279 => 81 | 280 => 82 | 281 => 83 | 282 => 84 | 321 => 99 | 322 => 100 | 316 => 101 | 171 => 103 | 205 => 102 | 243 => 109 | 246 => 54 | 283 => 71 | 284 => 72 | 285 => 73 | 286 => 74 | 129 => 70 | 317 => 89 | 318 => 90 | 319 => 91 | 320 => 92 | 337 => 105 | 338 => 106 | n => n, fun | 9 => 9 | 3 => 3 | 2 => 2 | 75 => 65 | 85 => 66 | 4 => 4 | 167 => 103 | 5 => 5 | 53 => 53 | 175 => 104 | 46 => 73 | 168 => 106 | 37 => 79 | 0 => 0 | 210 => 123 | 21 => 21 | 127 => 102 | 145 => 134 | 143 => 132 | 171 => 96 | 173 => 98 | 212 => 113 | 51 => 32 | 20 => 20 | 213 => 114 | 232 => 135 | 233 => 136 | 80 => 86 | n => n, fun | 15 => 4 | 16 => 5 | 17 => 2 | 18 => 8 | 19 => 9 | n => n⟩
theorem Tryd.laysC174 : Go.Proofs.LaysC.n174 Tryd.prog Tryd.laysC174_ren := {
  mixed := by kernel_rfl
  f129 := Tryd.func70.trans (congrArg some (by kernel_rfl))
  f171 := Tryd.func103.trans (congrArg some (by kernel_rfl))
  f174 := Tryd.func39.trans (congrArg some (by kernel_rfl))
  f205 := Tryd.func102.trans (congrArg some (by kernel_rfl))
  f243 := Tryd.func109.trans (congrArg some (by kernel_rfl))
  f245 := Tryd.func63.trans (congrArg some (by kernel_rfl))
  f246 := Tryd.func54.trans (congrArg some (by kernel_rfl))
  f247 := Tryd.func62.trans (congrArg some (by kernel_rfl))
  f279 := Tryd.func81.trans (congrArg some (by kernel_rfl))
  f280 := Tryd.func82.trans (congrArg some (by kernel_rfl))
  f281 := Tryd.func83.trans (congrArg some (by kernel_rfl))
  f282 := Tryd.func84.trans (congrArg some (by kernel_rfl))
  f283 := Tryd.func71.trans (congrArg some (by kernel_rfl))
  f284 := Tryd.func72.trans (congrArg some (by kernel_rfl))
  f285 := Tryd.func73.trans (congrArg some (by kernel_rfl))
  f286 := Tryd.func74.trans (congrArg some (by kernel_rfl))
  f287 := Tryd.func80.trans (congrArg some (by kernel_rfl))
  f316 := Tryd.func101.trans (congrArg some (by kernel_rfl))
  f317 := Tryd.func89.trans (congrArg some (by kernel_rfl))
  f318 := Tryd.func90.trans (congrArg some (by kernel_rfl))
  f319 := Tryd.func91.trans (congrArg some (by kernel_rfl))
  f320 := Tryd.func92.trans (congrArg some (by kernel_rfl))
  f321 := Tryd.func99.trans (congrArg some (by kernel_rfl))
  f322 := Tryd.func100.trans (congrArg some (by kernel_rfl))
  f337 := Tryd.func105.trans (congrArg some (by kernel_rfl))
  f338 := Tryd.func106.trans (congrArg some (by kernel_rfl))
  t0 := Tryd.underlying0
  a0 := Tryd.isAgg0
  z0 := Tryd.sizeOf0
  v0 := Tryd.zeroValue0
  t2 := Tryd.underlying2
  a2 := Tryd.isAgg2
  z2 := Tryd.sizeOf2
  v2 := Tryd.zeroValue2
  t3 := Tryd.underlying3
  a3 := Tryd.isAgg3
  z3 := Tryd.sizeOf3
  v3 := Tryd.zeroValue3
  t4 := Tryd.underlying4
  a4 := Tryd.isAgg4
  z4 := Tryd.sizeOf4
  v4 := Tryd.zeroValue4
  t5 := Tryd.underlying5
  a5 := Tryd.isAgg5
  z5 := Tryd.sizeOf5
  v5 := Tryd.zeroValue5
  t9 := Tryd.underlying9
  a9 := Tryd.isAgg9
  z9 := Tryd.sizeOf9
  v9 := Tryd.zeroValue9
  t20 := Tryd.underlying20
  a20 := Tryd.isAgg20
  z20 := Tryd.sizeOf20
  v20 := Tryd.zeroValue20
  t21 := Tryd.underlying21
  a21 := Tryd.isAgg21
  z21 := Tryd.sizeOf21
  v21 := Tryd.zeroValue21
  t37 := Tryd.underlying79
  a37 := Tryd.isAgg79
  z37 := Tryd.sizeOf79
  v37 := Tryd.zeroValue79
  t46 := Tryd.underlying73
  a46 := Tryd.isAgg73
  z46 := Tryd.sizeOf73
  v46 := Tryd.zeroValue73
  t51 := Tryd.underlying32
  a51 := Tryd.isAgg32
  z51 := Tryd.sizeOf32
  v51 := Tryd.zeroValue32
  t53 := Tryd.underlying53
  a53 := Tryd.isAgg53
  z53 := Tryd.sizeOf53
  v53 := Tryd.zeroValue53
  t75 := Tryd.underlying65
  a75 := Tryd.isAgg65
  z75 := Tryd.sizeOf65
  v75 := Tryd.zeroValue65
  t85 := Tryd.underlying66
  a85 := Tryd.isAgg66
  z85 := Tryd.sizeOf66
  v85 := Tryd.zeroValue66
  t127 := Tryd.underlying102
  a127 := Tryd.isAgg102
  z127 := Tryd.sizeOf102
  v127 := Tryd.zeroValue102
  t143 := Tryd.underlying132
  a143 := Tryd.isAgg132
  z143 := Tryd.sizeOf132
  v143 := Tryd.zeroValue132
  t145 := Tryd.underlying134
  a145 := Tryd.isAgg134
  z145 := Tryd.sizeOf134
  v145 := Tryd.zeroValue134
  t167 := Tryd.underlying103
  a167 := Tryd.isAgg103
  z167 := Tryd.sizeOf103
  v167 := Tryd.zeroValue103
  t168 := Tryd.underlying106
  a168 := Tryd.isAgg106
  z168 := Tryd.sizeOf106
  v168 := Tryd.zeroValue106
  t171 := Tryd.underlying96
  a171 := Tryd.isAgg96
  z171 := Tryd.sizeOf96
  v171 := Tryd.zeroValue96
  t173 := Tryd.underlying98
  a173 := Tryd.isAgg98
  z173 := Tryd.sizeOf98
  v173 := Tryd.zeroValue98
  t175 := Tryd.underlying104
  a175 := Tryd.isAgg104
  z175 := Tryd.sizeOf104
  v175 := Tryd.zeroValue104
  t210 := Tryd.underlying123
  a210 := Tryd.isAgg123
  z210 := Tryd.sizeOf123
  v210 := Tryd.zeroValue123
  t212 := Tryd.underlying113
  a212 := Tryd.isAgg113
  z212 := Tryd.sizeOf113
  v212 := Tryd.zeroValue113
  t213 := Tryd.underlying114
  a213 := Tryd.isAgg114
  z213 := Tryd.sizeOf114
  t232 := Tryd.underlying135
  a232 := Tryd.isAgg135
  z232 := Tryd.sizeOf135
  v232 := Tryd.zeroValue135
  t233 := Tryd.underlying136
  a233 := Tryd.isAgg136
  z233 := Tryd.sizeOf136
  v233 := Tryd.zeroValue136
  g15 := by kernel_rfl
  g16 := by kernel_rfl
  g17 := by kernel_rfl
  g18 := by kernel_rfl
  g19 := by kernel_rfl
  t80 := Tryd.underlying86
  a80 := Tryd.isAgg86
  z80 := Tryd.sizeOf86
  v80 := Tryd.zeroValue86
  i0 := by kernel_rfl
  i2 := by kernel_rfl
  i3 := by kernel_rfl
  i4 := by kernel_rfl
  i5 := by kernel_rfl
  i9 := by kernel_rfl
  i20 := by kernel_rfl
  i21 := by kernel_rfl
  i37 := by kernel_rfl
  i46 := by kernel_rfl
  i51 := by kernel_rfl
  i53 := by kernel_rfl
  i75 := by kernel_rfl
  i80 := by kernel_rfl
  i85 := by kernel_rfl
  i127 := by kernel_rfl
  i143 := by kernel_rfl
  i145 := by kernel_rfl
  i167 := by kernel_rfl
  i168 := by kernel_rfl
  i171 := by kernel_rfl
  i173 := by kernel_rfl
  i175 := by kernel_rfl
  i210 := by kernel_rfl
  i212 := by kernel_rfl
  i232 := by kernel_rfl
  i233 := by kernel_rfl
  m15 := by kernel_rfl
  m16 := by kernel_rfl
  m17 := by kernel_rfl
  m18 := by kernel_rfl
  m19 := by kernel_rfl
  c0 := by kernel_rfl
  c2 := by kernel_rfl
  c3 := by kernel_rfl
  c4 := by kernel_rfl
  c5 := by kernel_rfl
  c9 := by kernel_rfl
  c20 := by kernel_rfl
  c21 := by kernel_rfl
  c37 := by kernel_rfl
  c46 := by kernel_rfl
  c51 := by kernel_rfl
  c53 := by kernel_rfl
  c75 := by kernel_rfl
  c80 := by kernel_rfl
  c85 := by kernel_rfl
  c127 := by kernel_rfl
  c143 := by kernel_rfl
  c145 := by kernel_rfl
  c167 := by kernel_rfl
  c168 := by kernel_rfl
  c171 := by kernel_rfl
  c173 := by kernel_rfl
  c175 := by kernel_rfl
  c210 := by kernel_rfl
  c212 := by kernel_rfl
  c213 := by kernel_rfl
  c232 := by kernel_rfl
  c233 := by kernel_rfl }
open Go.RowKit in
/-- strconv.ParseInt(s, 10, 64), AT EVERY STRING THAT SPELLS AN int64 ('Lib.parseIntB 64 s.data.toList = .ok v'): v, AND NO ERROR. (LAID: no walk: one application.) -/
theorem Tryd.strconv_ParseInt_10_at64_ok (s : ByteArray) (hmax : s.size ≤ 9223372036854775806) (v : Int) (h : Lib.parseIntB 64 s.data.toList = .ok v) (w : World) :
    Calls Tryd.prog 39 #[.string s, .int .i64 10, .int .i64 64] w fun e w' => e = .returned (.tuple #[.int .i64 v, .nilIface]) ∧ (w' = w ∨ ∃ t, w' = Lib.bytesWorld w 5 t) := Any.strconv_ParseInt_10_at64_ok Tryd.laysC174 s hmax v h w
open Go.RowKit in
theorem Tryd.strconv_ParseInt_10_at64_range_var (s : ByteArray) (hlim : s.size ≤ 281474976710656) (h : Lib.parseIntB 64 s.data.toList = .range) (tp : TypeId) (p : Value) (w : World) (hvar : w.var? Tryd.prog "strconv.ErrRange" = some #[.iface tp p]) :
    Calls Tryd.prog 39 #[.string s, .int .i64 10, .int .i64 64] w fun e w' => ∃ N, e = .returned (.tuple #[.int .i64 (Lib.intSat 64 s.data.toList), .iface 106 (.pointer (some ⟨N, 0, none⟩))]) ∧ w.heap.size ≤ N ∧ w'.heap[N]? = some (.cells #[.string ⟨#[80, 97, 114, 115, 101, 73, 110, 116]⟩, .string s, .iface tp p] 123 (0, 0)) ∧ Below w.heap.size w w' := Any.strconv_ParseInt_10_at64_range_var Tryd.laysC174 s hlim h tp p w hvar
def Tryd.lays145_ren : Go.Shelf.Ren := ⟨fun | 145 => 38 | 220 => 61 | 219 => 79 | 217 => 95 | 225 => 96 | 224 => 97 | 267 => 98 | 266 => 107 | 314 => 108 | n => n, fun | 9 => 9 | 4 => 4 | 59 => 62 | 3 => 3 | 5 => 5 | 46 => 73 | 146 => 100 | 51 => 32 | n => n, fun | 1 => 3 | n => n⟩
theorem Tryd.lays145 : Go.Proofs.Lays.n145 Tryd.prog Tryd.lays145_ren := {
  mixed := by kernel_rfl
  f145 := Tryd.func38.trans (congrArg some (by kernel_rfl))
  f217 := Tryd.func95.trans (congrArg some (by kernel_rfl))
  f219 := Tryd.func79.trans (congrArg some (by kernel_rfl))
  f220 := Tryd.func61.trans (congrArg some (by kernel_rfl))
  f224 := Tryd.func97.trans (congrArg some (by kernel_rfl))
  f225 := Tryd.func96.trans (congrArg some (by kernel_rfl))
  f266 := Tryd.func107.trans (congrArg some (by kernel_rfl))
  f267 := Tryd.func98.trans (congrArg some (by kernel_rfl))
  f314 := Tryd.func108.trans (congrArg some (by kernel_rfl))
  t3 := Tryd.underlying3
  a3 := Tryd.isAgg3
  z3 := Tryd.sizeOf3
  v3 := Tryd.zeroValue3
  t4 := Tryd.underlying4
  a4 := Tryd.isAgg4
  z4 := Tryd.sizeOf4
  v4 := Tryd.zeroValue4
  t5 := Tryd.underlying5
  a5 := Tryd.isAgg5
  z5 := Tryd.sizeOf5
  v5 := Tryd.zeroValue5
  t9 := Tryd.underlying9
  a9 := Tryd.isAgg9
  z9 := Tryd.sizeOf9
  v9 := Tryd.zeroValue9
  t46 := Tryd.underlying73
  a46 := Tryd.isAgg73
  z46 := Tryd.sizeOf73
  v46 := Tryd.zeroValue73
  t51 := Tryd.underlying32
  a51 := Tryd.isAgg32
  z51 := Tryd.sizeOf32
  v51 := Tryd.zeroValue32
  t59 := Tryd.underlying62
  a59 := Tryd.isAgg62
  z59 := Tryd.sizeOf62
  v59 := Tryd.zeroValue62
  t146 := Tryd.underlying100
  a146 := Tryd.isAgg100
  z146 := Tryd.sizeOf100
  v146 := Tryd.zeroValue100
  g1 := by kernel_rfl }
open Go.RowKit Go.Lib in
/-- strings.Cut: "Cut slices s around the first instance of sep, returning the text before and after sep. The found result reports whether sep appears in s. If sep does not appear in s, cut returns s, "", false.": IT RETURNS 'Lib.cut s sep'; the world is as it was but for the count of draws. (LAID: no walk: one application.) -/
theorem Tryd.strings_Cut (s sep : ByteArray) (m : Int) (w : World) (hs : s.size < 4294967281) (hm : w.cell? ⟨3, 0, none⟩ = some (.int .i64 m)) :
    Calls Tryd.prog 38 #[.string s, .string sep] w fun e w' => e = .returned (.tuple #[.string ⟨(Lib.cut s.data.toList sep.data.toList).1.toArray⟩, .string ⟨(Lib.cut s.data.toList sep.data.toList).2.1.toArray⟩, .bool (Lib.cut s.data.toList sep.data.toList).2.2]) ∧ ∃ n, w' = w.drewN n := Any.strings_Cut Tryd.lays145 s sep m w hs hm
def Tryd.laysGw17_ren : Go.Shelf.Ren := ⟨fun | 17 => 67 | 15 => 88 | 20 => 104 | n => n, fun | 9 => 9 | 23 => 92 | 4 => 4 | 3 => 3 | 0 => 0 | 21 => 21 | n => n, fun | n => n⟩
theorem Tryd.laysGw17 : Go.Proofs.LaysGw.n17 Tryd.prog Tryd.laysGw17_ren := {
  mixed := by kernel_rfl
  f15 := Tryd.func88.trans (congrArg some (by kernel_rfl))
  f17 := Tryd.func67.trans (congrArg some (by kernel_rfl))
  f20 := Tryd.func104.trans (congrArg some (by kernel_rfl))
  t0 := Tryd.underlying0
  a0 := Tryd.isAgg0
  z0 := Tryd.sizeOf0
  v0 := Tryd.zeroValue0
  i0 := by kernel_rfl
  t3 := Tryd.underlying3
  a3 := Tryd.isAgg3
  z3 := Tryd.sizeOf3
  v3 := Tryd.zeroValue3
  i3 := by kernel_rfl
  t4 := Tryd.underlying4
  a4 := Tryd.isAgg4
  z4 := Tryd.sizeOf4
  v4 := Tryd.zeroValue4
  i4 := by kernel_rfl
  t9 := Tryd.underlying9
  a9 := Tryd.isAgg9
  z9 := Tryd.sizeOf9
  v9 := Tryd.zeroValue9
  i9 := by kernel_rfl
  t21 := Tryd.underlying21
  a21 := Tryd.isAgg21
  z21 := Tryd.sizeOf21
  v21 := Tryd.zeroValue21
  i21 := by kernel_rfl
  t23 := Tryd.underlying92
  a23 := Tryd.isAgg92
  z23 := Tryd.sizeOf92
  v23 := Tryd.zeroValue92
  i23 := by kernel_rfl }
open Go.RowKit Go.Lib in
theorem Tryd.strings_ContainsFunc (g : Nat) (lb : Array Value) (eg : ∀ args w, (callFunc g args).run Tryd.prog w = .ok (.enter g args) w) (p : Nat → Bool) (s : ByteArray) (w : World) (hp : PredAt Tryd.prog g lb encR p w) :
    Calls Tryd.prog 67 #[.string s, .func (.func g) #[] lb] w fun e w' => e = .returned (.bool (decide (0 ≤ Lib.idxFunc p true s))) ∧ Below w.heap.size w w' := Any.strings_ContainsFunc Tryd.laysGw17 g lb eg p s w hp
def Tryd.lays154_ren : Go.Shelf.Ren := ⟨fun | 154 => 40 | 138 => 64 | 165 => 57 | 143 => 65 | 166 => 58 | 197 => 66 | 169 => 60 | 195 => 85 | 218 => 86 | 240 => 77 | 241 => 78 | 219 => 79 | 260 => 87 | 276 => 93 | 277 => 94 | 217 => 95 | 225 => 96 | 224 => 97 | 267 => 98 | 266 => 107 | 314 => 108 | n => n, fun | 9 => 9 | 3 => 3 | 4 => 4 | 72 => 81 | 0 => 0 | 76 => 83 | 105 => 89 | 21 => 21 | 5 => 5 | 70 => 78 | 20 => 20 | 37 => 79 | 75 => 65 | 127 => 102 | 164 => 117 | 46 => 73 | 119 => 125 | 139 => 128 | 138 => 127 | 146 => 100 | 51 => 32 | 80 => 86 | n => n, fun | 1 => 3 | 3 => 6 | 4 => 7 | n => n⟩
theorem Tryd.lays154 : Go.Proofs.Lays.n154 Tryd.prog Tryd.lays154_ren := {
  mixed := by kernel_rfl
  f138 := Tryd.func64.trans (congrArg some (by kernel_rfl))
  f143 := Tryd.func65.trans (congrArg some (by kernel_rfl))
  f154 := Tryd.func40.trans (congrArg some (by kernel_rfl))
  f165 := Tryd.func57.trans (congrArg some (by kernel_rfl))
  f166 := Tryd.func58.trans (congrArg some (by kernel_rfl))
  f169 := Tryd.func60.trans (congrArg some (by kernel_rfl))
  f195 := Tryd.func85.trans (congrArg some (by kernel_rfl))
  f197 := Tryd.func66.trans (congrArg some (by kernel_rfl))
  f217 := Tryd.func95.trans (congrArg some (by kernel_rfl))
  f218 := Tryd.func86.trans (congrArg some (by kernel_rfl))
  f219 := Tryd.func79.trans (congrArg some (by kernel_rfl))
  f224 := Tryd.func97.trans (congrArg some (by kernel_rfl))
  f225 := Tryd.func96.trans (congrArg some (by kernel_rfl))
  f240 := Tryd.func77.trans (congrArg some (by kernel_rfl))
  f241 := Tryd.func78.trans (congrArg some (by kernel_rfl))
  f260 := Tryd.func87.trans (congrArg some (by kernel_rfl))
  f266 := Tryd.func107.trans (congrArg some (by kernel_rfl))
  f267 := Tryd.func98.trans (congrArg some (by kernel_rfl))
  f276 := Tryd.func93.trans (congrArg some (by kernel_rfl))
  f277 := Tryd.func94.trans (congrArg some (by kernel_rfl))
  f314 := Tryd.func108.trans (congrArg some (by kernel_rfl))
  t0 := Tryd.underlying0
  a0 := Tryd.isAgg0
  z0 := Tryd.sizeOf0
  v0 := Tryd.zeroValue0
  t3 := Tryd.underlying3
  a3 := Tryd.isAgg3
  z3 := Tryd.sizeOf3
  v3 := Tryd.zeroValue3
  t4 := Tryd.underlying4
  a4 := Tryd.isAgg4
  z4 := Tryd.sizeOf4
  v4 := Tryd.zeroValue4
  t5 := Tryd.underlying5
  a5 := Tryd.isAgg5
  z5 := Tryd.sizeOf5
  v5 := Tryd.zeroValue5
  t9 := Tryd.underlying9
  a9 := Tryd.isAgg9
  z9 := Tryd.sizeOf9
  v9 := Tryd.zeroValue9
  t20 := Tryd.underlying20
  a20 := Tryd.isAgg20
  z20 := Tryd.sizeOf20
  v20 := Tryd.zeroValue20
  t21 := Tryd.underlying21
  a21 := Tryd.isAgg21
  z21 := Tryd.sizeOf21
  v21 := Tryd.zeroValue21
  t37 := Tryd.underlying79
  a37 := Tryd.isAgg79
  z37 := Tryd.sizeOf79
  v37 := Tryd.zeroValue79
  t46 := Tryd.underlying73
  a46 := Tryd.isAgg73
  z46 := Tryd.sizeOf73
  v46 := Tryd.zeroValue73
  t51 := Tryd.underlying32
  a51 := Tryd.isAgg32
  z51 := Tryd.sizeOf32
  v51 := Tryd.zeroValue32
  t70 := Tryd.underlying78
  a70 := Tryd.isAgg78
  z70 := Tryd.sizeOf78
  v70 := Tryd.zeroValue78
  t72 := Tryd.underlying81
  a72 := Tryd.isAgg81
  z72 := Tryd.sizeOf81
  v72 := Tryd.zeroValue81
  t75 := Tryd.underlying65
  a75 := Tryd.isAgg65
  z75 := Tryd.sizeOf65
  v75 := Tryd.zeroValue65
  t76 := Tryd.underlying83
  a76 := Tryd.isAgg83
  z76 := Tryd.sizeOf83
  v76 := Tryd.zeroValue83
  t105 := Tryd.underlying89
  a105 := Tryd.isAgg89
  z105 := Tryd.sizeOf89
  v105 := Tryd.zeroValue89
  t119 := Tryd.underlying125
  a119 := Tryd.isAgg125
  z119 := Tryd.sizeOf125
  t127 := Tryd.underlying102
  a127 := Tryd.isAgg102
  z127 := Tryd.sizeOf102
  v127 := Tryd.zeroValue102
  t138 := Tryd.underlying127
  a138 := Tryd.isAgg127
  z138 := Tryd.sizeOf127
  v138 := Tryd.zeroValue127
  t139 := Tryd.underlying128
  a139 := Tryd.isAgg128
  z139 := Tryd.sizeOf128
  v139 := Tryd.zeroValue128
  t146 := Tryd.underlying100
  a146 := Tryd.isAgg100
  z146 := Tryd.sizeOf100
  v146 := Tryd.zeroValue100
  t164 := Tryd.underlying117
  a164 := Tryd.isAgg117
  z164 := Tryd.sizeOf117
  v164 := Tryd.zeroValue117
  g1 := by kernel_rfl
  g3 := by kernel_rfl
  g4 := by kernel_rfl }
theorem Tryd.Builder_Extra_154 : Builder.Extra Tryd.prog Tryd.lays154_ren := {
  sizeBuilder := by kernel_rfl
  liesBuilder := by kernel_rfl
  t5 := Tryd.underlying5
  a5 := Tryd.isAgg5
  z5 := Tryd.sizeOf5
  v5 := Tryd.zeroValue5
  infoByte := by kernel_rfl
  cellsByte := by kernel_rfl
  sizeByte := by kernel_rfl
  neB5 := by decide }
open Go.RowKit Go.Lib in
/-- strings.Replace: "Replace returns a copy of the string s with the first n non-overlapping instances of old replaced by new. .. If n < 0, there is no limit on the number of replacements.": AT AN old THAT IS NOT EMPTY: IT RETURNS 'Lib.replace s old new n'. Below the heap's end the world is as it was. IT ASKS, as strings.Index's contract: 'len(s) < 4294967281', 'hm'; and that what comes out has room: 'len(s) + Count(s, old) * len(new) ≤ 2^47'. (LAID: no walk: one application.) -/
theorem Tryd.strings_Replace (s old new : ByteArray) (n : Int) (m : Int) (w : World) (hs : s.size < 4294967281) (hm : w.cell? ⟨3, 0, none⟩ = some (.int .i64 m)) (h1 : 1 ≤ old.size) (hlen : s.size + Lib.countB s old * new.size ≤ 140737488355328) :
    Calls Tryd.prog 40 #[.string s, .string old, .string new, .int .i64 n] w fun e w' =>
      e = .returned (.string ⟨(Lib.replace s.data.toList old.data.toList new.data.toList n).toArray⟩) ∧ Below w.heap.size w w' := Any.strings_Replace Tryd.lays154 Tryd.Builder_Extra_154 s old new n m w hs hm h1 hlen
def Tryd.lays264_ren : Go.Shelf.Ren := ⟨fun | 264 => 30 | n => n, fun | 53 => 53 | 46 => 73 | n => n, fun | n => n⟩
theorem Tryd.lays264 : Go.Proofs.Lays.n264 Tryd.prog Tryd.lays264_ren := {
  mixed := by kernel_rfl
  f264 := Tryd.func30.trans (congrArg some (by kernel_rfl))
  t46 := Tryd.underlying73
  a46 := Tryd.isAgg73
  z46 := Tryd.sizeOf73
  v46 := Tryd.zeroValue73
  t53 := Tryd.underlying53
  a53 := Tryd.isAgg53
  z53 := Tryd.sizeOf53
  v53 := Tryd.zeroValue53 }
open Go.RowKit Go.Lib in
theorem Tryd.bits_Mul64 (x y : Nat) (hx : x < 18446744073709551616) (hy : y < 18446744073709551616) (w : World) :
    Calls Tryd.prog 30 #[.int .u64 x, .int .u64 y] w fun e w' => e = .returned (.tuple #[.int .u64 ((x * y / 18446744073709551616 : Nat) : Int), .int .u64 ((x * y % 18446744073709551616 : Nat) : Int)]) ∧ w' = w := Any.bits_Mul64 Tryd.lays264 x y hx hy w
def Tryd.lays105_ren : Go.Shelf.Ren := ⟨fun | 105 => 37 | 212 => 55 | 99 => 56 | 165 => 57 | 166 => 58 | 170 => 59 | 169 => 60 | 263 => 75 | 264 => 30 | 206 => 76 | 240 => 77 | 241 => 78 | 276 => 93 | 277 => 94 | n => n, fun | 9 => 9 | 3 => 3 | 4 => 4 | 20 => 20 | 0 => 0 | 46 => 73 | 109 => 75 | 5 => 5 | 72 => 81 | 76 => 83 | 51 => 32 | 146 => 100 | 53 => 53 | 148 => 54 | 70 => 78 | 37 => 79 | 75 => 65 | 127 => 102 | 164 => 117 | 80 => 86 | n => n, fun | n => n⟩
theorem Tryd.lays105 : Go.Proofs.Lays.n105 Tryd.prog Tryd.lays105_ren := {
  mixed := by kernel_rfl
  f99 := Tryd.func56.trans (congrArg some (by kernel_rfl))
  f105 := Tryd.func37.trans (congrArg some (by kernel_rfl))
  f165 := Tryd.func57.trans (congrArg some (by kernel_rfl))
  f166 := Tryd.func58.trans (congrArg some (by kernel_rfl))
  f169 := Tryd.func60.trans (congrArg some (by kernel_rfl))
  f170 := Tryd.func59.trans (congrArg some (by kernel_rfl))
  f206 := Tryd.func76.trans (congrArg some (by kernel_rfl))
  f212 := Tryd.func55.trans (congrArg some (by kernel_rfl))
  f240 := Tryd.func77.trans (congrArg some (by kernel_rfl))
  f241 := Tryd.func78.trans (congrArg some (by kernel_rfl))
  f263 := Tryd.func75.trans (congrArg some (by kernel_rfl))
  f264 := Tryd.func30.trans (congrArg some (by kernel_rfl))
  f276 := Tryd.func93.trans (congrArg some (by kernel_rfl))
  f277 := Tryd.func94.trans (congrArg some (by kernel_rfl))
  t0 := Tryd.underlying0
  a0 := Tryd.isAgg0
  z0 := Tryd.sizeOf0
  v0 := Tryd.zeroValue0
  t3 := Tryd.underlying3
  a3 := Tryd.isAgg3
  z3 := Tryd.sizeOf3
  v3 := Tryd.zeroValue3
  t4 := Tryd.underlying4
  a4 := Tryd.isAgg4
  z4 := Tryd.sizeOf4
  v4 := Tryd.zeroValue4
  t5 := Tryd.underlying5
  a5 := Tryd.isAgg5
  z5 := Tryd.sizeOf5
  v5 := Tryd.zeroValue5
  t9 := Tryd.underlying9
  a9 := Tryd.isAgg9
  z9 := Tryd.sizeOf9
  v9 := Tryd.zeroValue9
  t20 := Tryd.underlying20
  a20 := Tryd.isAgg20
  z20 := Tryd.sizeOf20
  v20 := Tryd.zeroValue20
  t37 := Tryd.underlying79
  a37 := Tryd.isAgg79
  z37 := Tryd.sizeOf79
  v37 := Tryd.zeroValue79
  t46 := Tryd.underlying73
  a46 := Tryd.isAgg73
  z46 := Tryd.sizeOf73
  v46 := Tryd.zeroValue73
  t51 := Tryd.underlying32
  a51 := Tryd.isAgg32
  z51 := Tryd.sizeOf32
  v51 := Tryd.zeroValue32
  t53 := Tryd.underlying53
  a53 := Tryd.isAgg53
  z53 := Tryd.sizeOf53
  v53 := Tryd.zeroValue53
  t70 := Tryd.underlying78
  a70 := Tryd.isAgg78
  z70 := Tryd.sizeOf78
  v70 := Tryd.zeroValue78
  t72 := Tryd.underlying81
  a72 := Tryd.isAgg81
  z72 := Tryd.sizeOf81
  v72 := Tryd.zeroValue81
  t75 := Tryd.underlying65
  a75 := Tryd.isAgg65
  z75 := Tryd.sizeOf65
  v75 := Tryd.zeroValue65
  t76 := Tryd.underlying83
  a76 := Tryd.isAgg83
  z76 := Tryd.sizeOf83
  v76 := Tryd.zeroValue83
  t109 := Tryd.underlying75
  a109 := Tryd.isAgg75
  z109 := Tryd.sizeOf75
  v109 := Tryd.zeroValue75
  t127 := Tryd.underlying102
  a127 := Tryd.isAgg102
  z127 := Tryd.sizeOf102
  v127 := Tryd.zeroValue102
  t146 := Tryd.underlying100
  a146 := Tryd.isAgg100
  z146 := Tryd.sizeOf100
  v146 := Tryd.zeroValue100
  t148 := Tryd.underlying54
  a148 := Tryd.isAgg54
  z148 := Tryd.sizeOf54
  v148 := Tryd.zeroValue54
  t164 := Tryd.underlying117
  a164 := Tryd.isAgg117
  z164 := Tryd.sizeOf117
  v164 := Tryd.zeroValue117 }
theorem Tryd.Builder_Extra_105 : Builder.Extra Tryd.prog Tryd.lays105_ren := {
  sizeBuilder := by kernel_rfl
  liesBuilder := by kernel_rfl
  t5 := Tryd.underlying5
  a5 := Tryd.isAgg5
  z5 := Tryd.sizeOf5
  v5 := Tryd.zeroValue5
  infoByte := by kernel_rfl
  cellsByte := by kernel_rfl
  sizeByte := by kernel_rfl
  neB5 := by decide }
open Go.RowKit Go.Lib in
/-- **strings.Repeat: count ≥ 0, the result within one allocation: count copies of s.** (LAID: no walk: one application.) -/
theorem Tryd.strings_Repeat (s : ByteArray) (c : Nat) (w : World) (hc : c ≤ 9223372036854775807) (hlen : s.size * c ≤ 140737488355328) :
    Calls Tryd.prog 37 #[.string s, .int .i64 c] w fun e w' => e = .returned (.string ⟨(Lib.repeatL s.data.toList c).toArray⟩) ∧ Below w.heap.size w w' := Any.strings_Repeat Tryd.lays105 Tryd.Builder_Extra_105 s c w hc hlen
end Go.Proofs
