/-
  DERIVED: THE SHELF's CONTRACTS AT THIS DUMP, IN PLAIN WORDS (tools/lay-plain.mjs out of 'YtnimhdhnjfoalaaGreatDoorShelfS.lean', which tools/lay-shelf.mjs wrote): THE SAME DECLARATIONS UNDER THE SAME NAMES: 'import', 'namespace', 'open', 'def', 'theorem' AND NOTHING ELSE: no command of the shelf's: FOR A HAND-IN. Each laying: the table of numbers ('.._ren') and one theorem, a field a fact of the dump's own or the kernel's comparison; each contract: ONE APPLICATION.
-/
import Derived.Shelf.Strings.Builder1
import Derived.Shelf.Strings.Builder2
import Derived.Shelf.Strings.Trim
import Derived.Shelf.Small.Utf8
import Derived.Shelf.Small.Strs
import Derived.Shelf.Strings.BuilderF
import Derived.Shelf.Strings.BuilderK
import Derived.Shelf.Utf8.RuneCount
import Derived.Shelf.Strconv.Itoa0
import Derived.Shelf.Strconv.Itoa1
import Derived.Shelf.LaysM
import Derived.Shelf.Strconv.Itoa2
import Derived.Shelf.Strconv.Itoa3
import Derived.Shelf.Strings.Search1
import Derived.Shelf.Strings.Search2
import Derived.Shelf.Strings.Search3
import Derived.Shelf.Strings.Cut
import Derived.Shelf.Strings.Count
import Derived.Shelf.Strings.Shaped
import Derived.Shelf.Strings.Split
import Derived.Shelf.Unicode.Decode
import Derived.Shelf.Strings.Runes
import Derived.Shelf.Strings.RuneCount
import Derived.Shelf.Strings.AsciiSet
import Derived.Shelf.Unicode.DecodeSlow
import Derived.Shelf.Unicode.DecodeAny
import Derived.Shelf.Unicode.DecodeLast
import Derived.Test.YtnimhdhnjfoalaaGreatDoorProg
namespace Go.Proofs
open Go.Shelf
def Tryz.lays169_ren : Go.Shelf.Ren := ⟨fun | 169 => 52 | n => n, fun | 70 => 51 | 9 => 9 | 0 => 0 | 72 => 54 | 37 => 52 | 127 => 85 | 3 => 3 | 5 => 5 | n => n, fun | n => n⟩
theorem Tryz.lays169 : Go.Proofs.Lays.n169 Tryz.prog Tryz.lays169_ren := {
  mixed := by kernel_rfl
  f169 := Tryz.func52.trans (congrArg some (by kernel_rfl))
  t0 := Tryz.underlying0
  a0 := Tryz.isAgg0
  z0 := Tryz.sizeOf0
  v0 := Tryz.zeroValue0
  t3 := Tryz.underlying3
  a3 := Tryz.isAgg3
  z3 := Tryz.sizeOf3
  v3 := Tryz.zeroValue3
  t9 := Tryz.underlying9
  a9 := Tryz.isAgg9
  z9 := Tryz.sizeOf9
  v9 := Tryz.zeroValue9
  t37 := Tryz.underlying52
  a37 := Tryz.isAgg52
  z37 := Tryz.sizeOf52
  v37 := Tryz.zeroValue52
  t70 := Tryz.underlying51
  a70 := Tryz.isAgg51
  z70 := Tryz.sizeOf51
  v70 := Tryz.zeroValue51
  t72 := Tryz.underlying54
  a72 := Tryz.isAgg54
  z72 := Tryz.sizeOf54
  v72 := Tryz.zeroValue54
  t127 := Tryz.underlying85
  a127 := Tryz.isAgg85
  z127 := Tryz.sizeOf85
  v127 := Tryz.zeroValue85 }
theorem Tryz.Builder_Extra_169 : Builder.Extra Tryz.prog Tryz.lays169_ren := {
  sizeBuilder := by kernel_rfl
  liesBuilder := by kernel_rfl
  t5 := Tryz.underlying5
  a5 := Tryz.isAgg5
  z5 := Tryz.sizeOf5
  v5 := Tryz.zeroValue5
  infoByte := by kernel_rfl
  cellsByte := by kernel_rfl
  sizeByte := by kernel_rfl
  neB5 := by decide }
open Go.RowKit in
/-- (*strings.Builder).String: "String returns the accumulated string.": WHATEVER THE BUILDER HOLDS. (LAID: no walk: one application.) -/
theorem Tryz.Builder_String_any (B b : Nat) (l : List UInt8) (w : World) (h : Lib.IsBuilder 54 5 B b (Lib.byteCells l) w) (hBw : B ≤ w.heap.size) :
    Calls Tryz.prog 52 #[.pointer (some ⟨b, 0, none⟩)] w fun e w' => e = .returned (.string ⟨l.toArray⟩) ∧ Below B w w' := Any.Builder_String_any Tryz.lays169 Tryz.Builder_Extra_169 B b l w h hBw
def Tryz.lays160_ren : Go.Shelf.Ren := ⟨fun | 160 => 71 | 232 => 87 | 231 => 86 | 227 => 88 | 234 => 90 | 233 => 89 | 236 => 92 | 235 => 91 | 228 => 102 | 271 => 105 | 151 => 104 | 197 => 103 | 120 => 115 | 152 => 114 | 260 => 113 | 137 => 126 | 119 => 127 | 224 => 100 | 225 => 99 | 217 => 98 | 266 => 111 | n => n, fun | 9 => 9 | 4 => 4 | 3 => 3 | 5 => 5 | 117 => 93 | 116 => 92 | 0 => 0 | 124 => 96 | 21 => 21 | 105 => 117 | 46 => 116 | 119 => 142 | 139 => 151 | 138 => 150 | n => n, fun | 3 => 1 | 4 => 2 | n => n⟩
theorem Tryz.lays160 : Go.Proofs.Lays.n160 Tryz.prog Tryz.lays160_ren := {
  mixed := by kernel_rfl
  f119 := Tryz.func127.trans (congrArg some (by kernel_rfl))
  f120 := Tryz.func115.trans (congrArg some (by kernel_rfl))
  f137 := Tryz.func126.trans (congrArg some (by kernel_rfl))
  f151 := Tryz.func104.trans (congrArg some (by kernel_rfl))
  f152 := Tryz.func114.trans (congrArg some (by kernel_rfl))
  f160 := Tryz.func71.trans (congrArg some (by kernel_rfl))
  f197 := Tryz.func103.trans (congrArg some (by kernel_rfl))
  f217 := Tryz.func98.trans (congrArg some (by kernel_rfl))
  f224 := Tryz.func100.trans (congrArg some (by kernel_rfl))
  f225 := Tryz.func99.trans (congrArg some (by kernel_rfl))
  f227 := Tryz.func88.trans (congrArg some (by kernel_rfl))
  f228 := Tryz.func102.trans (congrArg some (by kernel_rfl))
  f231 := Tryz.func86.trans (congrArg some (by kernel_rfl))
  f232 := Tryz.func87.trans (congrArg some (by kernel_rfl))
  f233 := Tryz.func89.trans (congrArg some (by kernel_rfl))
  f234 := Tryz.func90.trans (congrArg some (by kernel_rfl))
  f235 := Tryz.func91.trans (congrArg some (by kernel_rfl))
  f236 := Tryz.func92.trans (congrArg some (by kernel_rfl))
  f260 := Tryz.func113.trans (congrArg some (by kernel_rfl))
  f266 := Tryz.func111.trans (congrArg some (by kernel_rfl))
  f271 := Tryz.func105.trans (congrArg some (by kernel_rfl))
  t0 := Tryz.underlying0
  a0 := Tryz.isAgg0
  z0 := Tryz.sizeOf0
  v0 := Tryz.zeroValue0
  t3 := Tryz.underlying3
  a3 := Tryz.isAgg3
  z3 := Tryz.sizeOf3
  v3 := Tryz.zeroValue3
  t4 := Tryz.underlying4
  a4 := Tryz.isAgg4
  z4 := Tryz.sizeOf4
  v4 := Tryz.zeroValue4
  t5 := Tryz.underlying5
  a5 := Tryz.isAgg5
  z5 := Tryz.sizeOf5
  v5 := Tryz.zeroValue5
  t9 := Tryz.underlying9
  a9 := Tryz.isAgg9
  z9 := Tryz.sizeOf9
  v9 := Tryz.zeroValue9
  t21 := Tryz.underlying21
  a21 := Tryz.isAgg21
  z21 := Tryz.sizeOf21
  v21 := Tryz.zeroValue21
  t46 := Tryz.underlying116
  a46 := Tryz.isAgg116
  z46 := Tryz.sizeOf116
  v46 := Tryz.zeroValue116
  t105 := Tryz.underlying117
  a105 := Tryz.isAgg117
  z105 := Tryz.sizeOf117
  v105 := Tryz.zeroValue117
  t116 := Tryz.underlying92
  a116 := Tryz.isAgg92
  z116 := Tryz.sizeOf92
  t117 := Tryz.underlying93
  a117 := Tryz.isAgg93
  z117 := Tryz.sizeOf93
  v117 := Tryz.zeroValue93
  t119 := Tryz.underlying142
  a119 := Tryz.isAgg142
  z119 := Tryz.sizeOf142
  t124 := Tryz.underlying96
  a124 := Tryz.isAgg96
  z124 := Tryz.sizeOf96
  v124 := Tryz.zeroValue96
  t138 := Tryz.underlying150
  a138 := Tryz.isAgg150
  z138 := Tryz.sizeOf150
  v138 := Tryz.zeroValue150
  t139 := Tryz.underlying151
  a139 := Tryz.isAgg151
  z139 := Tryz.sizeOf151
  v139 := Tryz.zeroValue151
  g3 := by kernel_rfl
  g4 := by kernel_rfl }
open Go.RowKit in
/-- strings.Trim: "Trim returns a slice of the string s with all leading and trailing Unicode code points contained in cutset removed.": AT A cutset OF ONE ASCII BYTE. THE WORLD BEHIND IT: as it was, or (where s is not empty) with ONE DRAW MORE off the tape: the statement 'return trimLeftByte(trimRightByte(s, c), c)' draws its order of evaluation. (LAID: no walk: one application.) -/
theorem Tryz.strings_Trim_one (s : ByteArray) (c : UInt8) (hc : c.toNat < 128) (w : World) (hs : s.size ≤ 9223372036854775807) :
    Calls Tryz.prog 71 #[.string s, .string ⟨#[c]⟩] w fun e w' => e = .returned (.string ⟨(Lib.trimB s.data.toList c).toArray⟩) ∧ (w' = w ∨ w' = w.drew) := Any.strings_Trim_one Tryz.lays160 s c hc w hs
def Tryz.lays137_ren : Go.Shelf.Ren := ⟨fun | 137 => 126 | 217 => 98 | 266 => 111 | n => n, fun | 9 => 9 | 5 => 5 | 3 => 3 | n => n, fun | n => n⟩
theorem Tryz.lays137 : Go.Proofs.Lays.n137 Tryz.prog Tryz.lays137_ren := {
  mixed := by kernel_rfl
  f137 := Tryz.func126.trans (congrArg some (by kernel_rfl))
  f217 := Tryz.func98.trans (congrArg some (by kernel_rfl))
  f266 := Tryz.func111.trans (congrArg some (by kernel_rfl))
  t3 := Tryz.underlying3
  a3 := Tryz.isAgg3
  z3 := Tryz.sizeOf3
  v3 := Tryz.zeroValue3
  t5 := Tryz.underlying5
  a5 := Tryz.isAgg5
  z5 := Tryz.sizeOf5
  v5 := Tryz.zeroValue5
  t9 := Tryz.underlying9
  a9 := Tryz.isAgg9
  z9 := Tryz.sizeOf9
  v9 := Tryz.zeroValue9 }
open Go.RowKit in
/-- strings.IndexByte: "IndexByte returns the index of the first instance of c in s, or -1 if c is not present in s.": IT RETURNS 'Lib.indexByte s c'; the world is as it was. (LAID: no walk: one application.) -/
theorem Tryz.strings_IndexByte (s : ByteArray) (c : Int) (w : World) :
    Calls Tryz.prog 126 #[.string s, .int .u8 c] w fun e w' => e = .returned (.int .i64 (Lib.indexByte s.data.toList c.toNat.toUInt8)) ∧ w' = w := Any.strings_IndexByte Tryz.lays137 s c w
open Go.RowKit in
/-- (*strings.Builder).String: "String returns the accumulated string.": WHATEVER THE BUILDER HOLDS; THE FORM '_f': OF A BUILDER THAT MAY HAVE BEEN READ BEFORE; AND IT IS A BUILDER STILL, holding the same bytes: it can be written on. (LAID: no walk: one application.) -/
theorem Tryz.Builder_String_any_f (B b : Nat) (l : List UInt8) (w : World) (h : Lib.IsBuilderF 54 5 B b (Lib.byteCells l) w) (hBw : B ≤ w.heap.size) :
    Calls Tryz.prog 52 #[.pointer (some ⟨b, 0, none⟩)] w fun e w' => e = .returned (.string ⟨l.toArray⟩) ∧ (Lib.IsBuilderF 54 5 B b (Lib.byteCells l) w' ∧ Below B w w') := Any.Builder_String_any_f Tryz.lays169 Tryz.Builder_Extra_169 B b l w h hBw
open Go.RowKit in
/-- (*strings.Builder).String: "String returns the accumulated string.": WHATEVER THE BUILDER HOLDS; THE FORM '_k': OVER 'Lib.IsBuilderF' (a builder that 'String()' may have read), AND WITH THE FRAME THAT REACHES ABOVE THE BUILDER: 'Lib.OthersKept': every block that is not b and is no row of uint8's stands as it stood: the iterator of a range among them. (LAID: no walk: one application.) -/
theorem Tryz.Builder_String_any_k (B b : Nat) (l : List UInt8) (w : World) (h : Lib.IsBuilderF 54 5 B b (Lib.byteCells l) w) (hBw : B ≤ w.heap.size) :
    Calls Tryz.prog 52 #[.pointer (some ⟨b, 0, none⟩)] w fun e w' => e = .returned (.string ⟨l.toArray⟩) ∧ (Lib.IsBuilderF 54 5 B b (Lib.byteCells l) w' ∧ Below B w w' ∧ Lib.OthersKept 5 (some b) w w') := Any.Builder_String_any_k Tryz.lays169 Tryz.Builder_Extra_169 B b l w h hBw
def Tryz.lays171_ren : Go.Shelf.Ren := ⟨fun | 171 => 73 | 243 => 94 | 246 => 107 | 283 => 116 | 284 => 117 | 285 => 118 | 286 => 119 | 129 => 129 | 317 => 128 | 318 => 130 | 319 => 131 | 320 => 132 | 337 => 139 | 338 => 140 | n => n, fun | 3 => 3 | 9 => 9 | 2 => 2 | 4 => 4 | 171 => 128 | 0 => 0 | 53 => 129 | 37 => 52 | 5 => 5 | 173 => 132 | 212 => 154 | 51 => 100 | 20 => 20 | 213 => 155 | 46 => 116 | 232 => 182 | 233 => 183 | n => n, fun | 17 => 3 | 18 => 4 | 19 => 5 | n => n⟩
theorem Tryz.lays171 : Go.Proofs.Lays.n171 Tryz.prog Tryz.lays171_ren := {
  mixed := by kernel_rfl
  f129 := Tryz.func129.trans (congrArg some (by kernel_rfl))
  f171 := Tryz.func73.trans (congrArg some (by kernel_rfl))
  f243 := Tryz.func94.trans (congrArg some (by kernel_rfl))
  f246 := Tryz.func107.trans (congrArg some (by kernel_rfl))
  f283 := Tryz.func116.trans (congrArg some (by kernel_rfl))
  f284 := Tryz.func117.trans (congrArg some (by kernel_rfl))
  f285 := Tryz.func118.trans (congrArg some (by kernel_rfl))
  f286 := Tryz.func119.trans (congrArg some (by kernel_rfl))
  f317 := Tryz.func128.trans (congrArg some (by kernel_rfl))
  f318 := Tryz.func130.trans (congrArg some (by kernel_rfl))
  f319 := Tryz.func131.trans (congrArg some (by kernel_rfl))
  f320 := Tryz.func132.trans (congrArg some (by kernel_rfl))
  f337 := Tryz.func139.trans (congrArg some (by kernel_rfl))
  f338 := Tryz.func140.trans (congrArg some (by kernel_rfl))
  t0 := Tryz.underlying0
  a0 := Tryz.isAgg0
  z0 := Tryz.sizeOf0
  v0 := Tryz.zeroValue0
  t2 := Tryz.underlying2
  a2 := Tryz.isAgg2
  z2 := Tryz.sizeOf2
  v2 := Tryz.zeroValue2
  t3 := Tryz.underlying3
  a3 := Tryz.isAgg3
  z3 := Tryz.sizeOf3
  v3 := Tryz.zeroValue3
  t4 := Tryz.underlying4
  a4 := Tryz.isAgg4
  z4 := Tryz.sizeOf4
  v4 := Tryz.zeroValue4
  t5 := Tryz.underlying5
  a5 := Tryz.isAgg5
  z5 := Tryz.sizeOf5
  v5 := Tryz.zeroValue5
  t9 := Tryz.underlying9
  a9 := Tryz.isAgg9
  z9 := Tryz.sizeOf9
  v9 := Tryz.zeroValue9
  t20 := Tryz.underlying20
  a20 := Tryz.isAgg20
  z20 := Tryz.sizeOf20
  v20 := Tryz.zeroValue20
  t37 := Tryz.underlying52
  a37 := Tryz.isAgg52
  z37 := Tryz.sizeOf52
  v37 := Tryz.zeroValue52
  t46 := Tryz.underlying116
  a46 := Tryz.isAgg116
  z46 := Tryz.sizeOf116
  v46 := Tryz.zeroValue116
  t51 := Tryz.underlying100
  a51 := Tryz.isAgg100
  z51 := Tryz.sizeOf100
  v51 := Tryz.zeroValue100
  t53 := Tryz.underlying129
  a53 := Tryz.isAgg129
  z53 := Tryz.sizeOf129
  v53 := Tryz.zeroValue129
  t171 := Tryz.underlying128
  a171 := Tryz.isAgg128
  z171 := Tryz.sizeOf128
  v171 := Tryz.zeroValue128
  t173 := Tryz.underlying132
  a173 := Tryz.isAgg132
  z173 := Tryz.sizeOf132
  v173 := Tryz.zeroValue132
  t212 := Tryz.underlying154
  a212 := Tryz.isAgg154
  z212 := Tryz.sizeOf154
  v212 := Tryz.zeroValue154
  t213 := Tryz.underlying155
  a213 := Tryz.isAgg155
  z213 := Tryz.sizeOf155
  t232 := Tryz.underlying182
  a232 := Tryz.isAgg182
  z232 := Tryz.sizeOf182
  v232 := Tryz.zeroValue182
  t233 := Tryz.underlying183
  a233 := Tryz.isAgg183
  z233 := Tryz.sizeOf183
  v233 := Tryz.zeroValue183
  g17 := by kernel_rfl
  g18 := by kernel_rfl
  g19 := by kernel_rfl }
open Go.RowKit Go.Sort Go.Lib in
/-- THE ROAD WITHOUT THE TABLE: 0 <= i < 100: NO PREMISE ON THE WORLD, AND THE WORLD IS AS IT WAS: a row that keeps its argument in that range need list no table ('laid = []'). (LAID: no walk: one application.) -/
theorem Tryz.strconv_Itoa_small (i : Nat) (hi : i < 100) (w : World) :
    Calls Tryz.prog 73 #[.int .i64 i] w fun e w' => e = .returned (.string ⟨(Lib.decDigits i).toArray⟩) ∧ w' = w := Any.strconv_Itoa_small Tryz.lays171 i hi w
def Tryz.lays219_ren : Go.Shelf.Ren := ⟨fun | 219 => 85 | 217 => 98 | 225 => 99 | 224 => 100 | 267 => 101 | 266 => 111 | 314 => 112 | n => n, fun | 9 => 9 | 3 => 3 | 4 => 4 | 5 => 5 | 46 => 116 | 146 => 125 | 51 => 100 | n => n, fun | 1 => 0 | n => n⟩
theorem Tryz.lays219 : Go.Proofs.Lays.n219 Tryz.prog Tryz.lays219_ren := {
  mixed := by kernel_rfl
  f217 := Tryz.func98.trans (congrArg some (by kernel_rfl))
  f219 := Tryz.func85.trans (congrArg some (by kernel_rfl))
  f224 := Tryz.func100.trans (congrArg some (by kernel_rfl))
  f225 := Tryz.func99.trans (congrArg some (by kernel_rfl))
  f266 := Tryz.func111.trans (congrArg some (by kernel_rfl))
  f267 := Tryz.func101.trans (congrArg some (by kernel_rfl))
  f314 := Tryz.func112.trans (congrArg some (by kernel_rfl))
  t3 := Tryz.underlying3
  a3 := Tryz.isAgg3
  z3 := Tryz.sizeOf3
  v3 := Tryz.zeroValue3
  t4 := Tryz.underlying4
  a4 := Tryz.isAgg4
  z4 := Tryz.sizeOf4
  v4 := Tryz.zeroValue4
  t5 := Tryz.underlying5
  a5 := Tryz.isAgg5
  z5 := Tryz.sizeOf5
  v5 := Tryz.zeroValue5
  t9 := Tryz.underlying9
  a9 := Tryz.isAgg9
  z9 := Tryz.sizeOf9
  v9 := Tryz.zeroValue9
  t46 := Tryz.underlying116
  a46 := Tryz.isAgg116
  z46 := Tryz.sizeOf116
  v46 := Tryz.zeroValue116
  t51 := Tryz.underlying100
  a51 := Tryz.isAgg100
  z51 := Tryz.sizeOf100
  v51 := Tryz.zeroValue100
  t146 := Tryz.underlying125
  a146 := Tryz.isAgg125
  z146 := Tryz.sizeOf125
  v146 := Tryz.zeroValue125
  g1 := by kernel_rfl }
open Go.RowKit Go.Lib in
/-- internal/stringslite.Index (what strings.Index calls) AT A substr OF ONE BYTE c: IT RETURNS 'Lib.indexByte s c'; the world is as it was. (LAID: no walk: one application.) -/
theorem Tryz.stringslite_Index_one (s : ByteArray) (c : UInt8) (w : World) :
    Calls Tryz.prog 85 #[.string s, .string ⟨#[c]⟩] w fun e w' => e = .returned (.int .i64 (Lib.indexByte s.data.toList c)) ∧ w' = w := Any.stringslite_Index_one Tryz.lays219 s c w
def Tryz.lays144_ren : Go.Shelf.Ren := ⟨fun | 144 => 40 | 143 => 67 | 219 => 85 | 217 => 98 | 225 => 99 | 224 => 100 | 267 => 101 | 266 => 111 | 314 => 112 | n => n, fun | 9 => 9 | 4 => 4 | 3 => 3 | 5 => 5 | 46 => 116 | 146 => 125 | 51 => 100 | n => n, fun | 1 => 0 | n => n⟩
theorem Tryz.lays144 : Go.Proofs.Lays.n144 Tryz.prog Tryz.lays144_ren := {
  mixed := by kernel_rfl
  f143 := Tryz.func67.trans (congrArg some (by kernel_rfl))
  f144 := Tryz.func40.trans (congrArg some (by kernel_rfl))
  f217 := Tryz.func98.trans (congrArg some (by kernel_rfl))
  f219 := Tryz.func85.trans (congrArg some (by kernel_rfl))
  f224 := Tryz.func100.trans (congrArg some (by kernel_rfl))
  f225 := Tryz.func99.trans (congrArg some (by kernel_rfl))
  f266 := Tryz.func111.trans (congrArg some (by kernel_rfl))
  f267 := Tryz.func101.trans (congrArg some (by kernel_rfl))
  f314 := Tryz.func112.trans (congrArg some (by kernel_rfl))
  t3 := Tryz.underlying3
  a3 := Tryz.isAgg3
  z3 := Tryz.sizeOf3
  v3 := Tryz.zeroValue3
  t4 := Tryz.underlying4
  a4 := Tryz.isAgg4
  z4 := Tryz.sizeOf4
  v4 := Tryz.zeroValue4
  t5 := Tryz.underlying5
  a5 := Tryz.isAgg5
  z5 := Tryz.sizeOf5
  v5 := Tryz.zeroValue5
  t9 := Tryz.underlying9
  a9 := Tryz.isAgg9
  z9 := Tryz.sizeOf9
  v9 := Tryz.zeroValue9
  t46 := Tryz.underlying116
  a46 := Tryz.isAgg116
  z46 := Tryz.sizeOf116
  v46 := Tryz.zeroValue116
  t51 := Tryz.underlying100
  a51 := Tryz.isAgg100
  z51 := Tryz.sizeOf100
  v51 := Tryz.zeroValue100
  t146 := Tryz.underlying125
  a146 := Tryz.isAgg125
  z146 := Tryz.sizeOf125
  v146 := Tryz.zeroValue125
  g1 := by kernel_rfl }
open Go.RowKit Go.Lib in
/-- strings.Contains: "Contains reports whether substr is within s.": AT A substr OF ONE BYTE c: IT RETURNS 'decide (0 ≤ Lib.indexByte s c)'; the world is as it was. (LAID: no walk: one application.) -/
theorem Tryz.strings_Contains_one (s : ByteArray) (c : UInt8) (w : World) :
    Calls Tryz.prog 40 #[.string s, .string ⟨#[c]⟩] w fun e w' => e = .returned (.bool (decide (0 ≤ Lib.indexByte s.data.toList c))) ∧ w' = w := Any.strings_Contains_one Tryz.lays144 s c w
def Tryz.lays138_ren : Go.Shelf.Ren := ⟨fun | 138 => 189 | 195 => 190 | 218 => 191 | 143 => 67 | 219 => 85 | 217 => 98 | 225 => 99 | 224 => 100 | 267 => 101 | 266 => 111 | 314 => 112 | n => n, fun | 9 => 9 | 3 => 3 | 4 => 4 | 5 => 5 | 0 => 0 | 46 => 116 | 146 => 125 | 51 => 100 | n => n, fun | 1 => 0 | n => n⟩
theorem Tryz.lays138 : Go.Proofs.Lays.n138 Tryz.prog Tryz.lays138_ren := {
  mixed := by kernel_rfl
  f138 := Tryz.func189.trans (congrArg some (by kernel_rfl))
  f143 := Tryz.func67.trans (congrArg some (by kernel_rfl))
  f195 := Tryz.func190.trans (congrArg some (by kernel_rfl))
  f217 := Tryz.func98.trans (congrArg some (by kernel_rfl))
  f218 := Tryz.func191.trans (congrArg some (by kernel_rfl))
  f219 := Tryz.func85.trans (congrArg some (by kernel_rfl))
  f224 := Tryz.func100.trans (congrArg some (by kernel_rfl))
  f225 := Tryz.func99.trans (congrArg some (by kernel_rfl))
  f266 := Tryz.func111.trans (congrArg some (by kernel_rfl))
  f267 := Tryz.func101.trans (congrArg some (by kernel_rfl))
  f314 := Tryz.func112.trans (congrArg some (by kernel_rfl))
  t0 := Tryz.underlying0
  a0 := Tryz.isAgg0
  z0 := Tryz.sizeOf0
  v0 := Tryz.zeroValue0
  t3 := Tryz.underlying3
  a3 := Tryz.isAgg3
  z3 := Tryz.sizeOf3
  v3 := Tryz.zeroValue3
  t4 := Tryz.underlying4
  a4 := Tryz.isAgg4
  z4 := Tryz.sizeOf4
  v4 := Tryz.zeroValue4
  t5 := Tryz.underlying5
  a5 := Tryz.isAgg5
  z5 := Tryz.sizeOf5
  v5 := Tryz.zeroValue5
  t9 := Tryz.underlying9
  a9 := Tryz.isAgg9
  z9 := Tryz.sizeOf9
  v9 := Tryz.zeroValue9
  t46 := Tryz.underlying116
  a46 := Tryz.isAgg116
  z46 := Tryz.sizeOf116
  v46 := Tryz.zeroValue116
  t51 := Tryz.underlying100
  a51 := Tryz.isAgg100
  z51 := Tryz.sizeOf100
  v51 := Tryz.zeroValue100
  t146 := Tryz.underlying125
  a146 := Tryz.isAgg125
  z146 := Tryz.sizeOf125
  v146 := Tryz.zeroValue125
  g1 := by kernel_rfl }
open Go.RowKit Go.Lib in
/-- strings.Count AT A substr OF ONE BYTE ('hp'): "Count counts the number of non-overlapping instances of substr in s.": IT RETURNS 'Lib.countByte s (that byte)'; the world is as it was. ✋ NO CONTRACT HERE YET at an empty substr (utf8.RuneCountInString) or at a longer one (a loop over strings.Index). (LAID: no walk: one application.) -/
theorem Tryz.strings_Count_one (s : ByteArray) (c : UInt8) (w : World) :
    Calls Tryz.prog 189 #[.string s, .string ⟨#[c]⟩] w fun e w' => e = .returned (.int .i64 (Lib.countByte s.data.toList c)) ∧ w' = w := Any.strings_Count_one Tryz.lays138 s c w
end Go.Proofs
