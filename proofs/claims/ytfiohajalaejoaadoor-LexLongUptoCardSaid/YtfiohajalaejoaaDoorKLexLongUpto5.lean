/- Contracts of the library's functions, laid at this program (by the kit's lay-shelf.mjs and lay-plain.mjs). strings: TrimLeft, Trim (of plain signs, however many), IndexByte, ContainsRune, Join, HasPrefix. digits: Parse. lex: letter, digit, wordly, numeric, run, dated, between. whole: Parse. strings: Cut at one sign; dec: plain, Parse. -/
import Derived.Test.YtfiohajalaejoaaDoorKLexLongUpto4
import Derived.Shelf.Strings.SlTrimAscii
import Derived.Shelf.Small.Strs
import Derived.Shelf.Strings.OnBuilder
import Derived.Shelf.Strings.Runes
import Derived.Shelf.Strings.Repeat
import Derived.Shelf.Strings.Trim
import Derived.Test.YtfiohajalaejoaaDoorProg
import Derived.Lib.IndexLaws
import Derived.Lib.Space

namespace Go.Proofs
open Go.Shelf
def Tryd.lays156_ren : Go.Shelf.Ren := ⟨fun | 156 => 24 | 165 => 44 | 166 => 45 | 169 => 47 | 240 => 74 | 241 => 75 | 276 => 97 | 277 => 98 | n => n, fun | 31 => 53 | 9 => 9 | 3 => 3 | 4 => 4 | 0 => 0 | 20 => 20 | 72 => 93 | 76 => 97 | 70 => 90 | 37 => 91 | 75 => 96 | 127 => 127 | 164 => 143 | 5 => 5 | 80 => 99 | n => n, fun | n => n⟩
theorem Tryd.lays156 : Go.Proofs.Lays.n156 Tryd.prog Tryd.lays156_ren := {
  mixed := by kernel_rfl
  f156 := Tryd.func24.trans (congrArg some (by kernel_rfl))
  f165 := Tryd.func44.trans (congrArg some (by kernel_rfl))
  f166 := Tryd.func45.trans (congrArg some (by kernel_rfl))
  f169 := Tryd.func47.trans (congrArg some (by kernel_rfl))
  f240 := Tryd.func74.trans (congrArg some (by kernel_rfl))
  f241 := Tryd.func75.trans (congrArg some (by kernel_rfl))
  f276 := Tryd.func97.trans (congrArg some (by kernel_rfl))
  f277 := Tryd.func98.trans (congrArg some (by kernel_rfl))
  t0 := Tryd.underlying0
  a0 := Tryd.isAgg0
  z0 := Tryd.sizeOf0
  v0 := Tryd.zeroValue0
  t3 := Tryd.underlying3
  a3 := Tryd.isAgg3
  z3 := Tryd.sizeOf3
  v3 := Tryd.zeroValue3
  t4 := Tryd.underlying4
  a4 := Tryd.isAgg4
  z4 := Tryd.sizeOf4
  v4 := Tryd.zeroValue4
  t9 := Tryd.underlying9
  a9 := Tryd.isAgg9
  z9 := Tryd.sizeOf9
  v9 := Tryd.zeroValue9
  t20 := Tryd.underlying20
  a20 := Tryd.isAgg20
  z20 := Tryd.sizeOf20
  v20 := Tryd.zeroValue20
  t31 := Tryd.underlying53
  a31 := Tryd.isAgg53
  z31 := Tryd.sizeOf53
  v31 := Tryd.zeroValue53
  t37 := Tryd.underlying91
  a37 := Tryd.isAgg91
  z37 := Tryd.sizeOf91
  v37 := Tryd.zeroValue91
  t70 := Tryd.underlying90
  a70 := Tryd.isAgg90
  z70 := Tryd.sizeOf90
  v70 := Tryd.zeroValue90
  t72 := Tryd.underlying93
  a72 := Tryd.isAgg93
  z72 := Tryd.sizeOf93
  v72 := Tryd.zeroValue93
  t75 := Tryd.underlying96
  a75 := Tryd.isAgg96
  z75 := Tryd.sizeOf96
  v75 := Tryd.zeroValue96
  t76 := Tryd.underlying97
  a76 := Tryd.isAgg97
  z76 := Tryd.sizeOf97
  v76 := Tryd.zeroValue97
  t127 := Tryd.underlying127
  a127 := Tryd.isAgg127
  z127 := Tryd.sizeOf127
  v127 := Tryd.zeroValue127
  t164 := Tryd.underlying143
  a164 := Tryd.isAgg143
  z164 := Tryd.sizeOf143
  v164 := Tryd.zeroValue143 }
theorem Tryd.Builder_Extra_156 : Builder.Extra Tryd.prog Tryd.lays156_ren := {
  sizeBuilder := by kernel_rfl
  liesBuilder := by kernel_rfl
  t5 := Tryd.underlying5
  a5 := Tryd.isAgg5
  z5 := Tryd.sizeOf5
  v5 := Tryd.zeroValue5
  infoByte := by kernel_rfl
  cellsByte := by kernel_rfl
  sizeByte := by kernel_rfl
  neB5 := by decide }
open Go.RowKit in
/-- strings.Join: "Join concatenates the elements of its first argument to create a single string. The separator string sep is placed between elements in the resulting string.": HOWEVER MANY ELEMENTS. Below the heap's end the world is as it was. (LAID: no walk: one application.) -/
theorem Tryd.strings_Join (bk o c : Nat) (xs : List ByteArray) (sep : ByteArray) (w : World) (hcells : ∀ (j : Nat) x, xs[j]? = some x → w.cell? ⟨bk, o + j, none⟩ = some (.string x)) (hbk : bk < w.heap.size) (hN : xs.length ≤ 140737488355328) (hcap : xs.length ≤ c) (hlen : (Lib.join (xs.map (·.data.toList)) sep.data.toList).length ≤ 140737488355328) :
    Calls Tryd.prog 24 #[.slice (some ⟨bk, o, none⟩) xs.length c, .string sep] w fun e w' => e = .returned (.string ⟨(Lib.join (xs.map (·.data.toList)) sep.data.toList).toArray⟩) ∧ Below w.heap.size w w' := Any.strings_Join Tryd.lays156 Tryd.Builder_Extra_156 bk o c xs sep w hcells hbk hN hcap hlen
def Tryd.lays161_ren : Go.Shelf.Ren := ⟨fun | 161 => 57 | 231 => 84 | 227 => 85 | 233 => 86 | 235 => 87 | 228 => 107 | 197 => 71 | 151 => 66 | 260 => 96 | 152 => 91 | 137 => 58 | 119 => 110 | 224 => 111 | 225 => 112 | 217 => 88 | 266 => 108 | n => n, fun | 9 => 9 | 4 => 4 | 3 => 3 | 5 => 5 | 117 => 135 | 116 => 134 | 0 => 0 | 124 => 138 | 105 => 119 | 21 => 21 | 119 => 152 | 46 => 87 | 139 => 155 | 138 => 154 | n => n, fun | 3 => 1 | 4 => 2 | n => n⟩
theorem Tryd.lays161 : Go.Proofs.Lays.n161 Tryd.prog Tryd.lays161_ren := {
  mixed := by kernel_rfl
  f119 := Tryd.func110.trans (congrArg some (by kernel_rfl))
  f137 := Tryd.func58.trans (congrArg some (by kernel_rfl))
  f151 := Tryd.func66.trans (congrArg some (by kernel_rfl))
  f152 := Tryd.func91.trans (congrArg some (by kernel_rfl))
  f161 := Tryd.func57.trans (congrArg some (by kernel_rfl))
  f197 := Tryd.func71.trans (congrArg some (by kernel_rfl))
  f217 := Tryd.func88.trans (congrArg some (by kernel_rfl))
  f224 := Tryd.func111.trans (congrArg some (by kernel_rfl))
  f225 := Tryd.func112.trans (congrArg some (by kernel_rfl))
  f227 := Tryd.func85.trans (congrArg some (by kernel_rfl))
  f228 := Tryd.func107.trans (congrArg some (by kernel_rfl))
  f231 := Tryd.func84.trans (congrArg some (by kernel_rfl))
  f233 := Tryd.func86.trans (congrArg some (by kernel_rfl))
  f235 := Tryd.func87.trans (congrArg some (by kernel_rfl))
  f260 := Tryd.func96.trans (congrArg some (by kernel_rfl))
  f266 := Tryd.func108.trans (congrArg some (by kernel_rfl))
  t0 := Tryd.underlying0
  a0 := Tryd.isAgg0
  z0 := Tryd.sizeOf0
  v0 := Tryd.zeroValue0
  t3 := Tryd.underlying3
  a3 := Tryd.isAgg3
  z3 := Tryd.sizeOf3
  v3 := Tryd.zeroValue3
  t4 := Tryd.underlying4
  a4 := Tryd.isAgg4
  z4 := Tryd.sizeOf4
  v4 := Tryd.zeroValue4
  t5 := Tryd.underlying5
  a5 := Tryd.isAgg5
  z5 := Tryd.sizeOf5
  v5 := Tryd.zeroValue5
  t9 := Tryd.underlying9
  a9 := Tryd.isAgg9
  z9 := Tryd.sizeOf9
  v9 := Tryd.zeroValue9
  t21 := Tryd.underlying21
  a21 := Tryd.isAgg21
  z21 := Tryd.sizeOf21
  v21 := Tryd.zeroValue21
  t46 := Tryd.underlying87
  a46 := Tryd.isAgg87
  z46 := Tryd.sizeOf87
  v46 := Tryd.zeroValue87
  t105 := Tryd.underlying119
  a105 := Tryd.isAgg119
  z105 := Tryd.sizeOf119
  v105 := Tryd.zeroValue119
  t116 := Tryd.underlying134
  a116 := Tryd.isAgg134
  z116 := Tryd.sizeOf134
  t117 := Tryd.underlying135
  a117 := Tryd.isAgg135
  z117 := Tryd.sizeOf135
  v117 := Tryd.zeroValue135
  t119 := Tryd.underlying152
  a119 := Tryd.isAgg152
  z119 := Tryd.sizeOf152
  t124 := Tryd.underlying138
  a124 := Tryd.isAgg138
  z124 := Tryd.sizeOf138
  v124 := Tryd.zeroValue138
  t138 := Tryd.underlying154
  a138 := Tryd.isAgg154
  z138 := Tryd.sizeOf154
  v138 := Tryd.zeroValue154
  t139 := Tryd.underlying155
  a139 := Tryd.isAgg155
  z139 := Tryd.sizeOf155
  v139 := Tryd.zeroValue155
  g3 := by kernel_rfl
  g4 := by kernel_rfl }
open Go.RowKit in
/-- strings.TrimLeft: "TrimLeft returns a slice of the string s with all leading Unicode code points contained in cutset removed.": AT A cutset OF ONE ASCII BYTE. The world is as it was. (LAID: no walk: one application.) -/
theorem Tryd.strings_TrimLeft_one (s : ByteArray) (c : UInt8) (hc : c.toNat < 128) (w : World) :
    Calls Tryd.prog 57 #[.string s, .string ⟨#[c]⟩] w fun e w' => e = .returned (.string ⟨(Lib.trimLeftB s.data.toList c).toArray⟩) ∧ w' = w := Any.strings_TrimLeft_one Tryd.lays161 s c hc w
def Tryd.lays160_ren : Go.Shelf.Ren := ⟨fun | 160 => 79 | 232 => 99 | 231 => 84 | 227 => 85 | 234 => 100 | 233 => 86 | 236 => 101 | 235 => 87 | 228 => 107 | 271 => 114 | 151 => 66 | 197 => 71 | 120 => 116 | 152 => 91 | 260 => 96 | 137 => 58 | 119 => 110 | 224 => 111 | 225 => 112 | 217 => 88 | 266 => 108 | n => n, fun | 9 => 9 | 4 => 4 | 3 => 3 | 5 => 5 | 117 => 135 | 116 => 134 | 0 => 0 | 124 => 138 | 21 => 21 | 105 => 119 | 46 => 87 | 119 => 152 | 139 => 155 | 138 => 154 | n => n, fun | 3 => 1 | 4 => 2 | n => n⟩
theorem Tryd.lays160 : Go.Proofs.Lays.n160 Tryd.prog Tryd.lays160_ren := {
  mixed := by kernel_rfl
  f119 := Tryd.func110.trans (congrArg some (by kernel_rfl))
  f120 := Tryd.func116.trans (congrArg some (by kernel_rfl))
  f137 := Tryd.func58.trans (congrArg some (by kernel_rfl))
  f151 := Tryd.func66.trans (congrArg some (by kernel_rfl))
  f152 := Tryd.func91.trans (congrArg some (by kernel_rfl))
  f160 := Tryd.func79.trans (congrArg some (by kernel_rfl))
  f197 := Tryd.func71.trans (congrArg some (by kernel_rfl))
  f217 := Tryd.func88.trans (congrArg some (by kernel_rfl))
  f224 := Tryd.func111.trans (congrArg some (by kernel_rfl))
  f225 := Tryd.func112.trans (congrArg some (by kernel_rfl))
  f227 := Tryd.func85.trans (congrArg some (by kernel_rfl))
  f228 := Tryd.func107.trans (congrArg some (by kernel_rfl))
  f231 := Tryd.func84.trans (congrArg some (by kernel_rfl))
  f232 := Tryd.func99.trans (congrArg some (by kernel_rfl))
  f233 := Tryd.func86.trans (congrArg some (by kernel_rfl))
  f234 := Tryd.func100.trans (congrArg some (by kernel_rfl))
  f235 := Tryd.func87.trans (congrArg some (by kernel_rfl))
  f236 := Tryd.func101.trans (congrArg some (by kernel_rfl))
  f260 := Tryd.func96.trans (congrArg some (by kernel_rfl))
  f266 := Tryd.func108.trans (congrArg some (by kernel_rfl))
  f271 := Tryd.func114.trans (congrArg some (by kernel_rfl))
  t0 := Tryd.underlying0
  a0 := Tryd.isAgg0
  z0 := Tryd.sizeOf0
  v0 := Tryd.zeroValue0
  t3 := Tryd.underlying3
  a3 := Tryd.isAgg3
  z3 := Tryd.sizeOf3
  v3 := Tryd.zeroValue3
  t4 := Tryd.underlying4
  a4 := Tryd.isAgg4
  z4 := Tryd.sizeOf4
  v4 := Tryd.zeroValue4
  t5 := Tryd.underlying5
  a5 := Tryd.isAgg5
  z5 := Tryd.sizeOf5
  v5 := Tryd.zeroValue5
  t9 := Tryd.underlying9
  a9 := Tryd.isAgg9
  z9 := Tryd.sizeOf9
  v9 := Tryd.zeroValue9
  t21 := Tryd.underlying21
  a21 := Tryd.isAgg21
  z21 := Tryd.sizeOf21
  v21 := Tryd.zeroValue21
  t46 := Tryd.underlying87
  a46 := Tryd.isAgg87
  z46 := Tryd.sizeOf87
  v46 := Tryd.zeroValue87
  t105 := Tryd.underlying119
  a105 := Tryd.isAgg119
  z105 := Tryd.sizeOf119
  v105 := Tryd.zeroValue119
  t116 := Tryd.underlying134
  a116 := Tryd.isAgg134
  z116 := Tryd.sizeOf134
  t117 := Tryd.underlying135
  a117 := Tryd.isAgg135
  z117 := Tryd.sizeOf135
  v117 := Tryd.zeroValue135
  t119 := Tryd.underlying152
  a119 := Tryd.isAgg152
  z119 := Tryd.sizeOf152
  t124 := Tryd.underlying138
  a124 := Tryd.isAgg138
  z124 := Tryd.sizeOf138
  v124 := Tryd.zeroValue138
  t138 := Tryd.underlying154
  a138 := Tryd.isAgg154
  z138 := Tryd.sizeOf154
  v138 := Tryd.zeroValue154
  t139 := Tryd.underlying155
  a139 := Tryd.isAgg155
  z139 := Tryd.sizeOf155
  v139 := Tryd.zeroValue155
  g3 := by kernel_rfl
  g4 := by kernel_rfl }
open Go.RowKit in
/-- strings.Trim: "Trim returns a slice of the string s with all leading and trailing Unicode code points contained in cutset removed.": AT A cutset OF ONE ASCII BYTE. THE WORLD BEHIND IT: as it was, or (where s is not empty) with ONE DRAW MORE off the tape: the statement 'return trimLeftByte(trimRightByte(s, c), c)' draws its order of evaluation. (LAID: no walk: one application.) -/
theorem Tryd.strings_Trim_one (s : ByteArray) (c : UInt8) (hc : c.toNat < 128) (w : World) (hs : s.size ≤ 9223372036854775807) :
    Calls Tryd.prog 79 #[.string s, .string ⟨#[c]⟩] w fun e w' => e = .returned (.string ⟨(Lib.trimB s.data.toList c).toArray⟩) ∧ (w' = w ∨ w' = w.drew) := Any.strings_Trim_one Tryd.lays160 s c hc w hs
def Tryd.lays137_ren : Go.Shelf.Ren := ⟨fun | 137 => 58 | 217 => 88 | 266 => 108 | n => n, fun | 9 => 9 | 5 => 5 | 3 => 3 | n => n, fun | n => n⟩
theorem Tryd.lays137 : Go.Proofs.Lays.n137 Tryd.prog Tryd.lays137_ren := {
  mixed := by kernel_rfl
  f137 := Tryd.func58.trans (congrArg some (by kernel_rfl))
  f217 := Tryd.func88.trans (congrArg some (by kernel_rfl))
  f266 := Tryd.func108.trans (congrArg some (by kernel_rfl))
  t3 := Tryd.underlying3
  a3 := Tryd.isAgg3
  z3 := Tryd.sizeOf3
  v3 := Tryd.zeroValue3
  t5 := Tryd.underlying5
  a5 := Tryd.isAgg5
  z5 := Tryd.sizeOf5
  v5 := Tryd.zeroValue5
  t9 := Tryd.underlying9
  a9 := Tryd.isAgg9
  z9 := Tryd.sizeOf9
  v9 := Tryd.zeroValue9 }
open Go.RowKit in
/-- strings.IndexByte: "IndexByte returns the index of the first instance of c in s, or -1 if c is not present in s.": IT RETURNS 'Lib.indexByte s c'; the world is as it was. (LAID: no walk: one application.) -/
theorem Tryd.strings_IndexByte (s : ByteArray) (c : Int) (w : World) :
    Calls Tryd.prog 58 #[.string s, .int .u8 c] w fun e w' => e = .returned (.int .i64 (Lib.indexByte s.data.toList c.toNat.toUInt8)) ∧ w' = w := Any.strings_IndexByte Tryd.lays137 s c w
def Tryd.lays217_ren : Go.Shelf.Ren := ⟨fun | 217 => 88 | 266 => 108 | n => n, fun | 9 => 9 | 5 => 5 | 3 => 3 | n => n, fun | n => n⟩
theorem Tryd.lays217 : Go.Proofs.Lays.n217 Tryd.prog Tryd.lays217_ren := {
  mixed := by kernel_rfl
  f217 := Tryd.func88.trans (congrArg some (by kernel_rfl))
  f266 := Tryd.func108.trans (congrArg some (by kernel_rfl))
  t3 := Tryd.underlying3
  a3 := Tryd.isAgg3
  z3 := Tryd.sizeOf3
  v3 := Tryd.zeroValue3
  t5 := Tryd.underlying5
  a5 := Tryd.isAgg5
  z5 := Tryd.sizeOf5
  v5 := Tryd.zeroValue5
  t9 := Tryd.underlying9
  a9 := Tryd.isAgg9
  z9 := Tryd.sizeOf9
  v9 := Tryd.zeroValue9 }
open Go.RowKit Go.Lib in
/-- internal/stringslite.IndexByte (what strings.IndexByte calls): IT RETURNS 'Lib.indexByte s c'; the world is as it was. (LAID: no walk: one application.) -/
theorem Tryd.stringslite_IndexByte (s : ByteArray) (c : Int) (w : World) :
    Calls Tryd.prog 88 #[.string s, .int .u8 c] w fun e w' => e = .returned (.int .i64 (Lib.indexByte s.data.toList c.toNat.toUInt8)) ∧ w' = w := Any.stringslite_IndexByte Tryd.lays217 s c w
def Tryd.lays151_ren : Go.Shelf.Ren := ⟨fun | 151 => 66 | 152 => 91 | 137 => 58 | 119 => 110 | 224 => 111 | 225 => 112 | 217 => 88 | 266 => 108 | n => n, fun | 9 => 9 | 21 => 21 | 4 => 4 | 3 => 3 | 5 => 5 | 0 => 0 | 46 => 87 | n => n, fun | n => n⟩
theorem Tryd.lays151 : Go.Proofs.Lays.n151 Tryd.prog Tryd.lays151_ren := {
  mixed := by kernel_rfl
  f119 := Tryd.func110.trans (congrArg some (by kernel_rfl))
  f137 := Tryd.func58.trans (congrArg some (by kernel_rfl))
  f151 := Tryd.func66.trans (congrArg some (by kernel_rfl))
  f152 := Tryd.func91.trans (congrArg some (by kernel_rfl))
  f217 := Tryd.func88.trans (congrArg some (by kernel_rfl))
  f224 := Tryd.func111.trans (congrArg some (by kernel_rfl))
  f225 := Tryd.func112.trans (congrArg some (by kernel_rfl))
  f266 := Tryd.func108.trans (congrArg some (by kernel_rfl))
  t0 := Tryd.underlying0
  a0 := Tryd.isAgg0
  z0 := Tryd.sizeOf0
  v0 := Tryd.zeroValue0
  t3 := Tryd.underlying3
  a3 := Tryd.isAgg3
  z3 := Tryd.sizeOf3
  v3 := Tryd.zeroValue3
  t4 := Tryd.underlying4
  a4 := Tryd.isAgg4
  z4 := Tryd.sizeOf4
  v4 := Tryd.zeroValue4
  t5 := Tryd.underlying5
  a5 := Tryd.isAgg5
  z5 := Tryd.sizeOf5
  v5 := Tryd.zeroValue5
  t9 := Tryd.underlying9
  a9 := Tryd.isAgg9
  z9 := Tryd.sizeOf9
  v9 := Tryd.zeroValue9
  t21 := Tryd.underlying21
  a21 := Tryd.isAgg21
  z21 := Tryd.sizeOf21
  v21 := Tryd.zeroValue21
  t46 := Tryd.underlying87
  a46 := Tryd.isAgg87
  z46 := Tryd.sizeOf87
  v46 := Tryd.zeroValue87 }
open Go.RowKit Go.Lib in
theorem Tryd.strings_ContainsRune_ascii (s : ByteArray) (r : Int) (w : World) (h0 : 0 ≤ r) (h1 : r < 128) :
    Calls Tryd.prog 66 #[.string s, .int .i32 r] w fun e w' => e = .returned (.bool (decide (0 ≤ Lib.indexByte s.data.toList r.toNat.toUInt8))) ∧ w' = w := Any.strings_ContainsRune_ascii Tryd.lays151 s r w h0 h1
def Tryd.lays105_ren : Go.Shelf.Ren := ⟨fun | 105 => 23 | 212 => 43 | 99 => 21 | 165 => 44 | 166 => 45 | 170 => 46 | 169 => 47 | 263 => 72 | 264 => 73 | 206 => 41 | 240 => 74 | 241 => 75 | 276 => 97 | 277 => 98 | n => n, fun | 9 => 9 | 3 => 3 | 4 => 4 | 20 => 20 | 0 => 0 | 46 => 87 | 109 => 88 | 5 => 5 | 72 => 93 | 76 => 97 | 51 => 121 | 146 => 122 | 53 => 124 | 148 => 125 | 70 => 90 | 37 => 91 | 75 => 96 | 127 => 127 | 164 => 143 | 80 => 99 | n => n, fun | n => n⟩
theorem Tryd.lays105 : Go.Proofs.Lays.n105 Tryd.prog Tryd.lays105_ren := {
  mixed := by kernel_rfl
  f99 := Tryd.func21.trans (congrArg some (by kernel_rfl))
  f105 := Tryd.func23.trans (congrArg some (by kernel_rfl))
  f165 := Tryd.func44.trans (congrArg some (by kernel_rfl))
  f166 := Tryd.func45.trans (congrArg some (by kernel_rfl))
  f169 := Tryd.func47.trans (congrArg some (by kernel_rfl))
  f170 := Tryd.func46.trans (congrArg some (by kernel_rfl))
  f206 := Tryd.func41.trans (congrArg some (by kernel_rfl))
  f212 := Tryd.func43.trans (congrArg some (by kernel_rfl))
  f240 := Tryd.func74.trans (congrArg some (by kernel_rfl))
  f241 := Tryd.func75.trans (congrArg some (by kernel_rfl))
  f263 := Tryd.func72.trans (congrArg some (by kernel_rfl))
  f264 := Tryd.func73.trans (congrArg some (by kernel_rfl))
  f276 := Tryd.func97.trans (congrArg some (by kernel_rfl))
  f277 := Tryd.func98.trans (congrArg some (by kernel_rfl))
  t0 := Tryd.underlying0
  a0 := Tryd.isAgg0
  z0 := Tryd.sizeOf0
  v0 := Tryd.zeroValue0
  t3 := Tryd.underlying3
  a3 := Tryd.isAgg3
  z3 := Tryd.sizeOf3
  v3 := Tryd.zeroValue3
  t4 := Tryd.underlying4
  a4 := Tryd.isAgg4
  z4 := Tryd.sizeOf4
  v4 := Tryd.zeroValue4
  t5 := Tryd.underlying5
  a5 := Tryd.isAgg5
  z5 := Tryd.sizeOf5
  v5 := Tryd.zeroValue5
  t9 := Tryd.underlying9
  a9 := Tryd.isAgg9
  z9 := Tryd.sizeOf9
  v9 := Tryd.zeroValue9
  t20 := Tryd.underlying20
  a20 := Tryd.isAgg20
  z20 := Tryd.sizeOf20
  v20 := Tryd.zeroValue20
  t37 := Tryd.underlying91
  a37 := Tryd.isAgg91
  z37 := Tryd.sizeOf91
  v37 := Tryd.zeroValue91
  t46 := Tryd.underlying87
  a46 := Tryd.isAgg87
  z46 := Tryd.sizeOf87
  v46 := Tryd.zeroValue87
  t51 := Tryd.underlying121
  a51 := Tryd.isAgg121
  z51 := Tryd.sizeOf121
  v51 := Tryd.zeroValue121
  t53 := Tryd.underlying124
  a53 := Tryd.isAgg124
  z53 := Tryd.sizeOf124
  v53 := Tryd.zeroValue124
  t70 := Tryd.underlying90
  a70 := Tryd.isAgg90
  z70 := Tryd.sizeOf90
  v70 := Tryd.zeroValue90
  t72 := Tryd.underlying93
  a72 := Tryd.isAgg93
  z72 := Tryd.sizeOf93
  v72 := Tryd.zeroValue93
  t75 := Tryd.underlying96
  a75 := Tryd.isAgg96
  z75 := Tryd.sizeOf96
  v75 := Tryd.zeroValue96
  t76 := Tryd.underlying97
  a76 := Tryd.isAgg97
  z76 := Tryd.sizeOf97
  v76 := Tryd.zeroValue97
  t109 := Tryd.underlying88
  a109 := Tryd.isAgg88
  z109 := Tryd.sizeOf88
  v109 := Tryd.zeroValue88
  t127 := Tryd.underlying127
  a127 := Tryd.isAgg127
  z127 := Tryd.sizeOf127
  v127 := Tryd.zeroValue127
  t146 := Tryd.underlying122
  a146 := Tryd.isAgg122
  z146 := Tryd.sizeOf122
  v146 := Tryd.zeroValue122
  t148 := Tryd.underlying125
  a148 := Tryd.isAgg125
  z148 := Tryd.sizeOf125
  v148 := Tryd.zeroValue125
  t164 := Tryd.underlying143
  a164 := Tryd.isAgg143
  z164 := Tryd.sizeOf143
  v164 := Tryd.zeroValue143 }
theorem Tryd.Builder_Extra_105 : Builder.Extra Tryd.prog Tryd.lays105_ren := {
  sizeBuilder := by kernel_rfl
  liesBuilder := by kernel_rfl
  t5 := Tryd.underlying5
  a5 := Tryd.isAgg5
  z5 := Tryd.sizeOf5
  v5 := Tryd.zeroValue5
  infoByte := by kernel_rfl
  cellsByte := by kernel_rfl
  sizeByte := by kernel_rfl
  neB5 := by decide }
open Go.RowKit Go.Lib in
/-- **strings.Repeat: count ≥ 0, the result within one allocation: count copies of s.** (LAID: no walk: one application.) -/
theorem Tryd.strings_Repeat (s : ByteArray) (c : Nat) (w : World) (hc : c ≤ 9223372036854775807) (hlen : s.size * c ≤ 140737488355328) :
    Calls Tryd.prog 23 #[.string s, .int .i64 c] w fun e w' => e = .returned (.string ⟨(Lib.repeatL s.data.toList c).toArray⟩) ∧ Below w.heap.size w w' := Any.strings_Repeat Tryd.lays105 Tryd.Builder_Extra_105 s c w hc hlen
end Go.Proofs

set_option linter.unusedVariables false
set_option linter.unusedSimpArgs false
namespace Go.Proofs.YtfiohajalaejoaaDoor
open Go Go.Lens Go.RowKit

theorem shelf_ascii {l : List UInt8} (ha : ∀ c ∈ l, c.toNat < 128) : ∀ (j : Nat) b, (ByteArray.mk l.toArray).data.toList[j]? = some b → b.toNat < 128 := fun j b h => ha b (List.mem_of_getElem? (by simpa using h))
theorem shelf_size (s : List UInt8) : (ByteArray.mk s.toArray).size = s.length := by simp [ByteArray.size]
theorem trimLeft_spec (l s : List UInt8) (ha : ∀ c ∈ l, c.toNat < 128) (hl : l.length ≤ 1000) : Does Tryd.prog 57 [.str s, .str l] (.str (s.dropWhile l.contains)) := by
  refine Does.of_below (Callable.of Tryd.func57 (by kernel_rfl) (by kernel_rfl)) fun H w vs hr => ?_
  obtain ⟨v1, _, rfl, h1, v2, _, rfl, h2, rfl⟩ := hr
  simp only [RelV] at h1 h2
  subst h1; subst h2
  refine (Any.strings_TrimLeft_laid Tryd.lays161 (by kernel_rfl) ⟨s.toArray⟩ ⟨l.toArray⟩ w (by rw [shelf_size]; omega) (shelf_ascii ha)).mono fun e w' ⟨he, hw⟩ => ⟨_, he, fun H' => ?_, hw⟩
  exact rfl
theorem trimA_spec (l s : List UInt8) (ha : ∀ c ∈ l, c.toNat < 128) (hl : l.length ≤ 1000) (hs : s.length ≤ 9223372036854775807) : Does Tryd.prog 79 [.str s, .str l] (.str (trimF l s)) := by
  refine Does.of_below (Callable.of Tryd.func79 (by kernel_rfl) (by kernel_rfl)) fun H w vs hr => ?_
  obtain ⟨v1, _, rfl, h1, v2, _, rfl, h2, rfl⟩ := hr
  simp only [RelV] at h1 h2
  subst h1; subst h2
  refine (Any.strings_Trim_laid Tryd.lays160 (by kernel_rfl) ⟨s.toArray⟩ ⟨l.toArray⟩ w (by rw [shelf_size]; exact hs) (by rw [shelf_size]; omega) (shelf_ascii ha)).mono fun e w' ⟨he, hw⟩ => ⟨_, he, fun H' => ?_, hw⟩
  exact rfl
theorem indexByte_spec (s : List UInt8) (c : UInt8) : Does Tryd.prog 58 [.str s, .int .u8 c.toNat] (.int .i64 (Lib.indexByte s c)) := by
  refine Does.of_below (Callable.of Tryd.func58 (by kernel_rfl) (by kernel_rfl)) fun H w vs hr => ?_
  obtain ⟨v1, _, rfl, h1, v2, _, rfl, h2, rfl⟩ := hr
  simp only [RelV] at h1 h2
  subst h1; subst h2
  refine (Tryd.strings_IndexByte ⟨s.toArray⟩ c.toNat w).mono fun e w' ⟨he, hw⟩ => ⟨_, he, fun H' => ?_, hw ▸ Below.refl _ _⟩
  simp [RelV]
theorem containsAscii_spec (s : List UInt8) (r : Nat) (h : r < 128) : Does Tryd.prog 66 [.str s, .int .i32 r] (.bool (decide (0 ≤ Lib.indexByte s (UInt8.ofNat r)))) := by
  refine Does.of_below (Callable.of Tryd.func66 (by kernel_rfl) (by kernel_rfl)) fun H w vs hr => ?_
  obtain ⟨v1, _, rfl, h1, v2, _, rfl, h2, rfl⟩ := hr
  simp only [RelV] at h1 h2
  subst h1; subst h2
  refine (Tryd.strings_ContainsRune_ascii ⟨s.toArray⟩ r w (by omega) (by omega)).mono fun e w' ⟨he, hw⟩ => ⟨_, he, fun H' => ?_, hw ▸ Below.refl _ _⟩
  simp [RelV]
theorem strs_rel {w : World} {H : View} : ∀ {l : List (List UInt8)} {vs : List Value}, RelL w (strsAV l) H vs → vs = l.map fun s => .string ⟨s.toArray⟩
  | [], vs, h => h
  | s :: l, _, ⟨v, vs, e, hv, h⟩ => by
    subst e
    simp only [RelV] at hv
    rw [hv, strs_rel h]; rfl
theorem join_spec (l : List (List UInt8)) (sep : List UInt8) (hl : l.length ≤ 140737488355328) (hj : (Lib.join l sep).length ≤ 140737488355328) : Does Tryd.prog 24 [.row (strsAV l) l.length, .str sep] (.str (Lib.join l sep)) := by
  refine Does.of_below (Callable.of Tryd.func24 (by kernel_rfl) (by kernel_rfl)) fun H w vs hr => ?_
  obtain ⟨v1, _, rfl, ⟨Ad, c, us, rfl, hnc, hus, hat⟩, v2, _, rfl, h2, rfl⟩ := hr
  simp only [RelV] at h2
  subst h2
  have hus := strs_rel hus
  obtain ⟨xs, hxs⟩ : ∃ xs : List ByteArray, xs = l.map fun s => ⟨s.toArray⟩ := ⟨_, rfl⟩
  have hxl : xs.length = l.length := by rw [hxs, List.length_map]
  have hxm : xs.map (·.data.toList) = l := by rw [hxs, List.map_map]; simp [Function.comp_def]
  rcases l with _ | ⟨s, l⟩
  · refine (Any.strings_Join_none Tryd.lays156 Tryd.Builder_Extra_156 Ad c ⟨sep.toArray⟩ w).mono fun e w' ⟨he, hw⟩ => ⟨_, he, fun H' => ?_, hw ▸ Below.refl _ _⟩
    simp [RelV, Lib.join_nil]
  · obtain ⟨a, rfl, hA, _⟩ := hat (by rw [hus]; simp)
    have hsp : a.spot = none := by
      have h0 := hA 0 (.string ⟨s.toArray⟩) (by rw [hus]; rfl)
      simp only [Addr.add, if_pos, World.cell?] at h0
      split at h0
      · split at h0
        · cases h0
        · rename_i h; simpa using h
      · cases h0
    obtain ⟨bk, o, sp⟩ := a
    simp only at hsp
    subst hsp
    have hcells : ∀ (j : Nat) x, xs[j]? = some x → w.cell? ⟨bk, o + j, none⟩ = some (.string x) := by
      intro j x hx
      have := hA j (.string x) (by rw [hus]; rw [hxs] at hx; simp only [List.getElem?_map] at hx ⊢; obtain ⟨y, hy, rfl⟩ := Option.map_eq_some_iff.1 hx; rw [hy]; rfl)
      rw [Addr.add] at this
      split at this
      · rename_i h; subst h; exact this
      · exact this
    have hbk : bk < w.heap.size := World.block_lt_of_cell? w _ (hcells 0 ⟨s.toArray⟩ (by rw [hxs]; rfl))
    rw [← hxl] at hl hnc
    rw [← hxm] at hj
    have := Tryd.strings_Join bk o c xs ⟨sep.toArray⟩ w hcells hbk hl hnc (by simpa using hj)
    rw [hxl] at this
    refine this.mono fun e w' ⟨he, hw⟩ => ⟨_, he, fun H' => ?_, hw⟩
    rw [hxm]
    simp [RelV]
theorem sHasPrefix_spec (s p : List UInt8) : Does Tryd.prog 21 [.str s, .str p] (.bool (hasP s p)) := by
  have h := hasPrefix_spec s p
  refine does tab_ok Tryd.func21 rfl rfl rfl rfl rfl fun w0 H0 hk hj => ?_
  refine W.seq (W.region ?_)
  refine z_p ?_
  refine WL.nil ?_
  refine W.seq (W.region ?_)
  refine z_p ?_
  refine z_p ?_
  refine z_c (h) ?_
  refine z_p ?_
  refine WL.nil ?_
  refine W.ret (fin rfl (.shut (.plain (by first | rfl | simp [plainL, AV.plain])) .nil) ?_)
  rfl

end Go.Proofs.YtfiohajalaejoaaDoor

set_option linter.unusedVariables false
set_option linter.unusedSimpArgs false
namespace Go.Proofs.YtfiohajalaejoaaDoor
open Go Go.Lens

def digitL : List UInt8 := [48, 49, 50, 51, 52, 53, 54, 55, 56, 57]
/-- the number of decimal signs -/
def decF (l : List UInt8) : Nat := l.foldl (fun n c => 10 * n + (c.toNat - 48)) 0
theorem decF_snoc (l : List UInt8) (c : UInt8) : decF (l ++ [c]) = 10 * decF l + (c.toNat - 48) := by simp [decF]
theorem decF_append (l m : List UInt8) : decF (l ++ m) = decF l * 10 ^ m.length + decF m := by
  refine list_snoc_ind (P := fun m => decF (l ++ m) = decF l * 10 ^ m.length + decF m) (by simp [decF]) (fun m c ih => ?_) m
  · rw [← List.append_assoc, decF_snoc, decF_snoc, ih, List.length_append, List.length_singleton, Nat.pow_succ, Nat.mul_add]
    rw [Nat.add_assoc, ← Nat.mul_assoc]
    congr 1
    rw [Nat.mul_comm 10 (decF l), Nat.mul_assoc, Nat.mul_comm 10]
def isDig (c : UInt8) : Bool := digitL.contains c
theorem isDig_iff (c : UInt8) : isDig c = true ↔ 48 ≤ c.toNat ∧ c.toNat ≤ 57 := by
  constructor
  · intro h
    simp only [isDig, digitL, List.contains_cons, List.contains_nil, Bool.or_false, Bool.or_eq_true, beq_iff_eq] at h
    rcases h with rfl | rfl | rfl | rfl | rfl | rfl | rfl | rfl | rfl | rfl <;> decide
  · intro h
    have h1 : c = UInt8.ofNat c.toNat := by simp
    have h2 : c.toNat = 48 ∨ c.toNat = 49 ∨ c.toNat = 50 ∨ c.toNat = 51 ∨ c.toNat = 52 ∨ c.toNat = 53 ∨ c.toNat = 54 ∨ c.toNat = 55 ∨ c.toNat = 56 ∨ c.toNat = 57 := by omega
    rcases h2 with h2 | h2 | h2 | h2 | h2 | h2 | h2 | h2 | h2 | h2 <;> (rw [h2] at h1; rw [h1]; decide)
theorem decF_lt {l : List UInt8} (h : ∀ c ∈ l, isDig c = true) : decF l < 10 ^ l.length := by
  revert h
  refine list_snoc_ind (P := fun l => (∀ c ∈ l, isDig c = true) → decF l < 10 ^ l.length) (fun _ => by simp [decF]) (fun l c ih h => ?_) l
  · have h1 := ih fun x hx => h x (by simp [hx])
    have h2 := (isDig_iff c).1 (h c (by simp))
    rw [decF_snoc, List.length_append, List.length_singleton, Nat.pow_succ]
    omega

/-- is a text a number's? -/
def numText (s : List UInt8) : Bool := !(s == []) && s.all isDig && !(decide (1 < s.length) && s.head? == some 48)

theorem trimF_nil (s : List UInt8) : trimF digitL s = [] ↔ s.all isDig = true := by
  have key : ∀ (p : UInt8 → Bool) (l : List UInt8), l.dropWhile p = [] ↔ l.all p = true := by
    intro p l
    induction l with
    | nil => simp
    | cons c l ih =>
      rw [List.dropWhile_cons, List.all_cons]
      split
      · rename_i h; rw [ih]; simp [h]
      · rename_i h; simp [h]
  rw [trimF, key]
  have e : (dropR digitL.contains s).all digitL.contains = true ↔ s.all isDig = true := by
    show (dropR digitL.contains s).all isDig = true ↔ _
    constructor
    · intro h
      -- the first sign that is left from the right is none of the set
      rcases List.eq_nil_or_concat (dropR digitL.contains s) with h0 | ⟨l, c, h0⟩
      · have : s.reverse.dropWhile digitL.contains = [] := by simpa [dropR] using h0
        rw [key] at this
        have h2 : s.reverse.all isDig = true := this
        simpa using h2
      · exfalso
        have h1 : s.reverse.dropWhile digitL.contains = c :: l.reverse := by
          have := congrArg List.reverse h0
          simpa [dropR] using this
        have h2 : digitL.contains c = false := by
          have := List.head?_dropWhile_not digitL.contains s.reverse
          rw [h1] at this; simpa using this
        rw [h0] at h
        simp only [List.concat_eq_append, List.all_append, List.all_cons, List.all_nil, Bool.and_true, Bool.and_eq_true, isDig, h2] at h
        exact absurd h.2 (by simp)
    · intro h
      have h1 : s.reverse.dropWhile digitL.contains = [] := by
        rw [key]
        have : s.reverse.all isDig = true := by simpa using h
        exact this
      simp [dropR, h1]
  exact e

theorem digit_ascii : ∀ c ∈ digitL, c.toNat < 128 := by decide
theorem natRow_nils : Sub (.agg [.nils]) (natRow []) := Sub.agg1 Sub.nils

/-- what Parse tells -/
def digParse (s : List UInt8) : AV := if s.length > 4096 then .tup [natRow [], .int .i64 7] else if numText s then .tup [natAV (decF s), .int .i64 0] else .tup [natRow [], .int .i64 5]

theorem digParse_spec (s : List UInt8) (hs : s.length ≤ 9223372036854775807) : Does Tryd.prog 51 [.str s] (digParse s) := by
  have htrim := trim_spec digitL s digit_ascii (by decide) (by decide) hs
  refine does tab_ok Tryd.func51 rfl rfl rfl rfl rfl fun w0 H0 hk hj => ?_
  by_cases hlong : s.length > 4096
  · skip
    --@ n 0
    refine W.seq (W.region ?_)
    refine z_a 0 [_] ?_
    refine z_p ?_
    refine WL.nil ?_
    refine W.seq (W.seq (W.region ?_))
    refine z_p ?_
    refine sp (v_len rfl rfl rfl rfl rfl trivial) rfl rfl rfl ?_
    refine z_T (show (s.length : Int) > 4096 by omega) ?_
    refine WL.nil ?_
    refine W.cond_true rfl ?_
    refine W.seq (W.region ?_)
    refine sq (v_build rfl rfl rfl rfl rfl rfl rfl) (rfl : _ = AV.agg [_]) rfl rfl rfl ?_
    refine WL.sub 13 rfl natRow_nils ?_
    refine z_s [_] ?_
    refine z_p ?_
    refine WL.nil ?_
    refine W.ret (fin (cs := [natRow [], .int .i64 7]) rfl (.shut (.plain (natRow_plain _)) (.shut (.plain rfl) .nil)) ?_)
    simp [tupAV, digParse, hlong]
  have hlong' : ¬ ((s.length : Int) > 4096) := by omega
  by_cases he : s = []
  · subst he
    refine W.seq (W.region ?_)
    refine z_a 0 [_] ?_
    refine z_p ?_
    refine WL.nil ?_
    refine W.seq (W.seq (W.region ?_))
    refine z_p ?_
    refine sp (v_len rfl rfl rfl rfl rfl trivial) rfl rfl rfl ?_
    refine z_F hlong' ?_
    refine WL.nil ?_
    refine W.cond_false rfl (W.skip ?_)
    refine W.seq (W.seq (W.region ?_))
    refine z_p ?_
    refine sp (v_is true rfl rfl rfl rfl rfl) rfl rfl rfl ?_
    refine z_p ?_
    refine z_o ?_
    refine z_o ?_
    refine z_o ?_
    refine z_p ?_
    refine z_p ?_
    refine z_o ?_
    refine z_o ?_
    refine z_o ?_
    refine z_o ?_
    refine z_o ?_
    refine z_o ?_
    refine z_o ?_
    refine z_o ?_
    refine z_p ?_
    refine WL.nil ?_
    refine W.cond_true rfl ?_
    refine W.seq (W.region ?_)
    refine sq (v_build rfl rfl rfl rfl rfl rfl rfl) (rfl : _ = AV.agg [_]) rfl rfl rfl ?_
    refine WL.sub 31 rfl natRow_nils ?_
    refine z_s [_] ?_
    refine z_p ?_
    refine WL.nil ?_
    refine W.ret (fin (cs := [natRow [], .int .i64 5]) rfl (.shut (.plain (natRow_plain _)) (.shut (.plain rfl) .nil)) ?_)
    simp [tupAV, digParse, numText]
  have hse : (s == ([] : List UInt8)) = false := by cases s with | nil => exact absurd rfl he | cons c s => rfl
  by_cases hd : s.all isDig = true
  rotate_left
  · have hst : (!(trimF digitL s == ([] : List UInt8))) = true := by
      rw [Bool.not_eq_true', beq_eq_false_iff_ne]
      exact fun h => hd ((trimF_nil s).1 h)
    refine W.seq (W.region ?_)
    refine z_a 0 [_] ?_
    refine z_p ?_
    refine WL.nil ?_
    refine W.seq (W.seq (W.region ?_))
    refine z_p ?_
    refine sp (v_len rfl rfl rfl rfl rfl trivial) rfl rfl rfl ?_
    refine z_F hlong' ?_
    refine WL.nil ?_
    refine W.cond_false rfl (W.skip ?_)
    refine W.seq (W.seq (W.region ?_))
    refine z_p ?_
    refine sp (v_is false rfl rfl rfl rfl hse) rfl rfl rfl ?_
    refine z_p ?_
    refine z_p ?_
    refine z_c (htrim) ?_
    refine sp (v_is true rfl rfl rfl rfl hst) rfl rfl rfl ?_
    refine z_p ?_
    refine z_p ?_
    refine z_o ?_
    refine z_o ?_
    refine z_o ?_
    refine z_o ?_
    refine z_o ?_
    refine z_o ?_
    refine z_o ?_
    refine z_o ?_
    refine z_p ?_
    refine WL.nil ?_
    refine W.cond_true rfl ?_
    refine W.seq (W.region ?_)
    refine sq (v_build rfl rfl rfl rfl rfl rfl rfl) (rfl : _ = AV.agg [_]) rfl rfl rfl ?_
    refine WL.sub 31 rfl natRow_nils ?_
    refine z_s [_] ?_
    refine z_p ?_
    refine WL.nil ?_
    refine W.ret (fin (cs := [natRow [], .int .i64 5]) rfl (.shut (.plain (natRow_plain _)) (.shut (.plain rfl) .nil)) ?_)
    have : s.all isDig = false := by simpa using hd
    simp [tupAV, digParse, hlong, numText, this]
  have hst : (!(trimF digitL s == ([] : List UInt8))) = false := by
    rw [(trimF_nil s).2 hd]; rfl
  have hdig : ∀ c ∈ s, isDig c = true := by simpa using hd
  by_cases hz : 1 < s.length ∧ s.head? = some 48
  · have hget : s[(0 : Int).toNat]? = some 48 := by rw [← hz.2]; cases s <;> rfl
    refine W.seq (W.region ?_)
    refine z_a 0 [_] ?_
    refine z_p ?_
    refine WL.nil ?_
    refine W.seq (W.seq (W.region ?_))
    refine z_p ?_
    refine sp (v_len rfl rfl rfl rfl rfl trivial) rfl rfl rfl ?_
    refine z_F hlong' ?_
    refine WL.nil ?_
    refine W.cond_false rfl (W.skip ?_)
    refine W.seq (W.seq (W.region ?_))
    refine z_p ?_
    refine sp (v_is false rfl rfl rfl rfl hse) rfl rfl rfl ?_
    refine z_p ?_
    refine z_p ?_
    refine z_c (htrim) ?_
    refine sp (v_is false rfl rfl rfl rfl hst) rfl rfl rfl ?_
    refine z_p ?_
    refine z_p ?_
    refine z_p ?_
    refine sp (v_len rfl rfl rfl rfl rfl trivial) rfl rfl rfl ?_
    refine z_T (show (s.length : Int) > 1 by omega) ?_
    refine z_p ?_
    refine z_p ?_
    refine sp (v_index_str (b := 48) rfl rfl rfl rfl rfl (by omega) hget) rfl rfl rfl ?_
    refine sp (v_is true rfl rfl rfl rfl rfl) rfl rfl rfl ?_
    refine z_p ?_
    refine z_p ?_
    refine WL.nil ?_
    refine W.cond_true rfl ?_
    refine W.seq (W.region ?_)
    refine sq (v_build rfl rfl rfl rfl rfl rfl rfl) (rfl : _ = AV.agg [_]) rfl rfl rfl ?_
    refine WL.sub 31 rfl natRow_nils ?_
    refine z_s [_] ?_
    refine z_p ?_
    refine WL.nil ?_
    refine W.ret (fin (cs := [natRow [], .int .i64 5]) rfl (.shut (.plain (natRow_plain _)) (.shut (.plain rfl) .nil)) ?_)
    simp [tupAV, digParse, hlong, numText, hz]
  have hnum : numText s = true := by
    simp only [numText, hse, hd, Bool.not_false, Bool.true_and, Bool.not_eq_true', Bool.and_eq_false_iff, decide_eq_false_iff_not]
    by_cases h1 : 1 < s.length
    · right; rw [beq_eq_false_iff_ne]; exact fun h => hz ⟨h1, h⟩
    · exact .inl h1
  have hres : digParse s = .tup [natAV (decF s), .int .i64 0] := by simp only [digParse, if_neg hlong, hnum, if_true]
  rw [hres]
  refine W.seq (W.region ?_)
  refine z_a 0 [_] ?_
  refine z_p ?_
  refine WL.nil ?_
  refine W.seq (W.seq (W.region ?_))
  refine z_p ?_
  refine sp (v_len rfl rfl rfl rfl rfl trivial) rfl rfl rfl ?_
  refine z_F hlong' ?_
  refine WL.nil ?_
  refine W.cond_false rfl (W.skip ?_)
  refine W.seq (W.seq (W.cut [(0, .str s), (2, .ptr 0 0 0), (30, .bool false)] [.cells [.nils] 0 1 false none] ?_ ?_))
  · by_cases h1 : 1 < s.length
    · have hh : s.head? ≠ some 48 := fun h => hz ⟨h1, h⟩
      obtain ⟨c, hc⟩ : ∃ c, s[(0 : Int).toNat]? = some c := ⟨s[0], by simp⟩
      have hc48 : ((c.toNat : Int) == 48) = false := by
        rw [beq_eq_false_iff_ne]
        intro h
        refine hh ?_
        have : s.head? = some c := by rw [← hc]; cases s <;> rfl
        rw [this]
        congr 1
        exact UInt8.toNat_inj.1 (by have : (48 : UInt8).toNat = 48 := rfl; omega)
      refine W.region ?_
      refine z_p ?_
      refine sp (v_is false rfl rfl rfl rfl hse) rfl rfl rfl ?_
      refine z_p ?_
      refine z_p ?_
      refine z_c (htrim) ?_
      refine sp (v_is false rfl rfl rfl rfl hst) rfl rfl rfl ?_
      refine z_p ?_
      refine z_p ?_
      refine z_p ?_
      refine sp (v_len rfl rfl rfl rfl rfl trivial) rfl rfl rfl ?_
      refine z_T (show (s.length : Int) > 1 by omega) ?_
      refine z_p ?_
      refine z_p ?_
      refine sp (v_index_str (b := c) rfl rfl rfl rfl rfl (by omega) hc) rfl rfl rfl ?_
      refine sp (v_is false rfl rfl rfl rfl hc48) rfl rfl rfl ?_
      refine z_p ?_
      refine z_p ?_
      refine WL.nil ?_
      exact ⟨rfl, (by refine ⟨?_, ?_, rfl, Nat.le_of_ble_eq_true rfl⟩ <;> repeat (first | exact trivial | exact rfl | refine ⟨rfl, ?_⟩ | refine ⟨.inr ⟨rfl, ?_⟩, ?_⟩ | refine ⟨.inl rfl, ?_⟩))⟩
    · skip
      refine W.region ?_
      refine z_p ?_
      refine sp (v_is false rfl rfl rfl rfl hse) rfl rfl rfl ?_
      refine z_p ?_
      refine z_p ?_
      refine z_c (htrim) ?_
      refine sp (v_is false rfl rfl rfl rfl hst) rfl rfl rfl ?_
      refine z_p ?_
      refine z_p ?_
      refine z_p ?_
      refine sp (v_len rfl rfl rfl rfl rfl trivial) rfl rfl rfl ?_
      refine z_F (show ¬ ((s.length : Int) > 1) by omega) ?_
      refine z_p ?_
      refine z_o ?_
      refine z_o ?_
      refine z_o ?_
      refine z_p ?_
      refine z_p ?_
      refine WL.nil ?_
      exact ⟨rfl, (by refine ⟨?_, ?_, rfl, Nat.le_of_ble_eq_true rfl⟩ <;> repeat (first | exact trivial | exact rfl | refine ⟨rfl, ?_⟩ | refine ⟨.inr ⟨rfl, ?_⟩, ?_⟩ | refine ⟨.inl rfl, ?_⟩))⟩
  refine W.cond_false rfl (W.skip ?_)
  refine W.seq (W.region ?_)
  refine sq (v_build rfl rfl rfl rfl rfl rfl rfl) (rfl : _ = AV.agg [_]) rfl rfl rfl ?_
  refine WL.sub 32 rfl natRow_nils ?_
  refine z_a 1 [_, _] ?_
  refine z_s [_, _] ?_
  refine WL.nil ?_
  refine W.seq (W.seq (W.region ?_))
  refine z_p ?_
  refine WL.nil ?_
  refine W.block ?_
  refine W.while (fun m st => ∃ (dn l : List UInt8) (f : Bool), s = dn ++ l ∧ m = l.length ∧ (f = true → dn = []) ∧ (f = false → l.length % 18 = 0) ∧
    st = ⟨[(0, .str l), (2, .ptr 0 0 0), (4, .ptr 1 0 0), (5, .bool f)], [.cells [.nils] 0 1 false none, .cells [.row (u64AV (digs LB (decF dn))) (digs LB (decF dn)).length] 0 1 false none]⟩) s.length
    (env0 := [(0, .str s), (2, .ptr 0 0 0), (4, .ptr 1 0 0), (5, .bool true)]) (objs0 := [.cells [.nils] 0 1 false none, .cells [.row [] 0] 0 1 false none])
    ⟨[], s, true, rfl, rfl, fun _ => rfl, fun h => (by cases h), by rw [show decF [] = 0 from rfl, digs_zero]; rfl⟩ (by refine ⟨?_, ?_, rfl, Nat.le_of_ble_eq_true rfl⟩ <;> repeat (first | exact trivial | exact rfl | refine ⟨rfl, ?_⟩ | refine ⟨.inr ⟨rfl, ?_⟩, ?_⟩ | refine ⟨.inl rfl, ?_⟩)) ?_
  rintro m _ ⟨dn, l, f, hsl, rfl, hf1, hf2, rfl⟩
  have hdl : ∀ c ∈ dn, isDig c = true := fun c hc => hdig c (by rw [hsl]; simp [hc])
  have hlen : s.length = dn.length + l.length := by rw [hsl]; simp
  have hle : s.length ≤ 4096 := by omega
  by_cases hl : l = []
  · subst hl
    refine W.seq (W.seq (W.region ?_))
    refine z_p ?_
    refine sp (v_is false rfl rfl rfl rfl rfl) rfl rfl rfl ?_
    refine WL.nil ?_
    refine W.cond_false rfl (W.exit ?_)
    refine W.seq (W.region ?_)
    first | refine z_l1 ?_ | refine z_r1 ?_
    refine z_s [_, _] ?_
    refine z_p ?_
    refine WL.nil ?_
    have hsd : decF dn = decF s := by rw [hsl]; simp
    refine W.ret (fin (cs := [natAV (decF dn), .int .i64 0]) rfl (.shut (.plain (natRow_plain _)) (.shut (.plain rfl) .nil)) ?_)
    rw [hsd]; rfl
  have hle' : (!(l == ([] : List UInt8))) = true := by cases l with | nil => exact absurd rfl hl | cons c l => rfl
  have hlp : 0 < l.length := by cases l with | nil => exact absurd rfl hl | cons c l => simp
  have hdig' : ∀ c ∈ l, isDig c = true := fun c hc => hdig c (by rw [hsl]; simp [hc])
  refine W.seq (W.seq (W.region ?_))
  refine z_p ?_
  refine sp (v_is true rfl rfl rfl rfl hle') rfl rfl rfl ?_
  refine WL.nil ?_
  refine W.cond_true rfl (W.skip ?_)
  refine W.seq (W.block ?_)
  refine W.seq (W.region ?_)
  refine z_p ?_
  refine sp (v_len rfl rfl rfl rfl rfl trivial) rfl rfl rfl ?_
  refine sq (v_bin rfl rfl rfl (rem_nn (by omega) (by omega))) (show _ = AV.int .i64 (l.length % 18 : Nat) from by simp) rfl rfl rfl ?_
  refine z_p ?_
  refine WL.nil ?_
  obtain ⟨k, hk1, hk2, hk3, hk4, hk5, hk6⟩ : ∃ k : Nat, 1 ≤ k ∧ k ≤ 18 ∧ k ≤ l.length ∧ (l.length - k) % 18 = 0 ∧ (dn = [] ∨ k = 18) ∧ ((f = false ∨ l.length % 18 = 0) → k = 18) ∧ (¬ (f = false ∨ l.length % 18 = 0) → k = l.length % 18) := by
    by_cases hc : f = false ∨ l.length % 18 = 0
    · have : l.length % 18 = 0 := hc.elim hf2 id
      exact ⟨18, by omega, by omega, by omega, by omega, .inr rfl, fun _ => rfl, fun h => absurd hc h⟩
    · refine ⟨l.length % 18, by omega, by omega, by omega, by omega, .inl (hf1 ?_), fun h => absurd h hc, fun _ => rfl⟩
      cases f with
      | true => rfl
      | false => exact absurd (.inl rfl) hc
  refine W.seq (W.cut [(0, .str l), (2, .ptr 0 0 0), (4, .ptr 1 0 0), (5, .bool f), (6, .int .i64 k)] [.cells [.nils] 0 1 false none, .cells [.row (u64AV (digs LB (decF dn))) (digs LB (decF dn)).length] 0 1 false none] ?_ ?_)
  · cases f with
    | false =>
      have hk18 := hk6.1 (.inl rfl)
      refine W.seq (W.region ?_)
      refine z_p ?_
      refine z_p ?_
      refine z_p ?_
      refine z_o ?_
      refine z_o ?_
      refine z_p ?_
      refine WL.nil ?_
      refine W.cond_true rfl ?_
      refine W.region ?_
      refine z_p ?_
      refine WL.nil ?_
      rw [hk18]
      exact ⟨rfl, (by refine ⟨?_, ?_, rfl, Nat.le_of_ble_eq_true rfl⟩ <;> repeat (first | exact trivial | exact rfl | refine ⟨rfl, ?_⟩ | refine ⟨.inr ⟨rfl, ?_⟩, ?_⟩ | refine ⟨.inl rfl, ?_⟩))⟩
    | true =>
      by_cases hr : l.length % 18 = 0
      · have hk18 := hk6.1 (.inr hr)
        refine W.seq (W.region ?_)
        refine z_p ?_
        refine z_p ?_
        refine z_p ?_
        refine z_p ?_
        refine sp (v_is true rfl rfl rfl rfl (beq_iff_eq.2 (by omega))) rfl rfl rfl ?_
        refine z_p ?_
        refine WL.nil ?_
        refine W.cond_true rfl ?_
        refine W.region ?_
        refine z_p ?_
        refine WL.nil ?_
        rw [hk18]
        exact ⟨rfl, (by refine ⟨?_, ?_, rfl, Nat.le_of_ble_eq_true rfl⟩ <;> repeat (first | exact trivial | exact rfl | refine ⟨rfl, ?_⟩ | refine ⟨.inr ⟨rfl, ?_⟩, ?_⟩ | refine ⟨.inl rfl, ?_⟩))⟩
      · have hk18 := hk6.2 (by simp [hr])
        refine W.seq (W.region ?_)
        refine z_p ?_
        refine z_p ?_
        refine z_p ?_
        refine z_p ?_
        refine sp (v_is false rfl rfl rfl rfl (beq_eq_false_iff_ne.2 (by omega))) rfl rfl rfl ?_
        refine z_p ?_
        refine WL.nil ?_
        refine W.cond_false rfl (W.skip ?_)
        rw [hk18]
        exact ⟨rfl, (by refine ⟨?_, ?_, rfl, Nat.le_of_ble_eq_true rfl⟩ <;> repeat (first | exact trivial | exact rfl | refine ⟨rfl, ?_⟩ | refine ⟨.inr ⟨rfl, ?_⟩, ?_⟩ | refine ⟨.inl rfl, ?_⟩))⟩
  refine W.seq (W.region ?_)
  refine z_p ?_
  refine WL.nil ?_
  refine W.seq (W.seq (W.region ?_))
  refine z_p ?_
  refine z_p ?_
  refine sq (v_slice_str rfl rfl rfl rfl rfl ⟨_, _, rfl, by omega, rfl⟩ (by omega) (by omega)) (show _ = AV.str (l.take k) from by simp) rfl rfl rfl ?_
  refine sn (v_range rfl rfl rfl rfl) (rfl : _ = AV.ptr 2 0 0) (rfl : _ = [_, _, _]) rfl rfl rfl ?_
  refine WL.nil ?_
  refine W.block ?_
  refine W.while (fun m st => ∃ j : Nat, j ≤ k ∧ m = k - j ∧
    st = ⟨[(0, .str l), (2, .ptr 0 0 0), (4, .ptr 1 0 0), (5, .bool f), (6, .int .i64 k), (7, .int .u64 (decF (l.take j) : Nat)), (47, .ptr 2 0 0)],
      [.cells [.nils] 0 1 false none, .cells [.row (u64AV (digs LB (decF dn))) (digs LB (decF dn)).length] 0 1 false none, .iter (l.take k) j]⟩) k ⟨0, by omega, by omega, rfl⟩ (by refine ⟨?_, ?_, rfl, Nat.le_of_ble_eq_true rfl⟩ <;> repeat (first | exact trivial | exact rfl | refine ⟨rfl, ?_⟩ | refine ⟨.inr ⟨rfl, ?_⟩, ?_⟩ | refine ⟨.inl rfl, ?_⟩)) ?_
  rintro m _ ⟨j, hj, rfl, rfl⟩
  by_cases hjk : j < k
  · have hjl : j < l.length := by omega
    have hcj : isDig l[j] = true := hdig' _ (List.getElem_mem hjl)
    have hcd := (isDig_iff _).1 hcj
    have hb1 := decF_lt (l := l.take j) fun c hc => hdig' c (List.mem_of_mem_take hc)
    have hb2 : (10 : Nat) ^ (l.take j).length ≤ 10 ^ 17 := Nat.pow_le_pow_right (by decide) (by simp; omega)
    have hb3 : decF (l.take j) < 100000000000000000 := Nat.lt_of_lt_of_le hb1 hb2
    have hget : (l.take k)[j]? = some l[j] := by rw [List.getElem?_take, if_pos hjk]; simp [hjl]
    refine W.seq (W.region ?_)
    refine sn (v_next_ascii rfl rfl rfl hget (by omega)) rfl (rfl : _ = [_, _, _]) rfl rfl rfl ?_
    refine z_p ?_
    refine WL.nil ?_
    refine W.seq (W.cond_true rfl (W.skip ?_))
    refine W.block ?_
    refine W.seq (W.region ?_)
    refine z_p ?_
    refine z_p ?_
    refine WL.nil ?_
    refine W.region ?_
    refine z_p ?_
    refine sp (v_mulN (a := 10) rfl rfl rfl (by omega)) rfl rfl rfl ?_
    refine z_p ?_
    refine sq (v_pure rfl) (show _ = AV.int .i32 (l[j].toNat - 48 : Nat) from by rw [IntKind.wrap_i32]; congr 1; omega) rfl rfl rfl ?_
    refine sp (v_cvt rfl rfl rfl rfl rfl (by first | rfl | (rw [IntKind.wrap_i64]; omega) | (rw [IntKind.wrap_u64]; omega) | (rw [IntKind.wrap_u8]; omega) | (rw [IntKind.wrap_i32]; omega))) rfl rfl rfl ?_
    refine sq (v_addN rfl rfl rfl (by omega)) (show _ = AV.int .u64 (decF (l.take (j + 1)) : Nat) from by rw [List.take_succ_eq_append_getElem hjl, decF_snoc]) rfl rfl rfl ?_
    refine z_p ?_
    refine WL.nil ?_
    exact ⟨k - (j + 1), _, _, by omega, ⟨j + 1, by omega, rfl, rfl⟩, (by refine ⟨?_, ?_, rfl, Nat.le_of_ble_eq_true rfl⟩ <;> repeat (first | exact trivial | exact rfl | refine ⟨rfl, ?_⟩ | refine ⟨.inr ⟨rfl, ?_⟩, ?_⟩ | refine ⟨.inl rfl, ?_⟩))⟩
  · have hj' : j = k := by omega
    subst hj'
    refine W.seq (W.region ?_)
    refine sp (v_next_end rfl rfl rfl (by simp; omega)) rfl rfl rfl ?_
    refine z_p ?_
    refine WL.nil ?_
    refine W.seq (W.cond_false rfl (W.exit ?_))
    obtain ⟨E, hE⟩ : ∃ E : Nat, E = 4096 := ⟨_, rfl⟩
    have hpow : (10 : Nat) ^ dn.length ≤ LB ^ E := Nat.le_trans (Nat.pow_le_pow_right (by decide) (show dn.length ≤ E by omega)) (Nat.pow_le_pow_left (by decide) E)
    have hd1 := Nat.lt_of_lt_of_le (decF_lt hdl) hpow
    have hn1 : (digs LB (decF dn)).length ≤ 4096 := hE ▸ digs_length (by decide) hd1
    have hpb := decF_lt (l := l.take j) fun c hc => hdig' c (List.mem_of_mem_take hc)
    have hpb2 : (10 : Nat) ^ (l.take j).length ≤ 10 ^ 18 := Nat.pow_le_pow_right (by decide) (by simp; omega)
    have hpb3 : decF (l.take j) < 1000000000000000000 := Nat.lt_of_lt_of_le hpb hpb2
    have hmul : Does Tryd.prog 80 [natRow (digs LB (decF dn)), natRow (trim [1000000000000000000])] (natAV (decF dn * 1000000000000000000)) := by
      have := mul_spec (digs LB (decF dn)) (trim [1000000000000000000]) (digs_canon (by decide) _).1 (trim_canon (B := LB) (fun x hx => by rw [List.mem_singleton] at hx; subst hx; decide)).1 (by omega) (Nat.le_trans (trim_length _) (by simp))
      rw [digs_val (by decide), trim_val] at this
      simpa [val] using this
    have hsum : decF (dn ++ l.take j) = decF dn * 1000000000000000000 + decF (l.take j) := by
      rw [decF_append]
      rcases hk5 with h | h
      · subst h; simp [decF]
      · rw [show (l.take j).length = 18 by simp; omega]
    have hn2 : (digs LB (decF dn * 1000000000000000000)).length ≤ 4097 := by
      have hlt : decF dn * 1000000000000000000 < LB ^ (E + 1) := by
        rw [Nat.pow_succ]
        exact Nat.mul_lt_mul'' hd1 (by decide)
      exact Nat.le_trans (digs_length (by decide) hlt) (by omega)
    have hadd : Does Tryd.prog 82 [natAV (decF dn * 1000000000000000000), natRow (trim [decF (l.take j)])] (natAV (decF (dn ++ l.take j))) := by
      have := add_spec (digs LB (decF dn * 1000000000000000000)) (trim [decF (l.take j)]) (digs_canon (by decide) _).1 (trim_canon (B := LB) (fun x hx => by rw [List.mem_singleton] at hx; subst hx; simp only [LB]; omega)).1 (by omega) (Nat.le_trans (trim_length _) (by simp))
      rw [digs_val (by decide), trim_val] at this
      rw [hsum]
      simpa [val, natAV] using this
    refine W.seq (W.drawnR mixed [57, 58, 59, 60, 61, 62] (by kernel_rfl) ?_)
    apply DrawFrom.stepR
    · intro more
      first | refine z_l1 ?_ | refine z_r1 ?_
      exact z_e
    apply DrawFrom.stepR
    · intro more
      refine sq (v_buildRow rfl rfl rfl rfl rfl rfl rfl (Nat.le_of_ble_eq_true rfl) (Nat.le_of_ble_eq_true rfl) rfl rfl rfl rfl) (rfl : _ = AV.row [_] 1) rfl rfl rfl ?_
      exact z_e
    apply DrawFrom.stepR
    · intro more
      refine z_c (of_spec [1000000000000000000] (by decide)) ?_
      exact z_e
    apply DrawFrom.stepR
    · intro more
      refine z_c (hmul) ?_
      exact z_e
    apply DrawFrom.stepR
    · intro more
      refine z_p ?_
      exact z_e
    apply DrawFrom.stepR
    · intro more
      refine sq (v_buildRow rfl rfl rfl rfl rfl rfl rfl (Nat.le_of_ble_eq_true rfl) (Nat.le_of_ble_eq_true rfl) rfl rfl rfl rfl) (rfl : _ = AV.row [_] 1) rfl rfl rfl ?_
      exact z_e
    refine DrawFrom.doneR (rfl : _ = (_, _) :: (_, _) :: (_, _) :: (_, _) :: (_, _) :: (_, _) :: _) ?_
    refine z_c (of_spec [decF (l.take j)] (by simp)) ?_
    refine z_c (hadd) ?_
    refine z_s [_, _, _] ?_
    refine WL.nil ?_
    refine W.region ?_
    refine z_p ?_
    refine z_p ?_
    refine sq (v_slice_str rfl rfl rfl rfl ⟨_, _, rfl, by omega, rfl⟩ rfl (by omega) (by omega)) (show _ = AV.str (l.drop j) from by simp [List.take_of_length_le]) rfl rfl rfl ?_
    refine z_p ?_
    refine WL.nil ?_
    refine W.region ?_
    refine z_p ?_
    refine WL.nil ?_
    exact ⟨(l.drop j).length, _, _, by simp; omega, ⟨dn ++ l.take j, l.drop j, false, by rw [List.append_assoc, List.take_append_drop]; exact hsl, rfl, fun h => (by cases h), fun _ => by rw [List.length_drop]; exact hk4, rfl⟩, (by refine ⟨?_, ?_, rfl, Nat.le_of_ble_eq_true rfl⟩ <;> repeat (first | exact trivial | exact rfl | refine ⟨rfl, ?_⟩ | refine ⟨.inr ⟨rfl, ?_⟩, ?_⟩ | refine ⟨.inl rfl, ?_⟩))⟩

end Go.Proofs.YtfiohajalaejoaaDoor

set_option linter.unusedVariables false
set_option linter.unusedSimpArgs false
namespace Go.Proofs.YtfiohajalaejoaaDoor
open Go Go.Lens

/-! ### signs -/
def isLet (c : UInt8) : Bool := decide (97 ≤ c.toNat) && decide (c.toNat ≤ 122)
def isWord (c : UInt8) : Bool := isLet c || isDig c || c == 45
def isNum (c : UInt8) : Bool := isDig c || c == 45 || c == 46
theorem isDig_eq (c : UInt8) : isDig c = (decide (48 ≤ c.toNat) && decide (c.toNat ≤ 57)) := by
  rw [Bool.eq_iff_iff, isDig_iff]; simp
def rLet (r : Nat) : Bool := decide (97 ≤ r) && decide (r ≤ 122)
def rDig (r : Nat) : Bool := decide (48 ≤ r) && decide (r ≤ 57)
def rWord (r : Nat) : Bool := rLet r || rDig r || r == 45
def rNum (r : Nat) : Bool := rDig r || r == 45 || r == 46
theorem letter_spec (r : Nat) : Does Tryd.prog 59 [.int .i32 r] (.bool (rLet r)) := by
  refine does tab_ok Tryd.func59 rfl rfl rfl rfl rfl fun w0 H0 hk hj => ?_
  by_cases h1 : 97 ≤ r
  · by_cases h2 : r ≤ 122
    · --@ n 0
      refine W.seq (W.region ?_)
      refine z_p ?_
      refine WL.nil ?_
      refine W.seq (W.region ?_)
      refine z_p ?_
      refine z_T (show (r : Int) ≥ 97 by omega) ?_
      refine z_p ?_
      refine z_p ?_
      refine z_T (show (r : Int) ≤ 122 by omega) ?_
      refine z_p ?_
      refine z_p ?_
      refine WL.nil ?_
      exact W.ret (fin rfl (.shut (.plain rfl) .nil) (by rw [rLet, decide_eq_true h1, decide_eq_true h2]; rfl))
    · --@ n 0
      refine W.seq (W.region ?_)
      refine z_p ?_
      refine WL.nil ?_
      refine W.seq (W.region ?_)
      refine z_p ?_
      refine z_T (show (r : Int) ≥ 97 by omega) ?_
      refine z_p ?_
      refine z_p ?_
      refine z_F (show ¬ (r : Int) ≤ 122 by omega) ?_
      refine z_p ?_
      refine z_p ?_
      refine WL.nil ?_
      exact W.ret (fin rfl (.shut (.plain rfl) .nil) (by rw [rLet, decide_eq_true h1, decide_eq_false h2]; rfl))
  · --@ n 0
    refine W.seq (W.region ?_)
    refine z_p ?_
    refine WL.nil ?_
    refine W.seq (W.region ?_)
    refine z_p ?_
    refine z_F (show ¬ (r : Int) ≥ 97 by omega) ?_
    refine z_p ?_
    refine z_o ?_
    refine z_o ?_
    refine z_p ?_
    refine z_p ?_
    refine WL.nil ?_
    exact W.ret (fin rfl (.shut (.plain rfl) .nil) (by rw [rLet, decide_eq_false h1]; rfl))
theorem digit_spec (r : Nat) : Does Tryd.prog 62 [.int .i32 r] (.bool (rDig r)) := by
  refine does tab_ok Tryd.func62 rfl rfl rfl rfl rfl fun w0 H0 hk hj => ?_
  by_cases h1 : 48 ≤ r
  · by_cases h2 : r ≤ 57
    · --@ n 0
      refine W.seq (W.region ?_)
      refine z_p ?_
      refine WL.nil ?_
      refine W.seq (W.region ?_)
      refine z_p ?_
      refine z_T (show (r : Int) ≥ 48 by omega) ?_
      refine z_p ?_
      refine z_p ?_
      refine z_T (show (r : Int) ≤ 57 by omega) ?_
      refine z_p ?_
      refine z_p ?_
      refine WL.nil ?_
      exact W.ret (fin rfl (.shut (.plain rfl) .nil) (by rw [rDig, decide_eq_true h1, decide_eq_true h2]; rfl))
    · --@ n 0
      refine W.seq (W.region ?_)
      refine z_p ?_
      refine WL.nil ?_
      refine W.seq (W.region ?_)
      refine z_p ?_
      refine z_T (show (r : Int) ≥ 48 by omega) ?_
      refine z_p ?_
      refine z_p ?_
      refine z_F (show ¬ (r : Int) ≤ 57 by omega) ?_
      refine z_p ?_
      refine z_p ?_
      refine WL.nil ?_
      exact W.ret (fin rfl (.shut (.plain rfl) .nil) (by rw [rDig, decide_eq_true h1, decide_eq_false h2]; rfl))
  · --@ n 0
    refine W.seq (W.region ?_)
    refine z_p ?_
    refine WL.nil ?_
    refine W.seq (W.region ?_)
    refine z_p ?_
    refine z_F (show ¬ (r : Int) ≥ 48 by omega) ?_
    refine z_p ?_
    refine z_o ?_
    refine z_o ?_
    refine z_p ?_
    refine z_p ?_
    refine WL.nil ?_
    exact W.ret (fin rfl (.shut (.plain rfl) .nil) (by rw [rDig, decide_eq_false h1]; rfl))
theorem eql_nat (r k : Nat) : ((r : Int) == (k : Int)) = (r == k) := by
  rw [Bool.eq_iff_iff, beq_iff_eq, beq_iff_eq]; omega
theorem wordly_spec (r : Nat) : Does Tryd.prog 61 [.int .i32 r] (.bool (rWord r)) := by
  have h1 := letter_spec r
  have h2 := digit_spec r
  refine does tab_ok Tryd.func61 rfl rfl rfl rfl rfl fun w0 H0 hk hj => ?_
  cases hl : rLet r with
  | true =>
    rw [hl] at h1
    refine W.seq (W.region ?_)
    refine z_p ?_
    refine WL.nil ?_
    refine W.seq (W.region ?_)
    refine z_p ?_
    refine z_c (h1) ?_
    refine z_p ?_
    refine z_o ?_
    refine z_o ?_
    refine z_p ?_
    refine z_p ?_
    refine z_o ?_
    refine z_o ?_
    refine z_p ?_
    refine z_p ?_
    refine WL.nil ?_
    exact W.ret (fin rfl (.shut (.plain rfl) .nil) (by rw [rWord, hl]; rfl))
  | false =>
    rw [hl] at h1
    cases hd : rDig r with
    | true =>
      rw [hd] at h2
      refine W.seq (W.region ?_)
      refine z_p ?_
      refine WL.nil ?_
      refine W.seq (W.region ?_)
      refine z_p ?_
      refine z_c (h1) ?_
      refine z_p ?_
      refine z_p ?_
      refine z_c (h2) ?_
      refine z_p ?_
      refine z_p ?_
      refine z_o ?_
      refine z_o ?_
      refine z_p ?_
      refine z_p ?_
      refine WL.nil ?_
      exact W.ret (fin rfl (.shut (.plain rfl) .nil) (by rw [rWord, hl, hd]; rfl))
    | false =>
      rw [hd] at h2
      refine W.seq (W.region ?_)
      refine z_p ?_
      refine WL.nil ?_
      refine W.seq (W.region ?_)
      refine z_p ?_
      refine z_c (h1) ?_
      refine z_p ?_
      refine z_p ?_
      refine z_c (h2) ?_
      refine z_p ?_
      refine z_p ?_
      refine z_p ?_
      refine sq (v_pure rfl) (show _ = AV.bool (r == 45) from congrArg AV.bool (eql_nat r 45)) rfl rfl rfl ?_
      refine z_p ?_
      refine z_p ?_
      refine WL.nil ?_
      exact W.ret (fin rfl (.shut (.plain rfl) .nil) (by rw [rWord, hl, hd]; rfl))
theorem numeric_spec (r : Nat) : Does Tryd.prog 63 [.int .i32 r] (.bool (rNum r)) := by
  have h2 := digit_spec r
  refine does tab_ok Tryd.func63 rfl rfl rfl rfl rfl fun w0 H0 hk hj => ?_
  cases hd : rDig r with
  | true =>
    rw [hd] at h2
    refine W.seq (W.region ?_)
    refine z_p ?_
    refine WL.nil ?_
    refine W.seq (W.region ?_)
    refine z_p ?_
    refine z_c (h2) ?_
    refine z_p ?_
    refine z_o ?_
    refine z_o ?_
    refine z_p ?_
    refine z_p ?_
    refine z_o ?_
    refine z_o ?_
    refine z_p ?_
    refine z_p ?_
    refine WL.nil ?_
    exact W.ret (fin rfl (.shut (.plain rfl) .nil) (by rw [rNum, hd]; rfl))
  | false =>
    rw [hd] at h2
    cases h45 : (r == 45) with
    | true =>
      refine W.seq (W.region ?_)
      refine z_p ?_
      refine WL.nil ?_
      refine W.seq (W.region ?_)
      refine z_p ?_
      refine z_c (h2) ?_
      refine z_p ?_
      refine z_p ?_
      refine sq (v_pure rfl) (show _ = AV.bool true from congrArg AV.bool ((eql_nat r 45).trans h45)) rfl rfl rfl ?_
      refine z_p ?_
      refine z_p ?_
      refine z_o ?_
      refine z_o ?_
      refine z_p ?_
      refine z_p ?_
      refine WL.nil ?_
      exact W.ret (fin rfl (.shut (.plain rfl) .nil) (by rw [rNum, hd, h45]; rfl))
    | false =>
      refine W.seq (W.region ?_)
      refine z_p ?_
      refine WL.nil ?_
      refine W.seq (W.region ?_)
      refine z_p ?_
      refine z_c (h2) ?_
      refine z_p ?_
      refine z_p ?_
      refine sq (v_pure rfl) (show _ = AV.bool false from congrArg AV.bool ((eql_nat r 45).trans h45)) rfl rfl rfl ?_
      refine z_p ?_
      refine z_p ?_
      refine z_p ?_
      refine sq (v_pure rfl) (show _ = AV.bool (r == 46) from congrArg AV.bool (eql_nat r 46)) rfl rfl rfl ?_
      refine z_p ?_
      refine z_p ?_
      refine WL.nil ?_
      exact W.ret (fin rfl (.shut (.plain rfl) .nil) (by rw [rNum, hd, h45]; rfl))

theorem b_eq (c : UInt8) (k : Nat) (hk : k < 256) : (c == UInt8.ofNat k) = (c.toNat == k) := by
  rw [Bool.eq_iff_iff, beq_iff_eq, beq_iff_eq]
  constructor
  · intro h; rw [h]; exact UInt8.toNat_ofNat_of_lt' hk
  · intro h; rw [← h]; simp
theorem rWord_of (c : UInt8) : rWord c.toNat = isWord c := by
  rw [rWord, isWord, rLet, isLet, rDig, isDig_eq, show (45 : UInt8) = UInt8.ofNat 45 from rfl, b_eq c 45 (by decide)]
theorem rNum_of (c : UInt8) : rNum c.toNat = isNum c := by
  rw [rNum, isNum, rDig, isDig_eq, show (45 : UInt8) = UInt8.ofNat 45 from rfl, b_eq c 45 (by decide), show (46 : UInt8) = UInt8.ofNat 46 from rfl, b_eq c 46 (by decide)]
theorem rWord_high (r : Nat) (h : 128 ≤ r) : rWord r = false := by
  rw [rWord, rLet, rDig, decide_eq_false (by omega : ¬ r ≤ 122), decide_eq_false (by omega : ¬ r ≤ 57), show (r == 45) = false from beq_eq_false_iff_ne.2 (by omega)]; simp
theorem rNum_high (r : Nat) (h : 128 ≤ r) : rNum r = false := by
  rw [rNum, rDig, decide_eq_false (by omega : ¬ r ≤ 57), show (r == 45) = false from beq_eq_false_iff_ne.2 (by omega), show (r == 46) = false from beq_eq_false_iff_ne.2 (by omega)]; simp

theorem takeWhile_take {α : Type} (p : α → Bool) : ∀ (l : List α) (k : Nat), (∀ j b, j < k → l[j]? = some b → p b = true) → (∀ b, l[k]? = some b → p b = false) → k ≤ l.length → l.takeWhile p = l.take k
  | [], k, _, _, _ => by simp
  | a :: l, 0, _, h2, _ => by
    have := h2 a rfl
    simp [List.takeWhile, this]
  | a :: l, k + 1, h1, h2, hk => by
    have ha := h1 0 a (by omega) rfl
    rw [List.takeWhile_cons, if_pos ha, List.take_succ_cons, takeWhile_take p l k (fun j b hj hb => h1 (j + 1) b (by omega) (by simpa using hb)) (fun b hb => h2 b (by simpa using hb)) (by simpa using hk)]

/-- the signs of a kind that a text begins with -/
theorem run_spec (s : List UInt8) (hs : s.length ≤ 9223372036854775807) (f : FuncId) (q : Nat → Bool) (p : UInt8 → Bool) (hf : ∀ r : Nat, Does Tryd.prog f [.int .i32 r] (.bool (q r))) (hq : ∀ c : UInt8, q c.toNat = p c) (hh : ∀ r, 128 ≤ r → q r = false) :
    Does Tryd.prog 60 [.str s, .func (.func f) [] []] (.str (s.takeWhile p)) := by
  refine does tab_ok Tryd.func60 rfl rfl rfl rfl rfl fun w0 H0 hk hj => ?_
  refine W.seq (W.region ?_)
  refine z_p ?_
  refine WL.nil ?_
  refine W.seq (W.seq (W.region ?_))
  refine z_p ?_
  refine sn (v_range rfl rfl rfl rfl) (rfl : _ = AV.ptr 0 0 0) (rfl : _ = [_]) rfl rfl rfl ?_
  refine WL.nil ?_
  refine W.block ?_
  refine W.while (fun m st => ∃ i : Nat, m = s.length - i ∧ i ≤ s.length ∧ (∀ j b, j < i → s[j]? = some b → p b = true) ∧ st = ⟨[(0, .str s), (1, .func (.func f) [] []), (8, .ptr 0 0 0)], [.iter s i]⟩) s.length
    ⟨0, by omega, by omega, fun j b h => by omega, rfl⟩ (by refine ⟨?_, ?_, rfl, Nat.le_of_ble_eq_true rfl⟩ <;> repeat (first | exact trivial | exact rfl | refine ⟨rfl, ?_⟩ | refine ⟨.inr ⟨rfl, ?_⟩, ?_⟩ | refine ⟨.inl rfl, ?_⟩)) ?_
  rintro m _ ⟨i, rfl, hi, hp, rfl⟩
  by_cases hlt : i < s.length
  · obtain ⟨b, hb⟩ : ∃ b, s[i]? = some b := ⟨s[i], by simp [hlt]⟩
    obtain ⟨r, k, hdec, hlow, hhigh, hk1, hrm⟩ := next_sign hb
    have hcall := hf r
    have hqr : q r = p b := by
      rcases Nat.lt_or_ge b.toNat 128 with h | h
      · rw [(hlow h).1, hq]
      · rw [hh r (hhigh h), ← hq, hh _ h]
    rw [hqr] at hcall
    cases hpb : p b with
    | false =>
      rw [hpb] at hcall
      have hres : s.takeWhile p = s.take i := takeWhile_take p s i hp (fun b' hb' => by rw [hb] at hb'; injection hb' with hb'; subst hb'; exact hpb) hi
      have e : AV.str ((s.drop (0 : Nat)).take ((i : Int).toNat - 0)) = .str (s.takeWhile p) := by rw [hres]; simp
      refine W.seq (W.region ?_)
      refine sn (v_next hdec rfl rfl rfl hlt) (rfl : _ = AV.tup [.bool true, .int .i64 i, .int .i32 r]) (rfl : _ = [AObj.iter s (i + k)]) rfl rfl rfl ?_
      refine z_p ?_
      refine WL.nil ?_
      refine W.seq (W.cond_true rfl (W.skip ?_))
      refine W.block ?_
      refine W.seq (W.region ?_)
      refine z_p ?_
      refine z_p ?_
      refine z_p ?_
      refine z_p ?_
      refine WL.nil ?_
      refine W.seq (W.region ?_)
      refine z_p ?_
      refine z_p ?_
      refine z_c (hcall) ?_
      refine z_p ?_
      refine WL.nil ?_
      refine W.cond_true rfl ?_
      refine W.seq (W.region ?_)
      refine z_p ?_
      refine z_p ?_
      refine sq (v_slice_str rfl rfl rfl rfl rfl ⟨_, _, rfl, by omega, rfl⟩ (by omega) (by omega)) (show _ = AV.str (s.takeWhile p) from e) rfl rfl rfl ?_
      refine z_p ?_
      refine WL.nil ?_
      exact W.ret (fin rfl (.shut (.plain rfl) .nil) rfl)
    | true =>
      rw [hpb] at hcall
      have hb128 : b.toNat < 128 := by
        rcases Nat.lt_or_ge b.toNat 128 with h | h
        · exact h
        · have := hh _ h; rw [hq, hpb] at this; cases this
      obtain ⟨_, rfl⟩ := hlow hb128
      refine W.seq (W.region ?_)
      refine sn (v_next hdec rfl rfl rfl hlt) (rfl : _ = AV.tup [.bool true, .int .i64 i, .int .i32 r]) (rfl : _ = [AObj.iter s (i + 1)]) rfl rfl rfl ?_
      refine z_p ?_
      refine WL.nil ?_
      refine W.seq (W.cond_true rfl (W.skip ?_))
      refine W.block ?_
      refine W.seq (W.region ?_)
      refine z_p ?_
      refine z_p ?_
      refine z_p ?_
      refine z_p ?_
      refine WL.nil ?_
      refine W.seq (W.region ?_)
      refine z_p ?_
      refine z_p ?_
      refine z_c (hcall) ?_
      refine z_p ?_
      refine WL.nil ?_
      refine W.cond_false rfl (W.skip ?_)
      refine ⟨s.length - (i + 1), _, _, by omega, ⟨i + 1, rfl, by omega, fun j b' hj hb' => ?_, rfl⟩, (by refine ⟨?_, ?_, rfl, Nat.le_of_ble_eq_true rfl⟩ <;> repeat (first | exact trivial | exact rfl | refine ⟨rfl, ?_⟩ | refine ⟨.inr ⟨rfl, ?_⟩, ?_⟩ | refine ⟨.inl rfl, ?_⟩))⟩
      by_cases h : j = i
      · subst h; rw [hb] at hb'; injection hb' with hb'; subst hb'; exact hpb
      · exact hp j b' (by omega) hb'
  · have hie : i = s.length := by omega
    subst hie
    have hres : s.takeWhile p = s := by rw [takeWhile_take p s s.length hp (fun b hb => by simp at hb) hi, List.take_length]
    refine W.seq (W.region ?_)
    refine sp (v_next_end rfl rfl rfl (Nat.le_refl _)) rfl rfl rfl ?_
    refine z_p ?_
    refine WL.nil ?_
    refine W.seq (W.cond_false rfl (W.exit ?_))
    refine W.seq (W.region ?_)
    refine z_p ?_
    refine z_p ?_
    refine WL.nil ?_
    exact W.ret (fin rfl (.shut (.plain rfl) .nil) (by rw [hres]; rfl))

end Go.Proofs.YtfiohajalaejoaaDoor

set_option linter.unusedVariables false
set_option linter.unusedSimpArgs false
namespace Go.Proofs.YtfiohajalaejoaaDoor
open Go Go.Lens

theorem wholeRow_nils : Sub (.agg [.nils, .bool false]) (wholeRow [] false) := Sub.agg1 Sub.nils
def signP (s : List UInt8) : Bool := hasP s [45]
def plainP (s : List UInt8) : List UInt8 := if hasP s [45] then s.drop 1 else s
/-- what Parse tells of a whole number's text -/
def wholeParse (s : List UInt8) : AV :=
  if (plainP s).length > 4096 then .tup [wholeRow [] false, .int .i64 7] else if numText (plainP s) = false then .tup [wholeRow [] false, .int .i64 5] else
  if signP s && (digs LB (decF (plainP s)) == []) then .tup [wholeRow [] false, .int .i64 5] else .tup [wholeRow (digs LB (decF (plainP s))) (signP s && !(digs LB (decF (plainP s)) == [])), .int .i64 0]

theorem wholeParse_err (s : List UInt8) (e : Int) (he : e ≠ 0) (hs : s.length ≤ 9223372036854775807) (h : Does Tryd.prog 51 [.str (plainP s)] (.tup [natRow [], .int .i64 e])) :
    Does Tryd.prog 28 [.str s] (.tup [wholeRow [] false, .int .i64 e]) := by
  have hcut := cutPrefix_spec s [45]
  refine does tab_ok Tryd.func28 rfl rfl rfl rfl rfl fun w0 H0 hk hj => ?_
  refine W.seq (W.region ?_)
  refine z_a 0 [_] ?_
  refine z_p ?_
  refine WL.nil ?_
  refine W.seq (W.region ?_)
  refine z_p ?_
  refine z_c (hcut) ?_
  refine z_p ?_
  refine z_p ?_
  refine z_p ?_
  refine z_p ?_
  refine z_p ?_
  refine WL.nil ?_
  refine W.seq (W.region ?_)
  refine z_p ?_
  refine z_c (h) ?_
  refine z_p ?_
  refine z_p ?_
  refine z_p ?_
  refine z_a 1 [_, _] ?_
  refine z_s [_, _] ?_
  refine z_p ?_
  refine WL.nil ?_
  refine W.seq (W.block ?_)
  refine W.seq (W.region ?_)
  refine z_p ?_
  refine sp (v_is true rfl rfl rfl rfl (show (e != 0) = true by simp [he])) rfl rfl rfl ?_
  refine z_p ?_
  refine WL.nil ?_
  refine W.cond_true rfl ?_
  refine W.seq (W.region ?_)
  refine sq (v_build rfl rfl rfl rfl rfl rfl rfl) (rfl : _ = AV.agg [_, _]) rfl rfl rfl ?_
  refine WL.sub 21 rfl wholeRow_nils ?_
  refine z_p ?_
  refine z_s [_, _] ?_
  refine z_p ?_
  refine WL.nil ?_
  exact W.ret (fin (cs := [wholeRow [] false, .int .i64 e]) rfl (.shut (.plain (wholeRow_plain _ _)) (.shut (.plain rfl) .nil)) rfl)

theorem wholeParse_ok (s : List UInt8) (l : List Nat) (hs : s.length ≤ 9223372036854775807) (h : Does Tryd.prog 51 [.str (plainP s)] (.tup [natRow l, .int .i64 0])) :
    Does Tryd.prog 28 [.str s] (if signP s && (l == []) then .tup [wholeRow [] false, .int .i64 5] else .tup [wholeRow l (signP s && !(l == [])), .int .i64 0]) := by
  have hcut := cutPrefix_spec s [45]
  refine does tab_ok Tryd.func28 rfl rfl rfl rfl rfl fun w0 H0 hk hj => ?_
  refine W.seq (W.region ?_)
  refine z_a 0 [_] ?_
  refine z_p ?_
  refine WL.nil ?_
  refine W.seq (W.region ?_)
  refine z_p ?_
  refine z_c (hcut) ?_
  refine z_p ?_
  refine z_p ?_
  refine z_p ?_
  refine z_p ?_
  refine z_p ?_
  refine WL.nil ?_
  refine W.seq (W.region ?_)
  refine z_p ?_
  refine z_c (h) ?_
  refine z_p ?_
  refine z_p ?_
  refine z_p ?_
  refine z_a 1 [_, _] ?_
  refine z_s [_, _] ?_
  refine z_p ?_
  refine WL.nil ?_
  refine W.seq (W.block ?_)
  refine W.seq (W.region ?_)
  refine z_p ?_
  refine sp (v_is false rfl rfl rfl rfl rfl) rfl rfl rfl ?_
  refine z_p ?_
  refine WL.nil ?_
  refine W.cond_false rfl ?_
  by_cases hb : hasP s [45] = true
  · skip
    refine W.seq (W.region ?_)
    refine sq (v_pure rfl) (show _ = AV.bool true from by rw [hb]) rfl rfl rfl ?_
    refine z_p ?_
    first | refine z_l1 ?_ | refine z_r1 ?_
    refine z_c (zero_spec l) ?_
    refine z_p ?_
    refine z_p ?_
    refine WL.nil ?_
    refine W.cond rfl (fun hc => ?_) (fun hc => ?_)
    · skip
      refine W.seq (W.region ?_)
      refine sq (v_build rfl rfl rfl rfl rfl rfl rfl) (rfl : _ = AV.agg [_, _]) rfl rfl rfl ?_
      refine WL.sub 29 rfl wholeRow_nils ?_
      refine z_s [_, _] ?_
      refine z_p ?_
      refine WL.nil ?_
      refine W.ret (fin (cs := [wholeRow [] false, .int .i64 5]) rfl (.shut (.plain (wholeRow_plain _ _)) (.shut (.plain rfl) .nil)) ?_)
      rw [if_pos (by simp only [signP, hb, hc, Bool.and_self])]; rfl
    · refine W.skip ?_
      refine W.seq (W.region ?_)
      first | refine z_l1 ?_ | refine z_r1 ?_
      refine z_p ?_
      refine z_c (wholeOf_spec l (hasP s [45])) ?_
      refine z_s [_, _] ?_
      refine z_p ?_
      refine WL.nil ?_
      refine W.ret (fin (cs := [wholeRow l (hasP s [45] && !(l == [])), .int .i64 0]) rfl (.shut (.plain (wholeRow_plain _ _)) (.shut (.plain rfl) .nil)) ?_)
      rw [if_neg (by simp only [signP, hb, hc]; decide)]; rfl
  · have hb' : hasP s [45] = false := by simpa using hb
    refine W.seq (W.region ?_)
    refine sq (v_pure rfl) (show _ = AV.bool false from by rw [hb']) rfl rfl rfl ?_
    refine z_p ?_
    refine z_o ?_
    refine z_o ?_
    refine z_p ?_
    refine z_p ?_
    refine WL.nil ?_
    refine W.cond_false rfl (W.skip ?_)
    refine W.seq (W.region ?_)
    first | refine z_l1 ?_ | refine z_r1 ?_
    refine z_p ?_
    refine z_c (wholeOf_spec l (hasP s [45])) ?_
    refine z_s [_, _] ?_
    refine z_p ?_
    refine WL.nil ?_
    refine W.ret (fin (cs := [wholeRow l (hasP s [45] && !(l == [])), .int .i64 0]) rfl (.shut (.plain (wholeRow_plain _ _)) (.shut (.plain rfl) .nil)) ?_)
    rw [if_neg (by simp only [signP, hb', Bool.false_and]; decide)]; rfl

theorem wholeParse_spec (s : List UInt8) (hs : s.length ≤ 9223372036854775807) : Does Tryd.prog 28 [.str s] (wholeParse s) := by
  have hp : (plainP s).length ≤ 9223372036854775807 := by
    simp only [plainP]; split
    · simp; omega
    · exact hs
  have h := digParse_spec (plainP s) hp
  simp only [digParse] at h
  simp only [wholeParse]
  by_cases h1 : (plainP s).length > 4096
  · rw [if_pos h1] at h ⊢
    exact wholeParse_err s 7 (by decide) hs h
  · rw [if_neg h1] at h ⊢
    by_cases h2 : numText (plainP s) = true
    · rw [if_pos h2] at h
      rw [if_neg (by simp [h2])]
      exact wholeParse_ok s _ hs h
    · rw [if_neg h2] at h
      rw [if_pos (by simpa using h2)]
      exact wholeParse_err s 5 (by decide) hs h

def wE (s : List UInt8) : Int := if (plainP s).length > 4096 then 7 else if numText (plainP s) = false then 5 else if signP s && (digs LB (decF (plainP s)) == []) then 5 else 0
def wL (s : List UInt8) : List Nat := if wE s = 0 then digs LB (decF (plainP s)) else []
def wB (s : List UInt8) : Bool := if wE s = 0 then signP s && !(digs LB (decF (plainP s)) == []) else false
theorem wholeParse_eq (s : List UInt8) : wholeParse s = .tup [wholeRow (wL s) (wB s), .int .i64 (wE s)] := by
  simp only [wholeParse, wL, wB, wE]
  by_cases h1 : (plainP s).length > 4096
  · simp [h1]
  · by_cases h2 : numText (plainP s) = false
    · simp [h1, h2]
    · by_cases h3 : (signP s && (digs LB (decF (plainP s)) == [])) = true
      · simp only [if_neg h1, if_neg h2, if_pos h3]; rfl
      · simp only [if_neg h1, if_neg h2, if_neg h3]; rfl

/-! ### whole numbers -/
def wAV (z : Int) : AV := wholeRow (digs LB z.natAbs) (decide (z < 0))
@[simp] theorem wAV_plain (z : Int) : (wAV z).plain = true := wholeRow_plain _ _
theorem wOf (n : Nat) (b : Bool) (z : Int) (h : z = if b then -(n : Int) else n) : Does Tryd.prog 53 [natAV n, .bool b] (wAV z) := by
  have h1 := wholeOf_spec (digs LB n) b
  have e1 : z.natAbs = n := by rw [h]; split <;> omega
  have e2 : decide (z < 0) = (b && !(digs LB n == [])) := by
    have e3 : (digs LB n == []) = decide (n = 0) := by rw [Bool.eq_iff_iff, beq_iff_eq, decide_eq_true_eq, digs_eq_nil (by decide)]
    rw [e3, h, Bool.eq_iff_iff]
    cases b <;> simp <;> omega
  rw [wAV, e1, e2]; exact h1

end Go.Proofs.YtfiohajalaejoaaDoor

set_option linter.unusedVariables false
set_option linter.unusedSimpArgs false
namespace Go.Proofs.YtfiohajalaejoaaDoor
open Go Go.Lens Go.RowKit

theorem liteIndex_spec (s : List UInt8) (c : UInt8) : Does Tryd.prog 88 [.str s, .int .u8 c.toNat] (.int .i64 (Lib.indexByte s c)) := by
  refine Does.of_below (Callable.of Tryd.func88 (by kernel_rfl) (by kernel_rfl)) fun H w vs hr => ?_
  obtain ⟨v1, _, rfl, h1, v2, _, rfl, h2, rfl⟩ := hr
  simp only [RelV] at h1 h2
  subst h1; subst h2
  refine (Tryd.stringslite_IndexByte ⟨s.toArray⟩ c.toNat w).mono fun e w' ⟨he, hw⟩ => ⟨_, he, fun H' => ?_, hw ▸ Below.refl _ _⟩
  simp [RelV]
theorem index1_spec (s : List UInt8) (c : UInt8) : Does Tryd.prog 95 [.str s, .str [c]] (.int .i64 (Lib.indexByte s c)) := by
  have h := liteIndex_spec s c
  have h0 : ([c] : List UInt8)[(0 : Int).toNat]? = some c := rfl
  refine does tab_ok Tryd.func95 rfl rfl rfl rfl rfl fun w0 H0 hk hj => ?_
  by_cases he : [c] = s
  · have hi : Lib.indexByte s c = 0 := by rw [← he]; simp [Lib.indexByte]
    --@ n 0
    refine W.seq (W.region ?_)
    refine z_p ?_
    refine WL.nil ?_
    refine W.seq (W.region ?_)
    refine z_p ?_
    refine sp (v_len rfl rfl rfl rfl rfl trivial) rfl rfl rfl ?_
    refine z_p ?_
    refine WL.nil ?_
    refine W.seq (W.block ?_)
    refine W.seq (W.region ?_)
    refine z_p ?_
    refine z_p ?_
    refine z_p ?_
    refine z_p ?_
    refine z_p ?_
    refine sq (v_pure rfl) (show _ = AV.bool true from congrArg AV.bool (beq_iff_eq.2 he)) rfl rfl rfl ?_
    refine z_p ?_
    refine z_p ?_
    refine WL.nil ?_
    refine W.cond_true rfl ?_
    refine W.seq (W.region ?_)
    refine z_p ?_
    refine WL.nil ?_
    exact W.ret (fin rfl (.shut (.plain rfl) .nil) (by rw [hi]; rfl))
  · --@ n 0
    refine W.seq (W.region ?_)
    refine z_p ?_
    refine WL.nil ?_
    refine W.seq (W.region ?_)
    refine z_p ?_
    refine sp (v_len rfl rfl rfl rfl rfl trivial) rfl rfl rfl ?_
    refine z_p ?_
    refine WL.nil ?_
    refine W.seq (W.block ?_)
    refine W.seq (W.region ?_)
    refine z_p ?_
    refine z_p ?_
    refine z_p ?_
    refine z_p ?_
    refine z_p ?_
    refine sq (v_pure rfl) (show _ = AV.bool false from congrArg AV.bool (beq_eq_false_iff_ne.2 he)) rfl rfl rfl ?_
    refine z_p ?_
    refine z_p ?_
    refine WL.nil ?_
    refine W.cond_false rfl ?_
    refine W.seq (W.region ?_)
    refine z_p ?_
    refine z_p ?_
    refine z_p ?_
    refine WL.nil ?_
    refine W.cond_true rfl ?_
    refine W.seq (W.region ?_)
    refine z_p ?_
    refine z_p ?_
    refine sp (v_index_str rfl rfl rfl rfl rfl (by omega) h0) rfl rfl rfl ?_
    refine z_c (h) ?_
    refine z_p ?_
    refine WL.nil ?_
    exact W.ret (fin rfl (.shut (.plain rfl) .nil) rfl)

theorem takeWhile_self {α : Type} {p : α → Bool} : ∀ {l : List α}, (∀ x ∈ l, p x = true) → l.takeWhile p = l
  | [], _ => rfl
  | a :: l, h => by rw [List.takeWhile_cons, if_pos (h a (by simp)), takeWhile_self fun x hx => h x (by simp [hx])]
theorem dropWhile_nil {α : Type} {p : α → Bool} : ∀ {l : List α}, l.dropWhile p = [] ↔ ∀ x ∈ l, p x = true
  | [] => by simp
  | a :: l => by
    rw [List.dropWhile_cons]
    by_cases h : p a = true
    · rw [if_pos h, dropWhile_nil]; simp [h]
    · rw [if_neg h]; simp [h]
/-- ahead of a sign, and behind it -/
def cutA (c : UInt8) (s : List UInt8) : List UInt8 := s.takeWhile (· != c)
def cutB (c : UInt8) (s : List UInt8) : List UInt8 := (s.dropWhile (· != c)).drop 1
theorem take_while_eq {α : Type} (p : α → Bool) : ∀ (l : List α) (k : Nat), (∀ j b, j < k → l[j]? = some b → p b = true) → (∀ b, l[k]? = some b → p b = false) → k ≤ l.length → l.takeWhile p = l.take k
  | [], k, _, _, _ => by simp
  | a :: l, 0, _, h2, _ => by
    have := h2 a rfl
    simp [List.takeWhile, this]
  | a :: l, k + 1, h1, h2, hk => by
    have ha := h1 0 a (by omega) rfl
    rw [List.takeWhile_cons, if_pos ha, List.take_succ_cons, take_while_eq p l k (fun j b hj hb => h1 (j + 1) b (by omega) (by simpa using hb)) (fun b hb => h2 b (by simpa using hb)) (by simpa using hk)]
theorem cut_case (s : List UInt8) (c : UInt8) : (∃ o : Nat, Lib.indexByte s c = o ∧ o < s.length ∧ s.take o = cutA c s ∧ s.drop (o + 1) = cutB c s ∧ s.drop o = s.dropWhile (· != c) ∧ s.contains c = true) ∨
    (Lib.indexByte s c = -1 ∧ cutA c s = s ∧ cutB c s = [] ∧ s.dropWhile (· != c) = [] ∧ s.contains c = false) := by
  have hge := Lib.indexByte_ge s c
  by_cases h : Lib.indexByte s c = -1
  · right
    have hn := Lib.indexByte_none h
    have hall : ∀ x ∈ s, (x != c) = true := by
      intro x hx
      rw [bne_iff_ne]
      intro e
      subst e
      obtain ⟨k, hk⟩ := List.getElem?_of_mem hx
      exact hn k hk
    refine ⟨h, ?_, ?_, ?_, ?_⟩
    · exact takeWhile_self hall
    · rw [cutB, dropWhile_nil.2 hall]; rfl
    · exact dropWhile_nil.2 hall
    · rw [Bool.eq_false_iff]
      intro hc
      have hc : c ∈ s := by simpa using hc
      have := hall c hc
      simp at this
  · left
    obtain ⟨o, ho⟩ := Int.eq_ofNat_of_zero_le (show 0 ≤ Lib.indexByte s c by omega)
    obtain ⟨h1, h2⟩ := Lib.indexByte_some ho
    obtain ⟨hlt, hget⟩ := List.getElem?_eq_some_iff.1 h1
    have a1 : ∀ j b, j < o → s[j]? = some b → (b != c) = true := fun j b hj hb => by rw [bne_iff_ne]; intro e; subst e; exact h2 j hj hb
    have a2 : ∀ b, s[o]? = some b → (b != c) = false := fun b hb => by rw [h1] at hb; injection hb with hb; subst hb; simp
    have e2 := Lib.dropWhile_drop (· != c) s o a1 a2 (by omega)
    refine ⟨o, ho, hlt, (take_while_eq _ s o a1 a2 (by omega)).symm, ?_, e2.symm, ?_⟩
    · rw [cutB, e2, List.drop_drop]
    · simpa using List.mem_of_getElem? h1
theorem cut1_spec (s : List UInt8) (c : UInt8) (hs : s.length ≤ 9223372036854775806) : Does Tryd.prog 89 [.str s, .str [c]] (.tup [.str (cutA c s), .str (cutB c s), .bool (s.contains c)]) := by
  have hi := index1_spec s c
  have hlite : Does Tryd.prog 109 [.str s, .str [c]] (.tup [.str (cutA c s), .str (cutB c s), .bool (s.contains c)]) := by
    refine does tab_ok Tryd.func109 rfl rfl rfl rfl rfl fun w0 H0 hk hj => ?_
    rcases cut_case s c with ⟨o, ho, hlt, h1, h2, _, h3⟩ | ⟨ho, h1, h2, _, h3⟩
    · rw [ho] at hi
      refine W.seq (W.region ?_)
      refine z_p ?_
      refine z_p ?_
      refine z_p ?_
      refine WL.nil ?_
      refine W.seq (W.seq (W.region ?_))
      refine z_p ?_
      refine z_p ?_
      refine z_c (hi) ?_
      refine z_p ?_
      refine WL.nil ?_
      refine W.seq (W.region ?_)
      refine z_p ?_
      refine z_T (show (o : Int) ≥ 0 by omega) ?_
      refine WL.nil ?_
      refine W.cond_true rfl ?_
      refine W.seq (W.middle mixed [13, 14, 15, 16, 17, 18, 19, 20, 21] [3, 4, 5, 6, 7, 8] [0, 1, 2] 1 rfl rfl rfl rfl rfl rfl ?_)
      apply MidV.step
      · intro more
        refine z_p ?_
        exact z_e
      apply MidV.step
      · intro more
        refine z_p ?_
        exact z_e
      apply MidV.step
      · intro more
        refine sq (v_slice_str rfl rfl rfl rfl rfl ⟨_, _, rfl, by omega, rfl⟩ (by omega) (by omega)) (show _ = AV.str (cutA c s) from congrArg AV.str (by rw [← h1]; simp)) rfl rfl rfl ?_
        exact z_e
      refine MidV.done ?_
      apply MidM.val rfl
      · intro more
        refine z_p ?_
        exact z_e
      refine MidM.done ?_
      apply MidF.step
      · refine ⟨fun more => ?_, fun more => ?_, trivial⟩
        refine z_p ?_
        exact z_e
        refine z_p ?_
        exact z_e
      apply MidF.step
      · refine ⟨fun more => ?_, fun more => ?_, trivial⟩
        refine z_p ?_
        exact z_e
        refine z_p ?_
        exact z_e
      apply MidF.step
      · refine ⟨fun more => ?_, fun more => ?_, trivial⟩
        refine z_p ?_
        exact z_e
        refine z_p ?_
        exact z_e
      apply MidF.step
      · refine ⟨fun more => ?_, fun more => ?_, trivial⟩
        refine sq (v_len rfl rfl rfl rfl rfl trivial) (show _ = AV.int .i64 1 from rfl) rfl rfl rfl ?_
        exact z_e
        refine sq (v_len rfl rfl rfl rfl rfl trivial) (show _ = AV.int .i64 1 from rfl) rfl rfl rfl ?_
        exact z_e
      apply MidF.step
      · refine ⟨fun more => ?_, fun more => ?_, trivial⟩
        refine z_i ?_
        exact z_e
        refine z_i ?_
        exact z_e
      apply MidF.step
      · refine ⟨fun more => ?_, fun more => ?_, trivial⟩
        refine sq (v_slice_str rfl rfl rfl rfl ⟨_, _, rfl, by omega, rfl⟩ rfl (by omega) (by omega)) (show _ = AV.str (cutB c s) from congrArg AV.str (by rw [← h2]; simp [List.take_of_length_le])) rfl rfl rfl ?_
        exact z_e
        refine sq (v_slice_str rfl rfl rfl rfl ⟨_, _, rfl, by omega, rfl⟩ rfl (by omega) (by omega)) (show _ = AV.str (cutB c s) from congrArg AV.str (by rw [← h2]; simp [List.take_of_length_le])) rfl rfl rfl ?_
        exact z_e
      refine MidF.done ?_
      refine z_p ?_
      refine z_p ?_
      refine WL.nil ?_
      exact W.ret (fin rfl (.shut (.plain rfl) (.shut (.plain rfl) (.shut (.plain rfl) .nil))) (by rw [h3]; rfl))
    · rw [ho] at hi
      refine W.seq (W.region ?_)
      refine z_p ?_
      refine z_p ?_
      refine z_p ?_
      refine WL.nil ?_
      refine W.seq (W.seq (W.region ?_))
      refine z_p ?_
      refine z_p ?_
      refine z_c (hi) ?_
      refine z_p ?_
      refine WL.nil ?_
      refine W.seq (W.region ?_)
      refine z_p ?_
      refine z_F (show ¬ (-1 : Int) ≥ 0 by decide) ?_
      refine WL.nil ?_
      refine W.cond_false rfl (W.skip ?_)
      refine W.seq (W.region ?_)
      refine z_p ?_
      refine z_p ?_
      refine z_p ?_
      refine z_p ?_
      refine WL.nil ?_
      exact W.ret (fin rfl (.shut (.plain rfl) (.shut (.plain rfl) (.shut (.plain rfl) .nil))) (by rw [h1, h2, h3]; rfl))
  refine does tab_ok Tryd.func89 rfl rfl rfl rfl rfl fun w0 H0 hk hj => ?_
  refine W.seq (W.region ?_)
  refine z_p ?_
  refine z_p ?_
  refine z_p ?_
  refine WL.nil ?_
  refine W.seq (W.region ?_)
  refine z_p ?_
  refine z_p ?_
  refine z_c (hlite) ?_
  refine z_p ?_
  refine z_p ?_
  refine z_p ?_
  refine z_p ?_
  refine z_p ?_
  refine z_p ?_
  refine WL.nil ?_
  exact W.ret (fin rfl (.shut (.plain rfl) (.shut (.plain rfl) (.shut (.plain rfl) .nil))) rfl)

/-! ### decimals -/
theorem trimF_nilG (l s : List UInt8) : trimF l s = [] ↔ s.all l.contains = true := by
  rw [trimF, dropWhile_nil, List.all_eq_true, dropR]
  constructor
  · intro h x hx
    have hx' : x ∈ s.reverse.takeWhile l.contains ++ s.reverse.dropWhile l.contains := by rw [List.takeWhile_append_dropWhile]; simpa using hx
    rcases List.mem_append.1 hx' with h1 | h1
    · exact List.all_eq_true.1 (List.all_takeWhile ..) x h1
    · exact h x (by simpa using h1)
  · intro h x hx
    exact h x (List.mem_reverse.1 ((List.dropWhile_suffix _).subset (List.mem_reverse.1 hx)))
def digsOK (t : List UInt8) : Bool := !(t == []) && t.all isDig
theorem plain_spec (t : List UInt8) (ht : t.length ≤ 9223372036854775807) : Does Tryd.prog 90 [.str t] (.bool (digsOK t)) := by
  have h := trimA_spec digitL t digit_ascii (by decide) ht
  refine does tab_ok Tryd.func90 rfl rfl rfl rfl rfl fun w0 H0 hk hj => ?_
  by_cases h0 : t = []
  · --@ n 0
    refine W.seq (W.region ?_)
    refine z_p ?_
    refine WL.nil ?_
    refine W.seq (W.region ?_)
    refine z_p ?_
    refine sq (v_pure rfl) (show _ = AV.bool false from congrArg AV.bool (bne_eq_false_iff_eq.2 h0)) rfl rfl rfl ?_
    refine z_p ?_
    refine z_o ?_
    refine z_o ?_
    refine z_o ?_
    refine z_p ?_
    refine z_p ?_
    refine WL.nil ?_
    exact W.ret (fin rfl (.shut (.plain rfl) .nil) (by rw [digsOK, h0]; rfl))
  · have e : (trimF digitL t == []) = digsOK t := by
      rw [digsOK, Bool.eq_iff_iff, beq_iff_eq, trimF_nil]
      simp [h0]
    refine W.seq (W.region ?_)
    refine z_p ?_
    refine WL.nil ?_
    refine W.seq (W.region ?_)
    refine z_p ?_
    refine sq (v_pure rfl) (show _ = AV.bool true from congrArg AV.bool (bne_iff_ne.2 h0)) rfl rfl rfl ?_
    refine z_p ?_
    refine z_p ?_
    refine z_c (h) ?_
    refine sq (v_pure rfl) (show _ = AV.bool (digsOK t) from congrArg AV.bool e) rfl rfl rfl ?_
    refine z_p ?_
    refine z_p ?_
    refine WL.nil ?_
    exact W.ret (fin rfl (.shut (.plain rfl) .nil) rfl)

/-- a decimal, as the program holds it -/
def decAV (z : Int) (k : Nat) : AV := .agg [.row (u64AV (digs LB z.natAbs)) (digs LB z.natAbs).length, .bool (decide (z < 0)), .int .i64 k]
@[simp] theorem decAV_plain (z : Int) (k : Nat) : (decAV z k).plain = true := by simp [decAV, AV.plain, plainL, u64AV_plain]
theorem decAV_zero : decAV 0 0 = .agg [.row [] 0, .bool false, .int .i64 0] := by rw [decAV, show (0 : Int).natAbs = 0 from rfl, digs_zero]; rfl
theorem dec_nils : Sub (.agg [.nils, .bool false, .int .i64 0]) (decAV 0 0) := by rw [decAV_zero]; exact Sub.agg1 Sub.nils
def dAhead (s : List UInt8) : List UInt8 := cutA 46 (plainP s)
def dBehind (s : List UInt8) : List UInt8 := cutB 46 (plainP s)
def dDot (s : List UInt8) : Bool := (plainP s).contains 46
def dAll (s : List UInt8) : List UInt8 := dAhead s ++ dBehind s
def dBad (s : List UInt8) : Bool := !digsOK (dAhead s) || dDot s && !digsOK (dBehind s) || decide (1 < (dAhead s).length) && (dAhead s).head? == some 48
/-- the error of a text that isn't too long -/
def dErr (s : List UInt8) : Int := if dBad s || signP s && (dAll s).all (· == 48) then 5 else if 64 < (dBehind s).length then 10 else 0
def decErr (s : List UInt8) : Int := if 4096 < s.length then 7 else dErr s
def decZ (s : List UInt8) : Int := if decErr s = 0 then (if signP s then -((decF (dAll s) : Nat) : Int) else (decF (dAll s) : Nat)) else 0
def decK (s : List UInt8) : Nat := if decErr s = 0 then (dBehind s).length else 0
theorem plainP_length (s : List UInt8) : (plainP s).length ≤ s.length := by
  rw [plainP]; split
  · rw [List.length_drop]; omega
  · exact Nat.le_refl _
theorem cut_length (c : UInt8) (t : List UInt8) : (cutA c t).length + (cutB c t).length ≤ t.length := by
  have h : (t.takeWhile (· != c)).length + (t.dropWhile (· != c)).length = t.length := by rw [← List.length_append, List.takeWhile_append_dropWhile]
  rw [cutA, cutB, List.length_drop]; omega
theorem dAll_length (s : List UInt8) : (dAhead s).length + (dBehind s).length ≤ s.length := Nat.le_trans (cut_length 46 (plainP s)) (plainP_length s)
theorem cutB_nodot {t : List UInt8} {c : UInt8} (h : t.contains c = false) : cutB c t = [] := by
  rcases cut_case t c with ⟨_, _, _, _, _, _, h1⟩ | ⟨_, _, h1, _⟩
  · rw [h] at h1; cases h1
  · exact h1
/-- of a good text, all digits are digits -/
theorem dAll_digs {s : List UInt8} (h : dBad s = false) : ∀ c ∈ dAll s, isDig c = true := by
  simp only [dBad, Bool.or_eq_false_iff, Bool.not_eq_false', Bool.and_eq_false_iff] at h
  obtain ⟨⟨h1, h2⟩, _⟩ := h
  intro c hc
  rcases List.mem_append.1 hc with hc | hc
  · simp only [digsOK, Bool.and_eq_true, List.all_eq_true] at h1
    exact h1.2 c hc
  · rcases h2 with h2 | h2
    · rw [dBehind, cutB_nodot h2] at hc; cases hc
    · simp only [digsOK, Bool.and_eq_true, List.all_eq_true] at h2
      exact h2.2 c hc
theorem dAll_ne {s : List UInt8} (h : dBad s = false) : dAhead s ≠ [] := by
  simp only [dBad, Bool.or_eq_false_iff, Bool.not_eq_false', Bool.and_eq_false_iff] at h
  obtain ⟨⟨h1, _⟩, _⟩ := h
  intro e
  rw [e] at h1; cases h1
theorem decF_zeros (t : List UInt8) : decF (t.dropWhile (· == 48)) = decF t := by
  induction t with
  | nil => rfl
  | cons c t ih =>
    rw [List.dropWhile_cons]
    by_cases h : c = 48
    · subst h
      rw [if_pos (by decide), ih]
      have := decF_append [48] t
      rw [List.singleton_append] at this
      rw [this]
      have e : decF [48] = 0 := rfl
      rw [e, Nat.zero_mul, Nat.zero_add]
    · rw [if_neg (by simpa using h)]
/-- without its noughts ahead -/
def noZeros (t : List UInt8) : List UInt8 := if t.dropWhile (· == 48) = [] then [48] else t.dropWhile (· == 48)
theorem noZeros_val (t : List UInt8) : decF (noZeros t) = decF t := by
  rw [noZeros]; split
  · rename_i h; rw [← decF_zeros t, h]; rfl
  · exact decF_zeros t
theorem noZeros_num {t : List UInt8} (h : ∀ c ∈ t, isDig c = true) : numText (noZeros t) = true := by
  rw [noZeros]; split
  · decide
  · rename_i hne
    have h1 : ∀ c ∈ t.dropWhile (· == 48), isDig c = true := fun c hc => h c ((List.dropWhile_suffix _).subset hc)
    have h2 : (t.dropWhile (· == 48)).head? ≠ some 48 := by
      have := List.head?_dropWhile_not (· == (48 : UInt8)) t
      intro e
      rw [e] at this
      simp at this
    simp only [numText, Bool.and_eq_true, Bool.not_eq_true', List.all_eq_true]
    refine ⟨⟨by simpa using hne, h1⟩, ?_⟩
    rw [Bool.and_eq_false_iff]; right
    simpa using h2
theorem noZeros_length (t : List UInt8) : (noZeros t).length ≤ max t.length 1 := by
  rw [noZeros]; split
  · simp; omega
  · have := (List.dropWhile_suffix (l := t) (· == (48 : UInt8))).length_le; omega

theorem b_eqI (c : UInt8) (k : Nat) (hk : k < 256) : (((c.toNat : Nat) : Int) == ((k : Nat) : Int)) = (c == UInt8.ofNat k) := by
  rw [Bool.eq_iff_iff, beq_iff_eq, beq_iff_eq]
  constructor
  · intro h
    have : c.toNat = k := by omega
    rw [← this]; simp
  · intro h; rw [h, UInt8.toNat_ofNat_of_lt' hk]
set_option maxHeartbeats 1600000 in
theorem decParse_spec (s : List UInt8) (hs : s.length ≤ 9223372036854775806) : Does Tryd.prog 65 [.str s] (.tup [decAV (decZ s) (decK s), .int .i64 (decErr s)]) := by
  have hbad0 : ∀ e : Int, e ≠ 0 → decErr s = e → decAV (decZ s) (decK s) = decAV 0 0 := fun e h0 h => by
    rw [decZ, decK, h, if_neg h0, if_neg h0]
  refine does tab_ok Tryd.func65 rfl rfl rfl rfl rfl fun w0 H0 hk hj => ?_
  by_cases hlong : 4096 < s.length
  · have he : decErr s = 7 := by rw [decErr, if_pos hlong]
    refine W.seq (W.region ?_)
    refine z_a 0 [_] ?_
    refine z_p ?_
    refine WL.nil ?_
    refine W.seq (W.seq (W.region ?_))
    refine z_p ?_
    refine sp (v_len rfl rfl rfl rfl rfl trivial) rfl rfl rfl ?_
    refine z_T (show (s.length : Int) > 4096 by omega) ?_
    refine WL.nil ?_
    refine W.cond_true rfl ?_
    refine W.seq (W.region ?_)
    refine sp (VStep.sub (v_build rfl rfl rfl rfl rfl rfl rfl) dec_nils) rfl rfl rfl ?_
    refine z_s [_] ?_
    refine z_p ?_
    refine WL.nil ?_
    exact W.ret (fin (cs := [decAV 0 0, .int .i64 7]) rfl (.shut (.plain (decAV_plain _ _)) (.shut (.plain rfl) .nil)) (by rw [hbad0 7 (by decide) he, he]; rfl))
  · have hcut := cutPrefix_spec s [45]
    have hcd := cut1_spec (plainP s) 46 (by have := plainP_length s; omega)
    have hal := dAll_length s
    have hpa := plain_spec (dAhead s) (by omega)
    have hpb := plain_spec (dBehind s) (by omega)
    have hA : AV.str (if hasP s [45] then s.drop 1 else s) = .str (plainP s) := rfl
    obtain ⟨bd, hbd⟩ : ∃ bd, bd = dBad s := ⟨_, rfl⟩
    have hlt : ¬ (s.length : Int) > 4096 := by omega
    refine W.seq (W.region ?_)
    refine z_a 0 [_] ?_
    refine z_p ?_
    refine WL.nil ?_
    refine W.seq (W.seq (W.region ?_))
    refine z_p ?_
    refine sp (v_len rfl rfl rfl rfl rfl trivial) rfl rfl rfl ?_
    refine z_F hlt ?_
    refine WL.nil ?_
    refine W.cond_false rfl (W.skip ?_)
    refine W.seq (W.region ?_)
    refine z_p ?_
    refine z_c (hcut) ?_
    refine z_p ?_
    refine z_p ?_
    refine z_p ?_
    refine z_p ?_
    refine z_p ?_
    refine WL.nil ?_
    refine W.seq (W.region ?_)
    refine z_p ?_
    refine z_c (hcd) ?_
    refine z_p ?_
    refine z_p ?_
    refine z_p ?_
    refine z_p ?_
    refine z_p ?_
    refine z_p ?_
    refine z_p ?_
    refine WL.nil ?_
    refine W.seq (W.block ?_)
    refine W.seq (W.cut [(2, .ptr 0 0 0), (5, .bool (signP s)), (6, .str (dAhead s)), (7, .str (dBehind s)), (27, .bool bd)] [.cells [.nils, .bool false, .int .i64 0] 0 1 false none] ?_ ?_)
    · cases ha : digsOK (dAhead s) with
      | false =>
        rw [ha] at hpa
        have hb : bd = true := by rw [hbd, dBad, ha]; simp
        rw [hb]
        refine W.region ?_
        refine z_p ?_
        refine z_c (hpa) ?_
        refine z_p ?_
        refine z_p ?_
        refine z_o ?_
        refine z_o ?_
        refine z_o ?_
        refine z_o ?_
        refine z_o ?_
        refine z_o ?_
        refine z_p ?_
        refine z_p ?_
        refine z_o ?_
        refine z_o ?_
        refine z_o ?_
        refine z_o ?_
        refine z_o ?_
        refine z_o ?_
        refine z_o ?_
        refine z_o ?_
        refine z_p ?_
        refine z_p ?_
        refine WL.nil ?_
        exact ⟨rfl, (by refine ⟨?_, ?_, rfl, Nat.le_of_ble_eq_true rfl⟩ <;> repeat (first | exact trivial | exact rfl | refine ⟨rfl, ?_⟩ | refine ⟨.inr ⟨rfl, ?_⟩, ?_⟩ | refine ⟨.inl rfl, ?_⟩))⟩
      | true =>
        rw [ha] at hpa
        cases hd : dDot s with
        | true =>
          have hd' : (plainP s).contains 46 = true := hd
          cases hb : digsOK (dBehind s) with
          | false =>
            rw [hb] at hpb
            have hb2 : bd = true := by rw [hbd, dBad, ha, hd, hb]; simp
            rw [hb2]
            refine W.region ?_
            refine z_p ?_
            refine z_c (hpa) ?_
            refine z_p ?_
            refine z_p ?_
            refine sq (v_pure rfl) (show _ = AV.bool true from congrArg AV.bool hd') rfl rfl rfl ?_
            refine z_p ?_
            refine z_p ?_
            refine z_c (hpb) ?_
            refine z_p ?_
            refine z_p ?_
            refine z_p ?_
            refine z_p ?_
            refine z_o ?_
            refine z_o ?_
            refine z_o ?_
            refine z_o ?_
            refine z_o ?_
            refine z_o ?_
            refine z_o ?_
            refine z_o ?_
            refine z_p ?_
            refine z_p ?_
            refine WL.nil ?_
            exact ⟨rfl, (by refine ⟨?_, ?_, rfl, Nat.le_of_ble_eq_true rfl⟩ <;> repeat (first | exact trivial | exact rfl | refine ⟨rfl, ?_⟩ | refine ⟨.inr ⟨rfl, ?_⟩, ?_⟩ | refine ⟨.inl rfl, ?_⟩))⟩
          | true =>
            rw [hb] at hpb
            by_cases hl : 1 < (dAhead s).length
            · obtain ⟨c, r, hcr⟩ : ∃ c r, dAhead s = c :: r := by
                cases h : dAhead s with
                | nil => rw [h] at hl; simp at hl
                | cons c r => exact ⟨c, r, rfl⟩
              have h0 : (dAhead s)[(0 : Int).toNat]? = some c := by rw [hcr]; rfl
              have hb2 : bd = (c == 48) := by rw [hbd, dBad, ha, hd, hb, decide_eq_true hl, hcr]; cases hcc : (c == 48) <;> simp_all
              rw [hb2]
              refine W.region ?_
              refine z_p ?_
              refine z_c (hpa) ?_
              refine z_p ?_
              refine z_p ?_
              refine sq (v_pure rfl) (show _ = AV.bool true from congrArg AV.bool hd') rfl rfl rfl ?_
              refine z_p ?_
              refine z_p ?_
              refine z_c (hpb) ?_
              refine z_p ?_
              refine z_p ?_
              refine z_p ?_
              refine z_p ?_
              refine z_p ?_
              refine sp (v_len rfl rfl rfl rfl rfl trivial) rfl rfl rfl ?_
              refine z_T (show ((dAhead s).length : Int) > 1 by omega) ?_
              refine z_p ?_
              refine z_p ?_
              refine sp (v_index_str rfl rfl rfl rfl rfl (by omega) h0) rfl rfl rfl ?_
              refine sq (v_pure rfl) (show _ = AV.bool (c == 48) from congrArg AV.bool (b_eqI c 48 (by decide))) rfl rfl rfl ?_
              refine z_p ?_
              refine z_p ?_
              refine z_p ?_
              refine WL.nil ?_
              exact ⟨rfl, by cases hc48 : (c == 48) <;> exact (by refine ⟨?_, ?_, rfl, Nat.le_of_ble_eq_true rfl⟩ <;> repeat (first | exact trivial | exact rfl | refine ⟨rfl, ?_⟩ | refine ⟨.inr ⟨rfl, ?_⟩, ?_⟩ | refine ⟨.inl rfl, ?_⟩))⟩
            · have hb2 : bd = false := by rw [hbd, dBad, ha, hd, hb, decide_eq_false hl]; simp
              rw [hb2]
              refine W.region ?_
              refine z_p ?_
              refine z_c (hpa) ?_
              refine z_p ?_
              refine z_p ?_
              refine sq (v_pure rfl) (show _ = AV.bool true from congrArg AV.bool hd') rfl rfl rfl ?_
              refine z_p ?_
              refine z_p ?_
              refine z_c (hpb) ?_
              refine z_p ?_
              refine z_p ?_
              refine z_p ?_
              refine z_p ?_
              refine z_p ?_
              refine sp (v_len rfl rfl rfl rfl rfl trivial) rfl rfl rfl ?_
              refine z_F (show ¬ ((dAhead s).length : Int) > 1 by omega) ?_
              refine z_p ?_
              refine z_o ?_
              refine z_o ?_
              refine z_o ?_
              refine z_p ?_
              refine z_p ?_
              refine z_p ?_
              refine WL.nil ?_
              exact ⟨rfl, (by refine ⟨?_, ?_, rfl, Nat.le_of_ble_eq_true rfl⟩ <;> repeat (first | exact trivial | exact rfl | refine ⟨rfl, ?_⟩ | refine ⟨.inr ⟨rfl, ?_⟩, ?_⟩ | refine ⟨.inl rfl, ?_⟩))⟩
        | false =>
          have hd' : (plainP s).contains 46 = false := hd
          by_cases hl : 1 < (dAhead s).length
          · obtain ⟨c, r, hcr⟩ : ∃ c r, dAhead s = c :: r := by
              cases h : dAhead s with
              | nil => rw [h] at hl; simp at hl
              | cons c r => exact ⟨c, r, rfl⟩
            have h0 : (dAhead s)[(0 : Int).toNat]? = some c := by rw [hcr]; rfl
            have hb2 : bd = (c == 48) := by rw [hbd, dBad, ha, hd, decide_eq_true hl, hcr]; cases hcc : (c == 48) <;> simp_all
            rw [hb2]
            refine W.region ?_
            refine z_p ?_
            refine z_c (hpa) ?_
            refine z_p ?_
            refine z_p ?_
            refine sq (v_pure rfl) (show _ = AV.bool false from congrArg AV.bool hd') rfl rfl rfl ?_
            refine z_p ?_
            refine z_o ?_
            refine z_o ?_
            refine z_o ?_
            refine z_p ?_
            refine z_p ?_
            refine z_p ?_
            refine z_p ?_
            refine sp (v_len rfl rfl rfl rfl rfl trivial) rfl rfl rfl ?_
            refine z_T (show ((dAhead s).length : Int) > 1 by omega) ?_
            refine z_p ?_
            refine z_p ?_
            refine sp (v_index_str rfl rfl rfl rfl rfl (by omega) h0) rfl rfl rfl ?_
            refine sq (v_pure rfl) (show _ = AV.bool (c == 48) from congrArg AV.bool (b_eqI c 48 (by decide))) rfl rfl rfl ?_
            refine z_p ?_
            refine z_p ?_
            refine z_p ?_
            refine WL.nil ?_
            exact ⟨rfl, by cases hc48 : (c == 48) <;> exact (by refine ⟨?_, ?_, rfl, Nat.le_of_ble_eq_true rfl⟩ <;> repeat (first | exact trivial | exact rfl | refine ⟨rfl, ?_⟩ | refine ⟨.inr ⟨rfl, ?_⟩, ?_⟩ | refine ⟨.inl rfl, ?_⟩))⟩
          · have hb2 : bd = false := by rw [hbd, dBad, ha, hd, decide_eq_false hl]; simp
            rw [hb2]
            refine W.region ?_
            refine z_p ?_
            refine z_c (hpa) ?_
            refine z_p ?_
            refine z_p ?_
            refine sq (v_pure rfl) (show _ = AV.bool false from congrArg AV.bool hd') rfl rfl rfl ?_
            refine z_p ?_
            refine z_o ?_
            refine z_o ?_
            refine z_o ?_
            refine z_p ?_
            refine z_p ?_
            refine z_p ?_
            refine z_p ?_
            refine sp (v_len rfl rfl rfl rfl rfl trivial) rfl rfl rfl ?_
            refine z_F (show ¬ ((dAhead s).length : Int) > 1 by omega) ?_
            refine z_p ?_
            refine z_o ?_
            refine z_o ?_
            refine z_o ?_
            refine z_p ?_
            refine z_p ?_
            refine z_p ?_
            refine WL.nil ?_
            exact ⟨rfl, (by refine ⟨?_, ?_, rfl, Nat.le_of_ble_eq_true rfl⟩ <;> repeat (first | exact trivial | exact rfl | refine ⟨rfl, ?_⟩ | refine ⟨.inr ⟨rfl, ?_⟩, ?_⟩ | refine ⟨.inl rfl, ?_⟩))⟩
    cases hbd1 : bd with
    | true =>
      have he : decErr s = 5 := by rw [decErr, if_neg hlong, dErr, ← hbd, hbd1]; rfl
      refine W.cond_true rfl ?_
      refine W.seq (W.region ?_)
      refine sp (VStep.sub (v_build rfl rfl rfl rfl rfl rfl rfl) dec_nils) rfl rfl rfl ?_
      refine z_s [_] ?_
      refine z_p ?_
      refine WL.nil ?_
      exact W.ret (fin (cs := [decAV 0 0, .int .i64 5]) rfl (.shut (.plain (decAV_plain _ _)) (.shut (.plain rfl) .nil)) (by rw [hbad0 5 (by decide) he, he]; rfl))
    | false =>
      have hbad : dBad s = false := by rw [← hbd, hbd1]
      have hdig := dAll_digs hbad
      have hall : (dAll s).length ≤ s.length := by rw [dAll, List.length_append]; exact hal
      obtain ⟨zz, hzz⟩ : ∃ zz, zz = (signP s && (dAll s).all (· == 48)) := ⟨_, rfl⟩
      have htz := trimA_spec [48] (dAll s) (by decide) (by decide) (by omega)
      have htl := trimLeft_spec [48] (dAll s) (by decide) (by decide)
      have hc48 : ([48] : List UInt8).contains = (· == 48) := by funext c; rw [Bool.eq_iff_iff]; simp
      rw [hc48] at htl
      have hcat : AV.str (dAhead s ++ dBehind s) = .str (dAll s) := rfl
      refine W.cond_false rfl ?_
      refine W.seq (W.cut [(2, .ptr 0 0 0), (5, .bool (signP s)), (6, .str (dAhead s)), (7, .str (dBehind s)), (50, .bool zz)] [.cells [.nils, .bool false, .int .i64 0] 0 1 false none] ?_ ?_)
      · cases hsg : signP s with
        | false =>
          have hz1 : zz = false := by rw [hzz, hsg]; rfl
          rw [hz1]
          refine W.region ?_
          refine z_p ?_
          refine z_p ?_
          refine z_o ?_
          refine z_o ?_
          refine z_o ?_
          refine z_o ?_
          refine z_o ?_
          refine z_p ?_
          refine z_p ?_
          refine WL.nil ?_
          exact ⟨rfl, (by refine ⟨?_, ?_, rfl, Nat.le_of_ble_eq_true rfl⟩ <;> repeat (first | exact trivial | exact rfl | refine ⟨rfl, ?_⟩ | refine ⟨.inr ⟨rfl, ?_⟩, ?_⟩ | refine ⟨.inl rfl, ?_⟩))⟩
        | true =>
          have hz1 : (trimF [48] (dAll s) == []) = zz := by
            rw [hzz, hsg, Bool.true_and, Bool.eq_iff_iff, beq_iff_eq, trimF_nilG, hc48]
          refine W.region ?_
          refine z_p ?_
          refine z_p ?_
          refine z_p ?_
          refine z_p ?_
          refine sq (v_bin rfl rfl rfl (if_pos (by omega))) (show _ = AV.str (dAll s) from hcat) rfl rfl rfl ?_
          refine z_c (htz) ?_
          refine sq (v_pure rfl) (show _ = AV.bool zz from congrArg AV.bool hz1) rfl rfl rfl ?_
          refine z_p ?_
          refine z_p ?_
          refine WL.nil ?_
          exact ⟨rfl, by cases zz <;> exact (by refine ⟨?_, ?_, rfl, Nat.le_of_ble_eq_true rfl⟩ <;> repeat (first | exact trivial | exact rfl | refine ⟨rfl, ?_⟩ | refine ⟨.inr ⟨rfl, ?_⟩, ?_⟩ | refine ⟨.inl rfl, ?_⟩))⟩
      cases hz2 : zz with
      | true =>
        have he : decErr s = 5 := by rw [decErr, if_neg hlong, dErr, hbad, Bool.false_or, ← hzz, hz2]; rfl
        refine W.cond_true rfl ?_
        refine W.seq (W.region ?_)
        refine sp (VStep.sub (v_build rfl rfl rfl rfl rfl rfl rfl) dec_nils) rfl rfl rfl ?_
        refine z_s [_] ?_
        refine z_p ?_
        refine WL.nil ?_
        exact W.ret (fin (cs := [decAV 0 0, .int .i64 5]) rfl (.shut (.plain (decAV_plain _ _)) (.shut (.plain rfl) .nil)) (by rw [hbad0 5 (by decide) he, he]; rfl))
      | false =>
        refine W.cond_false rfl ?_
        by_cases h64 : 64 < (dBehind s).length
        · have he : decErr s = 10 := by rw [decErr, if_neg hlong, dErr, hbad, Bool.false_or, ← hzz, hz2, if_neg (by decide), if_pos h64]
          refine W.seq (W.region ?_)
          refine z_p ?_
          refine sp (v_len rfl rfl rfl rfl rfl trivial) rfl rfl rfl ?_
          refine z_T (show ((dBehind s).length : Int) > 64 by omega) ?_
          refine z_p ?_
          refine WL.nil ?_
          refine W.cond_true rfl ?_
          refine W.seq (W.region ?_)
          refine sp (VStep.sub (v_build rfl rfl rfl rfl rfl rfl rfl) dec_nils) rfl rfl rfl ?_
          refine z_s [_] ?_
          refine z_p ?_
          refine WL.nil ?_
          exact W.ret (fin (cs := [decAV 0 0, .int .i64 10]) rfl (.shut (.plain (decAV_plain _ _)) (.shut (.plain rfl) .nil)) (by rw [hbad0 10 (by decide) he, he]; rfl))
        · have he : decErr s = 0 := by rw [decErr, if_neg hlong, dErr, hbad, Bool.false_or, ← hzz, hz2, if_neg (by decide), if_neg h64]
          have hnl := noZeros_length (dAll s)
          have hpar := digParse_spec (noZeros (dAll s)) (by omega)
          rw [digParse, if_neg (by omega), if_pos (noZeros_num hdig), noZeros_val] at hpar
          obtain ⟨Z, hZ⟩ : ∃ Z : Int, Z = if signP s then -((decF (dAll s) : Nat) : Int) else (decF (dAll s) : Nat) := ⟨_, rfl⟩
          have hof := wOf (decF (dAll s)) (signP s) Z hZ
          rw [decZ, decK, he, if_pos rfl, if_pos rfl, ← hZ]
          refine W.seq (W.region ?_)
          refine z_p ?_
          refine sp (v_len rfl rfl rfl rfl rfl trivial) rfl rfl rfl ?_
          refine z_F (show ¬ ((dBehind s).length : Int) > 64 by omega) ?_
          refine z_p ?_
          refine WL.nil ?_
          refine W.cond_false rfl (W.skip ?_)
          refine W.seq (W.region ?_)
          refine z_p ?_
          refine z_p ?_
          refine sq (v_bin rfl rfl rfl (if_pos (by omega))) (show _ = AV.str (dAll s) from hcat) rfl rfl rfl ?_
          refine z_c (htl) ?_
          refine z_p ?_
          refine WL.nil ?_
          refine W.seq (W.cut [(2, .ptr 0 0 0), (5, .bool (signP s)), (7, .str (dBehind s)), (9, .str (noZeros (dAll s)))] [.cells [.nils, .bool false, .int .i64 0] 0 1 false none] ?_ ?_)
          · by_cases hn : (dAll s).dropWhile (· == 48) = []
            · have e : noZeros (dAll s) = [48] := by rw [noZeros, if_pos hn]
              rw [e]
              refine W.seq (W.region ?_)
              refine z_p ?_
              refine sq (v_pure rfl) (show _ = AV.bool true from congrArg AV.bool (beq_iff_eq.2 hn)) rfl rfl rfl ?_
              refine WL.nil ?_
              refine W.cond_true rfl ?_
              refine W.region ?_
              refine z_p ?_
              refine WL.nil ?_
              exact ⟨rfl, (by refine ⟨?_, ?_, rfl, Nat.le_of_ble_eq_true rfl⟩ <;> repeat (first | exact trivial | exact rfl | refine ⟨rfl, ?_⟩ | refine ⟨.inr ⟨rfl, ?_⟩, ?_⟩ | refine ⟨.inl rfl, ?_⟩))⟩
            · have e : noZeros (dAll s) = (dAll s).dropWhile (· == 48) := by rw [noZeros, if_neg hn]
              rw [e]
              refine W.seq (W.region ?_)
              refine z_p ?_
              refine sq (v_pure rfl) (show _ = AV.bool false from congrArg AV.bool (beq_eq_false_iff_ne.2 hn)) rfl rfl rfl ?_
              refine WL.nil ?_
              refine W.cond_false rfl (W.skip ?_)
              exact ⟨rfl, (by refine ⟨?_, ?_, rfl, Nat.le_of_ble_eq_true rfl⟩ <;> repeat (first | exact trivial | exact rfl | refine ⟨rfl, ?_⟩ | refine ⟨.inr ⟨rfl, ?_⟩, ?_⟩ | refine ⟨.inl rfl, ?_⟩))⟩
          refine W.seq (W.region ?_)
          refine z_p ?_
          refine z_c (hpar) ?_
          refine z_p ?_
          refine z_p ?_
          refine z_p ?_
          refine z_a 1 [_, _] ?_
          refine z_s [_, _] ?_
          refine z_p ?_
          refine WL.nil ?_
          refine W.seq (W.region ?_)
          first | refine z_l1 ?_ | refine z_r1 ?_
          refine z_p ?_
          refine z_c (hof) ?_
          refine z_p ?_
          refine sp (v_len rfl rfl rfl rfl rfl trivial) rfl rfl rfl ?_
          refine sq (v_build rfl rfl rfl rfl rfl rfl rfl) (rfl : _ = AV.agg [_, _, _]) rfl rfl rfl ?_
          refine z_s [_, _] ?_
          refine z_p ?_
          refine WL.nil ?_
          exact W.ret (fin (cs := [decAV Z (dBehind s).length, .int .i64 0]) rfl (.shut (.plain (decAV_plain _ _)) (.shut (.plain rfl) .nil)) rfl)

end Go.Proofs.YtfiohajalaejoaaDoor
