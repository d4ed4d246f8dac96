/- The contracts of the library functions that this program calls. -/
import Derived.Shelf.Strings.Builder1
import Derived.Shelf.Strings.Builder2
import Derived.Shelf.Strings.Trim
import Derived.Shelf.Small.Utf8
import Derived.Shelf.Small.Strs
import Derived.Shelf.Small.Wraps
import Derived.Shelf.Strings.BuilderF
import Derived.Shelf.Strings.BuilderK
import Derived.Shelf.Utf8.RuneCount
import Derived.Shelf.Strings.Builder2Cap
import Derived.Shelf.Strconv.Atoi
import Derived.Shelf.Strconv.Itoa0
import Derived.Shelf.Strconv.Itoa1
import Derived.Shelf.LaysM
import Derived.Shelf.Strconv.Itoa2
import Derived.Shelf.Strconv.Itoa3
import Derived.Shelf.Strconv.AtoiErrFast
import Derived.Shelf.Strconv.ParseIntEmpty
import Derived.Shelf.Strconv.AtoiFail
import Derived.Shelf.Strconv.Clone
import Derived.Shelf.Strconv.SyntaxError
import Derived.Shelf.LaysC
import Derived.Shelf.Strconv.ToError
import Derived.Shelf.Strconv.AtoiErr
import Derived.Shelf.Strconv.Lower
import Derived.Shelf.Strconv.ParseUint10
import Derived.Shelf.Strconv.ParseUint10Empty
import Derived.Shelf.Strconv.ParseUint10Any
import Derived.Shelf.Strconv.ParseInt10
import Derived.Shelf.Strconv.AtoiLong
import Derived.Shelf.Strconv.AtoiInnerAll
import Derived.Shelf.Strconv.RangeError
import Derived.Shelf.Strconv.ToErrorRange
import Derived.Shelf.Strconv.AtoiAll
import Derived.Shelf.Strings.Search1
import Derived.Shelf.Strings.Search2
import Derived.Shelf.Strings.Search3
import Derived.Shelf.Strings.Cut
import Derived.Shelf.Strings.Count
import Derived.Shelf.Strings.Shaped
import Derived.Shelf.GgClosure.StringsIndexFunc
import Derived.Ground.GgwProg
import Derived.Shelf.GgClosure.StringsIndexFuncTop
import Derived.Shelf.GgClosure.StringsRunes
import Derived.Shelf.Strings.Prefix
import Derived.Shelf.Strings.Split
import Derived.Shelf.Strings.SplitShaped
import Derived.Shelf.Unicode.Decode
import Derived.Shelf.Strings.Runes
import Derived.Shelf.Strings.RuneCount
import Derived.Shelf.Strings.AsciiSet
import Derived.Shelf.Strings.Explode
import Derived.Shelf.Unicode.DecodeSlow
import Derived.Shelf.Unicode.DecodeAny
import Derived.Shelf.Unicode.DecodeLast
import Derived.Test.YtedjnaggkakphaaGreatDoorProg
set_option linter.all false
namespace Go.Proofs
open Go.Shelf
def Tryz.lays162_ren : Go.Shelf.Ren := ⟨fun | 162 => 57 | 232 => 92 | 227 => 93 | 234 => 94 | 236 => 95 | 228 => 114 | 271 => 115 | 151 => 116 | 120 => 138 | 197 => 129 | 152 => 139 | 260 => 148 | 137 => 96 | 119 => 156 | 224 => 126 | 225 => 125 | 217 => 117 | 266 => 140 | n => n, fun | 9 => 9 | 4 => 4 | 3 => 3 | 5 => 5 | 117 => 113 | 116 => 112 | 0 => 0 | 124 => 116 | 21 => 21 | 105 => 129 | 46 => 42 | 119 => 50 | 139 => 199 | 138 => 198 | n => n, fun | 3 => 4 | 4 => 5 | n => n⟩
theorem Tryz.lays162 : Go.Proofs.Lays.n162 Tryz.prog Tryz.lays162_ren := {
 mixed := by kernel_rfl
 f119 := Tryz.func156.trans (congrArg some (by kernel_rfl))
 f120 := Tryz.func138.trans (congrArg some (by kernel_rfl))
 f137 := Tryz.func96.trans (congrArg some (by kernel_rfl))
 f151 := Tryz.func116.trans (congrArg some (by kernel_rfl))
 f152 := Tryz.func139.trans (congrArg some (by kernel_rfl))
 f162 := Tryz.func57.trans (congrArg some (by kernel_rfl))
 f197 := Tryz.func129.trans (congrArg some (by kernel_rfl))
 f217 := Tryz.func117.trans (congrArg some (by kernel_rfl))
 f224 := Tryz.func126.trans (congrArg some (by kernel_rfl))
 f225 := Tryz.func125.trans (congrArg some (by kernel_rfl))
 f227 := Tryz.func93.trans (congrArg some (by kernel_rfl))
 f228 := Tryz.func114.trans (congrArg some (by kernel_rfl))
 f232 := Tryz.func92.trans (congrArg some (by kernel_rfl))
 f234 := Tryz.func94.trans (congrArg some (by kernel_rfl))
 f236 := Tryz.func95.trans (congrArg some (by kernel_rfl))
 f260 := Tryz.func148.trans (congrArg some (by kernel_rfl))
 f266 := Tryz.func140.trans (congrArg some (by kernel_rfl))
 f271 := Tryz.func115.trans (congrArg some (by kernel_rfl))
 t0 := Tryz.underlying0
 a0 := Tryz.isAgg0
 z0 := Tryz.sizeOf0
 v0 := Tryz.zeroValue0
 t3 := Tryz.underlying3
 a3 := Tryz.isAgg3
 z3 := Tryz.sizeOf3
 v3 := Tryz.zeroValue3
 t4 := Tryz.underlying4
 a4 := Tryz.isAgg4
 z4 := Tryz.sizeOf4
 v4 := Tryz.zeroValue4
 t5 := Tryz.underlying5
 a5 := Tryz.isAgg5
 z5 := Tryz.sizeOf5
 v5 := Tryz.zeroValue5
 t9 := Tryz.underlying9
 a9 := Tryz.isAgg9
 z9 := Tryz.sizeOf9
 v9 := Tryz.zeroValue9
 t21 := Tryz.underlying21
 a21 := Tryz.isAgg21
 z21 := Tryz.sizeOf21
 v21 := Tryz.zeroValue21
 t46 := Tryz.underlying42
 a46 := Tryz.isAgg42
 z46 := Tryz.sizeOf42
 v46 := Tryz.zeroValue42
 t105 := Tryz.underlying129
 a105 := Tryz.isAgg129
 z105 := Tryz.sizeOf129
 v105 := Tryz.zeroValue129
 t116 := Tryz.underlying112
 a116 := Tryz.isAgg112
 z116 := Tryz.sizeOf112
 t117 := Tryz.underlying113
 a117 := Tryz.isAgg113
 z117 := Tryz.sizeOf113
 v117 := Tryz.zeroValue113
 t119 := Tryz.underlying50
 a119 := Tryz.isAgg50
 z119 := Tryz.sizeOf50
 t124 := Tryz.underlying116
 a124 := Tryz.isAgg116
 z124 := Tryz.sizeOf116
 v124 := Tryz.zeroValue116
 t138 := Tryz.underlying198
 a138 := Tryz.isAgg198
 z138 := Tryz.sizeOf198
 v138 := Tryz.zeroValue198
 t139 := Tryz.underlying199
 a139 := Tryz.isAgg199
 z139 := Tryz.sizeOf199
 v139 := Tryz.zeroValue199
 g3 := by kernel_rfl
 g4 := by kernel_rfl }
open Go.RowKit in
/-- strings.TrimRight: "TrimRight returns a slice of the string s, with all trailing Unicode code points contained in cutset removed.": AT A cutset OF ONE ASCII BYTE. The world is as it was. (LAID: no walk: one application.) -/
theorem Tryz.strings_TrimRight_one (s : ByteArray) (c : UInt8) (hc : c.toNat < 128) (w : World) (hs : s.size ≤ 9223372036854775807) :
 Calls Tryz.prog 57 #[.string s, .string ⟨#[c]⟩] w fun e w' => e = .returned (.string ⟨(Lib.trimRightB s.data.toList c).toArray⟩) ∧ w' = w := Any.strings_TrimRight_one Tryz.lays162 s c hc w hs
def Tryz.lays137_ren : Go.Shelf.Ren := ⟨fun | 137 => 96 | 217 => 117 | 266 => 140 | n => n, fun | 9 => 9 | 5 => 5 | 3 => 3 | n => n, fun | n => n⟩
theorem Tryz.lays137 : Go.Proofs.Lays.n137 Tryz.prog Tryz.lays137_ren := {
 mixed := by kernel_rfl
 f137 := Tryz.func96.trans (congrArg some (by kernel_rfl))
 f217 := Tryz.func117.trans (congrArg some (by kernel_rfl))
 f266 := Tryz.func140.trans (congrArg some (by kernel_rfl))
 t3 := Tryz.underlying3
 a3 := Tryz.isAgg3
 z3 := Tryz.sizeOf3
 v3 := Tryz.zeroValue3
 t5 := Tryz.underlying5
 a5 := Tryz.isAgg5
 z5 := Tryz.sizeOf5
 v5 := Tryz.zeroValue5
 t9 := Tryz.underlying9
 a9 := Tryz.isAgg9
 z9 := Tryz.sizeOf9
 v9 := Tryz.zeroValue9 }
open Go.RowKit in
/-- strings.IndexByte: "IndexByte returns the index of the first instance of c in s, or -1 if c is not present in s.": IT RETURNS 'Lib.indexByte s c'; the world is as it was. (LAID: no walk: one application.) -/
theorem Tryz.strings_IndexByte (s : ByteArray) (c : Int) (w : World) :
 Calls Tryz.prog 96 #[.string s, .int .u8 c] w fun e w' => e = .returned (.int .i64 (Lib.indexByte s.data.toList c.toNat.toUInt8)) ∧ w' = w := Any.strings_IndexByte Tryz.lays137 s c w
def Tryz.lays103_ren : Go.Shelf.Ren := ⟨fun | 103 => 44 | 210 => 85 | 206 => 102 | n => n, fun | 9 => 9 | 4 => 4 | 24 => 68 | 3 => 3 | n => n, fun | n => n⟩
theorem Tryz.lays103 : Go.Proofs.Lays.n103 Tryz.prog Tryz.lays103_ren := {
 mixed := by kernel_rfl
 f103 := Tryz.func44.trans (congrArg some (by kernel_rfl))
 f206 := Tryz.func102.trans (congrArg some (by kernel_rfl))
 f210 := Tryz.func85.trans (congrArg some (by kernel_rfl))
 t3 := Tryz.underlying3
 a3 := Tryz.isAgg3
 z3 := Tryz.sizeOf3
 v3 := Tryz.zeroValue3
 t4 := Tryz.underlying4
 a4 := Tryz.isAgg4
 z4 := Tryz.sizeOf4
 v4 := Tryz.zeroValue4
 t9 := Tryz.underlying9
 a9 := Tryz.isAgg9
 z9 := Tryz.sizeOf9
 v9 := Tryz.zeroValue9
 t24 := Tryz.underlying68
 a24 := Tryz.isAgg68
 z24 := Tryz.sizeOf68
 v24 := Tryz.zeroValue68 }
open Go.RowKit in
/-- strings.CutPrefix: "CutPrefix returns s without the provided leading prefix string and reports whether it found the prefix. If s doesn't start with prefix, CutPrefix returns s, false. If prefix is the empty string, CutPrefix returns s, true.": IT RETURNS '(Lib.trimPrefix s p, Lib.hasPrefix s p)'; the world is as it was. (LAID: no walk: one application.) -/
theorem Tryz.strings_CutPrefix (s p : ByteArray) (w : World) :
 Calls Tryz.prog 44 #[.string s, .string p] w fun e w' => e = .returned (.tuple #[.string ⟨(Lib.trimPrefix s.data.toList p.data.toList).toArray⟩, .bool (Lib.hasPrefix s.data.toList p.data.toList)]) ∧ w' = w := Any.strings_CutPrefix Tryz.lays103 s p w
def Tryz.lays172_ren : Go.Shelf.Ren := ⟨fun | 172 => 49 | 244 => 89 | 245 => 90 | 247 => 108 | 279 => 109 | 280 => 110 | 281 => 111 | 282 => 112 | 287 => 131 | 316 => 132 | 171 => 56 | 205 => 133 | 321 => 149 | 322 => 150 | 243 => 91 | 246 => 113 | 283 => 134 | 284 => 135 | 285 => 136 | 286 => 137 | 129 => 152 | 317 => 151 | 318 => 153 | 319 => 154 | 320 => 155 | 337 => 167 | 338 => 168 | n => n, fun | 9 => 9 | 3 => 3 | 75 => 76 | 76 => 77 | 4 => 4 | 5 => 5 | 167 => 122 | 37 => 22 | 0 => 0 | 85 => 123 | 2 => 2 | 168 => 125 | 53 => 148 | 175 => 149 | 46 => 42 | 210 => 152 | 127 => 177 | 145 => 180 | 143 => 178 | 21 => 21 | 171 => 154 | 173 => 157 | 212 => 182 | 51 => 93 | 20 => 20 | 213 => 183 | 232 => 204 | 233 => 205 | 80 => 206 | n => n, fun | 15 => 1 | 16 => 2 | 17 => 3 | 18 => 6 | 19 => 7 | n => n⟩
theorem Tryz.lays172 : Go.Proofs.Lays.n172 Tryz.prog Tryz.lays172_ren := {
 mixed := by kernel_rfl
 f129 := Tryz.func152.trans (congrArg some (by kernel_rfl))
 f171 := Tryz.func56.trans (congrArg some (by kernel_rfl))
 f172 := Tryz.func49.trans (congrArg some (by kernel_rfl))
 f205 := Tryz.func133.trans (congrArg some (by kernel_rfl))
 f243 := Tryz.func91.trans (congrArg some (by kernel_rfl))
 f244 := Tryz.func89.trans (congrArg some (by kernel_rfl))
 f245 := Tryz.func90.trans (congrArg some (by kernel_rfl))
 f246 := Tryz.func113.trans (congrArg some (by kernel_rfl))
 f247 := Tryz.func108.trans (congrArg some (by kernel_rfl))
 f279 := Tryz.func109.trans (congrArg some (by kernel_rfl))
 f280 := Tryz.func110.trans (congrArg some (by kernel_rfl))
 f281 := Tryz.func111.trans (congrArg some (by kernel_rfl))
 f282 := Tryz.func112.trans (congrArg some (by kernel_rfl))
 f283 := Tryz.func134.trans (congrArg some (by kernel_rfl))
 f284 := Tryz.func135.trans (congrArg some (by kernel_rfl))
 f285 := Tryz.func136.trans (congrArg some (by kernel_rfl))
 f286 := Tryz.func137.trans (congrArg some (by kernel_rfl))
 f287 := Tryz.func131.trans (congrArg some (by kernel_rfl))
 f316 := Tryz.func132.trans (congrArg some (by kernel_rfl))
 f317 := Tryz.func151.trans (congrArg some (by kernel_rfl))
 f318 := Tryz.func153.trans (congrArg some (by kernel_rfl))
 f319 := Tryz.func154.trans (congrArg some (by kernel_rfl))
 f320 := Tryz.func155.trans (congrArg some (by kernel_rfl))
 f321 := Tryz.func149.trans (congrArg some (by kernel_rfl))
 f322 := Tryz.func150.trans (congrArg some (by kernel_rfl))
 f337 := Tryz.func167.trans (congrArg some (by kernel_rfl))
 f338 := Tryz.func168.trans (congrArg some (by kernel_rfl))
 t0 := Tryz.underlying0
 a0 := Tryz.isAgg0
 z0 := Tryz.sizeOf0
 v0 := Tryz.zeroValue0
 t2 := Tryz.underlying2
 a2 := Tryz.isAgg2
 z2 := Tryz.sizeOf2
 v2 := Tryz.zeroValue2
 t3 := Tryz.underlying3
 a3 := Tryz.isAgg3
 z3 := Tryz.sizeOf3
 v3 := Tryz.zeroValue3
 t4 := Tryz.underlying4
 a4 := Tryz.isAgg4
 z4 := Tryz.sizeOf4
 v4 := Tryz.zeroValue4
 t5 := Tryz.underlying5
 a5 := Tryz.isAgg5
 z5 := Tryz.sizeOf5
 v5 := Tryz.zeroValue5
 t9 := Tryz.underlying9
 a9 := Tryz.isAgg9
 z9 := Tryz.sizeOf9
 v9 := Tryz.zeroValue9
 t20 := Tryz.underlying20
 a20 := Tryz.isAgg20
 z20 := Tryz.sizeOf20
 v20 := Tryz.zeroValue20
 t21 := Tryz.underlying21
 a21 := Tryz.isAgg21
 z21 := Tryz.sizeOf21
 v21 := Tryz.zeroValue21
 t37 := Tryz.underlying22
 a37 := Tryz.isAgg22
 z37 := Tryz.sizeOf22
 v37 := Tryz.zeroValue22
 t46 := Tryz.underlying42
 a46 := Tryz.isAgg42
 z46 := Tryz.sizeOf42
 v46 := Tryz.zeroValue42
 t51 := Tryz.underlying93
 a51 := Tryz.isAgg93
 z51 := Tryz.sizeOf93
 v51 := Tryz.zeroValue93
 t53 := Tryz.underlying148
 a53 := Tryz.isAgg148
 z53 := Tryz.sizeOf148
 v53 := Tryz.zeroValue148
 t75 := Tryz.underlying76
 a75 := Tryz.isAgg76
 z75 := Tryz.sizeOf76
 v75 := Tryz.zeroValue76
 t76 := Tryz.underlying77
 a76 := Tryz.isAgg77
 z76 := Tryz.sizeOf77
 v76 := Tryz.zeroValue77
 t85 := Tryz.underlying123
 a85 := Tryz.isAgg123
 z85 := Tryz.sizeOf123
 v85 := Tryz.zeroValue123
 t127 := Tryz.underlying177
 a127 := Tryz.isAgg177
 z127 := Tryz.sizeOf177
 v127 := Tryz.zeroValue177
 t143 := Tryz.underlying178
 a143 := Tryz.isAgg178
 z143 := Tryz.sizeOf178
 v143 := Tryz.zeroValue178
 t145 := Tryz.underlying180
 a145 := Tryz.isAgg180
 z145 := Tryz.sizeOf180
 v145 := Tryz.zeroValue180
 t167 := Tryz.underlying122
 a167 := Tryz.isAgg122
 z167 := Tryz.sizeOf122
 v167 := Tryz.zeroValue122
 t168 := Tryz.underlying125
 a168 := Tryz.isAgg125
 z168 := Tryz.sizeOf125
 v168 := Tryz.zeroValue125
 t171 := Tryz.underlying154
 a171 := Tryz.isAgg154
 z171 := Tryz.sizeOf154
 v171 := Tryz.zeroValue154
 t173 := Tryz.underlying157
 a173 := Tryz.isAgg157
 z173 := Tryz.sizeOf157
 v173 := Tryz.zeroValue157
 t175 := Tryz.underlying149
 a175 := Tryz.isAgg149
 z175 := Tryz.sizeOf149
 v175 := Tryz.zeroValue149
 t210 := Tryz.underlying152
 a210 := Tryz.isAgg152
 z210 := Tryz.sizeOf152
 v210 := Tryz.zeroValue152
 t212 := Tryz.underlying182
 a212 := Tryz.isAgg182
 z212 := Tryz.sizeOf182
 v212 := Tryz.zeroValue182
 t213 := Tryz.underlying183
 a213 := Tryz.isAgg183
 z213 := Tryz.sizeOf183
 t232 := Tryz.underlying204
 a232 := Tryz.isAgg204
 z232 := Tryz.sizeOf204
 v232 := Tryz.zeroValue204
 t233 := Tryz.underlying205
 a233 := Tryz.isAgg205
 z233 := Tryz.sizeOf205
 v233 := Tryz.zeroValue205
 g15 := by kernel_rfl
 g16 := by kernel_rfl
 g17 := by kernel_rfl
 g18 := by kernel_rfl
 g19 := by kernel_rfl }
open Go.RowKit in
/-- strconv.Atoi: "Atoi is equivalent to ParseInt(s, 10, 0), converted to type int.": AT A DECIMAL NUMERAL OF AT MOST 18 BYTES: its value, and a nil error. The world behind the call: the one new row that the library's '[]byte(s)' lays. (LAID: no walk: one application.) -/
theorem Tryz.strconv_Atoi (s : ByteArray) (n : Int) (hl : s.size ≤ 18) (h : Lib.atoi s.data.toList = some n) (w : World) :
 Calls Tryz.prog 49 #[.string s] w fun e w' => e = .returned (.tuple #[.int .i64 n, .nilIface]) ∧ ∃ t, w' = Lib.bytesWorld w 5 t := Any.strconv_Atoi Tryz.lays172 s n hl h w
def Tryz.laysM171_ren : Go.Shelf.Ren := ⟨fun | 171 => 56 | 243 => 91 | 246 => 113 | 283 => 134 | 284 => 135 | 285 => 136 | 286 => 137 | 129 => 152 | 317 => 151 | 318 => 153 | 319 => 154 | 320 => 155 | 337 => 167 | 338 => 168 | n => n, fun | 3 => 3 | 9 => 9 | 2 => 2 | 4 => 4 | 171 => 154 | 0 => 0 | 53 => 148 | 37 => 22 | 5 => 5 | 173 => 157 | 212 => 182 | 51 => 93 | 20 => 20 | 213 => 183 | 46 => 42 | 232 => 204 | 233 => 205 | n => n, fun | 17 => 3 | 18 => 6 | 19 => 7 | n => n⟩
theorem Tryz.laysM171 : Go.Proofs.LaysM.n171 Tryz.prog Tryz.laysM171_ren := {
 mixed := by kernel_rfl
 f129 := Tryz.func152.trans (congrArg some (by kernel_rfl))
 f171 := Tryz.func56.trans (congrArg some (by kernel_rfl))
 f243 := Tryz.func91.trans (congrArg some (by kernel_rfl))
 f246 := Tryz.func113.trans (congrArg some (by kernel_rfl))
 f283 := Tryz.func134.trans (congrArg some (by kernel_rfl))
 f284 := Tryz.func135.trans (congrArg some (by kernel_rfl))
 f285 := Tryz.func136.trans (congrArg some (by kernel_rfl))
 f286 := Tryz.func137.trans (congrArg some (by kernel_rfl))
 f317 := Tryz.func151.trans (congrArg some (by kernel_rfl))
 f318 := Tryz.func153.trans (congrArg some (by kernel_rfl))
 f319 := Tryz.func154.trans (congrArg some (by kernel_rfl))
 f320 := Tryz.func155.trans (congrArg some (by kernel_rfl))
 f337 := Tryz.func167.trans (congrArg some (by kernel_rfl))
 f338 := Tryz.func168.trans (congrArg some (by kernel_rfl))
 t0 := Tryz.underlying0
 a0 := Tryz.isAgg0
 z0 := Tryz.sizeOf0
 v0 := Tryz.zeroValue0
 t2 := Tryz.underlying2
 a2 := Tryz.isAgg2
 z2 := Tryz.sizeOf2
 v2 := Tryz.zeroValue2
 t3 := Tryz.underlying3
 a3 := Tryz.isAgg3
 z3 := Tryz.sizeOf3
 v3 := Tryz.zeroValue3
 t4 := Tryz.underlying4
 a4 := Tryz.isAgg4
 z4 := Tryz.sizeOf4
 v4 := Tryz.zeroValue4
 t5 := Tryz.underlying5
 a5 := Tryz.isAgg5
 z5 := Tryz.sizeOf5
 v5 := Tryz.zeroValue5
 t9 := Tryz.underlying9
 a9 := Tryz.isAgg9
 z9 := Tryz.sizeOf9
 v9 := Tryz.zeroValue9
 t20 := Tryz.underlying20
 a20 := Tryz.isAgg20
 z20 := Tryz.sizeOf20
 v20 := Tryz.zeroValue20
 t37 := Tryz.underlying22
 a37 := Tryz.isAgg22
 z37 := Tryz.sizeOf22
 v37 := Tryz.zeroValue22
 t46 := Tryz.underlying42
 a46 := Tryz.isAgg42
 z46 := Tryz.sizeOf42
 v46 := Tryz.zeroValue42
 t51 := Tryz.underlying93
 a51 := Tryz.isAgg93
 z51 := Tryz.sizeOf93
 v51 := Tryz.zeroValue93
 t53 := Tryz.underlying148
 a53 := Tryz.isAgg148
 z53 := Tryz.sizeOf148
 v53 := Tryz.zeroValue148
 t171 := Tryz.underlying154
 a171 := Tryz.isAgg154
 z171 := Tryz.sizeOf154
 v171 := Tryz.zeroValue154
 t173 := Tryz.underlying157
 a173 := Tryz.isAgg157
 z173 := Tryz.sizeOf157
 v173 := Tryz.zeroValue157
 t212 := Tryz.underlying182
 a212 := Tryz.isAgg182
 z212 := Tryz.sizeOf182
 v212 := Tryz.zeroValue182
 t213 := Tryz.underlying183
 a213 := Tryz.isAgg183
 z213 := Tryz.sizeOf183
 t232 := Tryz.underlying204
 a232 := Tryz.isAgg204
 z232 := Tryz.sizeOf204
 v232 := Tryz.zeroValue204
 t233 := Tryz.underlying205
 a233 := Tryz.isAgg205
 z233 := Tryz.sizeOf205
 v233 := Tryz.zeroValue205
 g17 := by kernel_rfl
 g18 := by kernel_rfl
 g19 := by kernel_rfl
 i0 := by kernel_rfl
 i2 := by kernel_rfl
 i3 := by kernel_rfl
 i4 := by kernel_rfl
 i5 := by kernel_rfl
 i9 := by kernel_rfl
 i20 := by kernel_rfl
 i37 := by kernel_rfl
 i46 := by kernel_rfl
 i51 := by kernel_rfl
 i53 := by kernel_rfl
 i171 := by kernel_rfl
 i173 := by kernel_rfl
 i212 := by kernel_rfl
 i232 := by kernel_rfl
 i233 := by kernel_rfl
 m17 := by kernel_rfl
 m18 := by kernel_rfl
 m19 := by kernel_rfl }
open Go.RowKit Go.Sort Go.Lib in
/-- strconv.Itoa: "Itoa is equivalent to FormatInt(int64(i), 10).": i's DECIMAL NUMERAL ('Lib.itoa': a '-' where i is negative, then the digits), FOR EVERY int. The world behind the call: the world before it, new blocks behind the heap (the library's 'var a [24]byte'), draws. (LAID: no walk: one application.) -/
theorem Tryz.strconv_Itoa (n : Int) (h0 : -9223372036854775808 ≤ n) (h1 : n ≤ 9223372036854775807) (w : World) (htab : Lib.TabIs Tryz.prog w "internal/strconv.uint64pow10" .u64 Lib.pow10Tab) :
 Calls Tryz.prog 56 #[.int .i64 n] w fun e w' => e = .returned (.string ⟨(Lib.itoa n).toArray⟩) ∧ ∃ k os, w' = grow (w.drewN k) os := Any.strconv_Itoa Tryz.laysM171 n h0 h1 w htab
def Tryz.lays144_ren : Go.Shelf.Ren := ⟨fun | 144 => 43 | 143 => 84 | 219 => 101 | 217 => 117 | 225 => 125 | 224 => 126 | 267 => 127 | 266 => 140 | 314 => 147 | n => n, fun | 9 => 9 | 4 => 4 | 3 => 3 | 5 => 5 | 46 => 42 | 146 => 174 | 51 => 93 | n => n, fun | 1 => 0 | n => n⟩
theorem Tryz.lays144 : Go.Proofs.Lays.n144 Tryz.prog Tryz.lays144_ren := {
 mixed := by kernel_rfl
 f143 := Tryz.func84.trans (congrArg some (by kernel_rfl))
 f144 := Tryz.func43.trans (congrArg some (by kernel_rfl))
 f217 := Tryz.func117.trans (congrArg some (by kernel_rfl))
 f219 := Tryz.func101.trans (congrArg some (by kernel_rfl))
 f224 := Tryz.func126.trans (congrArg some (by kernel_rfl))
 f225 := Tryz.func125.trans (congrArg some (by kernel_rfl))
 f266 := Tryz.func140.trans (congrArg some (by kernel_rfl))
 f267 := Tryz.func127.trans (congrArg some (by kernel_rfl))
 f314 := Tryz.func147.trans (congrArg some (by kernel_rfl))
 t3 := Tryz.underlying3
 a3 := Tryz.isAgg3
 z3 := Tryz.sizeOf3
 v3 := Tryz.zeroValue3
 t4 := Tryz.underlying4
 a4 := Tryz.isAgg4
 z4 := Tryz.sizeOf4
 v4 := Tryz.zeroValue4
 t5 := Tryz.underlying5
 a5 := Tryz.isAgg5
 z5 := Tryz.sizeOf5
 v5 := Tryz.zeroValue5
 t9 := Tryz.underlying9
 a9 := Tryz.isAgg9
 z9 := Tryz.sizeOf9
 v9 := Tryz.zeroValue9
 t46 := Tryz.underlying42
 a46 := Tryz.isAgg42
 z46 := Tryz.sizeOf42
 v46 := Tryz.zeroValue42
 t51 := Tryz.underlying93
 a51 := Tryz.isAgg93
 z51 := Tryz.sizeOf93
 v51 := Tryz.zeroValue93
 t146 := Tryz.underlying174
 a146 := Tryz.isAgg174
 z146 := Tryz.sizeOf174
 v146 := Tryz.zeroValue174
 g1 := by kernel_rfl }
open Go.RowKit Go.Lib in
/-- strings.Contains: "Contains reports whether substr is within s.": IT RETURNS 'Lib.contains s substr'; the world is as it was. (LAID: no walk: one application.) -/
theorem Tryz.strings_Contains (s sub : ByteArray) (m : Int) (w : World) (hs : s.size < 4294967281) (hm : w.cell? ⟨0, 0, none⟩ = some (.int .i64 m)) :
 Calls Tryz.prog 43 #[.string s, .string sub] w fun e w' => e = .returned (.bool (Lib.contains s.data.toList sub.data.toList)) ∧ w' = w := Any.strings_Contains Tryz.lays144 s sub m w hs hm
def Tryz.lays145_ren : Go.Shelf.Ren := ⟨fun | 145 => 45 | 220 => 86 | 219 => 101 | 217 => 117 | 225 => 125 | 224 => 126 | 267 => 127 | 266 => 140 | 314 => 147 | n => n, fun | 9 => 9 | 4 => 4 | 59 => 70 | 3 => 3 | 5 => 5 | 46 => 42 | 146 => 174 | 51 => 93 | n => n, fun | 1 => 0 | n => n⟩
theorem Tryz.lays145 : Go.Proofs.Lays.n145 Tryz.prog Tryz.lays145_ren := {
 mixed := by kernel_rfl
 f145 := Tryz.func45.trans (congrArg some (by kernel_rfl))
 f217 := Tryz.func117.trans (congrArg some (by kernel_rfl))
 f219 := Tryz.func101.trans (congrArg some (by kernel_rfl))
 f220 := Tryz.func86.trans (congrArg some (by kernel_rfl))
 f224 := Tryz.func126.trans (congrArg some (by kernel_rfl))
 f225 := Tryz.func125.trans (congrArg some (by kernel_rfl))
 f266 := Tryz.func140.trans (congrArg some (by kernel_rfl))
 f267 := Tryz.func127.trans (congrArg some (by kernel_rfl))
 f314 := Tryz.func147.trans (congrArg some (by kernel_rfl))
 t3 := Tryz.underlying3
 a3 := Tryz.isAgg3
 z3 := Tryz.sizeOf3
 v3 := Tryz.zeroValue3
 t4 := Tryz.underlying4
 a4 := Tryz.isAgg4
 z4 := Tryz.sizeOf4
 v4 := Tryz.zeroValue4
 t5 := Tryz.underlying5
 a5 := Tryz.isAgg5
 z5 := Tryz.sizeOf5
 v5 := Tryz.zeroValue5
 t9 := Tryz.underlying9
 a9 := Tryz.isAgg9
 z9 := Tryz.sizeOf9
 v9 := Tryz.zeroValue9
 t46 := Tryz.underlying42
 a46 := Tryz.isAgg42
 z46 := Tryz.sizeOf42
 v46 := Tryz.zeroValue42
 t51 := Tryz.underlying93
 a51 := Tryz.isAgg93
 z51 := Tryz.sizeOf93
 v51 := Tryz.zeroValue93
 t59 := Tryz.underlying70
 a59 := Tryz.isAgg70
 z59 := Tryz.sizeOf70
 v59 := Tryz.zeroValue70
 t146 := Tryz.underlying174
 a146 := Tryz.isAgg174
 z146 := Tryz.sizeOf174
 v146 := Tryz.zeroValue174
 g1 := by kernel_rfl }
open Go.RowKit Go.Lib in
/-- strings.Cut: "Cut slices s around the first instance of sep, returning the text before and after sep. The found result reports whether sep appears in s. If sep does not appear in s, cut returns s, "", false.": IT RETURNS 'Lib.cut s sep'; the world is as it was but for the count of draws. (LAID: no walk: one application.) -/
theorem Tryz.strings_Cut (s sep : ByteArray) (m : Int) (w : World) (hs : s.size < 4294967281) (hm : w.cell? ⟨0, 0, none⟩ = some (.int .i64 m)) :
 Calls Tryz.prog 45 #[.string s, .string sep] w fun e w' => e = .returned (.tuple #[.string ⟨(Lib.cut s.data.toList sep.data.toList).1.toArray⟩, .string ⟨(Lib.cut s.data.toList sep.data.toList).2.1.toArray⟩, .bool (Lib.cut s.data.toList sep.data.toList).2.2]) ∧ ∃ n, w' = w.drewN n := Any.strings_Cut Tryz.lays145 s sep m w hs hm
def Tryz.lays138_ren : Go.Shelf.Ren := ⟨fun | 138 => 104 | 195 => 128 | 218 => 130 | 143 => 84 | 219 => 101 | 217 => 117 | 225 => 125 | 224 => 126 | 267 => 127 | 266 => 140 | 314 => 147 | n => n, fun | 9 => 9 | 3 => 3 | 4 => 4 | 5 => 5 | 0 => 0 | 46 => 42 | 146 => 174 | 51 => 93 | n => n, fun | 1 => 0 | n => n⟩
theorem Tryz.lays138 : Go.Proofs.Lays.n138 Tryz.prog Tryz.lays138_ren := {
 mixed := by kernel_rfl
 f138 := Tryz.func104.trans (congrArg some (by kernel_rfl))
 f143 := Tryz.func84.trans (congrArg some (by kernel_rfl))
 f195 := Tryz.func128.trans (congrArg some (by kernel_rfl))
 f217 := Tryz.func117.trans (congrArg some (by kernel_rfl))
 f218 := Tryz.func130.trans (congrArg some (by kernel_rfl))
 f219 := Tryz.func101.trans (congrArg some (by kernel_rfl))
 f224 := Tryz.func126.trans (congrArg some (by kernel_rfl))
 f225 := Tryz.func125.trans (congrArg some (by kernel_rfl))
 f266 := Tryz.func140.trans (congrArg some (by kernel_rfl))
 f267 := Tryz.func127.trans (congrArg some (by kernel_rfl))
 f314 := Tryz.func147.trans (congrArg some (by kernel_rfl))
 t0 := Tryz.underlying0
 a0 := Tryz.isAgg0
 z0 := Tryz.sizeOf0
 v0 := Tryz.zeroValue0
 t3 := Tryz.underlying3
 a3 := Tryz.isAgg3
 z3 := Tryz.sizeOf3
 v3 := Tryz.zeroValue3
 t4 := Tryz.underlying4
 a4 := Tryz.isAgg4
 z4 := Tryz.sizeOf4
 v4 := Tryz.zeroValue4
 t5 := Tryz.underlying5
 a5 := Tryz.isAgg5
 z5 := Tryz.sizeOf5
 v5 := Tryz.zeroValue5
 t9 := Tryz.underlying9
 a9 := Tryz.isAgg9
 z9 := Tryz.sizeOf9
 v9 := Tryz.zeroValue9
 t46 := Tryz.underlying42
 a46 := Tryz.isAgg42
 z46 := Tryz.sizeOf42
 v46 := Tryz.zeroValue42
 t51 := Tryz.underlying93
 a51 := Tryz.isAgg93
 z51 := Tryz.sizeOf93
 v51 := Tryz.zeroValue93
 t146 := Tryz.underlying174
 a146 := Tryz.isAgg174
 z146 := Tryz.sizeOf174
 v146 := Tryz.zeroValue174
 g1 := by kernel_rfl }
open Go.RowKit Go.Lib in
/-- strings.Count AT A substr OF ONE BYTE ('hp'): "Count counts the number of non-overlapping instances of substr in s.": IT RETURNS 'Lib.countByte s (that byte)'; the world is as it was. ✋ NO CONTRACT HERE YET at an empty substr (utf8.RuneCountInString) or at a longer one (a loop over strings.Index). (LAID: no walk: one application.) -/
theorem Tryz.strings_Count_one (s : ByteArray) (c : UInt8) (w : World) :
 Calls Tryz.prog 104 #[.string s, .string ⟨#[c]⟩] w fun e w' => e = .returned (.int .i64 (Lib.countByte s.data.toList c)) ∧ w' = w := Any.strings_Count_one Tryz.lays138 s c w
def Tryz.laysM219_ren : Go.Shelf.Ren := ⟨fun | 219 => 101 | 217 => 117 | 225 => 125 | 224 => 126 | 267 => 127 | 266 => 140 | 314 => 147 | n => n, fun | 9 => 9 | 3 => 3 | 4 => 4 | 5 => 5 | 46 => 42 | 146 => 174 | 51 => 93 | n => n, fun | 1 => 0 | n => n⟩
theorem Tryz.laysM219 : Go.Proofs.LaysM.n219 Tryz.prog Tryz.laysM219_ren := {
 mixed := by kernel_rfl
 f217 := Tryz.func117.trans (congrArg some (by kernel_rfl))
 f219 := Tryz.func101.trans (congrArg some (by kernel_rfl))
 f224 := Tryz.func126.trans (congrArg some (by kernel_rfl))
 f225 := Tryz.func125.trans (congrArg some (by kernel_rfl))
 f266 := Tryz.func140.trans (congrArg some (by kernel_rfl))
 f267 := Tryz.func127.trans (congrArg some (by kernel_rfl))
 f314 := Tryz.func147.trans (congrArg some (by kernel_rfl))
 t3 := Tryz.underlying3
 a3 := Tryz.isAgg3
 z3 := Tryz.sizeOf3
 v3 := Tryz.zeroValue3
 t4 := Tryz.underlying4
 a4 := Tryz.isAgg4
 z4 := Tryz.sizeOf4
 v4 := Tryz.zeroValue4
 t5 := Tryz.underlying5
 a5 := Tryz.isAgg5
 z5 := Tryz.sizeOf5
 v5 := Tryz.zeroValue5
 t9 := Tryz.underlying9
 a9 := Tryz.isAgg9
 z9 := Tryz.sizeOf9
 v9 := Tryz.zeroValue9
 t46 := Tryz.underlying42
 a46 := Tryz.isAgg42
 z46 := Tryz.sizeOf42
 v46 := Tryz.zeroValue42
 t51 := Tryz.underlying93
 a51 := Tryz.isAgg93
 z51 := Tryz.sizeOf93
 v51 := Tryz.zeroValue93
 t146 := Tryz.underlying174
 a146 := Tryz.isAgg174
 z146 := Tryz.sizeOf174
 v146 := Tryz.zeroValue174
 g1 := by kernel_rfl
 i3 := by kernel_rfl
 i4 := by kernel_rfl
 i5 := by kernel_rfl
 i9 := by kernel_rfl
 i46 := by kernel_rfl
 i51 := by kernel_rfl
 i146 := by kernel_rfl
 m1 := by kernel_rfl
 s1_3 := fun w h => Go.Proofs.cell_of_shapedOpen_int (zero := #[.int .i64 0]) (t := 3) h (of_decide_eq_true (by kernel_rfl)) (by kernel_rfl) rfl (by kernel_rfl) (by kernel_rfl) Tryz.underlying3 }
def Tryz.laysGw17_ren : Go.Shelf.Ren := ⟨fun | 17 => 80 | 15 => 97 | 20 => 118 | n => n, fun | 9 => 9 | 23 => 89 | 4 => 4 | 3 => 3 | 0 => 0 | 21 => 21 | n => n, fun | n => n⟩
theorem Tryz.laysGw17 : Go.Proofs.LaysGw.n17 Tryz.prog Tryz.laysGw17_ren := {
 mixed := by kernel_rfl
 f15 := Tryz.func97.trans (congrArg some (by kernel_rfl))
 f17 := Tryz.func80.trans (congrArg some (by kernel_rfl))
 f20 := Tryz.func118.trans (congrArg some (by kernel_rfl))
 t0 := Tryz.underlying0
 a0 := Tryz.isAgg0
 z0 := Tryz.sizeOf0
 v0 := Tryz.zeroValue0
 i0 := by kernel_rfl
 t3 := Tryz.underlying3
 a3 := Tryz.isAgg3
 z3 := Tryz.sizeOf3
 v3 := Tryz.zeroValue3
 i3 := by kernel_rfl
 t4 := Tryz.underlying4
 a4 := Tryz.isAgg4
 z4 := Tryz.sizeOf4
 v4 := Tryz.zeroValue4
 i4 := by kernel_rfl
 t9 := Tryz.underlying9
 a9 := Tryz.isAgg9
 z9 := Tryz.sizeOf9
 v9 := Tryz.zeroValue9
 i9 := by kernel_rfl
 t21 := Tryz.underlying21
 a21 := Tryz.isAgg21
 z21 := Tryz.sizeOf21
 v21 := Tryz.zeroValue21
 i21 := by kernel_rfl
 t23 := Tryz.underlying89
 a23 := Tryz.isAgg89
 z23 := Tryz.sizeOf89
 v23 := Tryz.zeroValue89
 i23 := by kernel_rfl }
open Go.RowKit Go.Lib in
theorem Tryz.strings_ContainsFunc (g : Nat) (lb : Array Value) (eg : ∀ args w, (callFunc g args).run Tryz.prog w = .ok (.enter g args) w) (p : Nat → Bool) (s : ByteArray) (w : World) (hp : PredAt Tryz.prog g lb encR p w) :
 Calls Tryz.prog 80 #[.string s, .func (.func g) #[] lb] w fun e w' => e = .returned (.bool (decide (0 ≤ Lib.idxFunc p true s))) ∧ Below w.heap.size w w' := Any.strings_ContainsFunc Tryz.laysGw17 g lb eg p s w hp
def Tryz.lays146_ren : Go.Shelf.Ren := ⟨fun | 146 => 46 | 221 => 87 | 268 => 103 | 138 => 104 | 143 => 84 | 195 => 128 | 197 => 129 | 218 => 130 | 219 => 101 | 260 => 148 | 217 => 117 | 225 => 125 | 224 => 126 | 267 => 127 | 266 => 140 | 314 => 147 | n => n, fun | 9 => 9 | 31 => 72 | 3 => 3 | 4 => 4 | 0 => 0 | 105 => 129 | 21 => 21 | 5 => 5 | 46 => 42 | 119 => 50 | 139 => 199 | 138 => 198 | 146 => 174 | 51 => 93 | n => n, fun | 1 => 0 | 3 => 4 | 4 => 5 | n => n⟩
theorem Tryz.lays146 : Go.Proofs.Lays.n146 Tryz.prog Tryz.lays146_ren := {
 mixed := by kernel_rfl
 f138 := Tryz.func104.trans (congrArg some (by kernel_rfl))
 f143 := Tryz.func84.trans (congrArg some (by kernel_rfl))
 f146 := Tryz.func46.trans (congrArg some (by kernel_rfl))
 f195 := Tryz.func128.trans (congrArg some (by kernel_rfl))
 f197 := Tryz.func129.trans (congrArg some (by kernel_rfl))
 f217 := Tryz.func117.trans (congrArg some (by kernel_rfl))
 f218 := Tryz.func130.trans (congrArg some (by kernel_rfl))
 f219 := Tryz.func101.trans (congrArg some (by kernel_rfl))
 f221 := Tryz.func87.trans (congrArg some (by kernel_rfl))
 f224 := Tryz.func126.trans (congrArg some (by kernel_rfl))
 f225 := Tryz.func125.trans (congrArg some (by kernel_rfl))
 f260 := Tryz.func148.trans (congrArg some (by kernel_rfl))
 f266 := Tryz.func140.trans (congrArg some (by kernel_rfl))
 f267 := Tryz.func127.trans (congrArg some (by kernel_rfl))
 f268 := Tryz.func103.trans (congrArg some (by kernel_rfl))
 f314 := Tryz.func147.trans (congrArg some (by kernel_rfl))
 t0 := Tryz.underlying0
 a0 := Tryz.isAgg0
 z0 := Tryz.sizeOf0
 v0 := Tryz.zeroValue0
 t3 := Tryz.underlying3
 a3 := Tryz.isAgg3
 z3 := Tryz.sizeOf3
 v3 := Tryz.zeroValue3
 t4 := Tryz.underlying4
 a4 := Tryz.isAgg4
 z4 := Tryz.sizeOf4
 v4 := Tryz.zeroValue4
 t5 := Tryz.underlying5
 a5 := Tryz.isAgg5
 z5 := Tryz.sizeOf5
 v5 := Tryz.zeroValue5
 t9 := Tryz.underlying9
 a9 := Tryz.isAgg9
 z9 := Tryz.sizeOf9
 v9 := Tryz.zeroValue9
 t21 := Tryz.underlying21
 a21 := Tryz.isAgg21
 z21 := Tryz.sizeOf21
 v21 := Tryz.zeroValue21
 t31 := Tryz.underlying72
 a31 := Tryz.isAgg72
 z31 := Tryz.sizeOf72
 v31 := Tryz.zeroValue72
 t46 := Tryz.underlying42
 a46 := Tryz.isAgg42
 z46 := Tryz.sizeOf42
 v46 := Tryz.zeroValue42
 t51 := Tryz.underlying93
 a51 := Tryz.isAgg93
 z51 := Tryz.sizeOf93
 v51 := Tryz.zeroValue93
 t105 := Tryz.underlying129
 a105 := Tryz.isAgg129
 z105 := Tryz.sizeOf129
 v105 := Tryz.zeroValue129
 t119 := Tryz.underlying50
 a119 := Tryz.isAgg50
 z119 := Tryz.sizeOf50
 t138 := Tryz.underlying198
 a138 := Tryz.isAgg198
 z138 := Tryz.sizeOf198
 v138 := Tryz.zeroValue198
 t139 := Tryz.underlying199
 a139 := Tryz.isAgg199
 z139 := Tryz.sizeOf199
 v139 := Tryz.zeroValue199
 t146 := Tryz.underlying174
 a146 := Tryz.isAgg174
 z146 := Tryz.sizeOf174
 v146 := Tryz.zeroValue174
 g1 := by kernel_rfl
 g3 := by kernel_rfl
 g4 := by kernel_rfl }
open Go.RowKit Go.Lib in
/-- strings.Split. (LAID: no walk: one application.) -/
theorem Tryz.strings_Split (s sep : ByteArray) (m : Int) (w : World) (hs : s.size < 4294967281) (hm : w.cell? ⟨0, 0, none⟩ = some (.int .i64 m)) (h1 : 1 ≤ sep.size) :
 Calls Tryz.prog 46 #[.string s, .string sep] w fun e w' =>
  e = .returned (.slice (some ⟨w.heap.size, 0, none⟩) (Lib.countB s sep + 1) (Lib.countB s sep + 1)) ∧ w' = w.alloc (.cells ((Lib.splitB sep 0 (Lib.countB s sep) s).map Value.string).toArray 9) := Any.strings_Split Tryz.lays146 (by kernel_rfl) s sep m w hs hm h1
end Go.Proofs
