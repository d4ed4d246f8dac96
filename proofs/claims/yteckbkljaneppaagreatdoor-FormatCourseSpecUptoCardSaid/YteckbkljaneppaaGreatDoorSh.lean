/- The contracts of the library functions that this program calls. -/
import Derived.Shelf.Strings.Builder1
import Derived.Shelf.Strings.Builder2
import Derived.Shelf.Strings.OnBuilder
import Derived.Shelf.Strings.Trim
import Derived.Shelf.Small.Utf8
import Derived.Shelf.Small.Strs
import Derived.Shelf.Strings.BuilderF
import Derived.Shelf.Strings.BuilderK
import Derived.Shelf.Strings.Builder2Cap
import Derived.Shelf.Strconv.Itoa0
import Derived.Shelf.Strconv.Itoa1
import Derived.Shelf.LaysM
import Derived.Shelf.Strconv.Itoa2
import Derived.Shelf.Strconv.Itoa3
import Derived.Shelf.Strings.Search1
import Derived.Shelf.Strings.Search2
import Derived.Shelf.Strings.Search3
import Derived.Shelf.Strings.Shaped
import Derived.Shelf.Unicode.Decode
import Derived.Shelf.Strings.Runes
import Derived.Shelf.Strings.AsciiSet
import Derived.Shelf.Unicode.DecodeSlow
import Derived.Shelf.Unicode.DecodeAny
import Derived.Shelf.Unicode.DecodeLast
import Derived.Test.YteckbkljaneppaaGreatDoorProg
set_option linter.all false
namespace Go.Proofs
open Go.Shelf
def Tryz.lays156_ren : Go.Shelf.Ren := ⟨fun | 156 => 153 | 165 => 190 | 166 => 65 | 169 => 34 | 240 => 136 | 241 => 211 | 276 => 177 | 277 => 223 | n => n, fun | 31 => 91 | 9 => 9 | 3 => 3 | 4 => 4 | 0 => 0 | 20 => 20 | 72 => 68 | 76 => 125 | 70 => 66 | 37 => 36 | 75 => 124 | 127 => 130 | 164 => 210 | 5 => 5 | 80 => 90 | n => n, fun | n => n⟩
theorem Tryz.lays156 : Go.Proofs.Lays.n156 Tryz.prog Tryz.lays156_ren := {
 mixed := by kernel_rfl
 f156 := Tryz.func153.trans (congrArg some (by kernel_rfl))
 f165 := Tryz.func190.trans (congrArg some (by kernel_rfl))
 f166 := Tryz.func65.trans (congrArg some (by kernel_rfl))
 f169 := Tryz.func34.trans (congrArg some (by kernel_rfl))
 f240 := Tryz.func136.trans (congrArg some (by kernel_rfl))
 f241 := Tryz.func211.trans (congrArg some (by kernel_rfl))
 f276 := Tryz.func177.trans (congrArg some (by kernel_rfl))
 f277 := Tryz.func223.trans (congrArg some (by kernel_rfl))
 t0 := Tryz.underlying0
 a0 := Tryz.isAgg0
 z0 := Tryz.sizeOf0
 v0 := Tryz.zeroValue0
 t3 := Tryz.underlying3
 a3 := Tryz.isAgg3
 z3 := Tryz.sizeOf3
 v3 := Tryz.zeroValue3
 t4 := Tryz.underlying4
 a4 := Tryz.isAgg4
 z4 := Tryz.sizeOf4
 v4 := Tryz.zeroValue4
 t9 := Tryz.underlying9
 a9 := Tryz.isAgg9
 z9 := Tryz.sizeOf9
 v9 := Tryz.zeroValue9
 t20 := Tryz.underlying20
 a20 := Tryz.isAgg20
 z20 := Tryz.sizeOf20
 v20 := Tryz.zeroValue20
 t31 := Tryz.underlying91
 a31 := Tryz.isAgg91
 z31 := Tryz.sizeOf91
 v31 := Tryz.zeroValue91
 t37 := Tryz.underlying36
 a37 := Tryz.isAgg36
 z37 := Tryz.sizeOf36
 v37 := Tryz.zeroValue36
 t70 := Tryz.underlying66
 a70 := Tryz.isAgg66
 z70 := Tryz.sizeOf66
 v70 := Tryz.zeroValue66
 t72 := Tryz.underlying68
 a72 := Tryz.isAgg68
 z72 := Tryz.sizeOf68
 v72 := Tryz.zeroValue68
 t75 := Tryz.underlying124
 a75 := Tryz.isAgg124
 z75 := Tryz.sizeOf124
 v75 := Tryz.zeroValue124
 t76 := Tryz.underlying125
 a76 := Tryz.isAgg125
 z76 := Tryz.sizeOf125
 v76 := Tryz.zeroValue125
 t127 := Tryz.underlying130
 a127 := Tryz.isAgg130
 z127 := Tryz.sizeOf130
 v127 := Tryz.zeroValue130
 t164 := Tryz.underlying210
 a164 := Tryz.isAgg210
 z164 := Tryz.sizeOf210
 v164 := Tryz.zeroValue210 }
theorem Tryz.Builder_Extra_156 : Builder.Extra Tryz.prog Tryz.lays156_ren := {
 sizeBuilder := by kernel_rfl
 liesBuilder := by kernel_rfl
 t5 := Tryz.underlying5
 a5 := Tryz.isAgg5
 z5 := Tryz.sizeOf5
 v5 := Tryz.zeroValue5
 infoByte := by kernel_rfl
 cellsByte := by kernel_rfl
 sizeByte := by kernel_rfl
 neB5 := by decide }
open Go.RowKit in
theorem Tryz.strings_Join (bk o c : Nat) (xs : List ByteArray) (sep : ByteArray) (w : World) (hcells : ∀ (j : Nat) x, xs[j]? = some x → w.cell? ⟨bk, o + j, none⟩ = some (.string x)) (hbk : bk < w.heap.size) (hN : xs.length ≤ 140737488355328) (hcap : xs.length ≤ c) (hlen : (Lib.join (xs.map (·.data.toList)) sep.data.toList).length ≤ 140737488355328) :
 Calls Tryz.prog 153 #[.slice (some ⟨bk, o, none⟩) xs.length c, .string sep] w fun e w' => e = .returned (.string ⟨(Lib.join (xs.map (·.data.toList)) sep.data.toList).toArray⟩) ∧ Below w.heap.size w w' := Any.strings_Join Tryz.lays156 Tryz.Builder_Extra_156 bk o c xs sep w hcells hbk hN hcap hlen
def Tryz.lays162_ren : Go.Shelf.Ren := ⟨fun | 162 => 139 | 232 => 179 | 227 => 180 | 234 => 181 | 236 => 182 | 228 => 206 | 271 => 207 | 151 => 208 | 120 => 219 | 197 => 220 | 152 => 221 | 260 => 227 | 137 => 228 | 119 => 229 | 224 => 230 | 225 => 231 | 217 => 232 | 266 => 234 | n => n, fun | 9 => 9 | 4 => 4 | 3 => 3 | 5 => 5 | 117 => 216 | 116 => 215 | 0 => 0 | 124 => 219 | 21 => 21 | 105 => 241 | 46 => 252 | 119 => 244 | 139 => 264 | 138 => 263 | n => n, fun | 3 => 4 | 4 => 5 | n => n⟩
theorem Tryz.lays162 : Go.Proofs.Lays.n162 Tryz.prog Tryz.lays162_ren := {
 mixed := by kernel_rfl
 f119 := Tryz.func229.trans (congrArg some (by kernel_rfl))
 f120 := Tryz.func219.trans (congrArg some (by kernel_rfl))
 f137 := Tryz.func228.trans (congrArg some (by kernel_rfl))
 f151 := Tryz.func208.trans (congrArg some (by kernel_rfl))
 f152 := Tryz.func221.trans (congrArg some (by kernel_rfl))
 f162 := Tryz.func139.trans (congrArg some (by kernel_rfl))
 f197 := Tryz.func220.trans (congrArg some (by kernel_rfl))
 f217 := Tryz.func232.trans (congrArg some (by kernel_rfl))
 f224 := Tryz.func230.trans (congrArg some (by kernel_rfl))
 f225 := Tryz.func231.trans (congrArg some (by kernel_rfl))
 f227 := Tryz.func180.trans (congrArg some (by kernel_rfl))
 f228 := Tryz.func206.trans (congrArg some (by kernel_rfl))
 f232 := Tryz.func179.trans (congrArg some (by kernel_rfl))
 f234 := Tryz.func181.trans (congrArg some (by kernel_rfl))
 f236 := Tryz.func182.trans (congrArg some (by kernel_rfl))
 f260 := Tryz.func227.trans (congrArg some (by kernel_rfl))
 f266 := Tryz.func234.trans (congrArg some (by kernel_rfl))
 f271 := Tryz.func207.trans (congrArg some (by kernel_rfl))
 t0 := Tryz.underlying0
 a0 := Tryz.isAgg0
 z0 := Tryz.sizeOf0
 v0 := Tryz.zeroValue0
 t3 := Tryz.underlying3
 a3 := Tryz.isAgg3
 z3 := Tryz.sizeOf3
 v3 := Tryz.zeroValue3
 t4 := Tryz.underlying4
 a4 := Tryz.isAgg4
 z4 := Tryz.sizeOf4
 v4 := Tryz.zeroValue4
 t5 := Tryz.underlying5
 a5 := Tryz.isAgg5
 z5 := Tryz.sizeOf5
 v5 := Tryz.zeroValue5
 t9 := Tryz.underlying9
 a9 := Tryz.isAgg9
 z9 := Tryz.sizeOf9
 v9 := Tryz.zeroValue9
 t21 := Tryz.underlying21
 a21 := Tryz.isAgg21
 z21 := Tryz.sizeOf21
 v21 := Tryz.zeroValue21
 t46 := Tryz.underlying252
 a46 := Tryz.isAgg252
 z46 := Tryz.sizeOf252
 v46 := Tryz.zeroValue252
 t105 := Tryz.underlying241
 a105 := Tryz.isAgg241
 z105 := Tryz.sizeOf241
 v105 := Tryz.zeroValue241
 t116 := Tryz.underlying215
 a116 := Tryz.isAgg215
 z116 := Tryz.sizeOf215
 t117 := Tryz.underlying216
 a117 := Tryz.isAgg216
 z117 := Tryz.sizeOf216
 v117 := Tryz.zeroValue216
 t119 := Tryz.underlying244
 a119 := Tryz.isAgg244
 z119 := Tryz.sizeOf244
 t124 := Tryz.underlying219
 a124 := Tryz.isAgg219
 z124 := Tryz.sizeOf219
 v124 := Tryz.zeroValue219
 t138 := Tryz.underlying263
 a138 := Tryz.isAgg263
 z138 := Tryz.sizeOf263
 v138 := Tryz.zeroValue263
 t139 := Tryz.underlying264
 a139 := Tryz.isAgg264
 z139 := Tryz.sizeOf264
 v139 := Tryz.zeroValue264
 g3 := by kernel_rfl
 g4 := by kernel_rfl }
open Go.RowKit in
theorem Tryz.strings_TrimRight_one (s : ByteArray) (c : UInt8) (hc : c.toNat < 128) (w : World) (hs : s.size ≤ 9223372036854775807) :
 Calls Tryz.prog 139 #[.string s, .string ⟨#[c]⟩] w fun e w' => e = .returned (.string ⟨(Lib.trimRightB s.data.toList c).toArray⟩) ∧ w' = w := Any.strings_TrimRight_one Tryz.lays162 s c hc w hs
def Tryz.laysM171_ren : Go.Shelf.Ren := ⟨fun | 171 => 66 | 243 => 137 | 246 => 178 | 283 => 202 | 284 => 203 | 285 => 204 | 286 => 205 | 129 => 215 | 317 => 214 | 318 => 216 | 319 => 217 | 320 => 218 | 337 => 225 | 338 => 226 | n => n, fun | 3 => 3 | 9 => 9 | 2 => 2 | 4 => 4 | 171 => 234 | 0 => 0 | 53 => 235 | 37 => 36 | 5 => 5 | 173 => 238 | 212 => 249 | 51 => 250 | 20 => 20 | 213 => 251 | 46 => 252 | 232 => 260 | 233 => 261 | n => n, fun | 17 => 0 | 18 => 2 | 19 => 3 | n => n⟩
theorem Tryz.laysM171 : Go.Proofs.LaysM.n171 Tryz.prog Tryz.laysM171_ren := {
 mixed := by kernel_rfl
 f129 := Tryz.func215.trans (congrArg some (by kernel_rfl))
 f171 := Tryz.func66.trans (congrArg some (by kernel_rfl))
 f243 := Tryz.func137.trans (congrArg some (by kernel_rfl))
 f246 := Tryz.func178.trans (congrArg some (by kernel_rfl))
 f283 := Tryz.func202.trans (congrArg some (by kernel_rfl))
 f284 := Tryz.func203.trans (congrArg some (by kernel_rfl))
 f285 := Tryz.func204.trans (congrArg some (by kernel_rfl))
 f286 := Tryz.func205.trans (congrArg some (by kernel_rfl))
 f317 := Tryz.func214.trans (congrArg some (by kernel_rfl))
 f318 := Tryz.func216.trans (congrArg some (by kernel_rfl))
 f319 := Tryz.func217.trans (congrArg some (by kernel_rfl))
 f320 := Tryz.func218.trans (congrArg some (by kernel_rfl))
 f337 := Tryz.func225.trans (congrArg some (by kernel_rfl))
 f338 := Tryz.func226.trans (congrArg some (by kernel_rfl))
 t0 := Tryz.underlying0
 a0 := Tryz.isAgg0
 z0 := Tryz.sizeOf0
 v0 := Tryz.zeroValue0
 t2 := Tryz.underlying2
 a2 := Tryz.isAgg2
 z2 := Tryz.sizeOf2
 v2 := Tryz.zeroValue2
 t3 := Tryz.underlying3
 a3 := Tryz.isAgg3
 z3 := Tryz.sizeOf3
 v3 := Tryz.zeroValue3
 t4 := Tryz.underlying4
 a4 := Tryz.isAgg4
 z4 := Tryz.sizeOf4
 v4 := Tryz.zeroValue4
 t5 := Tryz.underlying5
 a5 := Tryz.isAgg5
 z5 := Tryz.sizeOf5
 v5 := Tryz.zeroValue5
 t9 := Tryz.underlying9
 a9 := Tryz.isAgg9
 z9 := Tryz.sizeOf9
 v9 := Tryz.zeroValue9
 t20 := Tryz.underlying20
 a20 := Tryz.isAgg20
 z20 := Tryz.sizeOf20
 v20 := Tryz.zeroValue20
 t37 := Tryz.underlying36
 a37 := Tryz.isAgg36
 z37 := Tryz.sizeOf36
 v37 := Tryz.zeroValue36
 t46 := Tryz.underlying252
 a46 := Tryz.isAgg252
 z46 := Tryz.sizeOf252
 v46 := Tryz.zeroValue252
 t51 := Tryz.underlying250
 a51 := Tryz.isAgg250
 z51 := Tryz.sizeOf250
 v51 := Tryz.zeroValue250
 t53 := Tryz.underlying235
 a53 := Tryz.isAgg235
 z53 := Tryz.sizeOf235
 v53 := Tryz.zeroValue235
 t171 := Tryz.underlying234
 a171 := Tryz.isAgg234
 z171 := Tryz.sizeOf234
 v171 := Tryz.zeroValue234
 t173 := Tryz.underlying238
 a173 := Tryz.isAgg238
 z173 := Tryz.sizeOf238
 v173 := Tryz.zeroValue238
 t212 := Tryz.underlying249
 a212 := Tryz.isAgg249
 z212 := Tryz.sizeOf249
 v212 := Tryz.zeroValue249
 t213 := Tryz.underlying251
 a213 := Tryz.isAgg251
 z213 := Tryz.sizeOf251
 t232 := Tryz.underlying260
 a232 := Tryz.isAgg260
 z232 := Tryz.sizeOf260
 v232 := Tryz.zeroValue260
 t233 := Tryz.underlying261
 a233 := Tryz.isAgg261
 z233 := Tryz.sizeOf261
 v233 := Tryz.zeroValue261
 g17 := by kernel_rfl
 g18 := by kernel_rfl
 g19 := by kernel_rfl
 i0 := by kernel_rfl
 i2 := by kernel_rfl
 i3 := by kernel_rfl
 i4 := by kernel_rfl
 i5 := by kernel_rfl
 i9 := by kernel_rfl
 i20 := by kernel_rfl
 i37 := by kernel_rfl
 i46 := by kernel_rfl
 i51 := by kernel_rfl
 i53 := by kernel_rfl
 i171 := by kernel_rfl
 i173 := by kernel_rfl
 i212 := by kernel_rfl
 i232 := by kernel_rfl
 i233 := by kernel_rfl
 m17 := by kernel_rfl
 m18 := by kernel_rfl
 m19 := by kernel_rfl }
open Go.RowKit Go.Sort Go.Lib in
theorem Tryz.strconv_Itoa (n : Int) (h0 : -9223372036854775808 ≤ n) (h1 : n ≤ 9223372036854775807) (w : World) (htab : Lib.TabIs Tryz.prog w "internal/strconv.uint64pow10" .u64 Lib.pow10Tab) :
 Calls Tryz.prog 66 #[.int .i64 n] w fun e w' => e = .returned (.string ⟨(Lib.itoa n).toArray⟩) ∧ ∃ k os, w' = grow (w.drewN k) os := Any.strconv_Itoa Tryz.laysM171 n h0 h1 w htab
def Tryz.lays144_ren : Go.Shelf.Ren := ⟨fun | 144 => 192 | 143 => 213 | 219 => 224 | 217 => 232 | 225 => 231 | 224 => 230 | 267 => 233 | 266 => 234 | 314 => 235 | n => n, fun | 9 => 9 | 4 => 4 | 3 => 3 | 5 => 5 | 46 => 252 | 146 => 265 | 51 => 250 | n => n, fun | 1 => 1 | n => n⟩
theorem Tryz.lays144 : Go.Proofs.Lays.n144 Tryz.prog Tryz.lays144_ren := {
 mixed := by kernel_rfl
 f143 := Tryz.func213.trans (congrArg some (by kernel_rfl))
 f144 := Tryz.func192.trans (congrArg some (by kernel_rfl))
 f217 := Tryz.func232.trans (congrArg some (by kernel_rfl))
 f219 := Tryz.func224.trans (congrArg some (by kernel_rfl))
 f224 := Tryz.func230.trans (congrArg some (by kernel_rfl))
 f225 := Tryz.func231.trans (congrArg some (by kernel_rfl))
 f266 := Tryz.func234.trans (congrArg some (by kernel_rfl))
 f267 := Tryz.func233.trans (congrArg some (by kernel_rfl))
 f314 := Tryz.func235.trans (congrArg some (by kernel_rfl))
 t3 := Tryz.underlying3
 a3 := Tryz.isAgg3
 z3 := Tryz.sizeOf3
 v3 := Tryz.zeroValue3
 t4 := Tryz.underlying4
 a4 := Tryz.isAgg4
 z4 := Tryz.sizeOf4
 v4 := Tryz.zeroValue4
 t5 := Tryz.underlying5
 a5 := Tryz.isAgg5
 z5 := Tryz.sizeOf5
 v5 := Tryz.zeroValue5
 t9 := Tryz.underlying9
 a9 := Tryz.isAgg9
 z9 := Tryz.sizeOf9
 v9 := Tryz.zeroValue9
 t46 := Tryz.underlying252
 a46 := Tryz.isAgg252
 z46 := Tryz.sizeOf252
 v46 := Tryz.zeroValue252
 t51 := Tryz.underlying250
 a51 := Tryz.isAgg250
 z51 := Tryz.sizeOf250
 v51 := Tryz.zeroValue250
 t146 := Tryz.underlying265
 a146 := Tryz.isAgg265
 z146 := Tryz.sizeOf265
 v146 := Tryz.zeroValue265
 g1 := by kernel_rfl }
open Go.RowKit Go.Lib in
theorem Tryz.strings_Contains (s sub : ByteArray) (m : Int) (w : World) (hs : s.size < 4294967281) (hm : w.cell? ⟨1, 0, none⟩ = some (.int .i64 m)) :
 Calls Tryz.prog 192 #[.string s, .string sub] w fun e w' => e = .returned (.bool (Lib.contains s.data.toList sub.data.toList)) ∧ w' = w := Any.strings_Contains Tryz.lays144 s sub m w hs hm
def Tryz.laysM219_ren : Go.Shelf.Ren := ⟨fun | 219 => 224 | 217 => 232 | 225 => 231 | 224 => 230 | 267 => 233 | 266 => 234 | 314 => 235 | n => n, fun | 9 => 9 | 3 => 3 | 4 => 4 | 5 => 5 | 46 => 252 | 146 => 265 | 51 => 250 | n => n, fun | 1 => 1 | n => n⟩
theorem Tryz.laysM219 : Go.Proofs.LaysM.n219 Tryz.prog Tryz.laysM219_ren := {
 mixed := by kernel_rfl
 f217 := Tryz.func232.trans (congrArg some (by kernel_rfl))
 f219 := Tryz.func224.trans (congrArg some (by kernel_rfl))
 f224 := Tryz.func230.trans (congrArg some (by kernel_rfl))
 f225 := Tryz.func231.trans (congrArg some (by kernel_rfl))
 f266 := Tryz.func234.trans (congrArg some (by kernel_rfl))
 f267 := Tryz.func233.trans (congrArg some (by kernel_rfl))
 f314 := Tryz.func235.trans (congrArg some (by kernel_rfl))
 t3 := Tryz.underlying3
 a3 := Tryz.isAgg3
 z3 := Tryz.sizeOf3
 v3 := Tryz.zeroValue3
 t4 := Tryz.underlying4
 a4 := Tryz.isAgg4
 z4 := Tryz.sizeOf4
 v4 := Tryz.zeroValue4
 t5 := Tryz.underlying5
 a5 := Tryz.isAgg5
 z5 := Tryz.sizeOf5
 v5 := Tryz.zeroValue5
 t9 := Tryz.underlying9
 a9 := Tryz.isAgg9
 z9 := Tryz.sizeOf9
 v9 := Tryz.zeroValue9
 t46 := Tryz.underlying252
 a46 := Tryz.isAgg252
 z46 := Tryz.sizeOf252
 v46 := Tryz.zeroValue252
 t51 := Tryz.underlying250
 a51 := Tryz.isAgg250
 z51 := Tryz.sizeOf250
 v51 := Tryz.zeroValue250
 t146 := Tryz.underlying265
 a146 := Tryz.isAgg265
 z146 := Tryz.sizeOf265
 v146 := Tryz.zeroValue265
 g1 := by kernel_rfl
 i3 := by kernel_rfl
 i4 := by kernel_rfl
 i5 := by kernel_rfl
 i9 := by kernel_rfl
 i46 := by kernel_rfl
 i51 := by kernel_rfl
 i146 := by kernel_rfl
 m1 := by kernel_rfl
 s1_3 := fun w h => Go.Proofs.cell_of_shapedOpen_int (zero := #[.int .i64 0]) (t := 3) h (of_decide_eq_true (by kernel_rfl)) (by kernel_rfl) rfl (by kernel_rfl) (by kernel_rfl) Tryz.underlying3 }
end Go.Proofs
