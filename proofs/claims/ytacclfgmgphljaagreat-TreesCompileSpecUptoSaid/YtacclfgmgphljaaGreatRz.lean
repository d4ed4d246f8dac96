/- The contracts of the library functions that this program calls. -/
import Derived.Shelf.Small.Bits
import Derived.Shelf.Small.Wraps
import Derived.Shelf.Strconv.Itoa0
import Derived.Shelf.Sort.Plain
import Derived.Ground.Names2Prog
import Derived.Shelf.Slices.CompactI
import Derived.Shelf.Slices.SearchI
import Derived.Shelf.Slices.Cells
import Derived.Ground.SlgnProg
import Derived.Shelf.SlicesE.Equal
import Derived.Test.YtacclfgmgphljaaGreatProg
set_option linter.all false
namespace Go.Proofs
open Go.Shelf
def Tryz.lays189_ren : Go.Shelf.Ren := ⟨fun | 189 => 21 | 125 => 50 | 257 => 49 | 128 => 79 | 129 => 80 | 294 => 71 | 295 => 72 | 296 => 73 | 297 => 74 | 298 => 75 | 299 => 76 | 216 => 64 | 300 => 77 | 301 => 78 | 328 => 95 | 329 => 96 | 330 => 97 | 331 => 98 | 332 => 99 | 215 => 90 | 343 => 106 | n => n, fun | 28 => 37 | 3 => 3 | 46 => 100 | 0 => 0 | 51 => 132 | 53 => 134 | 4 => 4 | 183 => 126 | 182 => 125 | 131 => 104 | 5 => 5 | 9 => 9 | 218 => 146 | 222 => 61 | 228 => 153 | 229 => 53 | n => n, fun | n => n⟩
theorem Tryz.lays189 : Go.Proofs.Lays.n189 Tryz.prog Tryz.lays189_ren := {
 mixed := by kernel_rfl
 f125 := Tryz.func50.trans (congrArg some (by kernel_rfl))
 f128 := Tryz.func79.trans (congrArg some (by kernel_rfl))
 f129 := Tryz.func80.trans (congrArg some (by kernel_rfl))
 f189 := Tryz.func21.trans (congrArg some (by kernel_rfl))
 f215 := Tryz.func90.trans (congrArg some (by kernel_rfl))
 f216 := Tryz.func64.trans (congrArg some (by kernel_rfl))
 f257 := Tryz.func49.trans (congrArg some (by kernel_rfl))
 f294 := Tryz.func71.trans (congrArg some (by kernel_rfl))
 f295 := Tryz.func72.trans (congrArg some (by kernel_rfl))
 f296 := Tryz.func73.trans (congrArg some (by kernel_rfl))
 f297 := Tryz.func74.trans (congrArg some (by kernel_rfl))
 f298 := Tryz.func75.trans (congrArg some (by kernel_rfl))
 f299 := Tryz.func76.trans (congrArg some (by kernel_rfl))
 f300 := Tryz.func77.trans (congrArg some (by kernel_rfl))
 f301 := Tryz.func78.trans (congrArg some (by kernel_rfl))
 f328 := Tryz.func95.trans (congrArg some (by kernel_rfl))
 f329 := Tryz.func96.trans (congrArg some (by kernel_rfl))
 f330 := Tryz.func97.trans (congrArg some (by kernel_rfl))
 f331 := Tryz.func98.trans (congrArg some (by kernel_rfl))
 f332 := Tryz.func99.trans (congrArg some (by kernel_rfl))
 f343 := Tryz.func106.trans (congrArg some (by kernel_rfl))
 t0 := Tryz.underlying0
 a0 := Tryz.isAgg0
 z0 := Tryz.sizeOf0
 v0 := Tryz.zeroValue0
 t3 := Tryz.underlying3
 a3 := Tryz.isAgg3
 z3 := Tryz.sizeOf3
 v3 := Tryz.zeroValue3
 t4 := Tryz.underlying4
 a4 := Tryz.isAgg4
 z4 := Tryz.sizeOf4
 v4 := Tryz.zeroValue4
 t5 := Tryz.underlying5
 a5 := Tryz.isAgg5
 z5 := Tryz.sizeOf5
 v5 := Tryz.zeroValue5
 t9 := Tryz.underlying9
 a9 := Tryz.isAgg9
 z9 := Tryz.sizeOf9
 v9 := Tryz.zeroValue9
 t28 := Tryz.underlying37
 a28 := Tryz.isAgg37
 z28 := Tryz.sizeOf37
 v28 := Tryz.zeroValue37
 t46 := Tryz.underlying100
 a46 := Tryz.isAgg100
 z46 := Tryz.sizeOf100
 v46 := Tryz.zeroValue100
 t51 := Tryz.underlying132
 a51 := Tryz.isAgg132
 z51 := Tryz.sizeOf132
 v51 := Tryz.zeroValue132
 t53 := Tryz.underlying134
 a53 := Tryz.isAgg134
 z53 := Tryz.sizeOf134
 v53 := Tryz.zeroValue134
 t131 := Tryz.underlying104
 a131 := Tryz.isAgg104
 z131 := Tryz.sizeOf104
 v131 := Tryz.zeroValue104
 t182 := Tryz.underlying125
 a182 := Tryz.isAgg125
 z182 := Tryz.sizeOf125
 v182 := Tryz.zeroValue125
 t183 := Tryz.underlying126
 a183 := Tryz.isAgg126
 z183 := Tryz.sizeOf126
 v183 := Tryz.zeroValue126
 t218 := Tryz.underlying146
 a218 := Tryz.isAgg146
 z218 := Tryz.sizeOf146
 v218 := Tryz.zeroValue146
 t222 := Tryz.underlying61
 a222 := Tryz.isAgg61
 z222 := Tryz.sizeOf61
 v222 := Tryz.zeroValue61
 t228 := Tryz.underlying153
 a228 := Tryz.isAgg153
 z228 := Tryz.sizeOf153
 v228 := Tryz.zeroValue153
 t229 := Tryz.underlying53
 a229 := Tryz.isAgg53
 z229 := Tryz.sizeOf53
 v229 := Tryz.zeroValue53 }
open Go.Sort Go.RowKit in
theorem Tryz.slices_Sort_int (blk off cap : Nat) (zs : List Int) (w : World) (hH : Holds (Value.int .i64) w blk off zs.toArray) (hblk : blk < w.heap.size) (hsz : zs.length < 4611686018427387904) :
 Calls Tryz.prog 21 #[.slice (some ⟨blk, off, none⟩) zs.length cap] w fun e w' =>
  e = .returned (.tuple #[]) ∧ ∃ n os, w' = grow (putRow (Value.int .i64) (Sort.ahead w n) blk off (zs.mergeSort fun x y => decide (x ≤ y)).toArray) os := Any.slices_Sort_int Tryz.lays189 blk off cap zs w hH hblk hsz
def Tryz.laysNm220_ren : Go.Shelf.Ren := ⟨fun | 20 => 22 | n => n, fun | 22 => 37 | 3 => 3 | 4 => 4 | 0 => 0 | n => n, fun | n => n⟩
theorem Tryz.laysNm220 : Go.Proofs.Lays2.n20 Tryz.prog Tryz.laysNm220_ren := {
 mixed := by kernel_rfl
 f20 := Tryz.func22.trans (congrArg some (by kernel_rfl))
 t0 := Tryz.underlying0
 a0 := Tryz.isAgg0
 z0 := Tryz.sizeOf0
 v0 := Tryz.zeroValue0
 t3 := Tryz.underlying3
 a3 := Tryz.isAgg3
 z3 := Tryz.sizeOf3
 v3 := Tryz.zeroValue3
 t4 := Tryz.underlying4
 a4 := Tryz.isAgg4
 z4 := Tryz.sizeOf4
 v4 := Tryz.zeroValue4
 t22 := Tryz.underlying37
 a22 := Tryz.isAgg37
 z22 := Tryz.sizeOf37
 v22 := Tryz.zeroValue37
 i3 := by kernel_rfl }
open Go.RowKit Go.Lib Go.Sort in
/-- slices.Compact at []int, of an argument: the slice cut to 'Lib.compact (elements)'; the n cells hold that, then zeros. (LAID: no walk: one application.) -/
theorem Tryz.slices_Compact_int_cells (b off n c : Nat) (zs : List Int) (w : World) (hz : n ≤ zs.length) (hbig : n ≤ 9223372036854775807) (hcap : n ≤ c) (hc : ∀ j, j < zs.length → w.cell? ⟨b, off + j, none⟩ = some (.int .i64 (zs.getD j 0))) (hf : ∀ j, j < n → w.frozen? ⟨b, off + j, none⟩ = false) :
 Calls Tryz.prog 22 #[.slice (some ⟨b, off, none⟩) n c] w fun e w' => e = .returned (.slice (some ⟨b, off, none⟩) (Lib.compact (zs.take n)).length c) ∧ ∃ q, w' = (w.drewN q).setCells b off ((Lib.compact (zs.take n) ++ List.replicate (n - (Lib.compact (zs.take n)).length) 0).map (Value.int .i64)) := Any.slices_Compact_int_cells Tryz.laysNm220 b off n c zs w hz hbig hcap hc hf
end Go.Proofs
