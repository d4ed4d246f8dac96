/- The contracts of the library functions that this program calls. -/
import Derived.Shelf.Small.Bits
import Derived.Shelf.Strconv.Itoa0
import Derived.Shelf.Sort.Plain
import Derived.Ground.Names2Prog
import Derived.Shelf.Slices.CompactI
import Derived.Shelf.Slices.SearchI
import Derived.Shelf.Slices.Cells
import Derived.Ground.SlgnProg
import Derived.Shelf.SlicesE.Equal
import Derived.Test.YtacclfgmgphljaaProg
set_option linter.all false
namespace Go.Proofs
open Go.Shelf
def Try.lays189_ren : Go.Shelf.Ren := ⟨fun | 189 => 54 | 125 => 79 | 257 => 78 | 128 => 102 | 129 => 103 | 294 => 94 | 295 => 95 | 296 => 96 | 297 => 97 | 298 => 98 | 299 => 99 | 216 => 70 | 300 => 100 | 301 => 101 | 328 => 109 | 329 => 110 | 330 => 111 | 331 => 112 | 332 => 113 | 215 => 91 | 343 => 116 | n => n, fun | 28 => 34 | 3 => 3 | 46 => 120 | 0 => 0 | 51 => 145 | 53 => 147 | 4 => 4 | 183 => 139 | 182 => 138 | 131 => 121 | 5 => 5 | 9 => 9 | 218 => 154 | 222 => 81 | 228 => 159 | 229 => 89 | n => n, fun | n => n⟩
theorem Try.lays189 : Go.Proofs.Lays.n189 Try.prog Try.lays189_ren := {
 mixed := by kernel_rfl
 f125 := Try.func79.trans (congrArg some (by kernel_rfl))
 f128 := Try.func102.trans (congrArg some (by kernel_rfl))
 f129 := Try.func103.trans (congrArg some (by kernel_rfl))
 f189 := Try.func54.trans (congrArg some (by kernel_rfl))
 f215 := Try.func91.trans (congrArg some (by kernel_rfl))
 f216 := Try.func70.trans (congrArg some (by kernel_rfl))
 f257 := Try.func78.trans (congrArg some (by kernel_rfl))
 f294 := Try.func94.trans (congrArg some (by kernel_rfl))
 f295 := Try.func95.trans (congrArg some (by kernel_rfl))
 f296 := Try.func96.trans (congrArg some (by kernel_rfl))
 f297 := Try.func97.trans (congrArg some (by kernel_rfl))
 f298 := Try.func98.trans (congrArg some (by kernel_rfl))
 f299 := Try.func99.trans (congrArg some (by kernel_rfl))
 f300 := Try.func100.trans (congrArg some (by kernel_rfl))
 f301 := Try.func101.trans (congrArg some (by kernel_rfl))
 f328 := Try.func109.trans (congrArg some (by kernel_rfl))
 f329 := Try.func110.trans (congrArg some (by kernel_rfl))
 f330 := Try.func111.trans (congrArg some (by kernel_rfl))
 f331 := Try.func112.trans (congrArg some (by kernel_rfl))
 f332 := Try.func113.trans (congrArg some (by kernel_rfl))
 f343 := Try.func116.trans (congrArg some (by kernel_rfl))
 t0 := Try.underlying0
 a0 := Try.isAgg0
 z0 := Try.sizeOf0
 v0 := Try.zeroValue0
 t3 := Try.underlying3
 a3 := Try.isAgg3
 z3 := Try.sizeOf3
 v3 := Try.zeroValue3
 t4 := Try.underlying4
 a4 := Try.isAgg4
 z4 := Try.sizeOf4
 v4 := Try.zeroValue4
 t5 := Try.underlying5
 a5 := Try.isAgg5
 z5 := Try.sizeOf5
 v5 := Try.zeroValue5
 t9 := Try.underlying9
 a9 := Try.isAgg9
 z9 := Try.sizeOf9
 v9 := Try.zeroValue9
 t28 := Try.underlying34
 a28 := Try.isAgg34
 z28 := Try.sizeOf34
 v28 := Try.zeroValue34
 t46 := Try.underlying120
 a46 := Try.isAgg120
 z46 := Try.sizeOf120
 v46 := Try.zeroValue120
 t51 := Try.underlying145
 a51 := Try.isAgg145
 z51 := Try.sizeOf145
 v51 := Try.zeroValue145
 t53 := Try.underlying147
 a53 := Try.isAgg147
 z53 := Try.sizeOf147
 v53 := Try.zeroValue147
 t131 := Try.underlying121
 a131 := Try.isAgg121
 z131 := Try.sizeOf121
 v131 := Try.zeroValue121
 t182 := Try.underlying138
 a182 := Try.isAgg138
 z182 := Try.sizeOf138
 v182 := Try.zeroValue138
 t183 := Try.underlying139
 a183 := Try.isAgg139
 z183 := Try.sizeOf139
 v183 := Try.zeroValue139
 t218 := Try.underlying154
 a218 := Try.isAgg154
 z218 := Try.sizeOf154
 v218 := Try.zeroValue154
 t222 := Try.underlying81
 a222 := Try.isAgg81
 z222 := Try.sizeOf81
 v222 := Try.zeroValue81
 t228 := Try.underlying159
 a228 := Try.isAgg159
 z228 := Try.sizeOf159
 v228 := Try.zeroValue159
 t229 := Try.underlying89
 a229 := Try.isAgg89
 z229 := Try.sizeOf89
 v229 := Try.zeroValue89 }
open Go.Sort Go.RowKit in
theorem Try.slices_Sort_int (blk off cap : Nat) (zs : List Int) (w : World) (hH : Holds (Value.int .i64) w blk off zs.toArray) (hblk : blk < w.heap.size) (hsz : zs.length < 4611686018427387904) :
 Calls Try.prog 54 #[.slice (some ⟨blk, off, none⟩) zs.length cap] w fun e w' =>
  e = .returned (.tuple #[]) ∧ ∃ n os, w' = grow (putRow (Value.int .i64) (Sort.ahead w n) blk off (zs.mergeSort fun x y => decide (x ≤ y)).toArray) os := Any.slices_Sort_int Try.lays189 blk off cap zs w hH hblk hsz
def Try.laysNm220_ren : Go.Shelf.Ren := ⟨fun | 20 => 55 | n => n, fun | 22 => 34 | 3 => 3 | 4 => 4 | 0 => 0 | n => n, fun | n => n⟩
theorem Try.laysNm220 : Go.Proofs.Lays2.n20 Try.prog Try.laysNm220_ren := {
 mixed := by kernel_rfl
 f20 := Try.func55.trans (congrArg some (by kernel_rfl))
 t0 := Try.underlying0
 a0 := Try.isAgg0
 z0 := Try.sizeOf0
 v0 := Try.zeroValue0
 t3 := Try.underlying3
 a3 := Try.isAgg3
 z3 := Try.sizeOf3
 v3 := Try.zeroValue3
 t4 := Try.underlying4
 a4 := Try.isAgg4
 z4 := Try.sizeOf4
 v4 := Try.zeroValue4
 t22 := Try.underlying34
 a22 := Try.isAgg34
 z22 := Try.sizeOf34
 v22 := Try.zeroValue34
 i3 := by kernel_rfl }
open Go.RowKit Go.Lib Go.Sort in
/-- slices.Compact at []int, of an argument: the slice cut to 'Lib.compact (elements)'; the n cells hold that, then zeros. (LAID: no walk: one application.) -/
theorem Try.slices_Compact_int_cells (b off n c : Nat) (zs : List Int) (w : World) (hz : n ≤ zs.length) (hbig : n ≤ 9223372036854775807) (hcap : n ≤ c) (hc : ∀ j, j < zs.length → w.cell? ⟨b, off + j, none⟩ = some (.int .i64 (zs.getD j 0))) (hf : ∀ j, j < n → w.frozen? ⟨b, off + j, none⟩ = false) :
 Calls Try.prog 55 #[.slice (some ⟨b, off, none⟩) n c] w fun e w' => e = .returned (.slice (some ⟨b, off, none⟩) (Lib.compact (zs.take n)).length c) ∧ ∃ q, w' = (w.drewN q).setCells b off ((Lib.compact (zs.take n) ++ List.replicate (n - (Lib.compact (zs.take n)).length) 0).map (Value.int .i64)) := Any.slices_Compact_int_cells Try.laysNm220 b off n c zs w hz hbig hcap hc hf
end Go.Proofs
