/- The table of this seat's types, and that it is the program's own. -/
import Derived.Test.YtkkohadkpogdfaaGreatProg
import Derived.Test.YtkkohadkpogdfaaGreatMf
namespace Go.Proofs.YtkkohadkpogdfaaGreat.Dx
open Go Go.RowKit Go.MapKept
theorem ty2 : TyOk Tryz.prog 2 ⟨(.int .i64), 1, 8, (.int .i64 0), KInt .i64⟩ := ⟨by kernel_rfl, by kernel_rfl, by kernel_rfl, kd_int Tryz.underlying2⟩
theorem ty3 : TyOk Tryz.prog 3 ⟨(.int .i64), 1, 8, (.int .i64 0), KInt .i64⟩ := ⟨by kernel_rfl, by kernel_rfl, by kernel_rfl, kd_int Tryz.underlying3⟩
theorem ty4 : TyOk Tryz.prog 4 ⟨.bool, 1, 1, (.bool false), KBool⟩ := ⟨by kernel_rfl, by kernel_rfl, by kernel_rfl, kd_bool Tryz.underlying4⟩
theorem ty5 : TyOk Tryz.prog 5 ⟨(.int .u8), 1, 1, (.int .u8 0), KInt .u8⟩ := ⟨by kernel_rfl, by kernel_rfl, by kernel_rfl, kd_int Tryz.underlying5⟩
theorem ty6 : TyOk Tryz.prog 6 ⟨(.int .u8), 1, 1, (.int .u8 0), KInt .u8⟩ := ⟨by kernel_rfl, by kernel_rfl, by kernel_rfl, kd_int Tryz.underlying6⟩
theorem ty9 : TyOk Tryz.prog 9 ⟨.string, 1, 16, (.string ⟨#[]⟩), KStr⟩ := ⟨by kernel_rfl, by kernel_rfl, by kernel_rfl, kd_str Tryz.underlying9⟩
theorem ty10 : TyOk Tryz.prog 10 ⟨.string, 1, 16, (.string ⟨#[]⟩), KStr⟩ := ⟨by kernel_rfl, by kernel_rfl, by kernel_rfl, kd_str Tryz.underlying10⟩
theorem ty11 : TyOk Tryz.prog 11 ⟨.string, 1, 16, (.string ⟨#[]⟩), KStr⟩ := ⟨by kernel_rfl, by kernel_rfl, by kernel_rfl, kd_str Tryz.underlying11⟩
theorem ty12 : TyOk Tryz.prog 12 ⟨(.int .u64), 1, 8, (.int .u64 0), KInt .u64⟩ := ⟨by kernel_rfl, by kernel_rfl, by kernel_rfl, kd_int Tryz.underlying12⟩
theorem ty15 : TyOk Tryz.prog 15 ⟨(.pointer 220), 1, 8, (.pointer none), fun _ => False⟩ := ⟨by kernel_rfl, by kernel_rfl, by kernel_rfl, kd_none _ _⟩
theorem ty16 : TyOk Tryz.prog 16 ⟨(.pointer 223), 1, 8, (.pointer none), fun _ => False⟩ := ⟨by kernel_rfl, by kernel_rfl, by kernel_rfl, kd_none _ _⟩
theorem ty17 : TyOk Tryz.prog 17 ⟨(.pointer 232), 1, 8, (.pointer none), fun _ => False⟩ := ⟨by kernel_rfl, by kernel_rfl, by kernel_rfl, kd_none _ _⟩
theorem ty20 : TyOk Tryz.prog 20 ⟨Tryz.t20.desc, 1, 16, .nilIface, fun _ => False⟩ := ⟨by kernel_rfl, by kernel_rfl, by kernel_rfl, kd_none _ _⟩
theorem ty21 : TyOk Tryz.prog 21 ⟨(.int .i32), 1, 4, (.int .i32 0), KInt .i32⟩ := ⟨by kernel_rfl, by kernel_rfl, by kernel_rfl, kd_int Tryz.underlying21⟩
theorem ty22 : TyOk Tryz.prog 22 ⟨(.slice 67), 1, 24, (.slice none 0 0), fun _ => False⟩ := ⟨by kernel_rfl, by kernel_rfl, by kernel_rfl, kd_none _ _⟩
theorem ty23 : TyOk Tryz.prog 23 ⟨(.slice 54), 1, 24, (.slice none 0 0), fun _ => False⟩ := ⟨by kernel_rfl, by kernel_rfl, by kernel_rfl, kd_none _ _⟩
theorem ty24 : TyOk Tryz.prog 24 ⟨(.slice 58), 1, 24, (.slice none 0 0), fun _ => False⟩ := ⟨by kernel_rfl, by kernel_rfl, by kernel_rfl, kd_none _ _⟩
theorem ty25 : TyOk Tryz.prog 25 ⟨(.slice 97), 1, 24, (.slice none 0 0), fun _ => False⟩ := ⟨by kernel_rfl, by kernel_rfl, by kernel_rfl, kd_none _ _⟩
theorem ty26 : TyOk Tryz.prog 26 ⟨(.slice 125), 1, 24, (.slice none 0 0), fun _ => False⟩ := ⟨by kernel_rfl, by kernel_rfl, by kernel_rfl, kd_none _ _⟩
theorem ty27 : TyOk Tryz.prog 27 ⟨(.slice 129), 1, 24, (.slice none 0 0), fun _ => False⟩ := ⟨by kernel_rfl, by kernel_rfl, by kernel_rfl, kd_none _ _⟩
theorem ty28 : TyOk Tryz.prog 28 ⟨(.slice 139), 1, 24, (.slice none 0 0), fun _ => False⟩ := ⟨by kernel_rfl, by kernel_rfl, by kernel_rfl, kd_none _ _⟩
theorem ty29 : TyOk Tryz.prog 29 ⟨(.slice 102), 1, 24, (.slice none 0 0), fun _ => False⟩ := ⟨by kernel_rfl, by kernel_rfl, by kernel_rfl, kd_none _ _⟩
theorem ty31 : TyOk Tryz.prog 31 ⟨Tryz.t30.desc, 5, 40, (.agg #[(.int .i64 0), (.int .i64 0), (.int .i64 0), (.int .i64 0), (.int .i64 0)]), fun _ => False⟩ := ⟨by kernel_rfl, by kernel_rfl, by kernel_rfl, kd_none _ _⟩
theorem ty33 : TyOk Tryz.prog 33 ⟨Tryz.t32.desc, 16, 264, (.agg #[(.string ⟨#[]⟩), (.slice none 0 0), (.slice none 0 0), (.slice none 0 0), (.slice none 0 0), (.slice none 0 0), (.slice none 0 0), (.slice none 0 0), (.slice none 0 0), (.int .i64 0), (.int .i64 0), (.int .i64 0), (.int .i64 0), (.int .i64 0), (.int .i64 0), (.int .i64 0)]), fun _ => False⟩ := ⟨by kernel_rfl, by kernel_rfl, by kernel_rfl, kd_none _ _⟩
theorem ty36 : TyOk Tryz.prog 36 ⟨(.slice 3), 1, 24, (.slice none 0 0), fun _ => False⟩ := ⟨by kernel_rfl, by kernel_rfl, by kernel_rfl, kd_none _ _⟩
theorem ty37 : TyOk Tryz.prog 37 ⟨(.int .i64), 1, 8, (.int .i64 0), KInt .i64⟩ := ⟨by kernel_rfl, by kernel_rfl, by kernel_rfl, kd_int Tryz.underlying37⟩
theorem ty45 : TyOk Tryz.prog 45 ⟨Tryz.t44.desc, 2, 16, (.agg #[(.int .i64 0), (.int .i64 0)]), KInts 2⟩ := ⟨by kernel_rfl, by kernel_rfl, by kernel_rfl, kd_ints Tryz.underlying45 (by kernel_rfl) rfl ⟨by decide, Tryz.underlying3, rfl, by decide, Tryz.underlying3, rfl, trivial⟩ (by kernel_rfl)⟩
theorem ty54 : TyOk Tryz.prog 54 ⟨Tryz.t53.desc, 4, 32, (.agg #[(.int .i64 0), (.int .i64 0), (.int .i64 0), (.int .i64 0)]), KInts 4⟩ := ⟨by kernel_rfl, by kernel_rfl, by kernel_rfl, kd_ints Tryz.underlying54 (by kernel_rfl) rfl ⟨by decide, Tryz.underlying3, rfl, by decide, Tryz.underlying3, rfl, by decide, Tryz.underlying3, rfl, by decide, Tryz.underlying3, rfl, trivial⟩ (by kernel_rfl)⟩
theorem ty55 : TyOk Tryz.prog 55 ⟨(.slice 95), 1, 24, (.slice none 0 0), fun _ => False⟩ := ⟨by kernel_rfl, by kernel_rfl, by kernel_rfl, kd_none _ _⟩
theorem ty56 : TyOk Tryz.prog 56 ⟨(.slice 62), 1, 24, (.slice none 0 0), fun _ => False⟩ := ⟨by kernel_rfl, by kernel_rfl, by kernel_rfl, kd_none _ _⟩
theorem ty58 : TyOk Tryz.prog 58 ⟨Tryz.t57.desc, 5, 80, (.agg #[(.string ⟨#[]⟩), (.slice none 0 0), (.int .i64 0), (.slice none 0 0), (.int .i64 0)]), fun _ => False⟩ := ⟨by kernel_rfl, by kernel_rfl, by kernel_rfl, kd_none _ _⟩
theorem ty60 : TyOk Tryz.prog 60 ⟨(.pointer 58), 1, 8, (.pointer none), fun _ => False⟩ := ⟨by kernel_rfl, by kernel_rfl, by kernel_rfl, kd_none _ _⟩
theorem ty62 : TyOk Tryz.prog 62 ⟨Tryz.t61.desc, 3, 24, (.agg #[(.int .i64 0), (.int .i64 0), (.int .i64 0)]), KInts 3⟩ := ⟨by kernel_rfl, by kernel_rfl, by kernel_rfl, kd_ints Tryz.underlying62 (by kernel_rfl) rfl ⟨by decide, Tryz.underlying3, rfl, by decide, Tryz.underlying3, rfl, by decide, Tryz.underlying3, rfl, trivial⟩ (by kernel_rfl)⟩
theorem ty67 : TyOk Tryz.prog 67 ⟨Tryz.t66.desc, 2, 24, (.agg #[(.string ⟨#[]⟩), (.int .i64 0)]), fun _ => False⟩ := ⟨by kernel_rfl, by kernel_rfl, by kernel_rfl, kd_none _ _⟩
theorem ty69 : TyOk Tryz.prog 69 ⟨(.map 109 54), 1, 8, (.map none), fun _ => False⟩ := ⟨by kernel_rfl, by kernel_rfl, by kernel_rfl, kd_none _ _⟩
theorem ty71 : TyOk Tryz.prog 71 ⟨Tryz.t70.desc, 2, 32, (.agg #[(.slice none 0 0), (.map none)]), fun _ => False⟩ := ⟨by kernel_rfl, by kernel_rfl, by kernel_rfl, kd_none _ _⟩
theorem ty81 : TyOk Tryz.prog 81 ⟨(.map 83 3), 1, 8, (.map none), fun _ => False⟩ := ⟨by kernel_rfl, by kernel_rfl, by kernel_rfl, kd_none _ _⟩
theorem ty83 : TyOk Tryz.prog 83 ⟨Tryz.t82.desc, 2, 16, (.agg #[(.int .i64 0), (.int .i64 0)]), KInts 2⟩ := ⟨by kernel_rfl, by kernel_rfl, by kernel_rfl, kd_ints Tryz.underlying83 (by kernel_rfl) rfl ⟨by decide, Tryz.underlying3, rfl, by decide, Tryz.underlying3, rfl, trivial⟩ (by kernel_rfl)⟩
theorem ty86 : TyOk Tryz.prog 86 ⟨(.map 3 4), 1, 8, (.map none), fun _ => False⟩ := ⟨by kernel_rfl, by kernel_rfl, by kernel_rfl, kd_none _ _⟩
theorem ty88 : TyOk Tryz.prog 88 ⟨(.map 90 4), 1, 8, (.map none), fun _ => False⟩ := ⟨by kernel_rfl, by kernel_rfl, by kernel_rfl, kd_none _ _⟩
theorem ty90 : TyOk Tryz.prog 90 ⟨Tryz.t89.desc, 2, 16, (.agg #[(.int .i64 0), (.int .i64 0)]), KInts 2⟩ := ⟨by kernel_rfl, by kernel_rfl, by kernel_rfl, kd_ints Tryz.underlying90 (by kernel_rfl) rfl ⟨by decide, Tryz.underlying3, rfl, by decide, Tryz.underlying3, rfl, trivial⟩ (by kernel_rfl)⟩
theorem ty93 : TyOk Tryz.prog 93 ⟨Tryz.t93.desc, 1, 8, .nilFunc, fun _ => False⟩ := ⟨by kernel_rfl, by kernel_rfl, by kernel_rfl, kd_none _ _⟩
theorem ty95 : TyOk Tryz.prog 95 ⟨Tryz.t94.desc, 3, 40, (.agg #[(.int .i64 0), (.int .i64 0), (.slice none 0 0)]), fun _ => False⟩ := ⟨by kernel_rfl, by kernel_rfl, by kernel_rfl, kd_none _ _⟩
theorem ty97 : TyOk Tryz.prog 97 ⟨Tryz.t96.desc, 2, 24, (.agg #[(.string ⟨#[]⟩), (.int .i64 0)]), fun _ => False⟩ := ⟨by kernel_rfl, by kernel_rfl, by kernel_rfl, kd_none _ _⟩
theorem ty98 : TyOk Tryz.prog 98 ⟨(.slice 100), 1, 24, (.slice none 0 0), fun _ => False⟩ := ⟨by kernel_rfl, by kernel_rfl, by kernel_rfl, kd_none _ _⟩
theorem ty100 : TyOk Tryz.prog 100 ⟨Tryz.t99.desc, 4, 48, (.agg #[(.int .i64 0), (.int .i64 0), (.int .i64 0), (.slice none 0 0)]), fun _ => False⟩ := ⟨by kernel_rfl, by kernel_rfl, by kernel_rfl, kd_none _ _⟩
theorem ty102 : TyOk Tryz.prog 102 ⟨Tryz.t101.desc, 8, 112, (.agg #[(.int .i64 0), (.int .i64 0), (.int .i64 0), (.int .i64 0), (.int .i64 0), (.slice none 0 0), (.slice none 0 0), (.slice none 0 0)]), fun _ => False⟩ := ⟨by kernel_rfl, by kernel_rfl, by kernel_rfl, kd_none _ _⟩
theorem ty109 : TyOk Tryz.prog 109 ⟨Tryz.t108.desc, 2, 16, (.agg #[(.int .i64 0), (.int .i64 0)]), KInts 2⟩ := ⟨by kernel_rfl, by kernel_rfl, by kernel_rfl, kd_ints Tryz.underlying109 (by kernel_rfl) rfl ⟨by decide, Tryz.underlying3, rfl, by decide, Tryz.underlying3, rfl, trivial⟩ (by kernel_rfl)⟩
theorem ty111 : TyOk Tryz.prog 111 ⟨(.map 3 3), 1, 8, (.map none), fun _ => False⟩ := ⟨by kernel_rfl, by kernel_rfl, by kernel_rfl, kd_none _ _⟩
theorem ty112 : TyOk Tryz.prog 112 ⟨Tryz.t112.desc, 1, 8, .nilFunc, fun _ => False⟩ := ⟨by kernel_rfl, by kernel_rfl, by kernel_rfl, kd_none _ _⟩
theorem ty125 : TyOk Tryz.prog 125 ⟨Tryz.t124.desc, 4, 40, (.agg #[(.string ⟨#[]⟩), (.int .i64 0), (.int .i64 0), (.bool false)]), fun _ => False⟩ := ⟨by kernel_rfl, by kernel_rfl, by kernel_rfl, kd_none _ _⟩
theorem ty129 : TyOk Tryz.prog 129 ⟨Tryz.t128.desc, 3, 32, (.agg #[(.string ⟨#[]⟩), (.int .i64 0), (.int .i64 0)]), fun _ => False⟩ := ⟨by kernel_rfl, by kernel_rfl, by kernel_rfl, kd_none _ _⟩
theorem ty131 : TyOk Tryz.prog 131 ⟨Tryz.t131.desc, 1, 8, .nilFunc, fun _ => False⟩ := ⟨by kernel_rfl, by kernel_rfl, by kernel_rfl, kd_none _ _⟩
theorem ty134 : TyOk Tryz.prog 134 ⟨Tryz.t134.desc, 1, 8, .nilFunc, fun _ => False⟩ := ⟨by kernel_rfl, by kernel_rfl, by kernel_rfl, kd_none _ _⟩
theorem ty136 : TyOk Tryz.prog 136 ⟨Tryz.t136.desc, 1, 8, .nilFunc, fun _ => False⟩ := ⟨by kernel_rfl, by kernel_rfl, by kernel_rfl, kd_none _ _⟩
theorem ty137 : TyOk Tryz.prog 137 ⟨Tryz.t137.desc, 1, 8, .nilFunc, fun _ => False⟩ := ⟨by kernel_rfl, by kernel_rfl, by kernel_rfl, kd_none _ _⟩
theorem ty139 : TyOk Tryz.prog 139 ⟨Tryz.t138.desc, 4, 32, (.agg #[(.int .i64 0), (.int .i64 0), (.int .i64 0), (.int .i64 0)]), KInts 4⟩ := ⟨by kernel_rfl, by kernel_rfl, by kernel_rfl, kd_ints Tryz.underlying139 (by kernel_rfl) rfl ⟨by decide, Tryz.underlying3, rfl, by decide, Tryz.underlying3, rfl, by decide, Tryz.underlying3, rfl, by decide, Tryz.underlying3, rfl, trivial⟩ (by kernel_rfl)⟩
theorem ty140 : TyOk Tryz.prog 140 ⟨Tryz.t140.desc, 1, 8, .nilFunc, fun _ => False⟩ := ⟨by kernel_rfl, by kernel_rfl, by kernel_rfl, kd_none _ _⟩
theorem ty142 : TyOk Tryz.prog 142 ⟨Tryz.t142.desc, 1, 8, .nilFunc, fun _ => False⟩ := ⟨by kernel_rfl, by kernel_rfl, by kernel_rfl, kd_none _ _⟩
theorem ty147 : TyOk Tryz.prog 147 ⟨Tryz.t147.desc, 1, 8, .nilFunc, fun _ => False⟩ := ⟨by kernel_rfl, by kernel_rfl, by kernel_rfl, kd_none _ _⟩
theorem ty150 : TyOk Tryz.prog 150 ⟨Tryz.t150.desc, 1, 8, .nilFunc, fun _ => False⟩ := ⟨by kernel_rfl, by kernel_rfl, by kernel_rfl, kd_none _ _⟩
theorem ty154 : TyOk Tryz.prog 154 ⟨Tryz.t153.desc, 3, 24, (.agg #[(.int .i64 0), (.int .i64 0), (.int .i64 0)]), KInts 3⟩ := ⟨by kernel_rfl, by kernel_rfl, by kernel_rfl, kd_ints Tryz.underlying154 (by kernel_rfl) rfl ⟨by decide, Tryz.underlying3, rfl, by decide, Tryz.underlying3, rfl, by decide, Tryz.underlying3, rfl, trivial⟩ (by kernel_rfl)⟩
theorem ty157 : TyOk Tryz.prog 157 ⟨(.slice 180), 1, 24, (.slice none 0 0), fun _ => False⟩ := ⟨by kernel_rfl, by kernel_rfl, by kernel_rfl, kd_none _ _⟩
theorem ty160 : TyOk Tryz.prog 160 ⟨(.int .u64), 1, 8, (.int .u64 0), KInt .u64⟩ := ⟨by kernel_rfl, by kernel_rfl, by kernel_rfl, kd_int Tryz.underlying160⟩
theorem ty164 : TyOk Tryz.prog 164 ⟨(.slice 9), 1, 24, (.slice none 0 0), fun _ => False⟩ := ⟨by kernel_rfl, by kernel_rfl, by kernel_rfl, kd_none _ _⟩
theorem ty170 : TyOk Tryz.prog 170 ⟨(.map 9 4), 1, 8, (.map none), fun _ => False⟩ := ⟨by kernel_rfl, by kernel_rfl, by kernel_rfl, kd_none _ _⟩
theorem ty173 : TyOk Tryz.prog 173 ⟨(.map 154 4), 1, 8, (.map none), fun _ => False⟩ := ⟨by kernel_rfl, by kernel_rfl, by kernel_rfl, kd_none _ _⟩
theorem ty174 : TyOk Tryz.prog 174 ⟨(.pointer 176), 1, 8, (.pointer none), fun _ => False⟩ := ⟨by kernel_rfl, by kernel_rfl, by kernel_rfl, kd_none _ _⟩
theorem ty176 : TyOk Tryz.prog 176 ⟨Tryz.t175.desc, 2, 16, (.agg #[(.int .i64 0), (.int .i64 0)]), KInts 2⟩ := ⟨by kernel_rfl, by kernel_rfl, by kernel_rfl, kd_ints Tryz.underlying176 (by kernel_rfl) rfl ⟨by decide, Tryz.underlying3, rfl, by decide, Tryz.underlying3, rfl, trivial⟩ (by kernel_rfl)⟩
theorem ty179 : TyOk Tryz.prog 179 ⟨Tryz.t179.desc, 1, 16, .nilIface, fun _ => False⟩ := ⟨by kernel_rfl, by kernel_rfl, by kernel_rfl, kd_none _ _⟩
theorem ty180 : TyOk Tryz.prog 180 ⟨Tryz.t179.desc, 1, 16, .nilIface, fun _ => False⟩ := ⟨by kernel_rfl, by kernel_rfl, by kernel_rfl, kd_none _ _⟩
theorem ty183 : TyOk Tryz.prog 183 ⟨Tryz.t182.desc, 8, 112, (.agg #[(.int .i64 0), (.int .i64 0), (.int .i64 0), (.int .i64 0), (.int .i64 0), (.slice none 0 0), (.slice none 0 0), (.slice none 0 0)]), fun _ => False⟩ := ⟨by kernel_rfl, by kernel_rfl, by kernel_rfl, kd_none _ _⟩
theorem ty185 : TyOk Tryz.prog 185 ⟨(.int .u32), 1, 4, (.int .u32 0), KInt .u32⟩ := ⟨by kernel_rfl, by kernel_rfl, by kernel_rfl, kd_int Tryz.underlying185⟩
theorem ty188 : TyOk Tryz.prog 188 ⟨(.int .u64), 1, 8, (.int .u64 0), KInt .u64⟩ := ⟨by kernel_rfl, by kernel_rfl, by kernel_rfl, kd_int Tryz.underlying188⟩
theorem ty206 : TyOk Tryz.prog 206 ⟨Tryz.t205.desc, 4, 48, (.agg #[(.int .i64 0), (.int .i64 0), (.int .i64 0), (.slice none 0 0)]), fun _ => False⟩ := ⟨by kernel_rfl, by kernel_rfl, by kernel_rfl, kd_none _ _⟩
theorem ty210 : TyOk Tryz.prog 210 ⟨(.array 256 5), 256, 256, (.agg #[(.int .u8 0), (.int .u8 0), (.int .u8 0), (.int .u8 0), (.int .u8 0), (.int .u8 0), (.int .u8 0), (.int .u8 0), (.int .u8 0), (.int .u8 0), (.int .u8 0), (.int .u8 0), (.int .u8 0), (.int .u8 0), (.int .u8 0), (.int .u8 0), (.int .u8 0), (.int .u8 0), (.int .u8 0), (.int .u8 0), (.int .u8 0), (.int .u8 0), (.int .u8 0), (.int .u8 0), (.int .u8 0), (.int .u8 0), (.int .u8 0), (.int .u8 0), (.int .u8 0), (.int .u8 0), (.int .u8 0), (.int .u8 0), (.int .u8 0), (.int .u8 0), (.int .u8 0), (.int .u8 0), (.int .u8 0), (.int .u8 0), (.int .u8 0), (.int .u8 0), (.int .u8 0), (.int .u8 0), (.int .u8 0), (.int .u8 0), (.int .u8 0), (.int .u8 0), (.int .u8 0), (.int .u8 0), (.int .u8 0), (.int .u8 0), (.int .u8 0), (.int .u8 0), (.int .u8 0), (.int .u8 0), (.int .u8 0), (.int .u8 0), (.int .u8 0), (.int .u8 0), (.int .u8 0), (.int .u8 0), (.int .u8 0), (.int .u8 0), (.int .u8 0), (.int .u8 0), (.int .u8 0), (.int .u8 0), (.int .u8 0), (.int .u8 0), (.int .u8 0), (.int .u8 0), (.int .u8 0), (.int .u8 0), (.int .u8 0), (.int .u8 0), (.int .u8 0), (.int .u8 0), (.int .u8 0), (.int .u8 0), (.int .u8 0), (.int .u8 0), (.int .u8 0), (.int .u8 0), (.int .u8 0), (.int .u8 0), (.int .u8 0), (.int .u8 0), (.int .u8 0), (.int .u8 0), (.int .u8 0), (.int .u8 0), (.int .u8 0), (.int .u8 0), (.int .u8 0), (.int .u8 0), (.int .u8 0), (.int .u8 0), (.int .u8 0), (.int .u8 0), (.int .u8 0), (.int .u8 0), (.int .u8 0), (.int .u8 0), (.int .u8 0), (.int .u8 0), (.int .u8 0), (.int .u8 0), (.int .u8 0), (.int .u8 0), (.int .u8 0), (.int .u8 0), (.int .u8 0), (.int .u8 0), (.int .u8 0), (.int .u8 0), (.int .u8 0), (.int .u8 0), (.int .u8 0), (.int .u8 0), (.int .u8 0), (.int .u8 0), (.int .u8 0), (.int .u8 0), (.int .u8 0), (.int .u8 0), (.int .u8 0), (.int .u8 0), (.int .u8 0), (.int .u8 0), (.int .u8 0), (.int .u8 0), (.int .u8 0), (.int .u8 0), (.int .u8 0), (.int .u8 0), (.int .u8 0), (.int .u8 0), (.int .u8 0), (.int .u8 0), (.int .u8 0), (.int .u8 0), (.int .u8 0), (.int .u8 0), (.int .u8 0), (.int .u8 0), (.int .u8 0), (.int .u8 0), (.int .u8 0), (.int .u8 0), (.int .u8 0), (.int .u8 0), (.int .u8 0), (.int .u8 0), (.int .u8 0), (.int .u8 0), (.int .u8 0), (.int .u8 0), (.int .u8 0), (.int .u8 0), (.int .u8 0), (.int .u8 0), (.int .u8 0), (.int .u8 0), (.int .u8 0), (.int .u8 0), (.int .u8 0), (.int .u8 0), (.int .u8 0), (.int .u8 0), (.int .u8 0), (.int .u8 0), (.int .u8 0), (.int .u8 0), (.int .u8 0), (.int .u8 0), (.int .u8 0), (.int .u8 0), (.int .u8 0), (.int .u8 0), (.int .u8 0), (.int .u8 0), (.int .u8 0), (.int .u8 0), (.int .u8 0), (.int .u8 0), (.int .u8 0), (.int .u8 0), (.int .u8 0), (.int .u8 0), (.int .u8 0), (.int .u8 0), (.int .u8 0), (.int .u8 0), (.int .u8 0), (.int .u8 0), (.int .u8 0), (.int .u8 0), (.int .u8 0), (.int .u8 0), (.int .u8 0), (.int .u8 0), (.int .u8 0), (.int .u8 0), (.int .u8 0), (.int .u8 0), (.int .u8 0), (.int .u8 0), (.int .u8 0), (.int .u8 0), (.int .u8 0), (.int .u8 0), (.int .u8 0), (.int .u8 0), (.int .u8 0), (.int .u8 0), (.int .u8 0), (.int .u8 0), (.int .u8 0), (.int .u8 0), (.int .u8 0), (.int .u8 0), (.int .u8 0), (.int .u8 0), (.int .u8 0), (.int .u8 0), (.int .u8 0), (.int .u8 0), (.int .u8 0), (.int .u8 0), (.int .u8 0), (.int .u8 0), (.int .u8 0), (.int .u8 0), (.int .u8 0), (.int .u8 0), (.int .u8 0), (.int .u8 0), (.int .u8 0), (.int .u8 0), (.int .u8 0), (.int .u8 0), (.int .u8 0), (.int .u8 0), (.int .u8 0), (.int .u8 0), (.int .u8 0), (.int .u8 0), (.int .u8 0), (.int .u8 0), (.int .u8 0), (.int .u8 0), (.int .u8 0), (.int .u8 0), (.int .u8 0), (.int .u8 0), (.int .u8 0), (.int .u8 0)]), fun _ => False⟩ := ⟨by kernel_rfl, by kernel_rfl, by kernel_rfl, kd_none _ _⟩
theorem ty213 : TyOk Tryz.prog 213 ⟨(.slice 5), 1, 24, (.slice none 0 0), fun _ => False⟩ := ⟨by kernel_rfl, by kernel_rfl, by kernel_rfl, kd_none _ _⟩
theorem ty221 : TyOk Tryz.prog 221 ⟨(.array 0 16), 0, 0, (.agg #[]), fun _ => False⟩ := ⟨by kernel_rfl, by kernel_rfl, by kernel_rfl, kd_none _ _⟩
theorem ty225 : TyOk Tryz.prog 225 ⟨(.int .u8), 1, 1, (.int .u8 0), KInt .u8⟩ := ⟨by kernel_rfl, by kernel_rfl, by kernel_rfl, kd_int Tryz.underlying225⟩
theorem ty226 : TyOk Tryz.prog 226 ⟨(.int .u8), 1, 1, (.int .u8 0), KInt .u8⟩ := ⟨by kernel_rfl, by kernel_rfl, by kernel_rfl, kd_int Tryz.underlying226⟩
theorem ty228 : TyOk Tryz.prog 228 ⟨(.pointer 5), 1, 8, (.pointer none), fun _ => False⟩ := ⟨by kernel_rfl, by kernel_rfl, by kernel_rfl, kd_none _ _⟩
theorem ty229 : TyOk Tryz.prog 229 ⟨(.int .i32), 1, 4, (.int .i32 0), KInt .i32⟩ := ⟨by kernel_rfl, by kernel_rfl, by kernel_rfl, kd_int Tryz.underlying229⟩
theorem ty230 : TyOk Tryz.prog 230 ⟨(.int .i32), 1, 4, (.int .i32 0), KInt .i32⟩ := ⟨by kernel_rfl, by kernel_rfl, by kernel_rfl, kd_int Tryz.underlying230⟩
noncomputable def T : List (Nat × TI) := [(2, ⟨(.int .i64), 1, 8, (.int .i64 0), KInt .i64⟩),
  (3, ⟨(.int .i64), 1, 8, (.int .i64 0), KInt .i64⟩),
  (4, ⟨.bool, 1, 1, (.bool false), KBool⟩),
  (5, ⟨(.int .u8), 1, 1, (.int .u8 0), KInt .u8⟩),
  (6, ⟨(.int .u8), 1, 1, (.int .u8 0), KInt .u8⟩),
  (9, ⟨.string, 1, 16, (.string ⟨#[]⟩), KStr⟩),
  (10, ⟨.string, 1, 16, (.string ⟨#[]⟩), KStr⟩),
  (11, ⟨.string, 1, 16, (.string ⟨#[]⟩), KStr⟩),
  (12, ⟨(.int .u64), 1, 8, (.int .u64 0), KInt .u64⟩),
  (15, ⟨(.pointer 220), 1, 8, (.pointer none), fun _ => False⟩),
  (16, ⟨(.pointer 223), 1, 8, (.pointer none), fun _ => False⟩),
  (17, ⟨(.pointer 232), 1, 8, (.pointer none), fun _ => False⟩),
  (20, ⟨Tryz.t20.desc, 1, 16, .nilIface, fun _ => False⟩),
  (21, ⟨(.int .i32), 1, 4, (.int .i32 0), KInt .i32⟩),
  (22, ⟨(.slice 67), 1, 24, (.slice none 0 0), fun _ => False⟩),
  (23, ⟨(.slice 54), 1, 24, (.slice none 0 0), fun _ => False⟩),
  (24, ⟨(.slice 58), 1, 24, (.slice none 0 0), fun _ => False⟩),
  (25, ⟨(.slice 97), 1, 24, (.slice none 0 0), fun _ => False⟩),
  (26, ⟨(.slice 125), 1, 24, (.slice none 0 0), fun _ => False⟩),
  (27, ⟨(.slice 129), 1, 24, (.slice none 0 0), fun _ => False⟩),
  (28, ⟨(.slice 139), 1, 24, (.slice none 0 0), fun _ => False⟩),
  (29, ⟨(.slice 102), 1, 24, (.slice none 0 0), fun _ => False⟩),
  (31, ⟨Tryz.t30.desc, 5, 40, (.agg #[(.int .i64 0), (.int .i64 0), (.int .i64 0), (.int .i64 0), (.int .i64 0)]), fun _ => False⟩),
  (33, ⟨Tryz.t32.desc, 16, 264, (.agg #[(.string ⟨#[]⟩), (.slice none 0 0), (.slice none 0 0), (.slice none 0 0), (.slice none 0 0), (.slice none 0 0), (.slice none 0 0), (.slice none 0 0), (.slice none 0 0), (.int .i64 0), (.int .i64 0), (.int .i64 0), (.int .i64 0), (.int .i64 0), (.int .i64 0), (.int .i64 0)]), fun _ => False⟩),
  (36, ⟨(.slice 3), 1, 24, (.slice none 0 0), fun _ => False⟩),
  (37, ⟨(.int .i64), 1, 8, (.int .i64 0), KInt .i64⟩),
  (45, ⟨Tryz.t44.desc, 2, 16, (.agg #[(.int .i64 0), (.int .i64 0)]), KInts 2⟩),
  (54, ⟨Tryz.t53.desc, 4, 32, (.agg #[(.int .i64 0), (.int .i64 0), (.int .i64 0), (.int .i64 0)]), KInts 4⟩),
  (55, ⟨(.slice 95), 1, 24, (.slice none 0 0), fun _ => False⟩),
  (56, ⟨(.slice 62), 1, 24, (.slice none 0 0), fun _ => False⟩),
  (58, ⟨Tryz.t57.desc, 5, 80, (.agg #[(.string ⟨#[]⟩), (.slice none 0 0), (.int .i64 0), (.slice none 0 0), (.int .i64 0)]), fun _ => False⟩),
  (60, ⟨(.pointer 58), 1, 8, (.pointer none), fun _ => False⟩),
  (62, ⟨Tryz.t61.desc, 3, 24, (.agg #[(.int .i64 0), (.int .i64 0), (.int .i64 0)]), KInts 3⟩),
  (67, ⟨Tryz.t66.desc, 2, 24, (.agg #[(.string ⟨#[]⟩), (.int .i64 0)]), fun _ => False⟩),
  (69, ⟨(.map 109 54), 1, 8, (.map none), fun _ => False⟩),
  (71, ⟨Tryz.t70.desc, 2, 32, (.agg #[(.slice none 0 0), (.map none)]), fun _ => False⟩),
  (81, ⟨(.map 83 3), 1, 8, (.map none), fun _ => False⟩),
  (83, ⟨Tryz.t82.desc, 2, 16, (.agg #[(.int .i64 0), (.int .i64 0)]), KInts 2⟩),
  (86, ⟨(.map 3 4), 1, 8, (.map none), fun _ => False⟩),
  (88, ⟨(.map 90 4), 1, 8, (.map none), fun _ => False⟩),
  (90, ⟨Tryz.t89.desc, 2, 16, (.agg #[(.int .i64 0), (.int .i64 0)]), KInts 2⟩),
  (93, ⟨Tryz.t93.desc, 1, 8, .nilFunc, fun _ => False⟩),
  (95, ⟨Tryz.t94.desc, 3, 40, (.agg #[(.int .i64 0), (.int .i64 0), (.slice none 0 0)]), fun _ => False⟩),
  (97, ⟨Tryz.t96.desc, 2, 24, (.agg #[(.string ⟨#[]⟩), (.int .i64 0)]), fun _ => False⟩),
  (98, ⟨(.slice 100), 1, 24, (.slice none 0 0), fun _ => False⟩),
  (100, ⟨Tryz.t99.desc, 4, 48, (.agg #[(.int .i64 0), (.int .i64 0), (.int .i64 0), (.slice none 0 0)]), fun _ => False⟩),
  (102, ⟨Tryz.t101.desc, 8, 112, (.agg #[(.int .i64 0), (.int .i64 0), (.int .i64 0), (.int .i64 0), (.int .i64 0), (.slice none 0 0), (.slice none 0 0), (.slice none 0 0)]), fun _ => False⟩),
  (109, ⟨Tryz.t108.desc, 2, 16, (.agg #[(.int .i64 0), (.int .i64 0)]), KInts 2⟩),
  (111, ⟨(.map 3 3), 1, 8, (.map none), fun _ => False⟩),
  (112, ⟨Tryz.t112.desc, 1, 8, .nilFunc, fun _ => False⟩),
  (125, ⟨Tryz.t124.desc, 4, 40, (.agg #[(.string ⟨#[]⟩), (.int .i64 0), (.int .i64 0), (.bool false)]), fun _ => False⟩),
  (129, ⟨Tryz.t128.desc, 3, 32, (.agg #[(.string ⟨#[]⟩), (.int .i64 0), (.int .i64 0)]), fun _ => False⟩),
  (131, ⟨Tryz.t131.desc, 1, 8, .nilFunc, fun _ => False⟩),
  (134, ⟨Tryz.t134.desc, 1, 8, .nilFunc, fun _ => False⟩),
  (136, ⟨Tryz.t136.desc, 1, 8, .nilFunc, fun _ => False⟩),
  (137, ⟨Tryz.t137.desc, 1, 8, .nilFunc, fun _ => False⟩),
  (139, ⟨Tryz.t138.desc, 4, 32, (.agg #[(.int .i64 0), (.int .i64 0), (.int .i64 0), (.int .i64 0)]), KInts 4⟩),
  (140, ⟨Tryz.t140.desc, 1, 8, .nilFunc, fun _ => False⟩),
  (142, ⟨Tryz.t142.desc, 1, 8, .nilFunc, fun _ => False⟩),
  (147, ⟨Tryz.t147.desc, 1, 8, .nilFunc, fun _ => False⟩),
  (150, ⟨Tryz.t150.desc, 1, 8, .nilFunc, fun _ => False⟩),
  (154, ⟨Tryz.t153.desc, 3, 24, (.agg #[(.int .i64 0), (.int .i64 0), (.int .i64 0)]), KInts 3⟩),
  (157, ⟨(.slice 180), 1, 24, (.slice none 0 0), fun _ => False⟩),
  (160, ⟨(.int .u64), 1, 8, (.int .u64 0), KInt .u64⟩),
  (164, ⟨(.slice 9), 1, 24, (.slice none 0 0), fun _ => False⟩),
  (170, ⟨(.map 9 4), 1, 8, (.map none), fun _ => False⟩),
  (173, ⟨(.map 154 4), 1, 8, (.map none), fun _ => False⟩),
  (174, ⟨(.pointer 176), 1, 8, (.pointer none), fun _ => False⟩),
  (176, ⟨Tryz.t175.desc, 2, 16, (.agg #[(.int .i64 0), (.int .i64 0)]), KInts 2⟩),
  (179, ⟨Tryz.t179.desc, 1, 16, .nilIface, fun _ => False⟩),
  (180, ⟨Tryz.t179.desc, 1, 16, .nilIface, fun _ => False⟩),
  (183, ⟨Tryz.t182.desc, 8, 112, (.agg #[(.int .i64 0), (.int .i64 0), (.int .i64 0), (.int .i64 0), (.int .i64 0), (.slice none 0 0), (.slice none 0 0), (.slice none 0 0)]), fun _ => False⟩),
  (185, ⟨(.int .u32), 1, 4, (.int .u32 0), KInt .u32⟩),
  (188, ⟨(.int .u64), 1, 8, (.int .u64 0), KInt .u64⟩),
  (206, ⟨Tryz.t205.desc, 4, 48, (.agg #[(.int .i64 0), (.int .i64 0), (.int .i64 0), (.slice none 0 0)]), fun _ => False⟩),
  (210, ⟨(.array 256 5), 256, 256, (.agg #[(.int .u8 0), (.int .u8 0), (.int .u8 0), (.int .u8 0), (.int .u8 0), (.int .u8 0), (.int .u8 0), (.int .u8 0), (.int .u8 0), (.int .u8 0), (.int .u8 0), (.int .u8 0), (.int .u8 0), (.int .u8 0), (.int .u8 0), (.int .u8 0), (.int .u8 0), (.int .u8 0), (.int .u8 0), (.int .u8 0), (.int .u8 0), (.int .u8 0), (.int .u8 0), (.int .u8 0), (.int .u8 0), (.int .u8 0), (.int .u8 0), (.int .u8 0), (.int .u8 0), (.int .u8 0), (.int .u8 0), (.int .u8 0), (.int .u8 0), (.int .u8 0), (.int .u8 0), (.int .u8 0), (.int .u8 0), (.int .u8 0), (.int .u8 0), (.int .u8 0), (.int .u8 0), (.int .u8 0), (.int .u8 0), (.int .u8 0), (.int .u8 0), (.int .u8 0), (.int .u8 0), (.int .u8 0), (.int .u8 0), (.int .u8 0), (.int .u8 0), (.int .u8 0), (.int .u8 0), (.int .u8 0), (.int .u8 0), (.int .u8 0), (.int .u8 0), (.int .u8 0), (.int .u8 0), (.int .u8 0), (.int .u8 0), (.int .u8 0), (.int .u8 0), (.int .u8 0), (.int .u8 0), (.int .u8 0), (.int .u8 0), (.int .u8 0), (.int .u8 0), (.int .u8 0), (.int .u8 0), (.int .u8 0), (.int .u8 0), (.int .u8 0), (.int .u8 0), (.int .u8 0), (.int .u8 0), (.int .u8 0), (.int .u8 0), (.int .u8 0), (.int .u8 0), (.int .u8 0), (.int .u8 0), (.int .u8 0), (.int .u8 0), (.int .u8 0), (.int .u8 0), (.int .u8 0), (.int .u8 0), (.int .u8 0), (.int .u8 0), (.int .u8 0), (.int .u8 0), (.int .u8 0), (.int .u8 0), (.int .u8 0), (.int .u8 0), (.int .u8 0), (.int .u8 0), (.int .u8 0), (.int .u8 0), (.int .u8 0), (.int .u8 0), (.int .u8 0), (.int .u8 0), (.int .u8 0), (.int .u8 0), (.int .u8 0), (.int .u8 0), (.int .u8 0), (.int .u8 0), (.int .u8 0), (.int .u8 0), (.int .u8 0), (.int .u8 0), (.int .u8 0), (.int .u8 0), (.int .u8 0), (.int .u8 0), (.int .u8 0), (.int .u8 0), (.int .u8 0), (.int .u8 0), (.int .u8 0), (.int .u8 0), (.int .u8 0), (.int .u8 0), (.int .u8 0), (.int .u8 0), (.int .u8 0), (.int .u8 0), (.int .u8 0), (.int .u8 0), (.int .u8 0), (.int .u8 0), (.int .u8 0), (.int .u8 0), (.int .u8 0), (.int .u8 0), (.int .u8 0), (.int .u8 0), (.int .u8 0), (.int .u8 0), (.int .u8 0), (.int .u8 0), (.int .u8 0), (.int .u8 0), (.int .u8 0), (.int .u8 0), (.int .u8 0), (.int .u8 0), (.int .u8 0), (.int .u8 0), (.int .u8 0), (.int .u8 0), (.int .u8 0), (.int .u8 0), (.int .u8 0), (.int .u8 0), (.int .u8 0), (.int .u8 0), (.int .u8 0), (.int .u8 0), (.int .u8 0), (.int .u8 0), (.int .u8 0), (.int .u8 0), (.int .u8 0), (.int .u8 0), (.int .u8 0), (.int .u8 0), (.int .u8 0), (.int .u8 0), (.int .u8 0), (.int .u8 0), (.int .u8 0), (.int .u8 0), (.int .u8 0), (.int .u8 0), (.int .u8 0), (.int .u8 0), (.int .u8 0), (.int .u8 0), (.int .u8 0), (.int .u8 0), (.int .u8 0), (.int .u8 0), (.int .u8 0), (.int .u8 0), (.int .u8 0), (.int .u8 0), (.int .u8 0), (.int .u8 0), (.int .u8 0), (.int .u8 0), (.int .u8 0), (.int .u8 0), (.int .u8 0), (.int .u8 0), (.int .u8 0), (.int .u8 0), (.int .u8 0), (.int .u8 0), (.int .u8 0), (.int .u8 0), (.int .u8 0), (.int .u8 0), (.int .u8 0), (.int .u8 0), (.int .u8 0), (.int .u8 0), (.int .u8 0), (.int .u8 0), (.int .u8 0), (.int .u8 0), (.int .u8 0), (.int .u8 0), (.int .u8 0), (.int .u8 0), (.int .u8 0), (.int .u8 0), (.int .u8 0), (.int .u8 0), (.int .u8 0), (.int .u8 0), (.int .u8 0), (.int .u8 0), (.int .u8 0), (.int .u8 0), (.int .u8 0), (.int .u8 0), (.int .u8 0), (.int .u8 0), (.int .u8 0), (.int .u8 0), (.int .u8 0), (.int .u8 0), (.int .u8 0), (.int .u8 0), (.int .u8 0), (.int .u8 0), (.int .u8 0), (.int .u8 0), (.int .u8 0), (.int .u8 0), (.int .u8 0), (.int .u8 0), (.int .u8 0), (.int .u8 0), (.int .u8 0), (.int .u8 0), (.int .u8 0), (.int .u8 0), (.int .u8 0), (.int .u8 0), (.int .u8 0)]), fun _ => False⟩),
  (213, ⟨(.slice 5), 1, 24, (.slice none 0 0), fun _ => False⟩),
  (221, ⟨(.array 0 16), 0, 0, (.agg #[]), fun _ => False⟩),
  (225, ⟨(.int .u8), 1, 1, (.int .u8 0), KInt .u8⟩),
  (226, ⟨(.int .u8), 1, 1, (.int .u8 0), KInt .u8⟩),
  (228, ⟨(.pointer 5), 1, 8, (.pointer none), fun _ => False⟩),
  (229, ⟨(.int .i32), 1, 4, (.int .i32 0), KInt .i32⟩),
  (230, ⟨(.int .i32), 1, 4, (.int .i32 0), KInt .i32⟩)]
theorem tok : TOk Tryz.prog T := TOk.cons ty2 (TOk.cons ty3 (TOk.cons ty4 (TOk.cons ty5 (TOk.cons ty6 (TOk.cons ty9 (TOk.cons ty10 (TOk.cons ty11 (TOk.cons ty12 (TOk.cons ty15 (TOk.cons ty16 (TOk.cons ty17 (TOk.cons ty20 (TOk.cons ty21 (TOk.cons ty22 (TOk.cons ty23 (TOk.cons ty24 (TOk.cons ty25 (TOk.cons ty26 (TOk.cons ty27 (TOk.cons ty28 (TOk.cons ty29 (TOk.cons ty31 (TOk.cons ty33 (TOk.cons ty36 (TOk.cons ty37 (TOk.cons ty45 (TOk.cons ty54 (TOk.cons ty55 (TOk.cons ty56 (TOk.cons ty58 (TOk.cons ty60 (TOk.cons ty62 (TOk.cons ty67 (TOk.cons ty69 (TOk.cons ty71 (TOk.cons ty81 (TOk.cons ty83 (TOk.cons ty86 (TOk.cons ty88 (TOk.cons ty90 (TOk.cons ty93 (TOk.cons ty95 (TOk.cons ty97 (TOk.cons ty98 (TOk.cons ty100 (TOk.cons ty102 (TOk.cons ty109 (TOk.cons ty111 (TOk.cons ty112 (TOk.cons ty125 (TOk.cons ty129 (TOk.cons ty131 (TOk.cons ty134 (TOk.cons ty136 (TOk.cons ty137 (TOk.cons ty139 (TOk.cons ty140 (TOk.cons ty142 (TOk.cons ty147 (TOk.cons ty150 (TOk.cons ty154 (TOk.cons ty157 (TOk.cons ty160 (TOk.cons ty164 (TOk.cons ty170 (TOk.cons ty173 (TOk.cons ty174 (TOk.cons ty176 (TOk.cons ty179 (TOk.cons ty180 (TOk.cons ty183 (TOk.cons ty185 (TOk.cons ty188 (TOk.cons ty206 (TOk.cons ty210 (TOk.cons ty213 (TOk.cons ty221 (TOk.cons ty225 (TOk.cons ty226 (TOk.cons ty228 (TOk.cons ty229 (TOk.cons ty230 (TOk.nil _)))))))))))))))))))))))))))))))))))))))))))))))))))))))))))))))))))))))))))))))))))
end Go.Proofs.YtkkohadkpogdfaaGreat.Dx

