/- The table of this seat's types, and that it is the program's own. -/
import Derived.Test.YtiejhmfeppflaaaGreatProg
import Derived.Test.YtiejhmfeppflaaaGreatMf
namespace Go.Proofs.YtiejhmfeppflaaaGreat.Dx
open Go Go.RowKit Go.MapKept
theorem ty2 : TyOk Tryz.prog 2 ⟨(.int .i64), 1, 8, (.int .i64 0), KInt .i64⟩ := ⟨by kernel_rfl, by kernel_rfl, by kernel_rfl, kd_int Tryz.underlying2⟩
theorem ty3 : TyOk Tryz.prog 3 ⟨(.int .i64), 1, 8, (.int .i64 0), KInt .i64⟩ := ⟨by kernel_rfl, by kernel_rfl, by kernel_rfl, kd_int Tryz.underlying3⟩
theorem ty4 : TyOk Tryz.prog 4 ⟨.bool, 1, 1, (.bool false), KBool⟩ := ⟨by kernel_rfl, by kernel_rfl, by kernel_rfl, kd_bool Tryz.underlying4⟩
theorem ty5 : TyOk Tryz.prog 5 ⟨(.int .u8), 1, 1, (.int .u8 0), KInt .u8⟩ := ⟨by kernel_rfl, by kernel_rfl, by kernel_rfl, kd_int Tryz.underlying5⟩
theorem ty6 : TyOk Tryz.prog 6 ⟨(.int .u8), 1, 1, (.int .u8 0), KInt .u8⟩ := ⟨by kernel_rfl, by kernel_rfl, by kernel_rfl, kd_int Tryz.underlying6⟩
theorem ty9 : TyOk Tryz.prog 9 ⟨.string, 1, 16, (.string ⟨#[]⟩), KStr⟩ := ⟨by kernel_rfl, by kernel_rfl, by kernel_rfl, kd_str Tryz.underlying9⟩
theorem ty10 : TyOk Tryz.prog 10 ⟨.string, 1, 16, (.string ⟨#[]⟩), KStr⟩ := ⟨by kernel_rfl, by kernel_rfl, by kernel_rfl, kd_str Tryz.underlying10⟩
theorem ty11 : TyOk Tryz.prog 11 ⟨.string, 1, 16, (.string ⟨#[]⟩), KStr⟩ := ⟨by kernel_rfl, by kernel_rfl, by kernel_rfl, kd_str Tryz.underlying11⟩
theorem ty12 : TyOk Tryz.prog 12 ⟨(.int .u64), 1, 8, (.int .u64 0), KInt .u64⟩ := ⟨by kernel_rfl, by kernel_rfl, by kernel_rfl, kd_int Tryz.underlying12⟩
theorem ty15 : TyOk Tryz.prog 15 ⟨(.pointer 195), 1, 8, (.pointer none), fun _ => False⟩ := ⟨by kernel_rfl, by kernel_rfl, by kernel_rfl, kd_none _ _⟩
theorem ty16 : TyOk Tryz.prog 16 ⟨(.pointer 198), 1, 8, (.pointer none), fun _ => False⟩ := ⟨by kernel_rfl, by kernel_rfl, by kernel_rfl, kd_none _ _⟩
theorem ty17 : TyOk Tryz.prog 17 ⟨(.pointer 207), 1, 8, (.pointer none), fun _ => False⟩ := ⟨by kernel_rfl, by kernel_rfl, by kernel_rfl, kd_none _ _⟩
theorem ty20 : TyOk Tryz.prog 20 ⟨Tryz.t20.desc, 1, 16, .nilIface, fun _ => False⟩ := ⟨by kernel_rfl, by kernel_rfl, by kernel_rfl, kd_none _ _⟩
theorem ty21 : TyOk Tryz.prog 21 ⟨(.int .i32), 1, 4, (.int .i32 0), KInt .i32⟩ := ⟨by kernel_rfl, by kernel_rfl, by kernel_rfl, kd_int Tryz.underlying21⟩
theorem ty22 : TyOk Tryz.prog 22 ⟨(.slice 63), 1, 24, (.slice none 0 0), fun _ => False⟩ := ⟨by kernel_rfl, by kernel_rfl, by kernel_rfl, kd_none _ _⟩
theorem ty23 : TyOk Tryz.prog 23 ⟨(.slice 65), 1, 24, (.slice none 0 0), fun _ => False⟩ := ⟨by kernel_rfl, by kernel_rfl, by kernel_rfl, kd_none _ _⟩
theorem ty24 : TyOk Tryz.prog 24 ⟨(.slice 59), 1, 24, (.slice none 0 0), fun _ => False⟩ := ⟨by kernel_rfl, by kernel_rfl, by kernel_rfl, kd_none _ _⟩
theorem ty25 : TyOk Tryz.prog 25 ⟨(.slice 74), 1, 24, (.slice none 0 0), fun _ => False⟩ := ⟨by kernel_rfl, by kernel_rfl, by kernel_rfl, kd_none _ _⟩
theorem ty26 : TyOk Tryz.prog 26 ⟨(.slice 72), 1, 24, (.slice none 0 0), fun _ => False⟩ := ⟨by kernel_rfl, by kernel_rfl, by kernel_rfl, kd_none _ _⟩
theorem ty27 : TyOk Tryz.prog 27 ⟨(.slice 121), 1, 24, (.slice none 0 0), fun _ => False⟩ := ⟨by kernel_rfl, by kernel_rfl, by kernel_rfl, kd_none _ _⟩
theorem ty28 : TyOk Tryz.prog 28 ⟨(.slice 70), 1, 24, (.slice none 0 0), fun _ => False⟩ := ⟨by kernel_rfl, by kernel_rfl, by kernel_rfl, kd_none _ _⟩
theorem ty29 : TyOk Tryz.prog 29 ⟨(.slice 84), 1, 24, (.slice none 0 0), fun _ => False⟩ := ⟨by kernel_rfl, by kernel_rfl, by kernel_rfl, kd_none _ _⟩
theorem ty31 : TyOk Tryz.prog 31 ⟨Tryz.t30.desc, 5, 40, (.agg #[(.int .i64 0), (.int .i64 0), (.int .i64 0), (.int .i64 0), (.int .i64 0)]), fun _ => False⟩ := ⟨by kernel_rfl, by kernel_rfl, by kernel_rfl, kd_none _ _⟩
theorem ty33 : TyOk Tryz.prog 33 ⟨Tryz.t32.desc, 16, 264, (.agg #[(.string ⟨#[]⟩), (.slice none 0 0), (.slice none 0 0), (.slice none 0 0), (.slice none 0 0), (.slice none 0 0), (.slice none 0 0), (.slice none 0 0), (.slice none 0 0), (.int .i64 0), (.int .i64 0), (.int .i64 0), (.int .i64 0), (.int .i64 0), (.int .i64 0), (.int .i64 0)]), fun _ => False⟩ := ⟨by kernel_rfl, by kernel_rfl, by kernel_rfl, kd_none _ _⟩
theorem ty36 : TyOk Tryz.prog 36 ⟨(.int .i64), 1, 8, (.int .i64 0), KInt .i64⟩ := ⟨by kernel_rfl, by kernel_rfl, by kernel_rfl, kd_int Tryz.underlying36⟩
theorem ty38 : TyOk Tryz.prog 38 ⟨(.slice 40), 1, 24, (.slice none 0 0), fun _ => False⟩ := ⟨by kernel_rfl, by kernel_rfl, by kernel_rfl, kd_none _ _⟩
theorem ty40 : TyOk Tryz.prog 40 ⟨Tryz.t39.desc, 4, 48, (.agg #[(.int .i64 0), (.int .i64 0), (.int .i64 0), (.slice none 0 0)]), fun _ => False⟩ := ⟨by kernel_rfl, by kernel_rfl, by kernel_rfl, kd_none _ _⟩
theorem ty42 : TyOk Tryz.prog 42 ⟨Tryz.t41.desc, 3, 24, (.agg #[(.int .i64 0), (.int .i64 0), (.int .i64 0)]), KInts 3⟩ := ⟨by kernel_rfl, by kernel_rfl, by kernel_rfl, kd_ints Tryz.underlying42 (by kernel_rfl) rfl ⟨by decide, Tryz.underlying3, rfl, by decide, Tryz.underlying3, rfl, by decide, Tryz.underlying3, rfl, trivial⟩⟩
theorem ty43 : TyOk Tryz.prog 43 ⟨Tryz.t43.desc, 1, 8, .nilFunc, fun _ => False⟩ := ⟨by kernel_rfl, by kernel_rfl, by kernel_rfl, kd_none _ _⟩
theorem ty50 : TyOk Tryz.prog 50 ⟨(.slice 3), 1, 24, (.slice none 0 0), fun _ => False⟩ := ⟨by kernel_rfl, by kernel_rfl, by kernel_rfl, kd_none _ _⟩
theorem ty56 : TyOk Tryz.prog 56 ⟨(.slice 107), 1, 24, (.slice none 0 0), fun _ => False⟩ := ⟨by kernel_rfl, by kernel_rfl, by kernel_rfl, kd_none _ _⟩
theorem ty57 : TyOk Tryz.prog 57 ⟨(.slice 67), 1, 24, (.slice none 0 0), fun _ => False⟩ := ⟨by kernel_rfl, by kernel_rfl, by kernel_rfl, kd_none _ _⟩
theorem ty59 : TyOk Tryz.prog 59 ⟨Tryz.t58.desc, 5, 80, (.agg #[(.string ⟨#[]⟩), (.slice none 0 0), (.int .i64 0), (.slice none 0 0), (.int .i64 0)]), fun _ => False⟩ := ⟨by kernel_rfl, by kernel_rfl, by kernel_rfl, kd_none _ _⟩
theorem ty61 : TyOk Tryz.prog 61 ⟨(.map 3 3), 1, 8, (.map none), fun _ => False⟩ := ⟨by kernel_rfl, by kernel_rfl, by kernel_rfl, kd_none _ _⟩
theorem ty63 : TyOk Tryz.prog 63 ⟨Tryz.t62.desc, 2, 24, (.agg #[(.string ⟨#[]⟩), (.int .i64 0)]), fun _ => False⟩ := ⟨by kernel_rfl, by kernel_rfl, by kernel_rfl, kd_none _ _⟩
theorem ty65 : TyOk Tryz.prog 65 ⟨Tryz.t64.desc, 4, 32, (.agg #[(.int .i64 0), (.int .i64 0), (.int .i64 0), (.int .i64 0)]), KInts 4⟩ := ⟨by kernel_rfl, by kernel_rfl, by kernel_rfl, kd_ints Tryz.underlying65 (by kernel_rfl) rfl ⟨by decide, Tryz.underlying3, rfl, by decide, Tryz.underlying3, rfl, by decide, Tryz.underlying3, rfl, by decide, Tryz.underlying3, rfl, trivial⟩⟩
theorem ty67 : TyOk Tryz.prog 67 ⟨Tryz.t66.desc, 3, 24, (.agg #[(.int .i64 0), (.int .i64 0), (.int .i64 0)]), KInts 3⟩ := ⟨by kernel_rfl, by kernel_rfl, by kernel_rfl, kd_ints Tryz.underlying67 (by kernel_rfl) rfl ⟨by decide, Tryz.underlying3, rfl, by decide, Tryz.underlying3, rfl, by decide, Tryz.underlying3, rfl, trivial⟩⟩
theorem ty68 : TyOk Tryz.prog 68 ⟨(.int .u64), 1, 8, (.int .u64 0), KInt .u64⟩ := ⟨by kernel_rfl, by kernel_rfl, by kernel_rfl, kd_int Tryz.underlying68⟩
theorem ty70 : TyOk Tryz.prog 70 ⟨Tryz.t69.desc, 4, 32, (.agg #[(.int .i64 0), (.int .i64 0), (.int .i64 0), (.int .i64 0)]), KInts 4⟩ := ⟨by kernel_rfl, by kernel_rfl, by kernel_rfl, kd_ints Tryz.underlying70 (by kernel_rfl) rfl ⟨by decide, Tryz.underlying3, rfl, by decide, Tryz.underlying3, rfl, by decide, Tryz.underlying3, rfl, by decide, Tryz.underlying3, rfl, trivial⟩⟩
theorem ty72 : TyOk Tryz.prog 72 ⟨Tryz.t71.desc, 4, 40, (.agg #[(.string ⟨#[]⟩), (.int .i64 0), (.int .i64 0), (.bool false)]), fun _ => False⟩ := ⟨by kernel_rfl, by kernel_rfl, by kernel_rfl, kd_none _ _⟩
theorem ty74 : TyOk Tryz.prog 74 ⟨Tryz.t73.desc, 2, 24, (.agg #[(.string ⟨#[]⟩), (.int .i64 0)]), fun _ => False⟩ := ⟨by kernel_rfl, by kernel_rfl, by kernel_rfl, kd_none _ _⟩
theorem ty84 : TyOk Tryz.prog 84 ⟨Tryz.t83.desc, 8, 112, (.agg #[(.int .i64 0), (.int .i64 0), (.int .i64 0), (.int .i64 0), (.int .i64 0), (.slice none 0 0), (.slice none 0 0), (.slice none 0 0)]), fun _ => False⟩ := ⟨by kernel_rfl, by kernel_rfl, by kernel_rfl, kd_none _ _⟩
theorem ty89 : TyOk Tryz.prog 89 ⟨(.map 91 4), 1, 8, (.map none), fun _ => False⟩ := ⟨by kernel_rfl, by kernel_rfl, by kernel_rfl, kd_none _ _⟩
theorem ty91 : TyOk Tryz.prog 91 ⟨Tryz.t90.desc, 2, 16, (.agg #[(.int .i64 0), (.int .i64 0)]), KInts 2⟩ := ⟨by kernel_rfl, by kernel_rfl, by kernel_rfl, kd_ints Tryz.underlying91 (by kernel_rfl) rfl ⟨by decide, Tryz.underlying3, rfl, by decide, Tryz.underlying3, rfl, trivial⟩⟩
theorem ty94 : TyOk Tryz.prog 94 ⟨Tryz.t94.desc, 1, 8, .nilFunc, fun _ => False⟩ := ⟨by kernel_rfl, by kernel_rfl, by kernel_rfl, kd_none _ _⟩
theorem ty101 : TyOk Tryz.prog 101 ⟨Tryz.t100.desc, 4, 48, (.agg #[(.int .i64 0), (.int .i64 0), (.int .i64 0), (.slice none 0 0)]), fun _ => False⟩ := ⟨by kernel_rfl, by kernel_rfl, by kernel_rfl, kd_none _ _⟩
theorem ty102 : TyOk Tryz.prog 102 ⟨(.slice 157), 1, 24, (.slice none 0 0), fun _ => False⟩ := ⟨by kernel_rfl, by kernel_rfl, by kernel_rfl, kd_none _ _⟩
theorem ty105 : TyOk Tryz.prog 105 ⟨Tryz.t105.desc, 1, 8, .nilFunc, fun _ => False⟩ := ⟨by kernel_rfl, by kernel_rfl, by kernel_rfl, kd_none _ _⟩
theorem ty107 : TyOk Tryz.prog 107 ⟨Tryz.t106.desc, 3, 40, (.agg #[(.int .i64 0), (.int .i64 0), (.slice none 0 0)]), fun _ => False⟩ := ⟨by kernel_rfl, by kernel_rfl, by kernel_rfl, kd_none _ _⟩
theorem ty121 : TyOk Tryz.prog 121 ⟨Tryz.t120.desc, 3, 32, (.agg #[(.string ⟨#[]⟩), (.int .i64 0), (.int .i64 0)]), fun _ => False⟩ := ⟨by kernel_rfl, by kernel_rfl, by kernel_rfl, kd_none _ _⟩
theorem ty123 : TyOk Tryz.prog 123 ⟨Tryz.t123.desc, 1, 8, .nilFunc, fun _ => False⟩ := ⟨by kernel_rfl, by kernel_rfl, by kernel_rfl, kd_none _ _⟩
theorem ty125 : TyOk Tryz.prog 125 ⟨Tryz.t125.desc, 1, 8, .nilFunc, fun _ => False⟩ := ⟨by kernel_rfl, by kernel_rfl, by kernel_rfl, kd_none _ _⟩
theorem ty127 : TyOk Tryz.prog 127 ⟨Tryz.t127.desc, 1, 8, .nilFunc, fun _ => False⟩ := ⟨by kernel_rfl, by kernel_rfl, by kernel_rfl, kd_none _ _⟩
theorem ty128 : TyOk Tryz.prog 128 ⟨Tryz.t128.desc, 1, 8, .nilFunc, fun _ => False⟩ := ⟨by kernel_rfl, by kernel_rfl, by kernel_rfl, kd_none _ _⟩
theorem ty129 : TyOk Tryz.prog 129 ⟨Tryz.t129.desc, 1, 8, .nilFunc, fun _ => False⟩ := ⟨by kernel_rfl, by kernel_rfl, by kernel_rfl, kd_none _ _⟩
theorem ty131 : TyOk Tryz.prog 131 ⟨Tryz.t131.desc, 1, 8, .nilFunc, fun _ => False⟩ := ⟨by kernel_rfl, by kernel_rfl, by kernel_rfl, kd_none _ _⟩
theorem ty136 : TyOk Tryz.prog 136 ⟨Tryz.t136.desc, 1, 8, .nilFunc, fun _ => False⟩ := ⟨by kernel_rfl, by kernel_rfl, by kernel_rfl, kd_none _ _⟩
theorem ty139 : TyOk Tryz.prog 139 ⟨Tryz.t139.desc, 1, 8, .nilFunc, fun _ => False⟩ := ⟨by kernel_rfl, by kernel_rfl, by kernel_rfl, kd_none _ _⟩
theorem ty143 : TyOk Tryz.prog 143 ⟨Tryz.t142.desc, 3, 24, (.agg #[(.int .i64 0), (.int .i64 0), (.int .i64 0)]), KInts 3⟩ := ⟨by kernel_rfl, by kernel_rfl, by kernel_rfl, kd_ints Tryz.underlying143 (by kernel_rfl) rfl ⟨by decide, Tryz.underlying3, rfl, by decide, Tryz.underlying3, rfl, by decide, Tryz.underlying3, rfl, trivial⟩⟩
theorem ty145 : TyOk Tryz.prog 145 ⟨(.slice 9), 1, 24, (.slice none 0 0), fun _ => False⟩ := ⟨by kernel_rfl, by kernel_rfl, by kernel_rfl, kd_none _ _⟩
theorem ty151 : TyOk Tryz.prog 151 ⟨(.pointer 153), 1, 8, (.pointer none), fun _ => False⟩ := ⟨by kernel_rfl, by kernel_rfl, by kernel_rfl, kd_none _ _⟩
theorem ty153 : TyOk Tryz.prog 153 ⟨Tryz.t152.desc, 2, 16, (.agg #[(.int .i64 0), (.int .i64 0)]), KInts 2⟩ := ⟨by kernel_rfl, by kernel_rfl, by kernel_rfl, kd_ints Tryz.underlying153 (by kernel_rfl) rfl ⟨by decide, Tryz.underlying3, rfl, by decide, Tryz.underlying3, rfl, trivial⟩⟩
theorem ty156 : TyOk Tryz.prog 156 ⟨Tryz.t156.desc, 1, 16, .nilIface, fun _ => False⟩ := ⟨by kernel_rfl, by kernel_rfl, by kernel_rfl, kd_none _ _⟩
theorem ty157 : TyOk Tryz.prog 157 ⟨Tryz.t156.desc, 1, 16, .nilIface, fun _ => False⟩ := ⟨by kernel_rfl, by kernel_rfl, by kernel_rfl, kd_none _ _⟩
theorem ty160 : TyOk Tryz.prog 160 ⟨Tryz.t159.desc, 8, 112, (.agg #[(.int .i64 0), (.int .i64 0), (.int .i64 0), (.int .i64 0), (.int .i64 0), (.slice none 0 0), (.slice none 0 0), (.slice none 0 0)]), fun _ => False⟩ := ⟨by kernel_rfl, by kernel_rfl, by kernel_rfl, kd_none _ _⟩
theorem ty166 : TyOk Tryz.prog 166 ⟨(.map 9 4), 1, 8, (.map none), fun _ => False⟩ := ⟨by kernel_rfl, by kernel_rfl, by kernel_rfl, kd_none _ _⟩
theorem ty167 : TyOk Tryz.prog 167 ⟨(.map 143 4), 1, 8, (.map none), fun _ => False⟩ := ⟨by kernel_rfl, by kernel_rfl, by kernel_rfl, kd_none _ _⟩
theorem ty183 : TyOk Tryz.prog 183 ⟨(.array 256 5), 256, 256, (.agg #[(.int .u8 0), (.int .u8 0), (.int .u8 0), (.int .u8 0), (.int .u8 0), (.int .u8 0), (.int .u8 0), (.int .u8 0), (.int .u8 0), (.int .u8 0), (.int .u8 0), (.int .u8 0), (.int .u8 0), (.int .u8 0), (.int .u8 0), (.int .u8 0), (.int .u8 0), (.int .u8 0), (.int .u8 0), (.int .u8 0), (.int .u8 0), (.int .u8 0), (.int .u8 0), (.int .u8 0), (.int .u8 0), (.int .u8 0), (.int .u8 0), (.int .u8 0), (.int .u8 0), (.int .u8 0), (.int .u8 0), (.int .u8 0), (.int .u8 0), (.int .u8 0), (.int .u8 0), (.int .u8 0), (.int .u8 0), (.int .u8 0), (.int .u8 0), (.int .u8 0), (.int .u8 0), (.int .u8 0), (.int .u8 0), (.int .u8 0), (.int .u8 0), (.int .u8 0), (.int .u8 0), (.int .u8 0), (.int .u8 0), (.int .u8 0), (.int .u8 0), (.int .u8 0), (.int .u8 0), (.int .u8 0), (.int .u8 0), (.int .u8 0), (.int .u8 0), (.int .u8 0), (.int .u8 0), (.int .u8 0), (.int .u8 0), (.int .u8 0), (.int .u8 0), (.int .u8 0), (.int .u8 0), (.int .u8 0), (.int .u8 0), (.int .u8 0), (.int .u8 0), (.int .u8 0), (.int .u8 0), (.int .u8 0), (.int .u8 0), (.int .u8 0), (.int .u8 0), (.int .u8 0), (.int .u8 0), (.int .u8 0), (.int .u8 0), (.int .u8 0), (.int .u8 0), (.int .u8 0), (.int .u8 0), (.int .u8 0), (.int .u8 0), (.int .u8 0), (.int .u8 0), (.int .u8 0), (.int .u8 0), (.int .u8 0), (.int .u8 0), (.int .u8 0), (.int .u8 0), (.int .u8 0), (.int .u8 0), (.int .u8 0), (.int .u8 0), (.int .u8 0), (.int .u8 0), (.int .u8 0), (.int .u8 0), (.int .u8 0), (.int .u8 0), (.int .u8 0), (.int .u8 0), (.int .u8 0), (.int .u8 0), (.int .u8 0), (.int .u8 0), (.int .u8 0), (.int .u8 0), (.int .u8 0), (.int .u8 0), (.int .u8 0), (.int .u8 0), (.int .u8 0), (.int .u8 0), (.int .u8 0), (.int .u8 0), (.int .u8 0), (.int .u8 0), (.int .u8 0), (.int .u8 0), (.int .u8 0), (.int .u8 0), (.int .u8 0), (.int .u8 0), (.int .u8 0), (.int .u8 0), (.int .u8 0), (.int .u8 0), (.int .u8 0), (.int .u8 0), (.int .u8 0), (.int .u8 0), (.int .u8 0), (.int .u8 0), (.int .u8 0), (.int .u8 0), (.int .u8 0), (.int .u8 0), (.int .u8 0), (.int .u8 0), (.int .u8 0), (.int .u8 0), (.int .u8 0), (.int .u8 0), (.int .u8 0), (.int .u8 0), (.int .u8 0), (.int .u8 0), (.int .u8 0), (.int .u8 0), (.int .u8 0), (.int .u8 0), (.int .u8 0), (.int .u8 0), (.int .u8 0), (.int .u8 0), (.int .u8 0), (.int .u8 0), (.int .u8 0), (.int .u8 0), (.int .u8 0), (.int .u8 0), (.int .u8 0), (.int .u8 0), (.int .u8 0), (.int .u8 0), (.int .u8 0), (.int .u8 0), (.int .u8 0), (.int .u8 0), (.int .u8 0), (.int .u8 0), (.int .u8 0), (.int .u8 0), (.int .u8 0), (.int .u8 0), (.int .u8 0), (.int .u8 0), (.int .u8 0), (.int .u8 0), (.int .u8 0), (.int .u8 0), (.int .u8 0), (.int .u8 0), (.int .u8 0), (.int .u8 0), (.int .u8 0), (.int .u8 0), (.int .u8 0), (.int .u8 0), (.int .u8 0), (.int .u8 0), (.int .u8 0), (.int .u8 0), (.int .u8 0), (.int .u8 0), (.int .u8 0), (.int .u8 0), (.int .u8 0), (.int .u8 0), (.int .u8 0), (.int .u8 0), (.int .u8 0), (.int .u8 0), (.int .u8 0), (.int .u8 0), (.int .u8 0), (.int .u8 0), (.int .u8 0), (.int .u8 0), (.int .u8 0), (.int .u8 0), (.int .u8 0), (.int .u8 0), (.int .u8 0), (.int .u8 0), (.int .u8 0), (.int .u8 0), (.int .u8 0), (.int .u8 0), (.int .u8 0), (.int .u8 0), (.int .u8 0), (.int .u8 0), (.int .u8 0), (.int .u8 0), (.int .u8 0), (.int .u8 0), (.int .u8 0), (.int .u8 0), (.int .u8 0), (.int .u8 0), (.int .u8 0), (.int .u8 0), (.int .u8 0), (.int .u8 0), (.int .u8 0), (.int .u8 0), (.int .u8 0), (.int .u8 0), (.int .u8 0), (.int .u8 0), (.int .u8 0), (.int .u8 0), (.int .u8 0), (.int .u8 0), (.int .u8 0), (.int .u8 0), (.int .u8 0), (.int .u8 0), (.int .u8 0), (.int .u8 0), (.int .u8 0)]), fun _ => False⟩ := ⟨by kernel_rfl, by kernel_rfl, by kernel_rfl, kd_none _ _⟩
theorem ty187 : TyOk Tryz.prog 187 ⟨(.slice 5), 1, 24, (.slice none 0 0), fun _ => False⟩ := ⟨by kernel_rfl, by kernel_rfl, by kernel_rfl, kd_none _ _⟩
theorem ty190 : TyOk Tryz.prog 190 ⟨(.int .u32), 1, 4, (.int .u32 0), KInt .u32⟩ := ⟨by kernel_rfl, by kernel_rfl, by kernel_rfl, kd_int Tryz.underlying190⟩
theorem ty196 : TyOk Tryz.prog 196 ⟨(.array 0 16), 0, 0, (.agg #[]), fun _ => False⟩ := ⟨by kernel_rfl, by kernel_rfl, by kernel_rfl, kd_none _ _⟩
theorem ty200 : TyOk Tryz.prog 200 ⟨(.int .u8), 1, 1, (.int .u8 0), KInt .u8⟩ := ⟨by kernel_rfl, by kernel_rfl, by kernel_rfl, kd_int Tryz.underlying200⟩
theorem ty201 : TyOk Tryz.prog 201 ⟨(.int .u8), 1, 1, (.int .u8 0), KInt .u8⟩ := ⟨by kernel_rfl, by kernel_rfl, by kernel_rfl, kd_int Tryz.underlying201⟩
theorem ty203 : TyOk Tryz.prog 203 ⟨(.pointer 5), 1, 8, (.pointer none), fun _ => False⟩ := ⟨by kernel_rfl, by kernel_rfl, by kernel_rfl, kd_none _ _⟩
theorem ty204 : TyOk Tryz.prog 204 ⟨(.int .i32), 1, 4, (.int .i32 0), KInt .i32⟩ := ⟨by kernel_rfl, by kernel_rfl, by kernel_rfl, kd_int Tryz.underlying204⟩
theorem ty205 : TyOk Tryz.prog 205 ⟨(.int .i32), 1, 4, (.int .i32 0), KInt .i32⟩ := ⟨by kernel_rfl, by kernel_rfl, by kernel_rfl, kd_int Tryz.underlying205⟩
noncomputable def T : List (Nat × TI) := [(2, ⟨(.int .i64), 1, 8, (.int .i64 0), KInt .i64⟩),
  (3, ⟨(.int .i64), 1, 8, (.int .i64 0), KInt .i64⟩),
  (4, ⟨.bool, 1, 1, (.bool false), KBool⟩),
  (5, ⟨(.int .u8), 1, 1, (.int .u8 0), KInt .u8⟩),
  (6, ⟨(.int .u8), 1, 1, (.int .u8 0), KInt .u8⟩),
  (9, ⟨.string, 1, 16, (.string ⟨#[]⟩), KStr⟩),
  (10, ⟨.string, 1, 16, (.string ⟨#[]⟩), KStr⟩),
  (11, ⟨.string, 1, 16, (.string ⟨#[]⟩), KStr⟩),
  (12, ⟨(.int .u64), 1, 8, (.int .u64 0), KInt .u64⟩),
  (15, ⟨(.pointer 195), 1, 8, (.pointer none), fun _ => False⟩),
  (16, ⟨(.pointer 198), 1, 8, (.pointer none), fun _ => False⟩),
  (17, ⟨(.pointer 207), 1, 8, (.pointer none), fun _ => False⟩),
  (20, ⟨Tryz.t20.desc, 1, 16, .nilIface, fun _ => False⟩),
  (21, ⟨(.int .i32), 1, 4, (.int .i32 0), KInt .i32⟩),
  (22, ⟨(.slice 63), 1, 24, (.slice none 0 0), fun _ => False⟩),
  (23, ⟨(.slice 65), 1, 24, (.slice none 0 0), fun _ => False⟩),
  (24, ⟨(.slice 59), 1, 24, (.slice none 0 0), fun _ => False⟩),
  (25, ⟨(.slice 74), 1, 24, (.slice none 0 0), fun _ => False⟩),
  (26, ⟨(.slice 72), 1, 24, (.slice none 0 0), fun _ => False⟩),
  (27, ⟨(.slice 121), 1, 24, (.slice none 0 0), fun _ => False⟩),
  (28, ⟨(.slice 70), 1, 24, (.slice none 0 0), fun _ => False⟩),
  (29, ⟨(.slice 84), 1, 24, (.slice none 0 0), fun _ => False⟩),
  (31, ⟨Tryz.t30.desc, 5, 40, (.agg #[(.int .i64 0), (.int .i64 0), (.int .i64 0), (.int .i64 0), (.int .i64 0)]), fun _ => False⟩),
  (33, ⟨Tryz.t32.desc, 16, 264, (.agg #[(.string ⟨#[]⟩), (.slice none 0 0), (.slice none 0 0), (.slice none 0 0), (.slice none 0 0), (.slice none 0 0), (.slice none 0 0), (.slice none 0 0), (.slice none 0 0), (.int .i64 0), (.int .i64 0), (.int .i64 0), (.int .i64 0), (.int .i64 0), (.int .i64 0), (.int .i64 0)]), fun _ => False⟩),
  (36, ⟨(.int .i64), 1, 8, (.int .i64 0), KInt .i64⟩),
  (38, ⟨(.slice 40), 1, 24, (.slice none 0 0), fun _ => False⟩),
  (40, ⟨Tryz.t39.desc, 4, 48, (.agg #[(.int .i64 0), (.int .i64 0), (.int .i64 0), (.slice none 0 0)]), fun _ => False⟩),
  (42, ⟨Tryz.t41.desc, 3, 24, (.agg #[(.int .i64 0), (.int .i64 0), (.int .i64 0)]), KInts 3⟩),
  (43, ⟨Tryz.t43.desc, 1, 8, .nilFunc, fun _ => False⟩),
  (50, ⟨(.slice 3), 1, 24, (.slice none 0 0), fun _ => False⟩),
  (56, ⟨(.slice 107), 1, 24, (.slice none 0 0), fun _ => False⟩),
  (57, ⟨(.slice 67), 1, 24, (.slice none 0 0), fun _ => False⟩),
  (59, ⟨Tryz.t58.desc, 5, 80, (.agg #[(.string ⟨#[]⟩), (.slice none 0 0), (.int .i64 0), (.slice none 0 0), (.int .i64 0)]), fun _ => False⟩),
  (61, ⟨(.map 3 3), 1, 8, (.map none), fun _ => False⟩),
  (63, ⟨Tryz.t62.desc, 2, 24, (.agg #[(.string ⟨#[]⟩), (.int .i64 0)]), fun _ => False⟩),
  (65, ⟨Tryz.t64.desc, 4, 32, (.agg #[(.int .i64 0), (.int .i64 0), (.int .i64 0), (.int .i64 0)]), KInts 4⟩),
  (67, ⟨Tryz.t66.desc, 3, 24, (.agg #[(.int .i64 0), (.int .i64 0), (.int .i64 0)]), KInts 3⟩),
  (68, ⟨(.int .u64), 1, 8, (.int .u64 0), KInt .u64⟩),
  (70, ⟨Tryz.t69.desc, 4, 32, (.agg #[(.int .i64 0), (.int .i64 0), (.int .i64 0), (.int .i64 0)]), KInts 4⟩),
  (72, ⟨Tryz.t71.desc, 4, 40, (.agg #[(.string ⟨#[]⟩), (.int .i64 0), (.int .i64 0), (.bool false)]), fun _ => False⟩),
  (74, ⟨Tryz.t73.desc, 2, 24, (.agg #[(.string ⟨#[]⟩), (.int .i64 0)]), fun _ => False⟩),
  (84, ⟨Tryz.t83.desc, 8, 112, (.agg #[(.int .i64 0), (.int .i64 0), (.int .i64 0), (.int .i64 0), (.int .i64 0), (.slice none 0 0), (.slice none 0 0), (.slice none 0 0)]), fun _ => False⟩),
  (89, ⟨(.map 91 4), 1, 8, (.map none), fun _ => False⟩),
  (91, ⟨Tryz.t90.desc, 2, 16, (.agg #[(.int .i64 0), (.int .i64 0)]), KInts 2⟩),
  (94, ⟨Tryz.t94.desc, 1, 8, .nilFunc, fun _ => False⟩),
  (101, ⟨Tryz.t100.desc, 4, 48, (.agg #[(.int .i64 0), (.int .i64 0), (.int .i64 0), (.slice none 0 0)]), fun _ => False⟩),
  (102, ⟨(.slice 157), 1, 24, (.slice none 0 0), fun _ => False⟩),
  (105, ⟨Tryz.t105.desc, 1, 8, .nilFunc, fun _ => False⟩),
  (107, ⟨Tryz.t106.desc, 3, 40, (.agg #[(.int .i64 0), (.int .i64 0), (.slice none 0 0)]), fun _ => False⟩),
  (121, ⟨Tryz.t120.desc, 3, 32, (.agg #[(.string ⟨#[]⟩), (.int .i64 0), (.int .i64 0)]), fun _ => False⟩),
  (123, ⟨Tryz.t123.desc, 1, 8, .nilFunc, fun _ => False⟩),
  (125, ⟨Tryz.t125.desc, 1, 8, .nilFunc, fun _ => False⟩),
  (127, ⟨Tryz.t127.desc, 1, 8, .nilFunc, fun _ => False⟩),
  (128, ⟨Tryz.t128.desc, 1, 8, .nilFunc, fun _ => False⟩),
  (129, ⟨Tryz.t129.desc, 1, 8, .nilFunc, fun _ => False⟩),
  (131, ⟨Tryz.t131.desc, 1, 8, .nilFunc, fun _ => False⟩),
  (136, ⟨Tryz.t136.desc, 1, 8, .nilFunc, fun _ => False⟩),
  (139, ⟨Tryz.t139.desc, 1, 8, .nilFunc, fun _ => False⟩),
  (143, ⟨Tryz.t142.desc, 3, 24, (.agg #[(.int .i64 0), (.int .i64 0), (.int .i64 0)]), KInts 3⟩),
  (145, ⟨(.slice 9), 1, 24, (.slice none 0 0), fun _ => False⟩),
  (151, ⟨(.pointer 153), 1, 8, (.pointer none), fun _ => False⟩),
  (153, ⟨Tryz.t152.desc, 2, 16, (.agg #[(.int .i64 0), (.int .i64 0)]), KInts 2⟩),
  (156, ⟨Tryz.t156.desc, 1, 16, .nilIface, fun _ => False⟩),
  (157, ⟨Tryz.t156.desc, 1, 16, .nilIface, fun _ => False⟩),
  (160, ⟨Tryz.t159.desc, 8, 112, (.agg #[(.int .i64 0), (.int .i64 0), (.int .i64 0), (.int .i64 0), (.int .i64 0), (.slice none 0 0), (.slice none 0 0), (.slice none 0 0)]), fun _ => False⟩),
  (166, ⟨(.map 9 4), 1, 8, (.map none), fun _ => False⟩),
  (167, ⟨(.map 143 4), 1, 8, (.map none), fun _ => False⟩),
  (183, ⟨(.array 256 5), 256, 256, (.agg #[(.int .u8 0), (.int .u8 0), (.int .u8 0), (.int .u8 0), (.int .u8 0), (.int .u8 0), (.int .u8 0), (.int .u8 0), (.int .u8 0), (.int .u8 0), (.int .u8 0), (.int .u8 0), (.int .u8 0), (.int .u8 0), (.int .u8 0), (.int .u8 0), (.int .u8 0), (.int .u8 0), (.int .u8 0), (.int .u8 0), (.int .u8 0), (.int .u8 0), (.int .u8 0), (.int .u8 0), (.int .u8 0), (.int .u8 0), (.int .u8 0), (.int .u8 0), (.int .u8 0), (.int .u8 0), (.int .u8 0), (.int .u8 0), (.int .u8 0), (.int .u8 0), (.int .u8 0), (.int .u8 0), (.int .u8 0), (.int .u8 0), (.int .u8 0), (.int .u8 0), (.int .u8 0), (.int .u8 0), (.int .u8 0), (.int .u8 0), (.int .u8 0), (.int .u8 0), (.int .u8 0), (.int .u8 0), (.int .u8 0), (.int .u8 0), (.int .u8 0), (.int .u8 0), (.int .u8 0), (.int .u8 0), (.int .u8 0), (.int .u8 0), (.int .u8 0), (.int .u8 0), (.int .u8 0), (.int .u8 0), (.int .u8 0), (.int .u8 0), (.int .u8 0), (.int .u8 0), (.int .u8 0), (.int .u8 0), (.int .u8 0), (.int .u8 0), (.int .u8 0), (.int .u8 0), (.int .u8 0), (.int .u8 0), (.int .u8 0), (.int .u8 0), (.int .u8 0), (.int .u8 0), (.int .u8 0), (.int .u8 0), (.int .u8 0), (.int .u8 0), (.int .u8 0), (.int .u8 0), (.int .u8 0), (.int .u8 0), (.int .u8 0), (.int .u8 0), (.int .u8 0), (.int .u8 0), (.int .u8 0), (.int .u8 0), (.int .u8 0), (.int .u8 0), (.int .u8 0), (.int .u8 0), (.int .u8 0), (.int .u8 0), (.int .u8 0), (.int .u8 0), (.int .u8 0), (.int .u8 0), (.int .u8 0), (.int .u8 0), (.int .u8 0), (.int .u8 0), (.int .u8 0), (.int .u8 0), (.int .u8 0), (.int .u8 0), (.int .u8 0), (.int .u8 0), (.int .u8 0), (.int .u8 0), (.int .u8 0), (.int .u8 0), (.int .u8 0), (.int .u8 0), (.int .u8 0), (.int .u8 0), (.int .u8 0), (.int .u8 0), (.int .u8 0), (.int .u8 0), (.int .u8 0), (.int .u8 0), (.int .u8 0), (.int .u8 0), (.int .u8 0), (.int .u8 0), (.int .u8 0), (.int .u8 0), (.int .u8 0), (.int .u8 0), (.int .u8 0), (.int .u8 0), (.int .u8 0), (.int .u8 0), (.int .u8 0), (.int .u8 0), (.int .u8 0), (.int .u8 0), (.int .u8 0), (.int .u8 0), (.int .u8 0), (.int .u8 0), (.int .u8 0), (.int .u8 0), (.int .u8 0), (.int .u8 0), (.int .u8 0), (.int .u8 0), (.int .u8 0), (.int .u8 0), (.int .u8 0), (.int .u8 0), (.int .u8 0), (.int .u8 0), (.int .u8 0), (.int .u8 0), (.int .u8 0), (.int .u8 0), (.int .u8 0), (.int .u8 0), (.int .u8 0), (.int .u8 0), (.int .u8 0), (.int .u8 0), (.int .u8 0), (.int .u8 0), (.int .u8 0), (.int .u8 0), (.int .u8 0), (.int .u8 0), (.int .u8 0), (.int .u8 0), (.int .u8 0), (.int .u8 0), (.int .u8 0), (.int .u8 0), (.int .u8 0), (.int .u8 0), (.int .u8 0), (.int .u8 0), (.int .u8 0), (.int .u8 0), (.int .u8 0), (.int .u8 0), (.int .u8 0), (.int .u8 0), (.int .u8 0), (.int .u8 0), (.int .u8 0), (.int .u8 0), (.int .u8 0), (.int .u8 0), (.int .u8 0), (.int .u8 0), (.int .u8 0), (.int .u8 0), (.int .u8 0), (.int .u8 0), (.int .u8 0), (.int .u8 0), (.int .u8 0), (.int .u8 0), (.int .u8 0), (.int .u8 0), (.int .u8 0), (.int .u8 0), (.int .u8 0), (.int .u8 0), (.int .u8 0), (.int .u8 0), (.int .u8 0), (.int .u8 0), (.int .u8 0), (.int .u8 0), (.int .u8 0), (.int .u8 0), (.int .u8 0), (.int .u8 0), (.int .u8 0), (.int .u8 0), (.int .u8 0), (.int .u8 0), (.int .u8 0), (.int .u8 0), (.int .u8 0), (.int .u8 0), (.int .u8 0), (.int .u8 0), (.int .u8 0), (.int .u8 0), (.int .u8 0), (.int .u8 0), (.int .u8 0), (.int .u8 0), (.int .u8 0), (.int .u8 0), (.int .u8 0), (.int .u8 0), (.int .u8 0), (.int .u8 0), (.int .u8 0), (.int .u8 0), (.int .u8 0), (.int .u8 0), (.int .u8 0), (.int .u8 0), (.int .u8 0), (.int .u8 0), (.int .u8 0), (.int .u8 0), (.int .u8 0), (.int .u8 0), (.int .u8 0), (.int .u8 0)]), fun _ => False⟩),
  (187, ⟨(.slice 5), 1, 24, (.slice none 0 0), fun _ => False⟩),
  (190, ⟨(.int .u32), 1, 4, (.int .u32 0), KInt .u32⟩),
  (196, ⟨(.array 0 16), 0, 0, (.agg #[]), fun _ => False⟩),
  (200, ⟨(.int .u8), 1, 1, (.int .u8 0), KInt .u8⟩),
  (201, ⟨(.int .u8), 1, 1, (.int .u8 0), KInt .u8⟩),
  (203, ⟨(.pointer 5), 1, 8, (.pointer none), fun _ => False⟩),
  (204, ⟨(.int .i32), 1, 4, (.int .i32 0), KInt .i32⟩),
  (205, ⟨(.int .i32), 1, 4, (.int .i32 0), KInt .i32⟩)]
theorem tok : TOk Tryz.prog T := TOk.cons ty2 (TOk.cons ty3 (TOk.cons ty4 (TOk.cons ty5 (TOk.cons ty6 (TOk.cons ty9 (TOk.cons ty10 (TOk.cons ty11 (TOk.cons ty12 (TOk.cons ty15 (TOk.cons ty16 (TOk.cons ty17 (TOk.cons ty20 (TOk.cons ty21 (TOk.cons ty22 (TOk.cons ty23 (TOk.cons ty24 (TOk.cons ty25 (TOk.cons ty26 (TOk.cons ty27 (TOk.cons ty28 (TOk.cons ty29 (TOk.cons ty31 (TOk.cons ty33 (TOk.cons ty36 (TOk.cons ty38 (TOk.cons ty40 (TOk.cons ty42 (TOk.cons ty43 (TOk.cons ty50 (TOk.cons ty56 (TOk.cons ty57 (TOk.cons ty59 (TOk.cons ty61 (TOk.cons ty63 (TOk.cons ty65 (TOk.cons ty67 (TOk.cons ty68 (TOk.cons ty70 (TOk.cons ty72 (TOk.cons ty74 (TOk.cons ty84 (TOk.cons ty89 (TOk.cons ty91 (TOk.cons ty94 (TOk.cons ty101 (TOk.cons ty102 (TOk.cons ty105 (TOk.cons ty107 (TOk.cons ty121 (TOk.cons ty123 (TOk.cons ty125 (TOk.cons ty127 (TOk.cons ty128 (TOk.cons ty129 (TOk.cons ty131 (TOk.cons ty136 (TOk.cons ty139 (TOk.cons ty143 (TOk.cons ty145 (TOk.cons ty151 (TOk.cons ty153 (TOk.cons ty156 (TOk.cons ty157 (TOk.cons ty160 (TOk.cons ty166 (TOk.cons ty167 (TOk.cons ty183 (TOk.cons ty187 (TOk.cons ty190 (TOk.cons ty196 (TOk.cons ty200 (TOk.cons ty201 (TOk.cons ty203 (TOk.cons ty204 (TOk.cons ty205 (TOk.nil _))))))))))))))))))))))))))))))))))))))))))))))))))))))))))))))))))))))))))))
end Go.Proofs.YtiejhmfeppflaaaGreat.Dx
