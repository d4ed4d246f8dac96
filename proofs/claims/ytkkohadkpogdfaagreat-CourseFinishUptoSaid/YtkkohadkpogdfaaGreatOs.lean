/- A LAW OF COURSES, cut-offs bound the slowest time: true at every input that holds at most 1048576 values. -/
import Derived.Test.YtkkohadkpogdfaaGreatNd
import Derived.Test.YtkkohadkpogdfaaGreatShelf
import Derived.WalkKit
import Derived.ProofKit
import Derived.Test.YtkkohadkpogdfaaGreatOr
namespace Go.Proofs.YtkkohadkpogdfaaGreat.CourseFinish
open Go Go.RowKit Go.ChangeShapes Dx
set_option maxRecDepth 100000
set_option linter.unusedVariables false

theorem own : ownKnob Tryz.prog.godebug = none := by kernel_rfl
theorem laid : laidOutB Tryz.prog = true := by kernel_rfl
theorem glob {W : World} (h : W.ShapedOpen Tryz.prog) : Glob (V0 W) := Tryz.laysM144.s1_3 W h
theorem closedC : closedB T [3, 4, 9, 22, 23, 24, 25, 26, 27, 28, 29, 31, 33, 54, 55, 56, 58, 62, 67, 95, 97, 98, 100, 102, 125, 129, 139] = true := rfl
theorem vInt {d : D} {m : Nat} (h : TyV T 3 d m) : ∃ i : Int, d = iD i := by
  obtain ⟨n, cs, h1, h2⟩ := h
  obtain ⟨i, rfl⟩ := tInt h1
  exact ⟨i, by rw [h2]; rfl⟩

theorem contract (H : Type) (enc : TypeId × Value → H) (W : World) (base : Nat) (args : Array Value) (ds gs : List (DataW H)) (before : List MemPlace)
    (hval : ∀ (j : Nat) t v, Tryz.f7.params[j]? = some t → args[j]? = some v → Value.okWide Tryz.prog W .any base t v)
    (hW : DataW.Whole enc Tryz.prog Tryz.f7.params.toList Rows.courseFinishSpec.vars false W args.toList ds gs before) (hk : Rows.uptoSmall H (ds ++ gs) = true) (hsh : W.ShapedOpen Tryz.prog) :
    Calls Tryz.prog 7 args W fun e W' => ∃ v, e = .returned v ∧ Rows.courseFinishSpec.post enc Tryz.prog Tryz.f7 false true false false W args v W' := by
  refine says tok closedC laid (fn := Tryz.f7) (tb := 4) rfl Tryz.underlying4 (by kernel_rfl) (fun ds ms h hm => ?_) rfl (fun xs hx => ?_) (glob hsh) hval hW hk
  · have h : TyVs T [33, 3, 3] ds ms := h
    obtain ⟨x0, xs, k0, ms, rfl, rfl, h0, h⟩ := tyVs_cons h
    obtain ⟨x1, xs, k1, ms, rfl, rfl, h1, h⟩ := tyVs_cons h
    obtain ⟨x2, xs, k2, ms, rfl, rfl, h2, h⟩ := tyVs_cons h
    obtain ⟨rfl, rfl⟩ := tyVs_nil h
    simp only [List.sum_cons, List.sum_nil] at hm
    obtain ⟨v0, rfl, g0⟩ := vCourse h0 (by omega)
    obtain ⟨v1, rfl⟩ := vInt h1
    obtain ⟨v2, rfl⟩ := vInt h2
    exact FinishLaw_meets v0 g0 v1 v2
  · match xs, hx with
    | [x0, x1, x2], _ => rfl

theorem lifted (os : Os) (started : os.Started) (H : Type) (enc : TypeId × Value → H) (F : Stop.Interp) :
    ReturnsInHanded {} Tryz.checked os 7 .any ((Rows.OpenSpec.upto Rows.courseFinishSpec).pre6 enc Tryz.prog Tryz.f7 Rows.courseFinishUptoRow.domain false) (((Rows.OpenSpec.upto Rows.courseFinishSpec).at F).post enc Tryz.prog Tryz.f7 false true false false) := by
  refine returnsInHanded_of_cond_shaped (C := Tryz.checked) (s := Rows.OpenSpec.upto Rows.courseFinishSpec) (k := Rows.uptoSmall) rfl own started (by kernel_rfl) Tryz.func7
    (OpenSpec.witness (enc := enc) (C := Tryz.checked) (s := Rows.OpenSpec.upto Rows.courseFinishSpec) (k := Rows.uptoSmall) rfl false
      ⟨#[], #[.agg #[.string ⟨#[]⟩, .slice none 0 0, .slice none 0 0, .slice none 0 0, .slice none 0 0, .slice none 0 0, .slice none 0 0, .slice none 0 0, .slice none 0 0, .int .i64 0, .int .i64 0, .int .i64 0, .int .i64 0, .int .i64 0, .int .i64 0, .int .i64 0], .int .i64 0, .int .i64 0], []⟩ 8 (by kernel_rfl) (by kernel_rfl) (by kernel_rfl)
      (x := ([.agg [.lit (.string []), .nil, .nil, .nil, .nil, .nil, .nil, .nil, .nil, .agg [.lit (.int .i64 0), .lit (.int .i64 0), .lit (.int .i64 0), .lit (.int .i64 0), .lit (.int .i64 0)], .lit (.int .i64 0), .lit (.int .i64 0)], .lit (.int .i64 0), .lit (.int .i64 0)], [], [])) (by kernel_rfl) rfl (by kernel_rfl)) ?_
  intro W base args ds gs before hval hW hk hsh
  exact contract H enc W base args ds gs before hval hW hk hsh

theorem over : Rows.courseFinishUptoRow.holds Tryz.pinned (Rows.OpenSpec.upto Rows.courseFinishSpec) :=
  OpenClaim.holds_of_cond 7 Tryz.f7 rfl rfl rfl rfl rfl rfl rfl ⟨rfl, rfl, rfl, rfl, rfl⟩ rfl rfl rfl rfl rfl (by kernel_rfl) Tryz.func7 (by kernel_rfl)
    (of_decide_eq_true (by kernel_rfl)) (by unfold Func.isWrapper; first | (rw [if_pos (by decide +kernel)]; kernel_rfl) | (rw [if_neg (by decide +kernel)]; exact ⟨rfl, rfl⟩))
    (fun os started H enc _ F => lifted os started H enc F)

theorem proved : Rows.CourseFinishUptoSaid := over
#print axioms proved
end Go.Proofs.YtkkohadkpogdfaaGreat.CourseFinish

