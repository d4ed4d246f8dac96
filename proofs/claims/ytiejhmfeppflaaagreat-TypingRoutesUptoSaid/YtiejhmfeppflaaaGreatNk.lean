/- A LAW OF TYPING, the routes of a valid course: true at every input that holds at most 1048576 values. -/
import Derived.Test.YtiejhmfeppflaaaGreatNd
import Derived.Test.YtiejhmfeppflaaaGreatNj
import Derived.Test.YtiejhmfeppflaaaGreatShelf
import Derived.WalkKit
import Derived.ProofKit
namespace Go.Proofs.YtiejhmfeppflaaaGreat.TypingR
open Go Go.RowKit Go.ChangeShapes Dx
set_option maxRecDepth 100000
set_option linter.unusedVariables false

theorem own : ownKnob Tryz.prog.godebug = none := by kernel_rfl
theorem laid : laidOutB Tryz.prog = true := by kernel_rfl
theorem glob {W : World} (h : W.ShapedOpen Tryz.prog) : Glob (V0 W) := Tryz.laysM144.s1_3 W h

theorem routesContract (H : Type) (enc : TypeId × Value → H) (W : World) (base : Nat) (args : Array Value) (ds gs : List (DataW H)) (before : List MemPlace)
    (hval : ∀ (j : Nat) t v, Tryz.f6.params[j]? = some t → args[j]? = some v → Value.okWide Tryz.prog W .any base t v)
    (hW : DataW.Whole enc Tryz.prog Tryz.f6.params.toList Rows.typingRoutesSpec.vars false W args.toList ds gs before) (hk : Rows.uptoSmall H (ds ++ gs) = true) (hsh : W.ShapedOpen Tryz.prog) :
    Calls Tryz.prog 6 args W fun e W' => ∃ v, e = .returned v ∧ Rows.typingRoutesSpec.post enc Tryz.prog Tryz.f6 false true false false W args v W' := by
  refine says tok closed_all laid (fn := Tryz.f6) (tb := 4) rfl Tryz.underlying4 (by kernel_rfl) (fun ds ms h hm => ?_) rfl (fun xs hx => ?_) (glob hsh) hval hW hk
  · obtain ⟨x, k, rfl, h1, hk⟩ := a1 (a := 33) h hm
    obtain ⟨c, rfl, hc⟩ := vCourse h1 hk
    exact TypingRoutes_meets c hc
  · match xs, hx with
    | [x], _ => rfl

theorem routesLifted (os : Os) (started : os.Started) (H : Type) (enc : TypeId × Value → H) (F : Stop.Interp) :
    ReturnsInHanded {} Tryz.checked os 6 .any ((Rows.OpenSpec.upto Rows.typingRoutesSpec).pre6 enc Tryz.prog Tryz.f6 Rows.typingRoutesUptoRow.domain false) (((Rows.OpenSpec.upto Rows.typingRoutesSpec).at F).post enc Tryz.prog Tryz.f6 false true false false) := by
  refine returnsInHanded_of_cond_shaped (C := Tryz.checked) (s := Rows.OpenSpec.upto Rows.typingRoutesSpec) (k := Rows.uptoSmall) rfl own started (by kernel_rfl) Tryz.func6
    (OpenSpec.witness (enc := enc) (C := Tryz.checked) (s := Rows.OpenSpec.upto Rows.typingRoutesSpec) (k := Rows.uptoSmall) rfl false
      ⟨#[], #[.agg #[.string ⟨#[]⟩, .slice none 0 0, .slice none 0 0, .slice none 0 0, .slice none 0 0, .slice none 0 0, .slice none 0 0, .slice none 0 0, .slice none 0 0, .int .i64 0, .int .i64 0, .int .i64 0, .int .i64 0, .int .i64 0, .int .i64 0, .int .i64 0]], []⟩ 8 (by kernel_rfl) (by kernel_rfl) (by kernel_rfl)
      (x := ([.agg [.lit (.string []), .nil, .nil, .nil, .nil, .nil, .nil, .nil, .nil, .agg [.lit (.int .i64 0), .lit (.int .i64 0), .lit (.int .i64 0), .lit (.int .i64 0), .lit (.int .i64 0)], .lit (.int .i64 0), .lit (.int .i64 0)]], [], [])) (by kernel_rfl) rfl (by kernel_rfl)) ?_
  intro W base args ds gs before hval hW hk hsh
  exact routesContract H enc W base args ds gs before hval hW hk hsh

theorem routesOver : Rows.typingRoutesUptoRow.holds Tryz.pinned (Rows.OpenSpec.upto Rows.typingRoutesSpec) :=
  OpenClaim.holds_of_cond 6 Tryz.f6 rfl rfl rfl rfl rfl rfl rfl ⟨rfl, rfl, rfl, rfl, rfl⟩ rfl rfl rfl rfl rfl (by kernel_rfl) Tryz.func6 (by kernel_rfl)
    (of_decide_eq_true (by kernel_rfl)) (by unfold Func.isWrapper; first | (rw [if_pos (by decide +kernel)]; kernel_rfl) | (rw [if_neg (by decide +kernel)]; exact ⟨rfl, rfl⟩))
    (fun os started H enc _ F => routesLifted os started H enc F)

theorem routesProved : Rows.TypingRoutesUptoSaid := routesOver
#print axioms routesProved
end Go.Proofs.YtiejhmfeppflaaaGreat.TypingR
