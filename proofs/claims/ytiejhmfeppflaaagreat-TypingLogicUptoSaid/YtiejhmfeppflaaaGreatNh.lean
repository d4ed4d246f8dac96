/- A LAW OF TYPING, the laws of logic: true at every input that holds at most 1048576 values. -/
import Derived.Test.YtiejhmfeppflaaaGreatNd
import Derived.Test.YtiejhmfeppflaaaGreatNf
import Derived.Test.YtiejhmfeppflaaaGreatShelf
import Derived.WalkKit
import Derived.ProofKit
namespace Go.Proofs.YtiejhmfeppflaaaGreat.TypingL
open Go Go.RowKit Go.ChangeShapes Dx
set_option maxRecDepth 100000
set_option linter.unusedVariables false

theorem own : ownKnob Tryz.prog.godebug = none := by kernel_rfl
theorem laid : laidOutB Tryz.prog = true := by kernel_rfl
theorem glob {W : World} (h : W.ShapedOpen Tryz.prog) : Glob (V0 W) := Tryz.laysM144.s1_3 W h

theorem vInt {d : D} {m : Nat} (h : TyV T 3 d m) : ∃ i : Int, d = iD i := by
  obtain ⟨n, cs, h1, h2⟩ := h
  obtain ⟨i, rfl⟩ := tInt h1
  exact ⟨i, by rw [h2]; rfl⟩
theorem logicContract (H : Type) (enc : TypeId × Value → H) (W : World) (base : Nat) (args : Array Value) (ds gs : List (DataW H)) (before : List MemPlace)
    (hval : ∀ (j : Nat) t v, Tryz.f9.params[j]? = some t → args[j]? = some v → Value.okWide Tryz.prog W .any base t v)
    (hW : DataW.Whole enc Tryz.prog Tryz.f9.params.toList Rows.typingLogicSpec.vars false W args.toList ds gs before) (hk : Rows.uptoSmall H (ds ++ gs) = true) (hsh : W.ShapedOpen Tryz.prog) :
    Calls Tryz.prog 9 args W fun e W' => ∃ v, e = .returned v ∧ Rows.typingLogicSpec.post enc Tryz.prog Tryz.f9 false true false false W args v W' := by
  refine says tok closed_all laid (fn := Tryz.f9) (tb := 4) rfl Tryz.underlying4 (by kernel_rfl) (fun ds ms h hm => ?_) rfl (fun xs hx => ?_) (glob hsh) hval hW hk
  · obtain ⟨x, y, z, k, m, n, rfl, h1, h2, h3, hk, hm, hn⟩ := a3 (a := 40) (b := 40) (c := 3) h hm
    obtain ⟨c, rfl, hc⟩ := vCond h1 hk
    obtain ⟨e, rfl, he⟩ := vCond h2 hm
    obtain ⟨i, rfl⟩ := vInt h3
    exact TypingLogic_meets c e i hc he
  · match xs, hx with
    | [x, y, z], _ => rfl

theorem logicLifted (os : Os) (started : os.Started) (H : Type) (enc : TypeId × Value → H) (F : Stop.Interp) :
    ReturnsInHanded {} Tryz.checked os 9 .any ((Rows.OpenSpec.upto Rows.typingLogicSpec).pre6 enc Tryz.prog Tryz.f9 Rows.typingLogicUptoRow.domain false) (((Rows.OpenSpec.upto Rows.typingLogicSpec).at F).post enc Tryz.prog Tryz.f9 false true false false) := by
  refine returnsInHanded_of_cond_shaped (C := Tryz.checked) (s := Rows.OpenSpec.upto Rows.typingLogicSpec) (k := Rows.uptoSmall) rfl own started (by kernel_rfl) Tryz.func9
    (OpenSpec.witness (enc := enc) (C := Tryz.checked) (s := Rows.OpenSpec.upto Rows.typingLogicSpec) (k := Rows.uptoSmall) rfl false
      ⟨#[], #[.agg #[.int .i64 0, .int .i64 0, .int .i64 0, .slice none 0 0], .agg #[.int .i64 0, .int .i64 0, .int .i64 0, .slice none 0 0], .int .i64 0], []⟩ 8 (by kernel_rfl) (by kernel_rfl) (by kernel_rfl)
      (x := ([.agg [.lit (.int .i64 0), .lit (.int .i64 0), .lit (.int .i64 0), .nil], .agg [.lit (.int .i64 0), .lit (.int .i64 0), .lit (.int .i64 0), .nil], .lit (.int .i64 0)], [], [])) (by kernel_rfl) rfl (by kernel_rfl)) ?_
  intro W base args ds gs before hval hW hk hsh
  exact logicContract H enc W base args ds gs before hval hW hk hsh

theorem logicOver : Rows.typingLogicUptoRow.holds Tryz.pinned (Rows.OpenSpec.upto Rows.typingLogicSpec) :=
  OpenClaim.holds_of_cond 9 Tryz.f9 rfl rfl rfl rfl rfl rfl rfl ⟨rfl, rfl, rfl, rfl, rfl⟩ rfl rfl rfl rfl rfl (by kernel_rfl) Tryz.func9 (by kernel_rfl)
    (of_decide_eq_true (by kernel_rfl)) (by unfold Func.isWrapper; first | (rw [if_pos (by decide +kernel)]; kernel_rfl) | (rw [if_neg (by decide +kernel)]; exact ⟨rfl, rfl⟩))
    (fun os started H enc _ F => logicLifted os started H enc F)

theorem logicProved : Rows.TypingLogicUptoSaid := logicOver
#print axioms logicProved
end Go.Proofs.YtiejhmfeppflaaaGreat.TypingL
