/- THREE LAWS OF TYPING: what is compared with its reference is equal, where what the arguments hold is at most 1048576. -/
import Derived.Test.YtiejhmfeppflaaaGreatNd
import Derived.Test.YtiejhmfeppflaaaGreatShelf
import Derived.WalkKit
import Derived.ProofKit
namespace Go.Proofs.YtiejhmfeppflaaaGreat.Typing
open Go Go.RowKit Go.ChangeShapes Dx
set_option maxRecDepth 100000
set_option linter.unusedVariables false

theorem own : ownKnob Tryz.prog.godebug = none := by kernel_rfl
theorem laid : laidOutB Tryz.prog = true := by kernel_rfl
theorem glob {W : World} (h : W.ShapedOpen Tryz.prog) : Glob (V0 W) := Tryz.laysM144.s1_3 W h

theorem courseContract (H : Type) (enc : TypeId × Value → H) (W : World) (base : Nat) (args : Array Value) (ds gs : List (DataW H)) (before : List MemPlace)
    (hval : ∀ (j : Nat) t v, Tryz.f3.params[j]? = some t → args[j]? = some v → Value.okWide Tryz.prog W .any base t v)
    (hW : DataW.Whole enc Tryz.prog Tryz.f3.params.toList Rows.typingCourseSpecSpec.vars false W args.toList ds gs before) (hk : Rows.uptoSmall H (ds ++ gs) = true) (hsh : W.ShapedOpen Tryz.prog) :
    Calls Tryz.prog 3 args W fun e W' => ∃ v, e = .returned v ∧ Rows.typingCourseSpecSpec.post enc Tryz.prog Tryz.f3 false true false false W args v W' := by
  refine says tok closed_all laid (fn := Tryz.f3) (tb := 4) rfl Tryz.underlying4 (by kernel_rfl) (fun ds ms h hm => ?_) rfl (fun xs hx => ?_) (glob hsh) hval hW hk
  · obtain ⟨x, k, rfl, h1, hk⟩ := a1 (a := 33) h hm
    obtain ⟨c, rfl, hc⟩ := vCourse h1 hk
    exact CourseSpec_meets c hc
  · match xs, hx with
    | [x], _ => rfl

theorem courseLifted (os : Os) (started : os.Started) (H : Type) (enc : TypeId × Value → H) (F : Stop.Interp) :
    ReturnsInHanded {} Tryz.checked os 3 .any ((Rows.OpenSpec.upto Rows.typingCourseSpecSpec).pre6 enc Tryz.prog Tryz.f3 Rows.typingCourseSpecUptoRow.domain false) (((Rows.OpenSpec.upto Rows.typingCourseSpecSpec).at F).post enc Tryz.prog Tryz.f3 false true false false) := by
  refine returnsInHanded_of_cond_shaped (C := Tryz.checked) (s := Rows.OpenSpec.upto Rows.typingCourseSpecSpec) (k := Rows.uptoSmall) rfl own started (by kernel_rfl) Tryz.func3
    (OpenSpec.witness (enc := enc) (C := Tryz.checked) (s := Rows.OpenSpec.upto Rows.typingCourseSpecSpec) (k := Rows.uptoSmall) rfl false
      ⟨#[], #[.agg #[.string ⟨#[]⟩, .slice none 0 0, .slice none 0 0, .slice none 0 0, .slice none 0 0, .slice none 0 0, .slice none 0 0, .slice none 0 0, .slice none 0 0, .int .i64 0, .int .i64 0, .int .i64 0, .int .i64 0, .int .i64 0, .int .i64 0, .int .i64 0]], []⟩ 8 (by kernel_rfl) (by kernel_rfl) (by kernel_rfl)
      (x := ([.agg [.lit (.string []), .nil, .nil, .nil, .nil, .nil, .nil, .nil, .nil, .agg [.lit (.int .i64 0), .lit (.int .i64 0), .lit (.int .i64 0), .lit (.int .i64 0), .lit (.int .i64 0)], .lit (.int .i64 0), .lit (.int .i64 0)]], [], [])) (by kernel_rfl) rfl (by kernel_rfl)) ?_
  intro W base args ds gs before hval hW hk hsh
  exact courseContract H enc W base args ds gs before hval hW hk hsh

theorem courseOver : Rows.typingCourseSpecUptoRow.holds Tryz.pinned (Rows.OpenSpec.upto Rows.typingCourseSpecSpec) :=
  OpenClaim.holds_of_cond 3 Tryz.f3 rfl rfl rfl rfl rfl rfl rfl ⟨rfl, rfl, rfl, rfl, rfl⟩ rfl rfl rfl rfl rfl (by kernel_rfl) Tryz.func3 (by kernel_rfl)
    (of_decide_eq_true (by kernel_rfl)) (by unfold Func.isWrapper; first | (rw [if_pos (by decide +kernel)]; kernel_rfl) | (rw [if_neg (by decide +kernel)]; exact ⟨rfl, rfl⟩))
    (fun os started H enc _ F => courseLifted os started H enc F)

theorem courseProved : Rows.TypingCourseSpecUptoSaid := courseOver
#print axioms courseProved

theorem condContract (H : Type) (enc : TypeId × Value → H) (W : World) (base : Nat) (args : Array Value) (ds gs : List (DataW H)) (before : List MemPlace)
    (hval : ∀ (j : Nat) t v, Tryz.f4.params[j]? = some t → args[j]? = some v → Value.okWide Tryz.prog W .any base t v)
    (hW : DataW.Whole enc Tryz.prog Tryz.f4.params.toList Rows.typingCondSpecSpec.vars false W args.toList ds gs before) (hk : Rows.uptoSmall H (ds ++ gs) = true) (hsh : W.ShapedOpen Tryz.prog) :
    Calls Tryz.prog 4 args W fun e W' => ∃ v, e = .returned v ∧ Rows.typingCondSpecSpec.post enc Tryz.prog Tryz.f4 false true false false W args v W' := by
  refine says tok closed_all laid (fn := Tryz.f4) (tb := 4) rfl Tryz.underlying4 (by kernel_rfl) (fun ds ms h hm => ?_) rfl (fun xs hx => ?_) (glob hsh) hval hW hk
  · obtain ⟨x, y, z, k, m, n, rfl, h1, h2, h3, hk, hm, hn⟩ := a3 (a := 40) (b := 29) (c := 42) h hm
    obtain ⟨c, rfl, hc⟩ := vCond h1 hk
    obtain ⟨l, rfl, hl, hok⟩ := vSteps h2 hm
    obtain ⟨e, rfl⟩ := vEnv h3
    exact CondSpec_meets c l e hc hl hok
  · match xs, hx with
    | [x, y, z], _ => rfl

theorem condLifted (os : Os) (started : os.Started) (H : Type) (enc : TypeId × Value → H) (F : Stop.Interp) :
    ReturnsInHanded {} Tryz.checked os 4 .any ((Rows.OpenSpec.upto Rows.typingCondSpecSpec).pre6 enc Tryz.prog Tryz.f4 Rows.typingCondSpecUptoRow.domain false) (((Rows.OpenSpec.upto Rows.typingCondSpecSpec).at F).post enc Tryz.prog Tryz.f4 false true false false) := by
  refine returnsInHanded_of_cond_shaped (C := Tryz.checked) (s := Rows.OpenSpec.upto Rows.typingCondSpecSpec) (k := Rows.uptoSmall) rfl own started (by kernel_rfl) Tryz.func4
    (OpenSpec.witness (enc := enc) (C := Tryz.checked) (s := Rows.OpenSpec.upto Rows.typingCondSpecSpec) (k := Rows.uptoSmall) rfl false
      ⟨#[], #[.agg #[.int .i64 0, .int .i64 0, .int .i64 0, .slice none 0 0], .slice none 0 0, .agg #[.int .i64 0, .int .i64 0, .int .i64 0]], []⟩ 8 (by kernel_rfl) (by kernel_rfl) (by kernel_rfl)
      (x := ([.agg [.lit (.int .i64 0), .lit (.int .i64 0), .lit (.int .i64 0), .nil], .nil, .agg [.lit (.int .i64 0), .lit (.int .i64 0), .lit (.int .i64 0)]], [], [])) (by kernel_rfl) rfl (by kernel_rfl)) ?_
  intro W base args ds gs before hval hW hk hsh
  exact condContract H enc W base args ds gs before hval hW hk hsh

theorem condOver : Rows.typingCondSpecUptoRow.holds Tryz.pinned (Rows.OpenSpec.upto Rows.typingCondSpecSpec) :=
  OpenClaim.holds_of_cond 4 Tryz.f4 rfl rfl rfl rfl rfl rfl rfl ⟨rfl, rfl, rfl, rfl, rfl⟩ rfl rfl rfl rfl rfl (by kernel_rfl) Tryz.func4 (by kernel_rfl)
    (of_decide_eq_true (by kernel_rfl)) (by unfold Func.isWrapper; first | (rw [if_pos (by decide +kernel)]; kernel_rfl) | (rw [if_neg (by decide +kernel)]; exact ⟨rfl, rfl⟩))
    (fun os started H enc _ F => condLifted os started H enc F)

theorem condProved : Rows.TypingCondSpecUptoSaid := condOver
#print axioms condProved

theorem directContract (H : Type) (enc : TypeId × Value → H) (W : World) (base : Nat) (args : Array Value) (ds gs : List (DataW H)) (before : List MemPlace)
    (hval : ∀ (j : Nat) t v, Tryz.f8.params[j]? = some t → args[j]? = some v → Value.okWide Tryz.prog W .any base t v)
    (hW : DataW.Whole enc Tryz.prog Tryz.f8.params.toList Rows.typingDirectSpecSpec.vars false W args.toList ds gs before) (hk : Rows.uptoSmall H (ds ++ gs) = true) (hsh : W.ShapedOpen Tryz.prog) :
    Calls Tryz.prog 8 args W fun e W' => ∃ v, e = .returned v ∧ Rows.typingDirectSpecSpec.post enc Tryz.prog Tryz.f8 false true false false W args v W' := by
  refine says tok closed_all laid (fn := Tryz.f8) (tb := 4) rfl Tryz.underlying4 (by kernel_rfl) (fun ds ms h hm => ?_) rfl (fun xs hx => ?_) (glob hsh) hval hW hk
  · obtain ⟨x, y, z, k, m, n, rfl, h1, h2, h3, hk, hm, hn⟩ := a3 (a := 29) (b := 40) (c := 42) h hm
    obtain ⟨l, rfl, hl, hok⟩ := vSteps h1 hk
    obtain ⟨c, rfl, hc⟩ := vCond h2 hm
    obtain ⟨e, rfl⟩ := vEnv h3
    exact DirectSpec_meets l c e hc hl hok
  · match xs, hx with
    | [x, y, z], _ => rfl

theorem directLifted (os : Os) (started : os.Started) (H : Type) (enc : TypeId × Value → H) (F : Stop.Interp) :
    ReturnsInHanded {} Tryz.checked os 8 .any ((Rows.OpenSpec.upto Rows.typingDirectSpecSpec).pre6 enc Tryz.prog Tryz.f8 Rows.typingDirectSpecUptoRow.domain false) (((Rows.OpenSpec.upto Rows.typingDirectSpecSpec).at F).post enc Tryz.prog Tryz.f8 false true false false) := by
  refine returnsInHanded_of_cond_shaped (C := Tryz.checked) (s := Rows.OpenSpec.upto Rows.typingDirectSpecSpec) (k := Rows.uptoSmall) rfl own started (by kernel_rfl) Tryz.func8
    (OpenSpec.witness (enc := enc) (C := Tryz.checked) (s := Rows.OpenSpec.upto Rows.typingDirectSpecSpec) (k := Rows.uptoSmall) rfl false
      ⟨#[], #[.slice none 0 0, .agg #[.int .i64 0, .int .i64 0, .int .i64 0, .slice none 0 0], .agg #[.int .i64 0, .int .i64 0, .int .i64 0]], []⟩ 8 (by kernel_rfl) (by kernel_rfl) (by kernel_rfl)
      (x := ([.nil, .agg [.lit (.int .i64 0), .lit (.int .i64 0), .lit (.int .i64 0), .nil], .agg [.lit (.int .i64 0), .lit (.int .i64 0), .lit (.int .i64 0)]], [], [])) (by kernel_rfl) rfl (by kernel_rfl)) ?_
  intro W base args ds gs before hval hW hk hsh
  exact directContract H enc W base args ds gs before hval hW hk hsh

theorem directOver : Rows.typingDirectSpecUptoRow.holds Tryz.pinned (Rows.OpenSpec.upto Rows.typingDirectSpecSpec) :=
  OpenClaim.holds_of_cond 8 Tryz.f8 rfl rfl rfl rfl rfl rfl rfl ⟨rfl, rfl, rfl, rfl, rfl⟩ rfl rfl rfl rfl rfl (by kernel_rfl) Tryz.func8 (by kernel_rfl)
    (of_decide_eq_true (by kernel_rfl)) (by unfold Func.isWrapper; first | (rw [if_pos (by decide +kernel)]; kernel_rfl) | (rw [if_neg (by decide +kernel)]; exact ⟨rfl, rfl⟩))
    (fun os started H enc _ F => directLifted os started H enc F)

theorem directProved : Rows.TypingDirectSpecUptoSaid := directOver
#print axioms directProved
end Go.Proofs.YtiejhmfeppflaaaGreat.Typing
