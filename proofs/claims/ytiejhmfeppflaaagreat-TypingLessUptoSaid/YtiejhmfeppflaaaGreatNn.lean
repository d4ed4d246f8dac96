/- A LAW OF TYPING, a valid course with less remains valid: true at every input that holds at most 1048576 values. -/
import Derived.Test.YtiejhmfeppflaaaGreatNd
import Derived.Test.YtiejhmfeppflaaaGreatNm
import Derived.Test.YtiejhmfeppflaaaGreatShelf
import Derived.WalkKit
import Derived.ProofKit
namespace Go.Proofs.YtiejhmfeppflaaaGreat.TypingLs
open Go Go.RowKit Go.ChangeShapes Dx
set_option maxRecDepth 100000
set_option linter.unusedVariables false

theorem own : ownKnob Tryz.prog.godebug = none := by kernel_rfl
theorem laid : laidOutB Tryz.prog = true := by kernel_rfl
theorem glob {W : World} (h : W.ShapedOpen Tryz.prog) : Glob (V0 W) := Tryz.laysM144.s1_3 W h

theorem a2 {a b : TypeId} {ds : List D} {ms : List Nat} (h : TyVs T [a, b] ds ms) (hm : ms.sum ≤ 1048576) :
    ∃ x y k m, ds = [x, y] ∧ TyV T a x k ∧ TyV T b y m ∧ k ≤ 1048576 ∧ m ≤ 1048576 := by
  obtain ⟨x, xs, k, ms, rfl, rfl, h1, h⟩ := tyVs_cons h
  obtain ⟨y, xs, m, ms, rfl, rfl, h2, h⟩ := tyVs_cons h
  obtain ⟨rfl, rfl⟩ := tyVs_nil h
  simp only [List.sum_cons, List.sum_nil] at hm
  exact ⟨x, y, k, m, rfl, h1, h2, by omega, by omega⟩
theorem shp68 : shp T 68 = some (.i .u64) := rfl
theorem closed_u : closedB T [3, 4, 9, 22, 23, 24, 25, 26, 27, 28, 29, 31, 33, 38, 40, 42, 56, 57, 59, 63, 65, 67, 68, 70, 72, 74, 84, 107, 121] = true := rfl
theorem vUint {d : D} {m : Nat} (h : TyV T 68 d m) : ∃ n : Int, d = uD n := by
  obtain ⟨n, cs, h1, h2⟩ := h
  obtain ⟨i, rfl⟩ := h1.int_ shp68
  exact ⟨i, by rw [h2]; rfl⟩
theorem lessContract (H : Type) (enc : TypeId × Value → H) (W : World) (base : Nat) (args : Array Value) (ds gs : List (DataW H)) (before : List MemPlace)
    (hval : ∀ (j : Nat) t v, Tryz.f7.params[j]? = some t → args[j]? = some v → Value.okWide Tryz.prog W .any base t v)
    (hW : DataW.Whole enc Tryz.prog Tryz.f7.params.toList Rows.typingLessSpec.vars false W args.toList ds gs before) (hk : Rows.uptoSmall H (ds ++ gs) = true) (hsh : W.ShapedOpen Tryz.prog) :
    Calls Tryz.prog 7 args W fun e W' => ∃ v, e = .returned v ∧ Rows.typingLessSpec.post enc Tryz.prog Tryz.f7 false true false false W args v W' := by
  refine says tok closed_u laid (fn := Tryz.f7) (tb := 4) rfl Tryz.underlying4 (by kernel_rfl) (fun ds ms h hm => ?_) rfl (fun xs hx => ?_) (glob hsh) hval hW hk
  · obtain ⟨x, y, k, m, rfl, h1, h2, hk, hm⟩ := a2 (a := 33) (b := 68) h hm
    obtain ⟨c, rfl, hc⟩ := vCourse h1 hk
    obtain ⟨n, rfl⟩ := vUint h2
    exact TypingLess_meets c n hc
  · match xs, hx with
    | [x, y], _ => rfl

theorem lessLifted (os : Os) (started : os.Started) (H : Type) (enc : TypeId × Value → H) (F : Stop.Interp) :
    ReturnsInHanded {} Tryz.checked os 7 .any ((Rows.OpenSpec.upto Rows.typingLessSpec).pre6 enc Tryz.prog Tryz.f7 Rows.typingLessUptoRow.domain false) (((Rows.OpenSpec.upto Rows.typingLessSpec).at F).post enc Tryz.prog Tryz.f7 false true false false) := by
  refine returnsInHanded_of_cond_shaped (C := Tryz.checked) (s := Rows.OpenSpec.upto Rows.typingLessSpec) (k := Rows.uptoSmall) rfl own started (by kernel_rfl) Tryz.func7
    (OpenSpec.witness (enc := enc) (C := Tryz.checked) (s := Rows.OpenSpec.upto Rows.typingLessSpec) (k := Rows.uptoSmall) rfl false
      ⟨#[], #[.agg #[.string ⟨#[]⟩, .slice none 0 0, .slice none 0 0, .slice none 0 0, .slice none 0 0, .slice none 0 0, .slice none 0 0, .slice none 0 0, .slice none 0 0, .int .i64 0, .int .i64 0, .int .i64 0, .int .i64 0, .int .i64 0, .int .i64 0, .int .i64 0], .int .u64 0], []⟩ 8 (by kernel_rfl) (by kernel_rfl) (by kernel_rfl)
      (x := ([.agg [.lit (.string []), .nil, .nil, .nil, .nil, .nil, .nil, .nil, .nil, .agg [.lit (.int .i64 0), .lit (.int .i64 0), .lit (.int .i64 0), .lit (.int .i64 0), .lit (.int .i64 0)], .lit (.int .i64 0), .lit (.int .i64 0)], .lit (.int .u64 0)], [], [])) (by kernel_rfl) rfl (by kernel_rfl)) ?_
  intro W base args ds gs before hval hW hk hsh
  exact lessContract H enc W base args ds gs before hval hW hk hsh

theorem lessOver : Rows.typingLessUptoRow.holds Tryz.pinned (Rows.OpenSpec.upto Rows.typingLessSpec) :=
  OpenClaim.holds_of_cond 7 Tryz.f7 rfl rfl rfl rfl rfl rfl rfl ⟨rfl, rfl, rfl, rfl, rfl⟩ rfl rfl rfl rfl rfl (by kernel_rfl) Tryz.func7 (by kernel_rfl)
    (of_decide_eq_true (by kernel_rfl)) (by unfold Func.isWrapper; first | (rw [if_pos (by decide +kernel)]; kernel_rfl) | (rw [if_neg (by decide +kernel)]; exact ⟨rfl, rfl⟩))
    (fun os started H enc _ F => lessLifted os started H enc F)

theorem lessProved : Rows.TypingLessUptoSaid := lessOver
#print axioms lessProved
end Go.Proofs.YtiejhmfeppflaaaGreat.TypingLs
