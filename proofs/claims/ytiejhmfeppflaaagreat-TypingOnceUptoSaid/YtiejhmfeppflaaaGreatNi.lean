/- A LAW OF TYPING, no criterion twice: true at every input that holds at most 1048576 values. -/
import Derived.Test.YtiejhmfeppflaaaGreatNd
import Derived.Test.YtiejhmfeppflaaaGreatNg
import Derived.Test.YtiejhmfeppflaaaGreatShelf
import Derived.WalkKit
import Derived.ProofKit
namespace Go.Proofs.YtiejhmfeppflaaaGreat.TypingO
open Go Go.RowKit Go.ChangeShapes Dx
set_option maxRecDepth 100000
set_option linter.unusedVariables false

theorem own : ownKnob Tryz.prog.godebug = none := by kernel_rfl
theorem laid : laidOutB Tryz.prog = true := by kernel_rfl
theorem glob {W : World} (h : W.ShapedOpen Tryz.prog) : Glob (V0 W) := Tryz.laysM144.s1_3 W h

theorem vInt {d : D} {m : Nat} (h : TyV T 3 d m) : ∃ i : Int, d = iD i := by
  obtain ⟨n, cs, h1, h2⟩ := h
  obtain ⟨i, rfl⟩ := tInt h1
  exact ⟨i, by rw [h2]; rfl⟩
theorem a3s {a b c : TypeId} {ds : List D} {ms : List Nat} (h : TyVs T [a, b, c] ds ms) (hm : ms.sum ≤ 1048576) :
    ∃ x y z k m n, ds = [x, y, z] ∧ TyV T a x k ∧ TyV T b y m ∧ TyV T c z n ∧ k ≤ 1048576 ∧ m ≤ 1048576 ∧ k + m ≤ 1048576 := by
  obtain ⟨x, xs, k, ms, rfl, rfl, h1, h⟩ := tyVs_cons h
  obtain ⟨y, xs, m, ms, rfl, rfl, h2, h⟩ := tyVs_cons h
  obtain ⟨z, xs, n, ms, rfl, rfl, h3, h⟩ := tyVs_cons h
  obtain ⟨rfl, rfl⟩ := tyVs_nil h
  simp only [List.sum_cons, List.sum_nil] at hm
  exact ⟨x, y, z, k, m, n, rfl, h1, h2, h3, by omega, by omega, by omega⟩
theorem vStepsS {d : D} {m : Nat} (h : TyV T 29 d m) (hm : m ≤ 1048576) : ∃ l : List Step, d = .sl (l.map Step.cells) ∧ l.length ≤ 1048576 ∧ (∀ s ∈ l, s.ok) ∧ l.length ≤ m := by
  obtain ⟨n, cs, h1, h2⟩ := h
  obtain ⟨l, rfl, hl⟩ := h1.sl_ shp29 Step.cells (OkB Step.ok) (fun n' ds m hn h => rdStep n' ds m h)
  exact ⟨l, by rw [h2]; rfl, (hl.ok hm).1, (hl.ok hm).2, by have := hl.len; omega⟩
theorem onceContract (H : Type) (enc : TypeId × Value → H) (W : World) (base : Nat) (args : Array Value) (ds gs : List (DataW H)) (before : List MemPlace)
    (hval : ∀ (j : Nat) t v, Tryz.f5.params[j]? = some t → args[j]? = some v → Value.okWide Tryz.prog W .any base t v)
    (hW : DataW.Whole enc Tryz.prog Tryz.f5.params.toList Rows.typingOnceSpec.vars false W args.toList ds gs before) (hk : Rows.uptoSmall H (ds ++ gs) = true) (hsh : W.ShapedOpen Tryz.prog) :
    Calls Tryz.prog 5 args W fun e W' => ∃ v, e = .returned v ∧ Rows.typingOnceSpec.post enc Tryz.prog Tryz.f5 false true false false W args v W' := by
  refine says tok closed_all laid (fn := Tryz.f5) (tb := 4) rfl Tryz.underlying4 (by kernel_rfl) (fun ds ms h hm => ?_) rfl (fun xs hx => ?_) (glob hsh) hval hW hk
  · obtain ⟨x, y, z, k, m, n, rfl, h1, h2, h3, hk, hm, hs⟩ := a3s (a := 29) (b := 29) (c := 3) h hm
    obtain ⟨l, rfl, hl, hok, hl'⟩ := vStepsS h1 hk
    obtain ⟨e, rfl, he, hoke, he'⟩ := vStepsS h2 hm
    obtain ⟨i, rfl⟩ := vInt h3
    exact TypingOnce_meets l e i hl hok he hoke (by omega)
  · match xs, hx with
    | [x, y, z], _ => rfl

theorem onceLifted (os : Os) (started : os.Started) (H : Type) (enc : TypeId × Value → H) (F : Stop.Interp) :
    ReturnsInHanded {} Tryz.checked os 5 .any ((Rows.OpenSpec.upto Rows.typingOnceSpec).pre6 enc Tryz.prog Tryz.f5 Rows.typingOnceUptoRow.domain false) (((Rows.OpenSpec.upto Rows.typingOnceSpec).at F).post enc Tryz.prog Tryz.f5 false true false false) := by
  refine returnsInHanded_of_cond_shaped (C := Tryz.checked) (s := Rows.OpenSpec.upto Rows.typingOnceSpec) (k := Rows.uptoSmall) rfl own started (by kernel_rfl) Tryz.func5
    (OpenSpec.witness (enc := enc) (C := Tryz.checked) (s := Rows.OpenSpec.upto Rows.typingOnceSpec) (k := Rows.uptoSmall) rfl false
      ⟨#[], #[.slice none 0 0, .slice none 0 0, .int .i64 0], []⟩ 8 (by kernel_rfl) (by kernel_rfl) (by kernel_rfl)
      (x := ([.nil, .nil, .lit (.int .i64 0)], [], [])) (by kernel_rfl) rfl (by kernel_rfl)) ?_
  intro W base args ds gs before hval hW hk hsh
  exact onceContract H enc W base args ds gs before hval hW hk hsh

theorem onceOver : Rows.typingOnceUptoRow.holds Tryz.pinned (Rows.OpenSpec.upto Rows.typingOnceSpec) :=
  OpenClaim.holds_of_cond 5 Tryz.f5 rfl rfl rfl rfl rfl rfl rfl ⟨rfl, rfl, rfl, rfl, rfl⟩ rfl rfl rfl rfl rfl (by kernel_rfl) Tryz.func5 (by kernel_rfl)
    (of_decide_eq_true (by kernel_rfl)) (by unfold Func.isWrapper; first | (rw [if_pos (by decide +kernel)]; kernel_rfl) | (rw [if_neg (by decide +kernel)]; exact ⟨rfl, rfl⟩))
    (fun os started H enc _ F => onceLifted os started H enc F)

theorem onceProved : Rows.TypingOnceUptoSaid := onceOver
#print axioms onceProved
end Go.Proofs.YtiejhmfeppflaaaGreat.TypingO
