/- A LAW OF TREES, the code's Check and Same are the reference's: true at every input that holds at most 1048576 values. -/
import Derived.Test.YtacclfgmgphljaaLj
import Derived.WalkKit
import Derived.ProofKit
set_option linter.all false
namespace Go.Proofs.Ytacclfgmgphljaa.TreesCheckSpec
open Go Go.RowKit Go.ChangeShapes Dx
set_option maxRecDepth 100000
theorem own : ownKnob Try.prog.godebug = none := by kernel_rfl
theorem laid : laidOutB Try.prog = true := by kernel_rfl
theorem glob {W : World} (h : W.ShapedOpen Try.prog) : Glob (V0 W) := True.intro
theorem contract (H : Type) (enc : TypeId × Value → H) (W : World) (base : Nat) (args : Array Value) (ds gs : List (DataW H)) (before : List MemPlace)
 (hval : ∀ (j : Nat) t v, Try.f3.params[j]? = some t → args[j]? = some v → Value.okWide Try.prog W .any base t v)
 (hW : DataW.Whole enc Try.prog Try.f3.params.toList Rows.treesCheckSpecSpec.vars false W args.toList ds gs before) (hk : Rows.uptoSmall H (ds ++ gs) = true) (hsh : W.ShapedOpen Try.prog) :
 Calls Try.prog 3 args W fun e W' => ∃ v, e = .returned v ∧ Rows.treesCheckSpecSpec.post enc Try.prog Try.f3 false true false false W args v W' := by
 refine says tok closedC laid (fn := Try.f3) (tb := 4) rfl Try.underlying4 (by kernel_rfl) (fun ds ms h hm => ?_) rfl (fun xs hx => ?_) (glob hsh) hval hW hk
 · have h : TyVs T [24, 24] ds ms := h
   obtain ⟨x0, xs, k0, ms, rfl, rfl, h0, h⟩ := tyVs_cons h
   obtain ⟨x1, xs, k1, ms, rfl, rfl, h1, h⟩ := tyVs_cons h
   obtain ⟨rfl, rfl⟩ := tyVs_nil h
   simp only [List.sum_cons, List.sum_nil] at hm
   obtain ⟨v0, rfl⟩ := vTree h0
   obtain ⟨v1, rfl⟩ := vTree h1
   exact CheckSpec_meets v0 v1
 · match xs, hx with
   | [x0, x1], _ => rfl
theorem lifted (os : Os) (started : os.Started) (H : Type) (enc : TypeId × Value → H) (F : Stop.Interp) :
 ReturnsInHanded {} Try.checked os 3 .any ((Rows.OpenSpec.upto Rows.treesCheckSpecSpec).pre6 enc Try.prog Try.f3 Rows.treesCheckSpecUptoRow.domain false) (((Rows.OpenSpec.upto Rows.treesCheckSpecSpec).at F).post enc Try.prog Try.f3 false true false false) := by
 refine returnsInHanded_of_cond_shaped (C := Try.checked) (s := Rows.OpenSpec.upto Rows.treesCheckSpecSpec) (k := Rows.uptoSmall) rfl own started (by kernel_rfl) Try.func3
  (OpenSpec.witness (enc := enc) (C := Try.checked) (s := Rows.OpenSpec.upto Rows.treesCheckSpecSpec) (k := Rows.uptoSmall) rfl false
    ⟨#[], #[.agg #[.slice none 0 0], .agg #[.slice none 0 0]], []⟩ 8 (by kernel_rfl) (by kernel_rfl) (by kernel_rfl)
    (x := ([.agg [.nil], .agg [.nil]], [], [])) (by kernel_rfl) rfl (by kernel_rfl)) ?_
 intro W base args ds gs before hval hW hk hsh
 exact contract H enc W base args ds gs before hval hW hk hsh
theorem over : Rows.treesCheckSpecUptoRow.holds Try.pinned (Rows.OpenSpec.upto Rows.treesCheckSpecSpec) :=
 OpenClaim.holds_of_cond 3 Try.f3 rfl rfl rfl rfl rfl rfl rfl ⟨rfl, rfl, rfl, rfl, rfl⟩ rfl rfl rfl rfl rfl (by kernel_rfl) Try.func3 (by kernel_rfl)
  (of_decide_eq_true (by kernel_rfl)) (by unfold Func.isWrapper; first | (rw [if_pos (by decide +kernel)]; kernel_rfl) | (rw [if_neg (by decide +kernel)]; exact ⟨rfl, rfl⟩))
  (fun os started H enc _ F => lifted os started H enc F)
theorem proved : Rows.TreesCheckSpecUptoSaid := over
#print axioms proved
end Go.Proofs.Ytacclfgmgphljaa.TreesCheckSpec
