/- A LAW OF TREES, a tree applies what the tie rule applies: true at every input that holds at most 1048576 values. -/
import Derived.Test.YtacclfgmgphljaaNj
import Derived.WalkKit
import Derived.ProofKit
import Derived.Test.YtacclfgmgphljaaNo
set_option linter.all false
namespace Go.Proofs.Ytacclfgmgphljaa.TreesMeaning
open Go Go.RowKit Go.ChangeShapes Dx
set_option maxRecDepth 100000
theorem own : ownKnob Try.prog.godebug = none := by kernel_rfl
theorem laid : laidOutB Try.prog = true := by kernel_rfl
theorem glob {W : World} (h : W.ShapedOpen Try.prog) : Glob (V0 W) := True.intro
theorem contract (H : Type) (enc : TypeId × Value → H) (W : World) (base : Nat) (args : Array Value) (ds gs : List (DataW H)) (before : List MemPlace)
 (hval : ∀ (j : Nat) t v, Try.f5.params[j]? = some t → args[j]? = some v → Value.okWide Try.prog W .any base t v)
 (hW : DataW.Whole enc Try.prog Try.f5.params.toList Rows.treesMeaningSpec.vars false W args.toList ds gs before) (hk : Rows.uptoSmall H (ds ++ gs) = true) (hsh : W.ShapedOpen Try.prog) :
 Calls Try.prog 5 args W fun e W' => ∃ v, e = .returned v ∧ Rows.treesMeaningSpec.post enc Try.prog Try.f5 false true false false W args v W' := by
 refine says tok closedC laid (fn := Try.f5) (tb := 4) rfl Try.underlying4 (by kernel_rfl) (fun ds ms h hm => ?_) rfl (fun xs hx => ?_) (glob hsh) hval hW hk
 · have h : TyVs T [41, 3, 3] ds ms := h
   obtain ⟨x0, xs, k0, ms, rfl, rfl, h0, h⟩ := tyVs_cons h
   obtain ⟨x1, xs, k1, ms, rfl, rfl, h1, h⟩ := tyVs_cons h
   obtain ⟨x2, xs, k2, ms, rfl, rfl, h2, h⟩ := tyVs_cons h
   obtain ⟨rfl, rfl⟩ := tyVs_nil h
   simp only [List.sum_cons, List.sum_nil] at hm
   obtain ⟨v0, rfl, g0, f0⟩ := vStepsM h0 (by omega)
   obtain ⟨v1, rfl⟩ := vInt h1
   obtain ⟨v2, rfl⟩ := vInt h2
   exact Meaning_meets v0 (by omega) f0 v1 v2
 · match xs, hx with
   | [x0, x1, x2], _ => rfl
theorem lifted (os : Os) (started : os.Started) (H : Type) (enc : TypeId × Value → H) (F : Stop.Interp) :
 ReturnsInHanded {} Try.checked os 5 .any ((Rows.OpenSpec.upto Rows.treesMeaningSpec).pre6 enc Try.prog Try.f5 Rows.treesMeaningUptoRow.domain false) (((Rows.OpenSpec.upto Rows.treesMeaningSpec).at F).post enc Try.prog Try.f5 false true false false) := by
 refine returnsInHanded_of_cond_shaped (C := Try.checked) (s := Rows.OpenSpec.upto Rows.treesMeaningSpec) (k := Rows.uptoSmall) rfl own started (by kernel_rfl) Try.func5
  (OpenSpec.witness (enc := enc) (C := Try.checked) (s := Rows.OpenSpec.upto Rows.treesMeaningSpec) (k := Rows.uptoSmall) rfl false
    ⟨#[], #[.slice none 0 0, .int .i64 0, .int .i64 0], []⟩ 8 (by kernel_rfl) (by kernel_rfl) (by kernel_rfl)
    (x := ([.nil, .lit (.int .i64 0), .lit (.int .i64 0)], [], [])) (by kernel_rfl) rfl (by kernel_rfl)) ?_
 intro W base args ds gs before hval hW hk hsh
 exact contract H enc W base args ds gs before hval hW hk hsh
theorem over : Rows.treesMeaningUptoRow.holds Try.pinned (Rows.OpenSpec.upto Rows.treesMeaningSpec) :=
 OpenClaim.holds_of_cond 5 Try.f5 rfl rfl rfl rfl rfl rfl rfl ⟨rfl, rfl, rfl, rfl, rfl⟩ rfl rfl rfl rfl rfl (by kernel_rfl) Try.func5 (by kernel_rfl)
  (of_decide_eq_true (by kernel_rfl)) (by unfold Func.isWrapper; first | (rw [if_pos (by decide +kernel)]; kernel_rfl) | (rw [if_neg (by decide +kernel)]; exact ⟨rfl, rfl⟩))
  (fun os started H enc _ F => lifted os started H enc F)
theorem proved : Rows.TreesMeaningUptoSaid := over
#print axioms proved
end Go.Proofs.Ytacclfgmgphljaa.TreesMeaning
