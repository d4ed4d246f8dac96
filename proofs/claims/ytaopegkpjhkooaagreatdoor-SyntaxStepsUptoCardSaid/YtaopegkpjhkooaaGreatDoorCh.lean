/- stopwatchlaw06.SyntaxSteps: true at every input that holds at most 1048576 values; the listed tables are tied to the text. -/
import Derived.Test.YtaopegkpjhkooaaGreatDoorCb
import Derived.Test.YtaopegkpjhkooaaGreatDoorCg
set_option linter.all false
namespace Go.Proofs.YtaopegkpjhkooaaGreatDoor.SyntaxSteps
open Go Go.RowKit Go.ChangeShapes Dx
set_option maxRecDepth 100000
theorem contract (H : Type) (enc : TypeId × Value → H) (W : World) (base : Nat) (args : Array Value) (ds gs : List (DataW H)) (before : List MemPlace)
 (hval : ∀ (j : Nat) t v, Tryz.f4.params[j]? = some t → args[j]? = some v → Value.okWide Tryz.prog W .any base t v)
 (hW : DataW.Whole enc Tryz.prog Tryz.f4.params.toList Rows.syntaxStepsSpec.vars false W args.toList ds gs before) (hk : Rows.uptoSmall H (ds ++ gs) = true) (hL : laidMetH Tryz.prog Rows.syntaxStepsRow.laid W) (hsh : W.ShapedOpen Tryz.prog) :
 Calls Tryz.prog 4 args W fun e W' => ∃ v, e = .returned v ∧ Rows.syntaxStepsSpec.post enc Tryz.prog Tryz.f4 false true false false W args v W' := by
 refine says tok closedS laid8 (fn := Tryz.f4) (tb := 4) rfl Tryz.underlying4 (by kernel_rfl) (fun ds ms h hm => ?_) rfl (fun xs hx => ?_) (glob8 hL (laid_pow hL) hsh) hval hW hk (globW8 (laid_pow hL))
 · have h : TyVs T [38] ds ms := h
   obtain ⟨x0, xs, k0, ms, rfl, rfl, h0, h⟩ := tyVs_cons h
   obtain ⟨rfl, rfl⟩ := tyVs_nil h
   simp only [List.sum_cons, List.sum_nil] at hm
   obtain ⟨v0, rfl, g0, q0⟩ := vSteps h0 (by omega)
   exact LSteps_meets v0 g0 q0
 · match xs, hx with
   | [x0], _ => rfl
theorem lifted (os : Os) (started : os.Started) (H : Type) (enc : TypeId × Value → H) (F : Stop.Interp) :
 ReturnsInHanded {} Tryz.checked os 4 .any ((Rows.OpenSpec.upto Rows.syntaxStepsSpec).preRow enc Tryz.prog Tryz.f4 Rows.syntaxStepsUptoRow.domain false Rows.syntaxStepsUptoRow.laid) (((Rows.OpenSpec.upto Rows.syntaxStepsSpec).at F).post enc Tryz.prog Tryz.f4 false true false false) := by
 refine returnsInHanded_of_row (C := Tryz.checked) (s := Rows.OpenSpec.upto Rows.syntaxStepsSpec) own8 started (by kernel_rfl) Tryz.func4
  (witness_lay (enc := enc) (C := Tryz.checked) false (World.laidAll Tryz.prog os Rows.syntaxStepsRow.laid) #[.slice none 0 0] (World.laidAll_os _ _ _) shape8 (by kernel_rfl)
    (OpenSpec.preRow_of_cond 8 (x := ([.nil], [], [])) (by kernel_rfl) (by kernel_rfl) (fun k hk => by cases hk; kernel_rfl) (by kernel_rfl) (laidMet_laidAll _ lay8a lay8b))) ?_
 intro W base args ds gs before hval hW _ hcond _ hL hsh _
 exact contract H enc W base args ds gs before hval hW (hcond _ rfl) hL hsh
theorem over : Rows.SyntaxStepsUptoSaid :=
 OpenClaim.holds_of_cond 4 Tryz.f4 rfl rfl rfl rfl rfl rfl rfl ⟨rfl, rfl, rfl, rfl, rfl⟩ rfl rfl rfl rfl rfl (by kernel_rfl) Tryz.func4 (by kernel_rfl)
  (of_decide_eq_true (by kernel_rfl)) (by unfold Func.isWrapper; first | (rw [if_pos (by decide +kernel)]; kernel_rfl) | (rw [if_neg (by decide +kernel)]; exact ⟨rfl, rfl⟩))
  (fun os started H enc _ F => by rw [OpenClaim.pre_eq_preRow]; exact lifted os started H enc F)
theorem plain (f : FuncId) (fn : Func) (hf : Tryz.pinned.checked.prog.funcNamed "stopwatch/stopwatchlaw06.SyntaxSteps" = some f) (hfn : Tryz.pinned.checked.prog.funcs[f]? = some fn) :
 true = Tryz.pinned.checked.prog.looks [] ∧ ∀ (j : Nat) t, fn.params[j]? = some t → Tryz.pinned.checked.prog.wantsStandIn t = false := by
 obtain rfl : f = 4 := Option.some.inj ((show Tryz.prog.funcNamed "stopwatch/stopwatchlaw06.SyntaxSteps" = some 4 by kernel_rfl).symm.trans hf) |>.symm
 obtain rfl : fn = Tryz.f4 := (Option.some.inj (Tryz.func4.symm.trans hfn)).symm
 refine ⟨by kernel_rfl, fun j t ht => ?_⟩
 have hm : t ∈ Tryz.f4.params.toList := by simpa using Array.mem_of_getElem? ht
 have hall : (Tryz.f4.params.toList.all fun u => !Tryz.prog.wantsStandIn u) = true := by kernel_rfl
 exact (show Tryz.prog.wantsStandIn t = false by simpa using List.all_eq_true.1 hall t hm)
/-- THE CARD -/
theorem proved : Rows.SyntaxStepsUptoCardSaid :=
 Claim7.holds_tied_plain_at .later [] _ _ _ _ over (fun _ h => by cases h) (by kernel_rfl) (fun _ h => by cases h) syntaxStepsUpto_row_tie rfl ⟨rfl, rfl⟩ (by kernel_rfl) rfl plain (by kernel_rfl)
#print axioms proved
end Go.Proofs.YtaopegkpjhkooaaGreatDoor.SyntaxSteps
