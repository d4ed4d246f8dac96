/- The tokens of any text can be joined: true at every input that holds at most 1048576 values; the listed tables are tied to the text. -/
import Derived.Test.YtedjnaggkakphaaGreatDoorDy
import Derived.Test.YtedjnaggkakphaaGreatDoorEm
set_option linter.all false
namespace Go.Proofs.YtedjnaggkakphaaGreatDoor.LexisAgain
open Go Go.RowKit Go.ChangeShapes Dx
set_option maxRecDepth 100000
theorem contract (H : Type) (enc : TypeId × Value → H) (W : World) (base : Nat) (args : Array Value) (ds gs : List (DataW H)) (before : List MemPlace)
 (hval : ∀ (j : Nat) t v, Tryz.f6.params[j]? = some t → args[j]? = some v → Value.okWide Tryz.prog W .any base t v)
 (hW : DataW.Whole enc Tryz.prog Tryz.f6.params.toList Rows.lexisAgainSpec.vars false W args.toList ds gs before) (hk : Rows.uptoSmall H (ds ++ gs) = true) (hL : laidMetH Tryz.prog Rows.lexisAgainRow.laid W) (hsh : W.ShapedOpen Tryz.prog) :
 Calls Tryz.prog 6 args W fun e W' => ∃ v, e = .returned v ∧ Rows.lexisAgainSpec.post enc Tryz.prog Tryz.f6 false true false false W args v W' := by
 refine says tok closedT laid8 (fn := Tryz.f6) (tb := 4) rfl Tryz.underlying4 (by kernel_rfl) (fun ds ms h hm => ?_) rfl (fun xs hx => ?_) (glob8 (laid_pow hL) hsh) hval hW hk (globW8 (laid_pow hL))
 · have h : TyVs T [22] ds ms := h
   obtain ⟨x0, xs, k0, ms, rfl, rfl, h0, h⟩ := tyVs_cons h
   obtain ⟨rfl, rfl⟩ := tyVs_nil h
   simp only [List.sum_cons, List.sum_nil] at hm
   obtain ⟨v0, rfl, g0⟩ := vInts h0
   refine Meets.vac ⟨Tryz.f6, _, Tryz.func6, rfl, by kernel_rfl⟩ (i := 0) rfl fun hr0 => ?_
   obtain ⟨b0, e0, q0⟩ := ints_bytes hr0
   rw [e0]
   exact LAgain_meets b0 (by omega)
 · match xs, hx with
   | [x0], _ => rfl
theorem lifted (os : Os) (started : os.Started) (H : Type) (enc : TypeId × Value → H) (F : Stop.Interp) :
 ReturnsInHanded {} Tryz.checked os 6 .any ((Rows.OpenSpec.upto Rows.lexisAgainSpec).preRow enc Tryz.prog Tryz.f6 Rows.lexisAgainUptoRow.domain false Rows.lexisAgainUptoRow.laid) (((Rows.OpenSpec.upto Rows.lexisAgainSpec).at F).post enc Tryz.prog Tryz.f6 false true false false) := by
 refine returnsInHanded_of_row (C := Tryz.checked) (s := Rows.OpenSpec.upto Rows.lexisAgainSpec) own8 started (by kernel_rfl) Tryz.func6
  (witness_lay (enc := enc) (C := Tryz.checked) false (World.laidAll Tryz.prog os Rows.lexisAgainRow.laid) #[.slice none 0 0] (World.laidAll_os _ _ _) shape8 (by kernel_rfl)
    (OpenSpec.preRow_of_cond 8 (x := ([.nil], [], [])) (by kernel_rfl) (by kernel_rfl) (fun k hk => by cases hk; kernel_rfl) (by kernel_rfl) (laidMet_laidAll _ lay8a lay8b))) ?_
 intro W base args ds gs before hval hW _ hcond _ hL hsh _
 exact contract H enc W base args ds gs before hval hW (hcond _ rfl) hL hsh
theorem over : Rows.LexisAgainUptoSaid :=
 OpenClaim.holds_of_cond 6 Tryz.f6 rfl rfl rfl rfl rfl rfl rfl ⟨rfl, rfl, rfl, rfl, rfl⟩ rfl rfl rfl rfl rfl (by kernel_rfl) Tryz.func6 (by kernel_rfl)
  (of_decide_eq_true (by kernel_rfl)) (by unfold Func.isWrapper; first | (rw [if_pos (by decide +kernel)]; kernel_rfl) | (rw [if_neg (by decide +kernel)]; exact ⟨rfl, rfl⟩))
  (fun os started H enc _ F => by rw [OpenClaim.pre_eq_preRow]; exact lifted os started H enc F)
theorem plain (f : FuncId) (fn : Func) (hf : Tryz.pinned.checked.prog.funcNamed "stopwatch/stopwatchlaw05.LexisAgain" = some f) (hfn : Tryz.pinned.checked.prog.funcs[f]? = some fn) :
 true = Tryz.pinned.checked.prog.looks [] ∧ ∀ (j : Nat) t, fn.params[j]? = some t → Tryz.pinned.checked.prog.wantsStandIn t = false := by
 obtain rfl : f = 6 := Option.some.inj ((show Tryz.prog.funcNamed "stopwatch/stopwatchlaw05.LexisAgain" = some 6 by kernel_rfl).symm.trans hf) |>.symm
 obtain rfl : fn = Tryz.f6 := (Option.some.inj (Tryz.func6.symm.trans hfn)).symm
 refine ⟨by kernel_rfl, fun j t ht => ?_⟩
 have hm : t ∈ Tryz.f6.params.toList := by simpa using Array.mem_of_getElem? ht
 have hall : (Tryz.f6.params.toList.all fun u => !Tryz.prog.wantsStandIn u) = true := by kernel_rfl
 exact (show Tryz.prog.wantsStandIn t = false by simpa using List.all_eq_true.1 hall t hm)
/-- THE CARD -/
theorem proved : Rows.LexisAgainUptoCardSaid :=
 Claim7.holds_tied_plain_at .later [] _ _ _ _ over (fun _ h => by cases h) (by kernel_rfl) (fun _ h => by cases h) lexisAgainUpto_row_tie rfl ⟨rfl, rfl⟩ (by kernel_rfl) rfl plain (by kernel_rfl)
#print axioms proved
end Go.Proofs.YtedjnaggkakphaaGreatDoor.LexisAgain
