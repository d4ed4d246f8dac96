/- stopwatchlaw08.FormatBack: true at every input that holds at most 1048576 values; the listed tables are tied to the text. -/
import Derived.Test.YteillnfhkeebjaaGreatDoorYa
import Derived.Test.YteillnfhkeebjaaGreatDoorXz
set_option linter.all false
namespace Go.Proofs.YteillnfhkeebjaaGreatDoor.FormatBack
open Go Go.RowKit Go.ChangeShapes Dx
set_option maxRecDepth 100000
theorem contract (H : Type) (enc : TypeId × Value -> H) (W : World) (base : Nat) (args : Array Value) (ds gs : List (DataW H)) (before : List MemPlace)
 (hval : ∀ (j : Nat) t v,Tryz.f3.params[j]? = some t -> args[j]? = some v -> Value.okWide Tryz.prog W .any base t v)
 (hW : DataW.Whole enc Tryz.prog Tryz.f3.params.toList Rows.formatBackSpec.vars false W args.toList ds gs before) (hk : Rows.uptoSmall H (ds ++ gs) = true) (hL : laidMetH Tryz.prog Rows.formatBackRow.laid W) (hsh : W.ShapedOpen Tryz.prog) :
 Calls Tryz.prog 3 args W λ e W'=>∃ v,e = .returned v /\ Rows.formatBackSpec.post enc Tryz.prog Tryz.f3 false true false false W args v W':=by
 refine says tok c4k c7V (fn:=Tryz.f3) (tb:=4) rfl Tryz.underlying4 (by kernel_rfl) (λ ds ms h hm=>?_) rfl (λ xs hx=>?_) (c6X hL (b8p hL) hsh) hval hW hk (c6Y (b8p hL))
 . have h : a2p T [33] ds ms:=h
   obtain ⟨x0,xs,k0,ms,rfl,rfl,h0,h⟩:=a8Q h
   obtain ⟨rfl,rfl⟩:=b4A h
   simp only [List.sum_cons,List.sum_nil] at hm
   obtain ⟨v0,rfl,g0⟩:=d4w h0 (by omega)
   exact c1U v0 g0
 . match xs,hx with
   | [x0],_=>rfl
theorem lifted (os : Os) (started : os.Started) (H : Type) (enc : TypeId × Value -> H) (F : Stop.Interp) :
 ReturnsInHanded {} Tryz.checked os 3 .any ((Rows.OpenSpec.upto Rows.formatBackSpec).preRow enc Tryz.prog Tryz.f3 Rows.formatBackUptoRow.domain false Rows.formatBackUptoRow.laid) (((Rows.OpenSpec.upto Rows.formatBackSpec).at F).post enc Tryz.prog Tryz.f3 false true false false):=by
 refine returnsInHanded_of_row (C:=Tryz.checked) (s:=Rows.OpenSpec.upto Rows.formatBackSpec) c9U started (by kernel_rfl) Tryz.func3
  (d5r (enc:=enc) (C:=Tryz.checked) false (World.laidAll Tryz.prog os Rows.formatBackRow.laid) #[.agg #[.string ⟨#[]⟩,.slice none 0 0,.slice none 0 0,.slice none 0 0,.slice none 0 0,.slice none 0 0,.slice none 0 0,.slice none 0 0,.slice none 0 0,.int .i64 0,.int .i64 0,.int .i64 0,.int .i64 0,.int .i64 0,.int .i64 0,.int .i64 0]] (World.laidAll_os _ _ _) d1G (by kernel_rfl)
    (OpenSpec.preRow_of_cond 8 (x:=([.agg [.lit (.string []),.nil,.nil,.nil,.nil,.nil,.nil,.nil,.nil,.agg [.lit (.int .i64 0),.lit (.int .i64 0),.lit (.int .i64 0),.lit (.int .i64 0),.lit (.int .i64 0)],.lit (.int .i64 0),.lit (.int .i64 0)]],[],[])) (by kernel_rfl) (by kernel_rfl) (λ k hk=>by cases hk; kernel_rfl) (by kernel_rfl) (laidMet_laidAll _ c7Z c8a))) ?_
 intro W base args ds gs before hval hW _ hcond _ hL hsh _
 exact contract H enc W base args ds gs before hval hW (hcond _ rfl) hL hsh
theorem facts : joinedFacts Tryz.pinned.checked.prog 3 Tryz.f3 (Rows.OpenSpec.upto Rows.formatBackSpec).bare Rows.formatBackUptoRow = true:=by kernel_rfl
theorem over : Rows.FormatBackUptoSaid :=
 OpenClaim.holds_of_cond 3 Tryz.f3 rfl rfl rfl rfl rfl rfl rfl ⟨rfl,rfl,rfl,rfl,rfl⟩ rfl rfl rfl rfl rfl (by kernel_rfl) Tryz.func3 facts
  (of_decide_eq_true (by kernel_rfl)) (by unfold Func.isWrapper; first | (rw [if_pos (by decide +kernel)]; kernel_rfl) | (rw [if_neg (by decide +kernel)]; exact ⟨rfl,rfl⟩))
  (λ os started H enc _ F=>by rw [OpenClaim.pre_eq_preRow]; exact lifted os started H enc F)
theorem plain (f : FuncId) (fn : Func) (hf : Tryz.pinned.checked.prog.funcNamed "stopwatch/stopwatchlaw08.FormatBack" = some f) (hfn : Tryz.pinned.checked.prog.funcs[f]? = some fn) :
 true = Tryz.pinned.checked.prog.looks [] /\ ∀ (j : Nat) t,fn.params[j]? = some t -> Tryz.pinned.checked.prog.wantsStandIn t = false:=by
 obtain rfl : f = 3 := Option.some.inj ((show Tryz.prog.funcNamed "stopwatch/stopwatchlaw08.FormatBack" = some 3 by kernel_rfl).symm.trans hf) |>.symm
 obtain rfl : fn = Tryz.f3:=(Option.some.inj (Tryz.func3.symm.trans hfn)).symm
 refine ⟨by kernel_rfl,λ j t ht=>?_⟩
 have hm : t ∈ Tryz.f3.params.toList:=by simpa using Array.mem_of_getElem? ht
 have hall : (Tryz.f3.params.toList.all λ u=>!Tryz.prog.wantsStandIn u) = true:=by kernel_rfl
 exact (show Tryz.prog.wantsStandIn t = false by simpa using List.all_eq_true.1 hall t hm)
theorem proved : Rows.FormatBackUptoCardSaid :=
 Claim7.holds_tied_plain_at .later [] _ _ _ _ over (λ _ h=>by cases h) (by kernel_rfl) (λ _ h=>by cases h) formatBackUpto_row_tie rfl ⟨rfl,rfl⟩ (by kernel_rfl) rfl plain (by kernel_rfl)
#print axioms proved
end Go.Proofs.YteillnfhkeebjaaGreatDoor.FormatBack
