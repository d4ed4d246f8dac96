/- stopwatchlaw08.FormatTies: true at every input that holds at most 1048576 values; the listed tables are tied to the text. -/
import Derived.Test.YteillnfhkeebjaaGreatDoorTz
import Derived.Test.YteillnfhkeebjaaGreatDoorTy
set_option linter.all false
namespace Go.Proofs.YteillnfhkeebjaaGreatDoor.FormatTies
open Go Go.RowKit Go.ChangeShapes Dx
set_option maxRecDepth 100000
theorem contract (H : Type) (enc : TypeId × Value -> H) (W : World) (base : Nat) (args : Array Value) (ds gs : List (DataW H)) (before : List MemPlace)
 (hval : ∀ (j : Nat) t v,Tryz.f4.params[j]? = some t -> args[j]? = some v -> Value.okWide Tryz.prog W .any base t v)
 (hW : DataW.Whole enc Tryz.prog Tryz.f4.params.toList Rows.formatTiesSpec.vars false W args.toList ds gs before) (hk : Rows.uptoSmall H (ds ++ gs) = true) (hL : laidMetH Tryz.prog Rows.formatTiesRow.laid W) (hsh : W.ShapedOpen Tryz.prog) :
 Calls Tryz.prog 4 args W λ e W'=>∃ v,e = .returned v /\ Rows.formatTiesSpec.post enc Tryz.prog Tryz.f4 false true false false W args v W':=by
 refine says tok b6o b9s (fn:=Tryz.f4) (tb:=4) rfl Tryz.underlying4 (by kernel_rfl) (λ ds ms h hm=>?_) rfl (λ xs hx=>?_) (b8s hL (b1w hL) hsh) hval hW hk (b8t (b1w hL))
 . have h : N7 T [47,29,49] ds ms:=h
   obtain ⟨x0,xs,k0,ms,rfl,rfl,h0,h⟩:=a0a h
   obtain ⟨x1,xs,k1,ms,rfl,rfl,h1,h⟩:=a0a h
   obtain ⟨x2,xs,k2,ms,rfl,rfl,h2,h⟩:=a0a h
   obtain ⟨rfl,rfl⟩:=a8k h
   simp only [List.sum_cons,List.sum_nil] at hm
   obtain ⟨v0,rfl,g0⟩:=c4e h0 (by omega)
   obtain ⟨v1,rfl,g1,q1⟩:=c4g h1 (by omega)
   obtain ⟨v2,rfl⟩:=c4f h2
   exact b4D v0 g0 v1 g1 q1 v2
 . match xs,hx with
   | [x0,x1,x2],_=>rfl
theorem lifted (os : Os) (started : os.Started) (H : Type) (enc : TypeId × Value -> H) (F : Stop.Interp) :
 ReturnsInHanded {} Tryz.checked os 4 .any ((Rows.OpenSpec.upto Rows.formatTiesSpec).preRow enc Tryz.prog Tryz.f4 Rows.formatTiesUptoRow.domain false Rows.formatTiesUptoRow.laid) (((Rows.OpenSpec.upto Rows.formatTiesSpec).at F).post enc Tryz.prog Tryz.f4 false true false false):=by
 refine returnsInHanded_of_row (C:=Tryz.checked) (s:=Rows.OpenSpec.upto Rows.formatTiesSpec) c0V started (by kernel_rfl) Tryz.func4
  (c4U (enc:=enc) (C:=Tryz.checked) false (World.laidAll Tryz.prog os Rows.formatTiesRow.laid) #[.agg #[.int .i64 0,.int .i64 0,.int .i64 0,.slice none 0 0],.slice none 0 0,.agg #[.int .i64 0,.int .i64 0,.int .i64 0]] (World.laidAll_os _ _ _) c2l (by kernel_rfl)
    (OpenSpec.preRow_of_cond 8 (x:=([.agg [.lit (.int .i64 0),.lit (.int .i64 0),.lit (.int .i64 0),.nil],.nil,.agg [.lit (.int .i64 0),.lit (.int .i64 0),.lit (.int .i64 0)]],[],[])) (by kernel_rfl) (by kernel_rfl) (λ k hk=>by cases hk; kernel_rfl) (by kernel_rfl) (laidMet_laidAll _ b9t b9v))) ?_
 intro W base args ds gs before hval hW _ hcond _ hL hsh _
 exact contract H enc W base args ds gs before hval hW (hcond _ rfl) hL hsh
theorem over : Rows.FormatTiesUptoSaid :=
 OpenClaim.holds_of_cond 4 Tryz.f4 rfl rfl rfl rfl rfl rfl rfl ⟨rfl,rfl,rfl,rfl,rfl⟩ rfl rfl rfl rfl rfl (by kernel_rfl) Tryz.func4 (by kernel_rfl)
  (of_decide_eq_true (by kernel_rfl)) (by unfold Func.isWrapper; first | (rw [if_pos (by decide +kernel)]; kernel_rfl) | (rw [if_neg (by decide +kernel)]; exact ⟨rfl,rfl⟩))
  (λ os started H enc _ F=>by rw [OpenClaim.pre_eq_preRow]; exact lifted os started H enc F)
theorem plain (f : FuncId) (fn : Func) (hf : Tryz.pinned.checked.prog.funcNamed "stopwatch/stopwatchlaw08.FormatTies" = some f) (hfn : Tryz.pinned.checked.prog.funcs[f]? = some fn) :
 true = Tryz.pinned.checked.prog.looks [] /\ ∀ (j : Nat) t,fn.params[j]? = some t -> Tryz.pinned.checked.prog.wantsStandIn t = false:=by
 obtain rfl : f = 4 := Option.some.inj ((show Tryz.prog.funcNamed "stopwatch/stopwatchlaw08.FormatTies" = some 4 by kernel_rfl).symm.trans hf) |>.symm
 obtain rfl : fn = Tryz.f4:=(Option.some.inj (Tryz.func4.symm.trans hfn)).symm
 refine ⟨by kernel_rfl,λ j t ht=>?_⟩
 have hm : t ∈ Tryz.f4.params.toList:=by simpa using Array.mem_of_getElem? ht
 have hall : (Tryz.f4.params.toList.all λ u=>!Tryz.prog.wantsStandIn u) = true:=by kernel_rfl
 exact (show Tryz.prog.wantsStandIn t = false by simpa using List.all_eq_true.1 hall t hm)
theorem proved : Rows.FormatTiesUptoCardSaid :=
 Claim7.holds_tied_plain_at .later [] _ _ _ _ over (λ _ h=>by cases h) (by kernel_rfl) (λ _ h=>by cases h) formatTiesUpto_row_tie rfl ⟨rfl,rfl⟩ (by kernel_rfl) rfl plain (by kernel_rfl)
#print axioms proved
end Go.Proofs.YteillnfhkeebjaaGreatDoor.FormatTies
