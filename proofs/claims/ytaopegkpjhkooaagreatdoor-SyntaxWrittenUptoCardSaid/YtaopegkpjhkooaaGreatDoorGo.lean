/- Courses that are written are read again: true at every input that holds at most 1048576 values; the listed tables are tied to the text. -/
import Derived.Test.YtaopegkpjhkooaaGreatDoorGn
import Derived.Test.YtaopegkpjhkooaaGreatDoorGm
set_option linter.all false
namespace Go.Proofs.YtaopegkpjhkooaaGreatDoor.SyntaxWritten
open Go Go.RowKit Go.ChangeShapes Dx
set_option maxRecDepth 100000
theorem contract (H : Type) (enc : TypeId × Value -> H) (W : World) (base : Nat) (args : Array Value) (ds gs : List (DataW H)) (before : List MemPlace)
 (hval : ∀ (j : Nat) t v,Tryz.f5.params[j]? = some t -> args[j]? = some v -> Value.okWide Tryz.prog W .any base t v)
 (hW : DataW.Whole enc Tryz.prog Tryz.f5.params.toList Rows.syntaxWrittenSpec.vars false W args.toList ds gs before) (hk : Rows.uptoSmall H (ds ++ gs) = true) (hL : laidMetH Tryz.prog Rows.syntaxWrittenRow.laid W) (hsh : W.ShapedOpen Tryz.prog) :
 Calls Tryz.prog 5 args W λ e W'=>∃ v,e = .returned v /\ Rows.syntaxWrittenSpec.post enc Tryz.prog Tryz.f5 false true false false W args v W':=by
 refine says tok b5R b8q (fn:=Tryz.f5) (tb:=4) rfl Tryz.underlying4 (by kernel_rfl) (λ ds ms h hm=>?_) rfl (λ xs hx=>?_) (b7I hL (b1E hL) hsh) hval hW hk (b7J (b1E hL))
 . have h : a0X T [55] ds ms:=h
   obtain ⟨x0,xs,k0,ms,rfl,rfl,h0,h⟩:=c3A h
   obtain ⟨rfl,rfl⟩:=c3B h
   simp only [List.sum_cons,List.sum_nil] at hm
   obtain ⟨v0,rfl,g0,q0⟩:=c3K h0 (by omega)
   exact b4H v0 g0 q0
 . match xs,hx with
   | [x0],_=>rfl
theorem lifted (os : Os) (started : os.Started) (H : Type) (enc : TypeId × Value -> H) (F : Stop.Interp) :
 ReturnsInHanded {} Tryz.checked os 5 .any ((Rows.OpenSpec.upto Rows.syntaxWrittenSpec).preRow enc Tryz.prog Tryz.f5 Rows.syntaxWrittenUptoRow.domain false Rows.syntaxWrittenUptoRow.laid) (((Rows.OpenSpec.upto Rows.syntaxWrittenSpec).at F).post enc Tryz.prog Tryz.f5 false true false false):=by
 refine returnsInHanded_of_row (C:=Tryz.checked) (s:=Rows.OpenSpec.upto Rows.syntaxWrittenSpec) b9N started (by kernel_rfl) Tryz.func5
  (c4z (enc:=enc) (C:=Tryz.checked) false (World.laidAll Tryz.prog os Rows.syntaxWrittenRow.laid) #[.agg #[.string ⟨#[]⟩,.slice none 0 0,.slice none 0 0,.slice none 0 0,.slice none 0 0,.slice none 0 0,.slice none 0 0,.slice none 0 0,.slice none 0 0,.int .i64 0,.int .i64 0,.int .i64 0,.int .i64 0,.int .i64 0,.int .i64 0,.int .i64 0]] (World.laidAll_os _ _ _) c1x (by kernel_rfl)
    (OpenSpec.preRow_of_cond 8 (x:=([.agg [.lit (.string []),.nil,.nil,.nil,.nil,.nil,.nil,.nil,.nil,.agg [.lit (.int .i64 0),.lit (.int .i64 0),.lit (.int .i64 0),.lit (.int .i64 0),.lit (.int .i64 0)],.lit (.int .i64 0),.lit (.int .i64 0)]],[],[])) (by kernel_rfl) (by kernel_rfl) (λ k hk=>by cases hk; kernel_rfl) (by kernel_rfl) (laidMet_laidAll _ b8v b8w))) ?_
 intro W base args ds gs before hval hW _ hcond _ hL hsh _
 exact contract H enc W base args ds gs before hval hW (hcond _ rfl) hL hsh
theorem over : Rows.SyntaxWrittenUptoSaid :=
 OpenClaim.holds_of_cond 5 Tryz.f5 rfl rfl rfl rfl rfl rfl rfl ⟨rfl,rfl,rfl,rfl,rfl⟩ rfl rfl rfl rfl rfl (by kernel_rfl) Tryz.func5 (by kernel_rfl)
  (of_decide_eq_true (by kernel_rfl)) (by unfold Func.isWrapper; first | (rw [if_pos (by decide +kernel)]; kernel_rfl) | (rw [if_neg (by decide +kernel)]; exact ⟨rfl,rfl⟩))
  (λ os started H enc _ F=>by rw [OpenClaim.pre_eq_preRow]; exact lifted os started H enc F)
theorem plain (f : FuncId) (fn : Func) (hf : Tryz.pinned.checked.prog.funcNamed "stopwatch/stopwatchlaw06.SyntaxWritten" = some f) (hfn : Tryz.pinned.checked.prog.funcs[f]? = some fn) :
 true = Tryz.pinned.checked.prog.looks [] /\ ∀ (j : Nat) t,fn.params[j]? = some t -> Tryz.pinned.checked.prog.wantsStandIn t = false:=by
 obtain rfl : f = 5 := Option.some.inj ((show Tryz.prog.funcNamed "stopwatch/stopwatchlaw06.SyntaxWritten" = some 5 by kernel_rfl).symm.trans hf) |>.symm
 obtain rfl : fn = Tryz.f5:=(Option.some.inj (Tryz.func5.symm.trans hfn)).symm
 refine ⟨by kernel_rfl,λ j t ht=>?_⟩
 have hm : t ∈ Tryz.f5.params.toList:=by simpa using Array.mem_of_getElem? ht
 have hall : (Tryz.f5.params.toList.all λ u=>!Tryz.prog.wantsStandIn u) = true:=by kernel_rfl
 exact (show Tryz.prog.wantsStandIn t = false by simpa using List.all_eq_true.1 hall t hm)
theorem proved : Rows.SyntaxWrittenUptoCardSaid :=
 Claim7.holds_tied_plain_at .later [] _ _ _ _ over (λ _ h=>by cases h) (by kernel_rfl) (λ _ h=>by cases h) syntaxWrittenUpto_row_tie rfl ⟨rfl,rfl⟩ (by kernel_rfl) rfl plain (by kernel_rfl)
#print axioms proved
end Go.Proofs.YtaopegkpjhkooaaGreatDoor.SyntaxWritten
