/- stopwatchlaw06.SyntaxBehind: true at every input that holds at most 1048576 values; the listed tables are tied to the text. -/
import Derived.Test.YtaopegkpjhkooaaGreatDoorEk
import Derived.Test.YtaopegkpjhkooaaGreatDoorEo
namespace Go.Proofs.YtaopegkpjhkooaaGreatDoor.SyntaxBehind
open Go Go.RowKit Go.ChangeShapes Dx
set_option maxRecDepth 100000
set_option linter.unusedVariables false

theorem contract (H : Type) (enc : TypeId × Value -> H) (W : World) (base : Nat) (args : Array Value) (ds gs : List (DataW H)) (before : List MemPlace)
    (hval : ∀ (j : Nat) t v,Tryz.f7.params[j]? = some t -> args[j]? = some v -> Value.okWide Tryz.prog W .any base t v)
    (hW : DataW.Whole enc Tryz.prog Tryz.f7.params.toList Rows.syntaxBehindSpec.vars false W args.toList ds gs before) (hk : Rows.uptoSmall H (ds ++ gs) = true) (hL : laidMetH Tryz.prog Rows.syntaxBehindRow.laid W) (hsh : W.ShapedOpen Tryz.prog) :
    Calls Tryz.prog 7 args W λ e W'=>∃ v,e = .returned v /\ Rows.syntaxBehindSpec.post enc Tryz.prog Tryz.f7 false true false false W args v W':=by
  refine says tok a7L a9j (fn:=Tryz.f7) (tb:=4) rfl Tryz.underlying4 (by kernel_rfl) (λ ds ms h hm=>?_) rfl (λ xs hx=>?_) (a8L hL (a2W hL) hsh) hval hW hk (a8M (a2W hL))
  . have h : Q6 T [35,35] ds ms:=h
    obtain ⟨x0,xs,k0,ms,rfl,rfl,h0,h⟩:=a6t h
    obtain ⟨x1,xs,k1,ms,rfl,rfl,h1,h⟩:=a6t h
    obtain ⟨rfl,rfl⟩:=b1x h
    simp only [List.sum_cons,List.sum_nil] at hm
    obtain ⟨v0,rfl,g0⟩:=b1A h0
    obtain ⟨v1,rfl,g1⟩:=b1A h1
    refine Meets.vac ⟨Tryz.f7,_,Tryz.func7,rfl,by kernel_rfl⟩ (i:=0) rfl λ hr0=>?_
    obtain ⟨b0,e0,q0⟩:=a8Q hr0
    rw [e0]
    refine Meets.vac ⟨Tryz.f7,_,Tryz.func7,rfl,by kernel_rfl⟩ (i:=1) rfl λ hr1=>?_
    obtain ⟨b1,e1,q1⟩:=a8Q hr1
    rw [e1]
    exact LBehind_meets b0 b1 (by omega) (by omega)
  . match xs,hx with
    | [x0,x1],_=>rfl

theorem lifted (os : Os) (started : os.Started) (H : Type) (enc : TypeId × Value -> H) (F : Stop.Interp) :
    ReturnsInHanded {} Tryz.checked os 7 .any ((Rows.OpenSpec.upto Rows.syntaxBehindSpec).preRow enc Tryz.prog Tryz.f7 Rows.syntaxBehindUptoRow.domain false Rows.syntaxBehindUptoRow.laid) (((Rows.OpenSpec.upto Rows.syntaxBehindSpec).at F).post enc Tryz.prog Tryz.f7 false true false false):=by
  refine returnsInHanded_of_row (C:=Tryz.checked) (s:=Rows.OpenSpec.upto Rows.syntaxBehindSpec) a9U started (by kernel_rfl) Tryz.func7
    (b1S (enc:=enc) (C:=Tryz.checked) false (World.laidAll Tryz.prog os Rows.syntaxBehindRow.laid) #[.slice none 0 0,.slice none 0 0] (World.laidAll_os _ _ _) b0S (by kernel_rfl)
      (OpenSpec.preRow_of_cond 8 (x:=([.nil,.nil],[],[])) (by kernel_rfl) (by kernel_rfl) (λ k hk=>by cases hk; kernel_rfl) (by kernel_rfl) (laidMet_laidAll _ a9m a9n))) ?_
  intro W base args ds gs before hval hW _ hcond _ hL hsh _
  exact contract H enc W base args ds gs before hval hW (hcond _ rfl) hL hsh

theorem over : Rows.SyntaxBehindUptoSaid :=
  OpenClaim.holds_of_cond 7 Tryz.f7 rfl rfl rfl rfl rfl rfl rfl ⟨rfl,rfl,rfl,rfl,rfl⟩ rfl rfl rfl rfl rfl (by kernel_rfl) Tryz.func7 (by kernel_rfl)
    (of_decide_eq_true (by kernel_rfl)) (by unfold Func.isWrapper; first | (rw [if_pos (by decide +kernel)]; kernel_rfl) | (rw [if_neg (by decide +kernel)]; exact ⟨rfl,rfl⟩))
    (λ os started H enc _ F=>by rw [OpenClaim.pre_eq_preRow]; exact lifted os started H enc F)

theorem plain (f : FuncId) (fn : Func) (hf : Tryz.pinned.checked.prog.funcNamed "stopwatch/stopwatchlaw06.SyntaxBehind" = some f) (hfn : Tryz.pinned.checked.prog.funcs[f]? = some fn) :
    true = Tryz.pinned.checked.prog.looks [] /\ ∀ (j : Nat) t,fn.params[j]? = some t -> Tryz.pinned.checked.prog.wantsStandIn t = false:=by
  obtain rfl : f = 7 := Option.some.inj ((show Tryz.prog.funcNamed "stopwatch/stopwatchlaw06.SyntaxBehind" = some 7 by kernel_rfl).symm.trans hf) |>.symm
  obtain rfl : fn = Tryz.f7:=(Option.some.inj (Tryz.func7.symm.trans hfn)).symm
  refine ⟨by kernel_rfl,λ j t ht=>?_⟩
  have hm : t ∈ Tryz.f7.params.toList:=by simpa using Array.mem_of_getElem? ht
  have hall : (Tryz.f7.params.toList.all λ u=>!Tryz.prog.wantsStandIn u) = true:=by kernel_rfl
  exact (show Tryz.prog.wantsStandIn t = false by simpa using List.all_eq_true.1 hall t hm)

theorem proved : Rows.SyntaxBehindUptoCardSaid :=
  Claim7.holds_tied_plain_at .later [] _ _ _ _ over (λ _ h=>by cases h) (by kernel_rfl) (λ _ h=>by cases h) syntaxBehindUpto_row_tie rfl ⟨rfl,rfl⟩ (by kernel_rfl) rfl plain (by kernel_rfl)
#print axioms proved
end Go.Proofs.YtaopegkpjhkooaaGreatDoor.SyntaxBehind

