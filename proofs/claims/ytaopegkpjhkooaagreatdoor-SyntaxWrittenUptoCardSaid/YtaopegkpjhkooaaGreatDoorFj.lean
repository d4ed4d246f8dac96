/- Functions that hand back a slice of their own. -/
import Derived.Test.YtaopegkpjhkooaaGreatDoorFi
set_option linter.all false
namespace Go.Proofs.YtaopegkpjhkooaaGreatDoor.Dx
open Go Go.RowKit
structure MeetsO (P:Program) (f:FuncId) (ds:List D) (e:TypeId) (k:Nat) (R:List (List D)->Prop):Prop where
 own:∀r,MeetsR P f (ds.map .d) [] λo O'=>∃xs,o= .ret (.own r)/\O'=[(r, .sl ⟨e,k,xs,true⟩)]/\R xs
theorem MeetsO.of {P:Program}{f:FuncId}{ds:List D}{e:TypeId}{k:Nat}{R:List (List D)->Prop}(r0:Nat)
 (h:MeetsR P f (ds.map .d) [] λo O'=>∃xs,o= .ret (.own r0)/\O'=[(r0, .sl ⟨e,k,xs,true⟩)]/\R xs):MeetsO P f ds e k R:=by
 refine⟨λr=>⟨h.fn,λγ V W xs h1 h2 h3 h4=>(h.run γ V W xs h1 h2 h3 h4).mono ?_⟩⟩
 rintro en W' ⟨γ',V',o,O',a1,a2,a3,a4,a5,a6,a7,a8,ys,rfl,rfl,hR⟩
 refine⟨C7 γ' r (γ' r0),V', .ret (.own r),_,?_,a2,a3,a4,λn b hl=>?_,λn b hl q hq=>?_,λn n' b b' hl hl' hne=>?_,λn b hl=>(by rw[o6] at hl;cases hl),ys,rfl,rfl,hR⟩
 . cases en with
   | returned v=>
     show v=(C7 γ' r (γ' r0) r).1
     rw[F8];exact a1
   |_=>exact a1
 . have h5:=a5 r0 _ (p8 ..)
   by_cases e:r=n
   . subst e;rw[p8] at hl;cases hl;rw[F8];exact h5
   . rw[j6 e,o6] at hl;cases hl
 . by_cases e:r=n
   . subst e;rw[F8] at hq;exact a6 r0 _ (p8 ..) q hq
   . rw[j6 e,o6] at hl;cases hl
 . by_cases e:r=n
   . by_cases e':r=n'
     . exact absurd (e.symm.trans e') hne
     . rw[j6 e',o6] at hl';cases hl'
   . rw[j6 e,o6] at hl;cases hl
theorem MeetsO.data {P:Program}{f:FuncId}{ds:List D}{e:TypeId}{k:Nat}{R:List (List D)->Prop}(h:MeetsO P f ds e k R):Meets P f ds λd=>∃xs,d= .sl xs/\R xs:=by
 refine⟨⟨(h.own 0).fn,λγ V W xs h1 h2 h3 h4=>((h.own 0).run γ V W xs h1 h2 h3 h4).mono ?_⟩⟩
 rintro en W' ⟨γ',V',o,O',a1,a2,a3,a4,a5,a6,a7,a8,ys,rfl,rfl,hR⟩
 refine⟨γ',V', .ret (.d (.sl ys)),[],?_,a2,a3,a4,λn b hl=>(by rw[o6] at hl;cases hl),λn b hl=>(by rw[o6] at hl;cases hl),λn n' b b' hl=>(by rw[o6] at hl;cases hl),λn b hl=>(by rw[o6] at hl;cases hl),_,rfl,rfl,ys,rfl,hR⟩
 cases en with
 | returned v=>
   have hs:=a8o (a5 0 _ (p8 ..)) rfl
   have e:v=(γ' 0).1:=a1
   show Rep V' v (.sl ys)
   rw[e];exact hs
 |_=>exact a1
end Go.Proofs.YtaopegkpjhkooaaGreatDoor.Dx
/- The executor over data: a box that a function value in it has captured (a closure that calls itself) becomes public: it reads as data unrolled to any depth. -/
namespace Go.Proofs.YtaopegkpjhkooaaGreatDoor.Dx
open Go Go.RowKit
section
variable {P:Program} {T:List (Nat×TI)} {C:Cx} {γ:Gm} {st:SSt} {V:Know} {a:Act} {W:World}
theorem L6 {Q:y8}(n:Nat){ops:Array Oper}{d:Bool}{y:Code}(h:J P C (.seq (.region n ops d) y) Q st):J P C (.seq (.region n ops d) y) Q st:=h
theorem b0A (hT:TOk P T)(cf:Cfg){x y:Code}{Q:y8}(us:List (Nat×Base))(h:match st with
 | ⟨L,O,p⟩=>K5 (us.map (·.1)++T4 x) λw=>upL w L λL'=>
   vcC P T C cf x (λe st'=>match e with| .nrm=>Rnd (X2 st' ⟨us++L',O,p⟩)| .ret=>Q .ret st'| .exit n=>Q (.exit n) st'| .pan d=>Q (.pan d) st') ⟨L,O,p⟩/\J P C y Q ⟨us++L',O,p⟩):J P C (.seq x y) Q st:=by
 refine⟨λγ V a W hr=>?_⟩
 obtain⟨L,O,p⟩:=st
 simp only at h
 rw[Y5] at h
 obtain⟨L',h⟩:=b3H _ _ h
 refine wpIn_seq (Go.wpIn_mono ((a0K hT cf x h.1).run γ V a W hr) λe a W hq=>?_)
 cases e with
 |normal=>obtain⟨γ,st,V,h1,h2⟩:=hq;exact h.2.run γ V a W (a4k h1 h2.out)
 |ret=>exact hq
 |exit n=>exact hq
 |panic c=>exact hq
 |goto l=>exact hq.elim
 |outgrown=>exact hq.elim
end
end Go.Proofs.YtaopegkpjhkooaaGreatDoor.Dx
/- The executor over data,part Y: regions that draw their order,where one of several operations may come next. -/
namespace Go.Proofs.YtaopegkpjhkooaaGreatDoor.Dx
open Go Go.RowKit
section
variable {P:Program} {T:List (Nat×TI)} {cf:Cfg} {ops:Array Oper} {C:Cx} {γ:Gm} {V:Know} {a:Act} {W:World} {lc:List Nat} {l:Array Bool} {F:List Fl} {st:SSt} {Q:Exit->Act->World->Prop}
end
end Go.Proofs.YtaopegkpjhkooaaGreatDoor.Dx
