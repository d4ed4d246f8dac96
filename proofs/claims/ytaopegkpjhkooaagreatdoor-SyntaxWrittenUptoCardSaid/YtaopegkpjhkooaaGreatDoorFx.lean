/- The executor over data: a function that puts off a call of a closure,which may recover. -/
import Derived.Test.YtaopegkpjhkooaaGreatDoorFk
import Derived.RecoverIn
import Derived.RangeFuncLeaves
import Derived.Test.YtaopegkpjhkooaaGreatDoorFf
set_option linter.all false
namespace Go.Proofs.YtaopegkpjhkooaaGreatDoor.Dx
open Go Go.RowKit
theorem a3e:∀l:List Cap,a0W l l
 |[]=>trivial
 | .loc n o::r=>⟨by simp,a3e r⟩
 | .dat d::r=>⟨rfl,a3e r⟩
theorem a0U (O:List (Nat×Blk))(b:Base):X1 O b b:=by
 cases b with
 |d x=>cases x<;>first|rfl|trivial
 |full xs=>rfl
 |loc n o=>exact⟨by simp,rfl⟩
 |own n=>show Nat.beq n n=true;simp
 |oel n k i r=>exact⟨by simp,rfl,rfl,rfl⟩
 |win n k i r=>exact⟨by simp,rfl,rfl,rfl⟩
 |ag p n q=>exact⟨by simp,rfl,rfl⟩
 |agl cs=>exact a3e _
 |fn F fs cs=>exact⟨rfl,a3e _,a3e _⟩
 |junk=>trivial
def a5W:List Code->Code->Code
 |[],r=>r
 |x::xs,r=> .seq x (a5W xs r)
def a1g:Nat->Code->List Code×Code
 |0,c=>([],c)
 |k+1, .seq x y=>(x::(a1g k y).1,(a1g k y).2)
 |_,c=>([],c)
theorem b0w:∀(k:Nat) (c:Code),a5W (a1g k c).1 (a1g k c).2=c
 |0,_=>rfl
 | k+1,c=>by
   cases c with
   |seq x y=>simp only[a1g,a5W,b0w k y]
   |_=>rfl
def a9z (V:Know)(m:Option D)(u:FrameMode):Prop:=match m with
 |none=>u= .returning
 |some d=>∃v,u= .panicking [{v,recovered:=false}]/\Rep V v d
structure MeetsD (P:Program) (f:FuncId) (args:List Base) (O:List (Nat×Blk)) (m:Option D) (R:List (Nat×Blk)->Prop):Prop where
 fn:R2 P f
 run:∀(γ:Gm) (V:Know) (W:World) (xs:List Value) (u:FrameMode),Sees V W->Vals γ V args xs->p7 γ V W O->D6 γ O->a9z V m u->
  CallsDIn Fence.wide 0 P f xs.toArray u W λe u' W'=>∃γ' V' O',(∃v,e= .returned v)/\settle u'= .returning/\BelowX (i7 γ O) W.heap.size W W'/\Fresh V V' (i7 γ O) W.heap.size/\Sees V' W'/\p7 γ' V' W' O'/\
   (∀n b,c8 n O'=some b->∀k,(γ' n).2=some k->k∈i7 γ O\/W.heap.size<=k)/\D6 γ' O'/\(∀n b,c8 n O=some b->H6 n b=true->γ' n=γ n)/\R O'
theorem MeetsD.mono {P:Program}{f:FuncId}{args:List Base}{O:List (Nat×Blk)}{m:Option D}{R R':List (Nat×Blk)->Prop}(h:MeetsD P f args O m R)(hr:∀O',R O'->R' O'):MeetsD P f args O m R':=
 ⟨h.fn,λγ V W xs u h1 h2 h3 h4 h5=>(h.run γ V W xs u h1 h2 h3 h4 h5).mono λ_ _ _ ⟨γ',V',O',a1,a2,a3,a4,a5,a6,a7,a8,a9,a10⟩=>⟨γ',V',O',a1,a2,a3,a4,a5,a6,a7,a8,a9,hr O' a10⟩⟩
structure JL (P:Program) (C:Cx) (xs:List Code) (Q:y8) (K:SSt->Prop) (st:SSt):Prop where
 run:∀γ V a W,Rel C γ st V a W->∀(rest:Code) (Qf:Exit->Act->World->Prop),(∀γ st V a W,Rel C γ st V a W->K st->rest.wpIn (fen C) 0 P Qf a W)->
  (∀e a W,e≠ .normal->LiftQ C Q e a W->Qf e a W)->(a5W xs rest).wpIn (fen C) 0 P Qf a W
def b3v (P:Program)(C:Cx)(xs:List Code)(Q:y8)(K:SSt->Prop):y8:=λe st=>match e with| .nrm=>JL P C xs Q K st| .ret=>Q .ret st| .exit n=>Q (.exit n) st| .pan d=>Q (.pan d) st
section
variable {P:Program} {T:List (Nat×TI)} {C:Cx} {st:SSt} {Q:y8} {K:SSt->Prop}
theorem a4E (h:K st):JL P C [] Q K st:=⟨λγ V a W hr rest Qf h1 _=>h1 γ st V a W hr h⟩
theorem b4A {x:Code}{xs:List Code}(h:J P C x (b3v P C xs Q K) st):JL P C (x::xs) Q K st:=
 ⟨λγ V a W hr rest Qf h1 h2=>wpIn_seq (Go.wpIn_mono (h.run γ V a W hr) λe a W hq=>by
  cases e with
  |normal=>obtain⟨γ,st,V,hr,hj⟩:=hq;exact JL.run hj γ V a W hr rest Qf h1 h2
  |ret=>exact h2 .ret a W (by simp) hq
  |exit n=>exact h2 (.exit n) a W (by simp) hq
  |panic c=>exact h2 (.panic c) a W (by simp) hq
  |goto l=>exact hq.elim
  |outgrown=>exact hq.elim)⟩
theorem G8 (hT:TOk P T)(cf:Cfg){x:Code}{xs:List Code}(h:vcC P T C cf x (b3v P C xs Q K) st):JL P C (x::xs) Q K st:=b4A (a0K hT cf x h)
end
def a5z:List Base->Option (List Nat)
 |[]=>some []
 | .loc n 0::r=>match a5z r with|some ns=>some (n::ns)|none=>none
 |_=>none
theorem b1N:∀{bs:List Base} {ns:List Nat},a5z bs=some ns->bs=ns.map λn=> .loc n 0
 |[],ns,h=>by cases h;rfl
 | b ::r,ns,h=>by
   unfold a5z at h
   split at h
   . rename_i h';cases h'
   . rename_i n r' h'
     cases h'
     split at h
     . rename_i ns' hr
       cases h
       rw[b1N hr];rfl
     . cases h
   . cases h
noncomputable def a8b (T:List (Nat×TI))(cf:Cfg)(rs:List ResultVar)(R:D->Prop)(st:SSt):Prop:=a1A T cf rs st λb st=>X9 st [b] λds _=>match ds with
 |[d]=>a2o d λd=>Done (R d)
 |_=>False
noncomputable def door (P:Program)(T:List (Nat×TI))(cf:Cfg)(F:FuncId)(ns:List Nat)(rs:List ResultVar)(R:D->Prop)(m:Option D)(st:SSt):Prop:=
 ∃ ins,(O7 st.O ins/\(ns.all λn=>o4 n st.pins)=true)/\MeetsD P F (ns.map λn=> .loc n 0) ins m λO'=>match X8 (.d (.tup [])) O' with
   |true=>U1 ins st λst=>X4 ins O' st λst=>a8b T cf rs R st
   |false=>False
noncomputable def b6N (P:Program)(T:List (Nat×TI))(cf:Cfg)(F:FuncId)(ns:List Nat)(rs:List ResultVar)(R:D->Prop):y8:=λe st=>match e with
 | .exit _=>False
 | .pan d=>door P T cf F ns rs R (some d) st
 | .nrm=>door P T cf F ns rs R none st
 | .ret=>door P T cf F ns rs R none st
noncomputable def b6A (P:Program)(T:List (Nat×TI))(N:Nat)(cf:Cfg)(t:Nat)(F:FuncId)(caps:Array Operand)(rest:Code)(rs:List ResultVar)(R:D->Prop)(st:SSt):Prop:=
 F2 st caps.toList λbs=>match a5z bs with
  |some ns=>∀(B0:Nat) (W0:World) (V0:Know) (lent:List Nat) (g0:Gm) (m0:Nat) (dfr:Option (List Deferred)),J P ⟨B0,N,W0,V0,lent,g0,none,m0,dfr⟩ rest (b6N P T cf F ns rs R) ⟨(t, .junk)::st.L,st.O,ns⟩
  |none=>False
theorem a5k {P : Program} {T : List (Nat × TI)} (hT : TOk P T) {f : FuncId} {fn : Func} {c : Code} (cf : Cfg) (hf : P.funcs[f]? = some fn) (hb : fn.body = some c) (hnm : (fn.name == "runtime.NumGoroutine") = false) {N : Nat} (hN : fn.ntmps = N) {args : List D} (hlen : args.length <= N)
 {R:D->Prop} (k:Nat) {id t F:Nat} {caps:Array Operand} {ty ty2:TypeId} {pos pos2:String} {af af2:Array Edge} {rest:Code}
 (hc:(a1g k c).2= .seq (.region id #[⟨some t, .makeFunc (.func F) #[] caps,ty,pos,af,none⟩,⟨none, .defer {callee:= .value (.tmp t),args:= #[],argTypes:= #[]},ty2,pos2,af2,none⟩] false) rest) (ht:t<N)
 (h:∀(B0:Nat) (W0:World) (V0:Know) (lent:List Nat) (g0:Gm),JL P ⟨B0,N,W0,V0,lent,g0,none,B0,some []⟩ (a1g k c).1 (b2E T cf fn.results.toList R) (b6A P T N cf t F caps rest fn.results.toList R) ⟨L7 0 (args.map .d),[],[]⟩):Meets P f args R:=by
 refine⟨⟨⟨fn,c,hf,hb,hnm⟩,λγ0 V W xs hs hx hown hinj=>(callsIn_wide (n:=0)).1 (callsIn_of_wp_marks hf hb trivial ?_ rfl)⟩⟩
 have hxl:xs.length=args.length:=by have:=hx.len;simpa using this.symm
 have hr:Rel ⟨W.heap.size,N,W,V,i7 γ0 [],γ0,none,W.heap.size,some []⟩ γ0 ⟨L7 0 (args.map .d),[],[]⟩ V {tmps:=xs.toArray++Array.replicate (fn.ntmps-xs.toArray.size) undef,defers:=[]} W:=by
  refine⟨by simp[hN];omega,MarksOk.nil rfl,?_,hown,(λd b hl=>by rw[o6] at hl;cases hl),hinj,(λd hd=>rfl),hs, .refl V _ _, .refl _ _ _,Nat.le_refl _⟩
  intro t b hl
  obtain⟨j,v,rfl,hj,hv⟩:=a5A _ xs 0 t b hx hl
  have hjl:j<xs.length:=by
   rcases Nat.lt_or_ge j xs.length with h|h
   . exact h
   . rw[List.getElem?_eq_none h] at hj;cases hj
  simp only[Nat.zero_add,Array.getD_eq_getD_getElem?]
  rw[Array.getElem?_append_left (by simpa using hjl)]
  simpa[hj] using hv
 have fin:∀{g:Gm} {γ:Gm} {st:SSt} {V':Know} {tm:Array Value} {W':World},Rel ⟨W.heap.size,N,W,V,i7 γ0 [],g,none,W.heap.size,some []⟩ γ st V' {tmps:=tm,defers:=[]} W'->a8b T cf fn.results.toList R st->
  ∃ v,(results fn tm).run P W'= .ok v W'/\∃γ' V' o O',a0T γ' V' (.returned v) o/\BelowX (i7 γ0 []) W.heap.size W W'/\Fresh V V' (i7 γ0 []) W.heap.size/\Sees V' W'/\p7 γ' V' W' O'/\
    (∀n b,c8 n O'=some b->∀k,(γ' n).2=some k->k∈i7 γ0 []\/W.heap.size<=k)/\D6 γ' O'/\(∀n b,c8 n ([]:List (Nat×Blk))=some b->H6 n b=true->γ' n=γ0 n)/\∃d,o= .ret (.d d)/\O'=[]/\R d:=by
  intro g γ st V' tm W' hr hk
  obtain⟨b,st',V2,v,hk,hr',hv,hrun⟩:=a5Q hT hr hk
  obtain⟨ds,st2,V3,hk,hr2,hreps,_⟩:=a2j hr' (.cons hv .nil) hk
  split at hk
  case h_2=>exact hk.elim
  rename_i d
  rw[a7j] at hk
  exact⟨v,hrun,γ,V3, .ret (.d d),[],hreps.head,hr2.below,hr2.fresh,hr2.sees,(λn b hl=>by rw[o6] at hl;cases hl),(λn b hl=>by rw[o6] at hl;cases hl),(λn n' b b' hl=>by rw[o6] at hl;cases hl),(λn b hl=>by rw[o6] at hl;cases hl),d,rfl,rfl,hk.out⟩
 have hcut:=b0w k c
 rw[hc] at hcut
 rw[<-hcut]
 refine(h W.heap.size W V (i7 γ0 []) γ0).run γ0 V _ W hr _ _ (λγ st V1 a W1 hr1 hK=>?_) (λe a W1 hne hq=>?_)
 . -- the region that puts the call off
   obtain⟨bs,hK,hbs⟩:=b1p hr1.slots caps.toList hK
   split at hK
   case h_2=>exact hK.elim
   rename_i ns hns
   rw[b1N hns] at hbs
   have htl:t<a.tmps.size:=by rw[hr1.size];exact ht
   refine wpIn_seq (wpIn_region_list ?_)
   show wpListIn _ _ _ _ _ [_,_] a W1
   rw[wpListIn,if_pos (by simp[Region.wanted])]
   refine⟨λ_ _=>trivial,?_⟩
   have hrun1:(execOp a.eval ⟨some t, .makeFunc (.func F) #[] caps,ty,pos,af,none⟩).run P W1= .ok (.value (.func (.func F) #[] (caps.map a.eval))) W1:=by simp[execOp,Instr.makeFunc]
   rw[a8g (by simp),hrun1,Oper.uponIn_value]
   have h3:=D3 hr1 (d:=some t) (b:= .junk) (x:= .func (.func F) #[] (caps.map a.eval)) (λs hs=>by cases hs;exact ht) trivial
   have hev:(a.put (some t) (.func (.func F) #[] (caps.map a.eval))).eval (.tmp t)= .func (.func F) #[] (caps.map a.eval):=by
    simp[Act.put,Act.eval,htl]
   show wpListIn _ _ _ _ _ [_] _ W1
   generalize a.put (some t) (.func (.func F) #[] (caps.map a.eval))=a1 at h3 hev
   rw[wpListIn,if_pos (by simp[Region.wanted])]
   refine⟨λ_ _=>trivial,?_⟩
   have hrun2:(execOp a1.eval ⟨none, .defer {callee:= .value (.tmp t),args:= #[],argTypes:= #[]},ty2,pos2,af2,none⟩).run P W1= .ok (.defer {target:= .fn (.func F) (caps.map a.eval),args:= #[]}) W1:=by
    simp[execOp,resolve,hev,Deferred.ofValue]
   have hsem:∀o:Oper,o.semAt (fen ⟨W.heap.size,N,W,V,i7 γ0 [],γ0,none,W.heap.size,some []⟩).round a1.eval=execOp a1.eval o:=λo=>Oper.semAt_none _ _
   rw[hsem,hrun2,Oper.uponIn_defer]
   show Code.wpIn _ _ _ rest _ _ W1
   have hr2:Rel ⟨W.heap.size,N,W,V,i7 γ0 [],γ,none,W.heap.size,some [{target:= .fn (.func F) (caps.map a.eval),args:= #[]}]⟩ γ ⟨(t, .junk)::st.L,st.O,ns⟩ V1 {a1 with defers:={target:= .fn (.func F) (caps.map a.eval),args:= #[]}::a1.defers} W1:=by
    obtain⟨ks,ks2,e1,e2,e3⟩:=h3.defers
    exact {size:=h3.size,defers:=⟨[],ks++ks2,by simp[U5] at e1⊢;exact e1,e2,e3⟩,slots:=h3.slots,own:=h3.own,okb:=h3.okb,inj:=h3.inj,pin:=λ_ _=>rfl,sees:=h3.sees,fresh:=h3.fresh,below:=h3.below,bsize:=h3.bsize}
   have hput:({a1 with defers:={target:= .fn (.func F) (caps.map a.eval),args:= #[]}::a1.defers}:Act).put none undef={a1 with defers:={target:= .fn (.func F) (caps.map a.eval),args:= #[]}::a1.defers}:=rfl
   rw[hput]
   refine Go.wpIn_mono ((hK W.heap.size W V (i7 γ0 []) γ W.heap.size (some [{target:= .fn (.func F) (caps.map a.eval),args:= #[]}])).run _ _ _ _ hr2) λe a2 W2 hq=>?_
   have go :∀{u:FrameMode} {m:Option D} {γ2:Gm} {st2:SSt} {V2:Know},Rel ⟨W.heap.size,N,W,V,i7 γ0 [],γ,none,W.heap.size,some [{target:= .fn (.func F) (caps.map a.eval),args:= #[]}]⟩ γ2 st2 V2 a2 W2->a9z V2 m u->u≠ .run->
    door P T cf F ns fn.results.toList R m st2->LeavesInM Fence.wide 0 P fn a2.tmps (λe W'=>∃γ' V' o O',a0T γ' V' e o/\BelowX (i7 γ0 []) W.heap.size W W'/\Fresh V V' (i7 γ0 []) W.heap.size/\Sees V' W'/\p7 γ' V' W' O'/\
    (∀n b,c8 n O'=some b->∀k,(γ' n).2=some k->k∈i7 γ0 []\/W.heap.size<=k)/\D6 γ' O'/\(∀n b,c8 n ([]:List (Nat×Blk))=some b->H6 n b=true->γ' n=γ0 n)/\∃d,o= .ret (.d d)/\O'=[]/\R d) a2.defers u W2:=by
    intro u m γ2 st2 V2 hr hmode hu hd
    obtain⟨ins,⟨hS,hp⟩,hm⟩:=hd
    obtain⟨ks,ks2,e1,e2,e3⟩:=hr.defers
    rw[e1]
    have hr0:Rel ⟨W.heap.size,N,W,V,i7 γ0 [],γ,none,W.heap.size,some []⟩ γ2 st2 V2 {tmps:=a2.tmps,defers:=[]} W2:=
     {size:=hr.size,defers:=MarksOk.nil rfl,slots:=hr.slots,own:=hr.own,okb:=hr.okb,inj:=hr.inj,pin:=hr.pin,sees:=hr.sees,fresh:=hr.fresh,below:=hr.below,bsize:=hr.bsize}
    refine a3J (C:=⟨W.heap.size,N,W,V,i7 γ0 [],γ,none,W.heap.size,some []⟩) rfl (Nat.le_refl _) hu ks2 ks W2 e2 e3 hr0 λW3 hr3 hf3=>?_
    show LeavesInM _ _ _ _ _ _ (_::U5 ks2) _ _
    refine⟨hu, .inr ⟨(λh=>nomatch h), .func F,caps.map a.eval,F,caps.map a.eval,rfl,?_,λ_ _=>trivial,?_⟩⟩
    . have:=a6N hm.fn (caps.map a.eval) W3
      simpa[invoke] using this
    have hinj0:D6 γ2 ins:=λn n' b b' h1 h2 hne k hk=>by
     obtain⟨y,hy,_⟩:=D7 hS n b h1
     obtain⟨y',hy',_⟩:=D7 hS n' b' h2
     exact hr3.inj n n' y y' hy hy' hne k hk
    have hown0:p7 γ2 V2 W3 ins:=λn b h=>by
     obtain⟨y,hy,hs⟩:=D7 hS n b h
     exact a1U hr3.own hs (hr3.own n y hy)
    have hvals:Vals γ2 V2 (ns.map λn=>Base.loc n 0) (caps.toList.map a.eval):=by
     have key:∀(ms:List Nat) (ys:List Value),(∀n∈ms,γ2 n=γ n)->Vals γ V1 (ms.map λn=>Base.loc n 0) ys->Vals γ2 V2 (ms.map λn=>Base.loc n 0) ys:=by
      intro ms
      induction ms with
      |nil=>intro ys _ h;rw[h.nil_l];exact .nil
      | cons n ms ih=>
        intro ys hg h
        obtain⟨y,ys',rfl,h1,h2⟩:=h.cons_l
        refine .cons ?_ (ih ys' (λn hn=>hg n (List.mem_cons_of_mem _ hn)) h2)
        obtain⟨blk,h3,h4⟩:=h1
        exact⟨blk,by rw[hg n (List.mem_cons_self ..)];exact h3,h4⟩
     refine key ns _ (λn hn=>?_) hbs
     exact hr3.pin n (memB_mem.1 (List.all_eq_true.1 hp n hn))
    have hcall:=hm.run γ2 V2 W3 (caps.toList.map a.eval) u hr3.sees hvals hown0 hinj0 hmode
    rw[show(caps.toList.map a.eval).toArray=caps.map a.eval by rw[<-Array.toList_map]] at hcall
    refine hcall.mono λe u' W4 hq=>?_
    obtain⟨γ4,V4,O4,⟨v,rfl⟩,hset,hbel,hfr,hsees,hres,hres2,hinj4,hbox,hK⟩:=hq
    show LeavesInM _ _ _ _ _ _ (U5 ks2) (settle u') W4
    rw[hset]
    split at hK
    case h_2=>exact hK.elim
    rename_i hcl
    obtain⟨γ5,st5,hk5,hr5,_⟩:=a3m hr3 hS hbel hfr hsees hres hres2 hinj4 hbox hcl (k:=λst=>a8b T cf fn.results.toList R st) hK
    have hblk:∀b∈i7 γ2 ins,∃r x,c8 r st2.O=some x/\(γ2 r).2=some b:=by
     intro b hb
     obtain⟨⟨d,x⟩,hm2,hbk⟩:=List.mem_filterMap.1 hb
     have hl:∃z,c8 d ins=some z:=by
      have :∀l:List (Nat×Blk),(d,x)∈l->∃z,c8 d l=some z:=by
       intro l
       induction l with
       |nil=>intro h;cases h
       | cons p l ih=>
         obtain⟨t,y⟩:=p
         intro h
         by_cases e:t=d
         . subst e;exact⟨y,p8 ..⟩
         . rw[j6 e]
           rcases List.mem_cons.1 h with h|h
           . cases h;exact absurd rfl e
           . exact ih h
      exact this ins hm2
     obtain⟨z,hz⟩:=hl
     obtain⟨b',hb',_⟩:=D7 hS d z hz
     exact⟨d,b',hb',hbk⟩
    have hf5:∀k∈ks2,W.heap.size<=k/\W4.heap[k]?=some (.deferred (some [])):=λk hk=>by
     obtain⟨q1,q2⟩:=hf3 k hk
     refine⟨q1,(hbel.block k (H5 q2) λhin=>?_).trans q2⟩
     obtain⟨r,x,hl,hkk⟩:=hblk k hin
     exact a5K (hr3.own r x hl) hkk q2
    have e0:U5 ks2=U5 ks2++[]:=by simp
    rw[e0]
    refine a3J (C:=⟨W.heap.size,N,W,V,i7 γ0 [],γ,none,W.heap.size,some []⟩) rfl (Nat.le_refl _) (by simp) [] ks2 W4 (by simpa using (List.nodup_append.1 e2).2.1) (by simpa using hf5) hr5 λW6 hr6 _=>?_
    exact fin hr6 hk5
   cases e with
   |normal=>obtain⟨γ2,st2,V2,hr3,hk⟩:=hq;exact go (m:=none) hr3 rfl (by simp) hk
   |ret=>obtain⟨γ2,st2,V2,hr3,hk⟩:=hq;exact go (m:=none) hr3 rfl (by simp) hk
   |exit n=>obtain⟨γ2,st2,V2,_,hk⟩:=hq;exact hk.elim
   |panic ch=>obtain⟨γ2,st2,V2,v,d,rfl,hv,hr3,hk⟩:=hq;exact go (m:=some d) hr3 ⟨v,rfl,hv⟩ (by simp) hk
   |goto l=>exact hq.elim
   |outgrown=>exact hq.elim
 . cases e with
   |normal=>exact absurd rfl hne
   |ret=>obtain⟨γ,st,V',hr',hk⟩:=hq;exact a2v rfl rfl (by simp) hr' λW2 hr2=>fin hr2 hk
   |exit n=>obtain⟨γ,st,V',_,hk⟩:=hq;exact hk.elim
   |panic ch=>obtain⟨γ,st,V',v,d,_,_,_,hk⟩:=hq;exact hk.elim
   |goto l=>exact hq.elim
   |outgrown=>exact hq.elim
theorem a1i {P:Program}{T:List (Nat×TI)}(hT:TOk P T){F:FuncId}{fn:Func}{id t1 t2:Nat}{ty1 ty2:TypeId}{pos1 pos2:String}{af1 af2:Array Edge}{rest:Code}(cf:Cfg)(hf:P.funcs[F]?=some fn)
 (hb:fn.body=some (.seq (.region id #[⟨some t1, .call {callee:= .builtin .recover,args:= #[],argTypes:= #[]},ty1,pos1,af1,none⟩,⟨some t2, .assign (.tmp t1),ty2,pos2,af2,none⟩] false) rest))
 (hnm : (fn.name == "runtime.NumGoroutine") = false) {N : Nat} (hN : fn.ntmps = N) {args : List Base} {ins : List (Nat × Blk)} (hlen : args.length <= N) (ht1 : t1 < N) (ht2 : t2 < N) {m : Option D} {R : List (Nat × Blk) -> Prop}
 (h:∀(B0:Nat) (W0:World) (V0:Know) (lent:List Nat) (g0:Gm),vcC P T ⟨B0,N,W0,V0,lent,g0,none,B0,none⟩ cf rest (a8c T cf fn.results.toList ins λo O'=>(∃b,o= .ret b)/\R O') ⟨(t2, .d (m.getD (.v .nilIface)))::(t1, .junk)::L7 0 args,ins,E4 ins⟩):
 MeetsD P F args ins m R:=by
 refine⟨⟨fn,_,hf,hb,hnm⟩,λγ V W xs u hs hx hown hinj hmode=>callsDIn_of_wpSIn hf hb trivial λc₀ cs hu=>wpSIn_seq (wpSIn_region ?_)⟩
 have hxl:xs.length=args.length:=hx.len.symm
 have hr0:Rel ⟨W.heap.size,N,W,V,i7 γ ins,γ,none,W.heap.size,none⟩ γ ⟨L7 0 args,ins,E4 ins⟩ V {tmps:=xs.toArray++Array.replicate (fn.ntmps-xs.toArray.size) undef,defers:=[]} W:=by
  refine⟨by simp[hN];omega,rfl,?_,hown,?_,hinj,(λd hd=>rfl),hs, .refl V _ _, .refl _ _ _,Nat.le_refl _⟩
  . intro t b hl
    obtain⟨j,v,rfl,hj,hv⟩:=a5A args xs 0 t b hx hl
    have hjl:j<xs.length:=by
     rcases Nat.lt_or_ge j xs.length with h|h
     . exact h
     . rw[List.getElem?_eq_none h] at hj;cases hj
    simp only[Nat.zero_add,Array.getD_eq_getD_getElem?]
    rw[Array.getElem?_append_left (by simpa using hjl)]
    simpa[hj] using hv
  . intro d b hl k hk
    exact .inl (List.mem_filterMap.2 ⟨(d,b),M9 hl,hk⟩)
 generalize ({tmps:=xs.toArray++Array.replicate (fn.ntmps-xs.toArray.size) undef,defers:=[]}:Act)=a0 at hr0⊢
 obtain ⟨x,cs',u',hrec,hcs,hset,hxr⟩:∃x cs' u',(match recoverD (c₀::cs) with|some (v,cs')=>(v,cs')|none=>(Value.nilIface,c₀::cs))=(x,cs')/\cs'={c₀ with mode:=u'}::cs/\settle u'= .returning/\Rep V x (m.getD (.v .nilIface)):=by
  cases m with
  | none=>
    have hu':c₀.mode= .returning:=hu.trans hmode
    refine⟨.nilIface,c₀::cs, .returning,by simp[recoverD,hu'],?_,rfl, .v _ ⟨rfl,λ_ _ e=>by cases e⟩⟩
    cases c₀;simp_all
  | some d=>
    obtain⟨v,rfl,hv⟩:=hmode
    exact⟨v,_, .panicking [{v,recovered:=true}],by simp[recoverD,hu],rfl,rfl,hv⟩
 have h1:=D3 hr0 (d:=some t1) (b:= .junk) (x:=x) (λs hs=>by cases hs;exact ht1) trivial
 have hsz:t1<a0.tmps.size:=by rw[hr0.size];exact ht1
 have hev:(a0.put (some t1) x).eval (.tmp t1)=x:=by simp[Act.put,Act.eval,hsz]
 have h2:=D3 h1 (d:=some t2) (b:= .d (m.getD (.v .nilIface))) (x:=x) (λs hs=>by cases hs;exact ht2) hxr
 have e0:∀ρ,(execOp ρ ⟨some t1, .call {callee:= .builtin .recover,args:= #[],argTypes:= #[]},ty1,pos1,af1,none⟩).run P W= .ok .recover W:=by
  intro ρ
  simp[execOp,resolve,invoke,builtin]
 have e1:∀ρ,(execOp ρ ⟨some t2, .assign (.tmp t1),ty2,pos2,af2,none⟩).run P W= .ok (.value (ρ (.tmp t1))) W:=λρ=>rfl
 have hlist:List.range (#[(⟨some t1, .call {callee:= .builtin .recover,args:= #[],argTypes:= #[]},ty1,pos1,af1,none⟩:Oper),⟨some t2, .assign (.tmp t1),ty2,pos2,af2,none⟩]:Array Oper).size=[0,1]:=rfl
 rw[hlist]
 have key:rest.wpSIn Fence.wide 0 P (bodyPostS P fn c₀ cs λe u' W'=>∃γ' V' O',(∃v,e= .returned v)/\settle u'= .returning/\BelowX (i7 γ ins) W.heap.size W W'/\Fresh V V' (i7 γ ins) W.heap.size/\Sees V' W'/\p7 γ' V' W' O'/\
  (∀n b,c8 n O'=some b->∀k,(γ' n).2=some k->k∈i7 γ ins\/W.heap.size<=k)/\D6 γ' O'/\(∀n b,c8 n ins=some b->H6 n b=true->γ' n=γ n)/\R O') ((a0.put (some t1) x).put (some t2) x) cs' W:=by
  refine wpSIn_of_wpIn rfl (Go.wpIn_mono (F:=Fence.wide) ((a0K hT cf rest (h W.heap.size W V (i7 γ ins) γ)).run _ _ _ _ h2) λe a W' hq=>?_)
  have fin:∀{γ2:Gm} {st:SSt} {V':Know} {a:Act} {W':World},Rel ⟨W.heap.size,N,W,V,i7 γ ins,γ,none,W.heap.size,none⟩ γ2 st V' a W'->(a1A T cf fn.results.toList st λb st=>∃O' rb,(X1 st.O rb b/\O7 st.O O'/\(E4 ins).all (λn=>o4 n st.pins)=true)/\Done ((∃b,Out.ret rb= .ret b)/\R O'))->
   a.defers=[]/\∃u',cs'={c₀ with mode:=u'}::cs/\∃v,(results fn a.tmps).run P W'= .ok v W'/\∃γ' V' O',(∃v',Ending.returned v= .returned v')/\settle u'= .returning/\BelowX (i7 γ ins) W.heap.size W W'/\Fresh V V' (i7 γ ins) W.heap.size/\Sees V' W'/\p7 γ' V' W' O'/\
    (∀n b,c8 n O'=some b->∀k,(γ' n).2=some k->k∈i7 γ ins\/W.heap.size<=k)/\D6 γ' O'/\(∀n b,c8 n ins=some b->H6 n b=true->γ' n=γ n)/\R O':=by
   intro γ2 st V' a W' hr hk
   refine⟨hr.defers,u',hcs,?_⟩
   obtain⟨b,st',V2,v,⟨O',rb,⟨h1,h2,h3⟩,hd⟩,hr',hv,hrun⟩:=a5Q hT hr hk
   refine⟨v,hrun,γ2,V2,O',⟨v,rfl⟩,hset,hr'.below,hr'.fresh,hr'.sees,λn b hl=>?_,λn b hl=>?_,λn n' b b' hl hl' hne=>?_,λn b hl hb=>?_,hd.out.2⟩
   . obtain⟨y,hy,hs⟩:=D7 h2 n b hl
     exact a1U hr'.own hs (hr'.own n y hy)
   . obtain⟨y,hy,_⟩:=D7 h2 n b hl
     exact hr'.okb n y hy
   . obtain⟨y,hy,_⟩:=D7 h2 n b hl
     obtain⟨y',hy',_⟩:=D7 h2 n' b' hl'
     exact hr'.inj n n' y y' hy hy' hne
   . exact hr'.pin n (memB_mem.1 (List.all_eq_true.1 h3 n (b1Q hb (M9 hl))))
  cases e with
  |normal=>obtain⟨γ2,st,V',hr',hk⟩:=hq;exact fin hr' hk
  |ret=>obtain⟨γ2,st,V',hr',hk⟩:=hq;exact fin hr' hk
  |exit n=>obtain⟨γ2,st,V',_,hk⟩:=hq;exact hk.elim
  | panic ch=>
    obtain⟨γ2,st,V',v,d,_,_,_,O',_,hd⟩:=hq
    obtain⟨⟨b,hb⟩,_⟩:=hd.out
    cases hb
  |goto l=>exact hq.elim
  |outgrown=>exact hq.elim
 simp only[wpOpsSIn,List.getElem?_toArray,List.getElem?_cons_zero,List.getElem?_cons_succ,Region.wanted,e0,e1,if_true,Exit.thenS]
 refine⟨λ_ _=>trivial,?_⟩
 cases hrd:recoverD (c₀::cs) with
 | none=>
   rw[hrd] at hrec
   cases hrec
   exact⟨λ_ _=>trivial,by rw[hev];exact key⟩
 | some p=>
   obtain⟨v,cs2⟩:=p
   rw[hrd] at hrec
   cases hrec
   exact⟨λ_ _=>trivial,by rw[hev];exact key⟩
end Go.Proofs.YtaopegkpjhkooaaGreatDoor.Dx
/- A box whose further cells a function only keeps: what they hold does not matter. -/
namespace Go.Proofs.YtaopegkpjhkooaaGreatDoor.Dx
open Go Go.RowKit
abbrev B8 (u:Value):Base:= .d (.raw u)
theorem b2y {γ:Gm}{V:Know}:∀{us ws:List Value},All2 (RVb γ V) (us.map B8) ws->ws=us
 |[],ws,h=>h.nil_l
 | u::us,ws,h=>by
   obtain⟨w,ws',rfl,h1,h2⟩:=All2.cons_l (by simpa using h)
   rw[b2y h2]
   have h1:Rep V w (.raw u):=h1
   cases h1
   rfl
theorem a9O {γ:Gm}{V:Know}:∀{us:List Value},(∀u∈us,u.oneCell'=true)->All2 (RVb γ V) (us.map B8) us
 |[],_=> .nil
 |u::us,h=> .cons (show Rep V u (.raw u) from .raw u (h u (by simp))) (a9O λx hx=>h x (List.mem_cons_of_mem _ hx))
theorem MeetsR.keepRaw {P:Program}{F:FuncId}{args:List Base}{n:Nat}{l:D}{cs:List Base}{ty:TypeId}{X:List (Nat×Blk)}{R:Out->D->Prop}
 (h:∀us:List Value,us.length=cs.length->MeetsR P F args [(n, .box (.d l::us.map B8) ty)] λo O'=>∃l',O'=[(n, .box (.d l'::us.map B8) ty)]/\R o l')
 (hR:∀o l',R o l'->(∃d,o= .ret (.d d))\/∃d,o= .pan d):
 MeetsR P F args ((n, .box (.d l::cs) ty)::X) λo O'=>∃l',O'=(n, .box (.d l'::cs) ty)::X/\R o l':=by
 refine⟨(h (List.replicate cs.length undef) (by simp)).fn,λγ V W xs hs hv hown hinj=>?_⟩
 have hl0:c8 n ((n,Blk.box (.d l::cs) ty)::X)=some (.box (.d l::cs) ty):=p8 ..
 obtain⟨blk,csv,hg,hh,hc,h1,hnone⟩:=hown n _ hl0
 obtain⟨u0,us,hus,hu0,huc⟩:=All2.cons_l hc
 have hlen:us.length=cs.length:=huc.len.symm
 have hone:∀u∈us,u.oneCell'=true:=λu hu=>h1 u (by rw[hus];exact List.mem_cons_of_mem _ hu)
 have hraw:p7 γ V W [(n, .box (.d l::us.map B8) ty)]:=by
  intro m b hb
  by_cases e:n=m
  . subst e
    rw[p8] at hb
    cases hb
    exact⟨blk,csv,hg,hh,by rw[hus];exact .cons hu0 (a9O hone),h1,hnone⟩
  . rw[j6 e,o6] at hb;cases hb
 have hinj1:D6 γ [(n,Blk.box (.d l::us.map B8) ty)]:=by
  intro m m' b b' hb hb' hne
  have one:∀{m:Nat} {b:Blk},c8 m [(n,Blk.box (.d l::us.map B8) ty)]=some b->m=n:=by
   intro m b hb
   by_cases e:n=m
   . exact e.symm
   . rw[j6 e,o6] at hb;cases hb
  exact absurd ((one hb).trans (one hb').symm) hne
 have hblk1:i7 γ [(n,Blk.box (.d l::us.map B8) ty)]=[blk]:=by simp[i7,hg]
 have hin:blk∈i7 γ ((n,Blk.box (.d l::cs) ty)::X):=by simp[i7,hg]
 refine((h us hlen).run γ V W xs hs hv hraw hinj1).mono ?_
 rintro e W' ⟨γ1,V1,o,O1,a1,a2,a3,a4,a5,a6,a7,a8,l',rfl,hr⟩
 rw[hblk1] at a2 a3
 have hgn:γ1 n=γ n:=a8 n _ (p8 ..) rfl
 refine⟨γ,V1,o,_,?_,?_,?_,a4,?_,?_,?_,λ_ _ _ _=>rfl,l',rfl,hr⟩
 . rcases hR o l' hr with⟨d,rfl⟩|⟨d,rfl⟩
   . cases e<;>exact a1
   . cases e<;>exact a1
 . exact⟨a2.os,a2.tape,a2.output,a2.size,λk hk hn=>a2.block k hk λhm=>hn (by rw[List.mem_singleton.1 hm];exact hin)⟩
 . refine⟨a3.le,λb o v hv=>(a3.cell b o v hv).imp id (Or.imp (λhm=>by rw[List.mem_singleton.1 hm];exact hin) id),λr x hx=>(a3.obj r x hx).imp id (Or.imp (λhm=>by rw[List.mem_singleton.1 hm];exact hin) id)⟩
 . intro m b hb
   by_cases e:n=m
   . subst e
     rw[p8] at hb
     cases hb
     obtain⟨blk',csv',hg',hh',hc',h1',hnone'⟩:=a5 n _ (p8 ..)
     rw[hgn,hg] at hg'
     obtain rfl:blk=blk':=by simpa using hg'
     obtain⟨u0',us',hus',hu0',huc'⟩:=All2.cons_l hc'
     have e2:=b2y huc'
     subst e2
     refine⟨blk,csv',hg,hh',?_,h1',hnone'⟩
     rw[hus']
     exact .cons hu0' (huc.imp λb _ y hy=>hy.mono a3.le)
   . rw [j6 e] at hb
     have hb0:=hown m b (by rw[j6 e];exact hb)
     have hne:∀k,(γ m).2=some k->k≠blk:=λk hk hkb=>hinj m n b _ (by rw[j6 e];exact hb) hl0 (λh=>e h.symm) k hk (by rw[hg,hkb])
     refine hb0.keep a3.le (λk hk=>a2.block k (C5 hb0 hk) (by simpa using hne k hk)) (λk hk o u hu=>?_) (λk hk u hu=>?_)
     . rcases a3.cell k o u hu with h|h|h
       . exact h
       . exact absurd (List.mem_singleton.1 h) (hne k hk)
       . have:=C5 hb0 hk;omega
     . rcases a3.obj k u hu with h|h|h
       . exact h
       . exact absurd (List.mem_singleton.1 h) (hne k hk)
       . have:=C5 hb0 hk;omega
 . intro m b hb k hk
   refine .inl ?_
   by_cases e:n=m
   . subst e
     rw[hg] at hk
     cases hk
     exact hin
   . rw[j6 e] at hb
     exact List.mem_filterMap.2 ⟨(m,b),List.mem_cons_of_mem _ (M9 hb),hk⟩
 . have fix:∀{m:Nat} {b:Blk},c8 m ((n,Blk.box (.d l'::cs) ty)::X)=some b->∃b',c8 m ((n,Blk.box (.d l::cs) ty)::X)=some b':=by
    intro m b hb
    by_cases e:n=m
    . subst e;exact⟨_,hl0⟩
    . rw[j6 e] at hb⊢;exact⟨b,hb⟩
   intro m m' b b' hb hb' hne k hk
   obtain⟨c,hc⟩:=fix hb
   obtain⟨c',hc'⟩:=fix hb'
   exact hinj m m' c c' hc hc' hne k hk
end Go.Proofs.YtaopegkpjhkooaaGreatDoor.Dx
