/- The. -/
import Derived.Test.YteillnfhkeebjaaGreatDoorWj
import Derived.RecoverIn
import Derived.RangeFuncLeaves
import Derived.Test.YteillnfhkeebjaaGreatDoorWh
set_option linter.all false
namespace Go.Proofs.YteillnfhkeebjaaGreatDoor.Dx
open Go Go.RowKit
section
variable {P:Program} {T:List (Nat×TI)} {C:Cx} {γ:Gm} {st:SSt} {V:Know} {a:Act} {W:World}
end
theorem a7q:∀l:List Cap,a3s l l
 |[]=>trivial
 | .loc n o::r=>⟨by simp,a7q r⟩
 | .dat d::r=>⟨rfl,a7q r⟩
theorem b5E (O:List (Nat×Blk))(b:Base):a0X O b b:=by
 cases b with
 |d x=>cases x<;>first|rfl|trivial
 |full xs=>rfl
 |loc n o=>exact⟨by simp,rfl⟩
 |own n=>show Nat.beq n n=true;simp
 |oel n k i r=>exact⟨by simp,rfl,rfl,rfl⟩
 |win n k i r=>exact⟨by simp,rfl,rfl,rfl⟩
 |ag p n q=>exact⟨by simp,rfl,rfl⟩
 |agl cs=>exact a7q _
 |fn F fs cs=>exact⟨rfl,a7q _,a7q _⟩
 |junk=>trivial
def b0P:List Code->Code->Code
 |[],r=>r
 |x::xs,r=> .seq x (b0P xs r)
def a4C:Nat->Code->List Code×Code
 |0,c=>([],c)
 |k+1, .seq x y=>(x::(a4C k y).1,(a4C k y).2)
 |_,c=>([],c)
theorem b6O:∀(k:Nat) (c:Code),b0P (a4C k c).1 (a4C k c).2=c
 |0,_=>rfl
 | k+1,c=>by
   cases c with
   |seq x y=>simp only[a4C,b0P,b6O k y]
   |_=>rfl
def b5A (V:Know)(m:Option D)(u:FrameMode):Prop:=match m with
 |none=>u= .returning
 |some d=>∃v,u= .panicking [{v,recovered:=false}]/\Rep V v d
structure MeetsD (P:Program) (f:FuncId) (args:List Base) (O:List (Nat×Blk)) (m:Option D) (R:List (Nat×Blk)->Prop):Prop where
 fn:a0T P f
 run:∀(γ:Gm) (V:Know) (W:World) (xs:List Value) (u:FrameMode),Sees V W->Vals γ V args xs->A2 γ V W O->M4 γ O->b5A V m u->
  CallsDIn Fence.wide 0 P f xs.toArray u W λe u' W'=>∃γ' V' O',(∃v,e= .returned v)/\settle u'= .returning/\BelowX (o8 γ O) W.heap.size W W'/\Fresh V V' (o8 γ O) W.heap.size/\Sees V' W'/\A2 γ' V' W' O'/\
   (∀n b,d7 n O'=some b->∀k,(γ' n).2=some k->k∈o8 γ O\/W.heap.size<=k)/\M4 γ' O'/\(∀n b,d7 n O=some b->T4 n b=true->γ' n=γ n)/\R O'
theorem MeetsD.mono {P:Program}{f:FuncId}{args:List Base}{O:List (Nat×Blk)}{m:Option D}{R R':List (Nat×Blk)->Prop}(h:MeetsD P f args O m R)(hr:∀O',R O'->R' O'):MeetsD P f args O m R':=
 ⟨h.fn,λγ V W xs u h1 h2 h3 h4 h5=>(h.run γ V W xs u h1 h2 h3 h4 h5).mono λ_ _ _ ⟨γ',V',O',a1,a2,a3,a4,a5,a6,a7,a8,a9,a10⟩=>⟨γ',V',O',a1,a2,a3,a4,a5,a6,a7,a8,a9,hr O' a10⟩⟩
structure JL (P:Program) (C:Cx) (xs:List Code) (Q:E6) (K:SSt->Prop) (st:SSt):Prop where
 run:∀γ V a W,Rel C γ st V a W->∀(rest:Code) (Qf:Exit->Act->World->Prop),(∀γ st V a W,Rel C γ st V a W->K st->rest.wpIn (fen C) 0 P Qf a W)->
  (∀e a W,e≠ .normal->LiftQ C Q e a W->Qf e a W)->(b0P xs rest).wpIn (fen C) 0 P Qf a W
def c0I (P:Program)(C:Cx)(xs:List Code)(Q:E6)(K:SSt->Prop):E6:=λe st=>match e with| .nrm=>JL P C xs Q K st| .ret=>Q .ret st| .exit n=>Q (.exit n) st| .pan d=>Q (.pan d) st
section
variable {P:Program} {T:List (Nat×TI)} {C:Cx} {st:SSt} {Q:E6} {K:SSt->Prop}
theorem c2e (h:K st):JL P C [] Q K st:=⟨λγ V a W hr rest Qf h1 _=>h1 γ st V a W hr h⟩
theorem c2d {x:Code}{xs:List Code}(h:J P C x (c0I P C xs Q K) st):JL P C (x::xs) Q K st:=
 ⟨λγ V a W hr rest Qf h1 h2=>wpIn_seq (Go.wpIn_mono (h.run γ V a W hr) λe a W hq=>by
  cases e with
  |normal=>obtain⟨γ,st,V,hr,hj⟩:=hq;exact JL.run hj γ V a W hr rest Qf h1 h2
  |ret=>exact h2 .ret a W (by simp) hq
  |exit n=>exact h2 (.exit n) a W (by simp) hq
  |panic c=>exact h2 (.panic c) a W (by simp) hq
  |goto l=>exact hq.elim
  |outgrown=>exact hq.elim)⟩
theorem a9b (hT:TOk P T)(cf:Cfg){x:Code}{xs:List Code}(h:vcC P T C cf x (c0I P C xs Q K) st):JL P C (x::xs) Q K st:=c2d (a5q hT cf x h)
end
def b0m:List Base->Option (List Nat)
 |[]=>some []
 | .loc n 0::r=>match b0m r with|some ns=>some (n::ns)|none=>none
 |_=>none
theorem b8E:∀{bs:List Base} {ns:List Nat},b0m bs=some ns->bs=ns.map λn=> .loc n 0
 |[],ns,h=>by cases h;rfl
 | b ::r,ns,h=>by
   unfold b0m at h;split at h
   . rename_i h';cases h'
   . rename_i n r' h';cases h';split at h
     . rename_i ns' hr;cases h;rw[b8E hr];rfl
     . cases h
   . cases h
noncomputable def b3I (T:List (Nat×TI))(cf:Cfg)(rs:List ResultVar)(R:D->Prop)(st:SSt):Prop:=a5a T cf rs st λb st=>a2v st [b] λds _=>match ds with
 |[d]=>a6e d λd=>Done (R d)
 |_=>False
noncomputable def door (P:Program)(T:List (Nat×TI))(cf:Cfg)(F:FuncId)(ns:List Nat)(rs:List ResultVar)(R:D->Prop)(m:Option D)(st:SSt):Prop:=
 ∃ ins,(a0r st.O ins/\(ns.all λn=>w6 n st.pins)=true)/\MeetsD P F (ns.map λn=> .loc n 0) ins m λO'=>match a0x (.d (.tup [])) O' with
   |true=>a1J ins st λst=>a2q ins O' st λst=>b3I T cf rs R st
   |false=>False
noncomputable def c5E (P:Program)(T:List (Nat×TI))(cf:Cfg)(F:FuncId)(ns:List Nat)(rs:List ResultVar)(R:D->Prop):E6:=λe st=>match e with
 | .exit _=>False
 | .pan d=>door P T cf F ns rs R (some d) st
 | .nrm=>door P T cf F ns rs R none st
 | .ret=>door P T cf F ns rs R none st
noncomputable def c5n (P:Program)(T:List (Nat×TI))(N:Nat)(cf:Cfg)(t:Nat)(F:FuncId)(caps:Array Operand)(rest:Code)(rs:List ResultVar)(R:D->Prop)(st:SSt):Prop:=
 Q9 st caps.toList λbs=>match b0m bs with
  |some ns=>∀(B0:Nat) (W0:World) (V0:Know) (lent:List Nat) (g0:Gm) (m0:Nat) (dfr:Option (List Deferred)),J P ⟨B0,N,W0,V0,lent,g0,none,m0,dfr⟩ rest (c5E P T cf F ns rs R) ⟨(t, .junk)::st.L,st.O,ns⟩
  |none=>False
theorem c5N {P : Program} {T : List (Nat × TI)} (hT : TOk P T) {f : FuncId} {fn : Func} {c : Code} (cf : Cfg) (hf : P.funcs[f]? = some fn) (hb : fn.body = some c) (hnm : (fn.name == "runtime.NumGoroutine") = false) {N : Nat} (hN : fn.ntmps = N) {args : List D} (hlen : args.length <= N)
 {R:D->Prop} (k:Nat) {id t F:Nat} {caps:Array Operand} {ty ty2:TypeId} {pos pos2:String} {af af2:Array Edge} {rest:Code}
 (hc:(a4C k c).2= .seq (.region id #[⟨some t, .makeFunc (.func F) #[] caps,ty,pos,af,none⟩,⟨none, .defer {callee:= .value (.tmp t),args:= #[],argTypes:= #[]},ty2,pos2,af2,none⟩] false) rest) (ht:t<N)
 (h:∀(B0:Nat) (W0:World) (V0:Know) (lent:List Nat) (g0:Gm),JL P ⟨B0,N,W0,V0,lent,g0,none,B0,some []⟩ (a4C k c).1 (b3J T cf fn.results.toList R) (c5n P T N cf t F caps rest fn.results.toList R) ⟨U8 0 (args.map .d),[],[]⟩):Meets P f args R:=by
 refine⟨⟨⟨fn,c,hf,hb,hnm⟩,λγ0 V W xs hs hx hown hinj=>(callsIn_wide (n:=0)).1 (callsIn_of_wp_marks hf hb trivial ?_ rfl)⟩⟩;have hxl:xs.length=args.length:=by have:=hx.len;simpa using this.symm
 have hr:Rel ⟨W.heap.size,N,W,V,o8 γ0 [],γ0,none,W.heap.size,some []⟩ γ0 ⟨U8 0 (args.map .d),[],[]⟩ V {tmps:=xs.toArray++Array.replicate (fn.ntmps-xs.toArray.size) undef,defers:=[]} W:=by
  refine⟨by simp[hN];omega,MarksOk.nil rfl,?_,hown,(λd b hl=>by rw[r7] at hl;cases hl),hinj,(λd hd=>rfl),hs, .refl V _ _, .refl _ _ _,p0 _⟩;intro t b hl;obtain⟨j,v,rfl,hj,hv⟩:=b0n _ xs 0 t b hx hl;have hjl:j<xs.length:=by
   rcases C5 j xs.length with h|h
   . exact h
   . rw[z6 h] at hj;cases hj
  simp only[F3,a2i];rw[a6R (by simpa using hjl)];simpa[hj] using hv
 have fin:∀{g:Gm} {γ:Gm} {st:SSt} {V':Know} {tm:Array Value} {W':World},Rel ⟨W.heap.size,N,W,V,o8 γ0 [],g,none,W.heap.size,some []⟩ γ st V' {tmps:=tm,defers:=[]} W'->b3I T cf fn.results.toList R st->
  ∃ v,(results fn tm).run P W'= .ok v W'/\∃γ' V' o O',a4p γ' V' (.returned v) o/\BelowX (o8 γ0 []) W.heap.size W W'/\Fresh V V' (o8 γ0 []) W.heap.size/\Sees V' W'/\A2 γ' V' W' O'/\
    (∀n b,d7 n O'=some b->∀k,(γ' n).2=some k->k∈o8 γ0 []\/W.heap.size<=k)/\M4 γ' O'/\(∀n b,d7 n ([]:List (Nat×Blk))=some b->T4 n b=true->γ' n=γ0 n)/\∃d,o= .ret (.d d)/\O'=[]/\R d:=by
  intro g γ st V' tm W' hr hk;obtain⟨b,st',V2,v,hk,hr',hv,hrun⟩:=b0G hT hr hk;obtain⟨ds,st2,V3,hk,hr2,hreps,_⟩:=a5Y hr' (.cons hv .nil) hk;split at hk
  case h_2=>exact hk.elim
  rename_i d;rw[b2z] at hk;exact⟨v,hrun,γ,V3, .ret (.d d),[],hreps.head,hr2.below,hr2.fresh,hr2.sees,(λn b hl=>by rw[r7] at hl;cases hl),(λn b hl=>by rw[r7] at hl;cases hl),(λn n' b b' hl=>by rw[r7] at hl;cases hl),(λn b hl=>by rw[r7] at hl;cases hl),d,rfl,rfl,hk.out⟩
 have hcut:=b6O k c;rw[hc] at hcut;rw[<-hcut];refine(h W.heap.size W V (o8 γ0 []) γ0).run γ0 V _ W hr _ _ (λγ st V1 a W1 hr1 hK=>?_) (λe a W1 hne hq=>?_)
 . -- the region that puts the call off
   obtain⟨bs,hK,hbs⟩:=b7P hr1.slots caps.toList hK;split at hK
   case h_2=>exact hK.elim
   rename_i ns hns;rw[b8E hns] at hbs;have htl:t<a.tmps.size:=by rw[hr1.size];exact ht
   refine wpIn_seq (wpIn_region_list ?_);show wpListIn _ _ _ _ _ [_,_] a W1;rw[wpListIn,d4 (by simp[Region.wanted])];refine⟨λ_ _=>trivial,?_⟩;have hrun1:(execOp a.eval ⟨some t, .makeFunc (.func F) #[] caps,ty,pos,af,none⟩).run P W1= .ok (.value (.func (.func F) #[] (caps.map a.eval))) W1:=by simp[execOp,Instr.makeFunc]
   rw[b3S (by simp),hrun1,Oper.uponIn_value];have h3:=L9 hr1 (d:=some t) (b:= .junk) (x:= .func (.func F) #[] (caps.map a.eval)) (λs hs=>by cases hs;exact ht) trivial;have hev:(a.put (some t) (.func (.func F) #[] (caps.map a.eval))).eval (.tmp t)= .func (.func F) #[] (caps.map a.eval):=by
    simp[Act.put,Act.eval,htl]
   show wpListIn _ _ _ _ _ [_] _ W1;generalize a.put (some t) (.func (.func F) #[] (caps.map a.eval))=a1 at h3 hev;rw[wpListIn,d4 (by simp[Region.wanted])];refine⟨λ_ _=>trivial,?_⟩;have hrun2:(execOp a1.eval ⟨none, .defer {callee:= .value (.tmp t),args:= #[],argTypes:= #[]},ty2,pos2,af2,none⟩).run P W1= .ok (.defer {target:= .fn (.func F) (caps.map a.eval),args:= #[]}) W1:=by
    simp[execOp,resolve,hev,Deferred.ofValue]
   have hsem:∀o:Oper,o.semAt (fen ⟨W.heap.size,N,W,V,o8 γ0 [],γ0,none,W.heap.size,some []⟩).round a1.eval=execOp a1.eval o:=λo=>Oper.semAt_none _ _;rw[hsem,hrun2,Oper.uponIn_defer];show Code.wpIn _ _ _ rest _ _ W1;have hr2:Rel ⟨W.heap.size,N,W,V,o8 γ0 [],γ,none,W.heap.size,some [{target:= .fn (.func F) (caps.map a.eval),args:= #[]}]⟩ γ ⟨(t, .junk)::st.L,st.O,ns⟩ V1 {a1 with defers:={target:= .fn (.func F) (caps.map a.eval),args:= #[]}::a1.defers} W1:=by
    obtain⟨ks,ks2,e1,e2,e3⟩:=h3.defers;exact {size:=h3.size,defers:=⟨[],ks++ks2,by simp[a1O] at e1⊢;exact e1,e2,e3⟩,slots:=h3.slots,own:=h3.own,okb:=h3.okb,inj:=h3.inj,pin:=λ_ _=>rfl,sees:=h3.sees,fresh:=h3.fresh,below:=h3.below,bsize:=h3.bsize}
   have hput:({a1 with defers:={target:= .fn (.func F) (caps.map a.eval),args:= #[]}::a1.defers}:Act).put none undef={a1 with defers:={target:= .fn (.func F) (caps.map a.eval),args:= #[]}::a1.defers}:=rfl;rw[hput];refine Go.wpIn_mono ((hK W.heap.size W V (o8 γ0 []) γ W.heap.size (some [{target:= .fn (.func F) (caps.map a.eval),args:= #[]}])).run _ _ _ _ hr2) λe a2 W2 hq=>?_;have go :∀{u:FrameMode} {m:Option D} {γ2:Gm} {st2:SSt} {V2:Know},Rel ⟨W.heap.size,N,W,V,o8 γ0 [],γ,none,W.heap.size,some [{target:= .fn (.func F) (caps.map a.eval),args:= #[]}]⟩ γ2 st2 V2 a2 W2->b5A V2 m u->u≠ .run->
    door P T cf F ns fn.results.toList R m st2->LeavesInM Fence.wide 0 P fn a2.tmps (λe W'=>∃γ' V' o O',a4p γ' V' e o/\BelowX (o8 γ0 []) W.heap.size W W'/\Fresh V V' (o8 γ0 []) W.heap.size/\Sees V' W'/\A2 γ' V' W' O'/\
    (∀n b,d7 n O'=some b->∀k,(γ' n).2=some k->k∈o8 γ0 []\/W.heap.size<=k)/\M4 γ' O'/\(∀n b,d7 n ([]:List (Nat×Blk))=some b->T4 n b=true->γ' n=γ0 n)/\∃d,o= .ret (.d d)/\O'=[]/\R d) a2.defers u W2:=by
    intro u m γ2 st2 V2 hr hmode hu hd;obtain⟨ins,⟨hS,hp⟩,hm⟩:=hd;obtain⟨ks,ks2,e1,e2,e3⟩:=hr.defers;rw[e1];have hr0:Rel ⟨W.heap.size,N,W,V,o8 γ0 [],γ,none,W.heap.size,some []⟩ γ2 st2 V2 {tmps:=a2.tmps,defers:=[]} W2:=
     {size:=hr.size,defers:=MarksOk.nil rfl,slots:=hr.slots,own:=hr.own,okb:=hr.okb,inj:=hr.inj,pin:=hr.pin,sees:=hr.sees,fresh:=hr.fresh,below:=hr.below,bsize:=hr.bsize}
    refine a7W (C:=⟨W.heap.size,N,W,V,o8 γ0 [],γ,none,W.heap.size,some []⟩) rfl (p0 _) hu ks2 ks W2 e2 e3 hr0 λW3 hr3 hf3=>?_;show LeavesInM _ _ _ _ _ _ (_::a1O ks2) _ _;refine⟨hu, .inr ⟨(λh=>nomatch h), .func F,caps.map a.eval,F,caps.map a.eval,rfl,?_,λ_ _=>trivial,?_⟩⟩
    . have:=b1X hm.fn (caps.map a.eval) W3;simpa[invoke] using this
    have hinj0:M4 γ2 ins:=λn n' b b' h1 h2 hne k hk=>by
     obtain⟨y,hy,_⟩:=M7 hS n b h1;obtain⟨y',hy',_⟩:=M7 hS n' b' h2;exact hr3.inj n n' y y' hy hy' hne k hk
    have hown0:A2 γ2 V2 W3 ins:=λn b h=>by
     obtain⟨y,hy,hs⟩:=M7 hS n b h;exact a5K hr3.own hs (hr3.own n y hy)
    have hvals:Vals γ2 V2 (ns.map λn=>Base.loc n 0) (caps.toList.map a.eval):=by
     have key:∀(ms:List Nat) (ys:List Value),(∀n∈ms,γ2 n=γ n)->Vals γ V1 (ms.map λn=>Base.loc n 0) ys->Vals γ2 V2 (ms.map λn=>Base.loc n 0) ys:=by
      intro ms;induction ms with
      |nil=>intro ys _ h;rw[h.nil_l];exact .nil
      | cons n ms ih=>
        intro ys hg h;obtain⟨y,ys',rfl,h1,h2⟩:=h.cons_l;refine .cons ?_ (ih ys' (λn hn=>hg n (r6 _ hn)) h2);obtain⟨blk,h3,h4⟩:=h1;exact⟨blk,by rw[hg n (A9 ..)];exact h3,h4⟩
     refine key ns _ (λn hn=>?_) hbs;exact hr3.pin n (memB_mem.1 (n7.1 hp n hn))
    have hcall:=hm.run γ2 V2 W3 (caps.toList.map a.eval) u hr3.sees hvals hown0 hinj0 hmode;rw[show(caps.toList.map a.eval).toArray=caps.map a.eval by rw[<-a1z]] at hcall;refine hcall.mono λe u' W4 hq=>?_;obtain⟨γ4,V4,O4,⟨v,rfl⟩,hset,hbel,hfr,hsees,hres,hres2,hinj4,hbox,hK⟩:=hq;show LeavesInM _ _ _ _ _ _ (a1O ks2) (settle u') W4;rw[hset];split at hK
    case h_2=>exact hK.elim
    rename_i hcl;obtain⟨γ5,st5,hk5,hr5,_⟩:=a7x hr3 hS hbel hfr hsees hres hres2 hinj4 hbox hcl (k:=λst=>b3I T cf fn.results.toList R st) hK;have hblk:∀b∈o8 γ2 ins,∃r x,d7 r st2.O=some x/\(γ2 r).2=some b:=by
     intro b hb;obtain⟨⟨d,x⟩,hm2,hbk⟩:=R6.1 hb;have hl:∃z,d7 d ins=some z:=by
      have :∀l:List (Nat×Blk),(d,x)∈l->∃z,d7 d l=some z:=by
       intro l;induction l with
       |nil=>intro h;cases h
       | cons p l ih=>
         obtain⟨t,y⟩:=p;intro h;by_cases e:t=d
         . subst e;exact⟨y,w9 ..⟩
         . rw[p5 e];rcases p8.1 h with h|h
           . cases h;exact absurd rfl e
           . exact ih h
      exact this ins hm2
     obtain⟨z,hz⟩:=hl;obtain⟨b',hb',_⟩:=M7 hS d z hz;exact⟨d,b',hb',hbk⟩
    have hf5:∀k∈ks2,W.heap.size<=k/\W4.heap[k]?=some (.deferred (some [])):=λk hk=>by
     obtain⟨q1,q2⟩:=hf3 k hk;refine⟨q1,(hbel.block k (R0 q2) λhin=>?_).trans q2⟩;obtain⟨r,x,hl,hkk⟩:=hblk k hin;exact b0B (hr3.own r x hl) hkk q2
    have e0:a1O ks2=a1O ks2++[]:=by simp
    rw[e0];refine a7W (C:=⟨W.heap.size,N,W,V,o8 γ0 [],γ,none,W.heap.size,some []⟩) rfl (p0 _) (by simp) [] ks2 W4 (by simpa using (a7j.1 e2).2.1) (by simpa using hf5) hr5 λW6 hr6 _=>?_;exact fin hr6 hk5
   cases e with
   |normal=>obtain⟨γ2,st2,V2,hr3,hk⟩:=hq;exact go (m:=none) hr3 rfl (by simp) hk
   |ret=>obtain⟨γ2,st2,V2,hr3,hk⟩:=hq;exact go (m:=none) hr3 rfl (by simp) hk
   |exit n=>obtain⟨γ2,st2,V2,_,hk⟩:=hq;exact hk.elim
   |panic ch=>obtain⟨γ2,st2,V2,v,d,rfl,hv,hr3,hk⟩:=hq;exact go (m:=some d) hr3 ⟨v,rfl,hv⟩ (by simp) hk
   |goto l=>exact hq.elim
   |outgrown=>exact hq.elim
 . cases e with
   |normal=>exact absurd rfl hne
   |ret=>obtain⟨γ,st,V',hr',hk⟩:=hq;exact a6k rfl rfl (by simp) hr' λW2 hr2=>fin hr2 hk
   |exit n=>obtain⟨γ,st,V',_,hk⟩:=hq;exact hk.elim
   |panic ch=>obtain⟨γ,st,V',v,d,_,_,_,hk⟩:=hq;exact hk.elim
   |goto l=>exact hq.elim
   |outgrown=>exact hq.elim
theorem b7j {P:Program}{T:List (Nat×TI)}(hT:TOk P T){F:FuncId}{fn:Func}{id t1 t2:Nat}{ty1 ty2:TypeId}{pos1 pos2:String}{af1 af2:Array Edge}{rest:Code}(cf:Cfg)(hf:P.funcs[F]?=some fn)
 (hb:fn.body=some (.seq (.region id #[⟨some t1, .call {callee:= .builtin .recover,args:= #[],argTypes:= #[]},ty1,pos1,af1,none⟩,⟨some t2, .assign (.tmp t1),ty2,pos2,af2,none⟩] false) rest))
 (hnm : (fn.name == "runtime.NumGoroutine") = false) {N : Nat} (hN : fn.ntmps = N) {args : List Base} {ins : List (Nat × Blk)} (hlen : args.length <= N) (ht1 : t1 < N) (ht2 : t2 < N) {m : Option D} {R : List (Nat × Blk) -> Prop}
 (h:∀(B0:Nat) (W0:World) (V0:Know) (lent:List Nat) (g0:Gm),vcC P T ⟨B0,N,W0,V0,lent,g0,none,B0,none⟩ cf rest (b0F T cf fn.results.toList ins λo O'=>(∃b,o= .ret b)/\R O') ⟨(t2, .d (m.getD (.v .nilIface)))::(t1, .junk)::U8 0 args,ins,M8 ins⟩):
 MeetsD P F args ins m R:=by
 refine⟨⟨fn,_,hf,hb,hnm⟩,λγ V W xs u hs hx hown hinj hmode=>callsDIn_of_wpSIn hf hb trivial λc₀ cs hu=>wpSIn_seq (wpSIn_region ?_)⟩;have hxl:xs.length=args.length:=hx.len.symm;have hr0:Rel ⟨W.heap.size,N,W,V,o8 γ ins,γ,none,W.heap.size,none⟩ γ ⟨U8 0 args,ins,M8 ins⟩ V {tmps:=xs.toArray++Array.replicate (fn.ntmps-xs.toArray.size) undef,defers:=[]} W:=by
  refine⟨by simp[hN];omega,rfl,?_,hown,?_,hinj,(λd hd=>rfl),hs, .refl V _ _, .refl _ _ _,p0 _⟩
  . intro t b hl;obtain⟨j,v,rfl,hj,hv⟩:=b0n args xs 0 t b hx hl;have hjl:j<xs.length:=by
     rcases C5 j xs.length with h|h
     . exact h
     . rw[z6 h] at hj;cases hj
    simp only[F3,a2i];rw[a6R (by simpa using hjl)];simpa[hj] using hv
  . intro d b hl k hk;exact .inl (R6.2 ⟨(d,b),Y3 hl,hk⟩)
 generalize ({tmps:=xs.toArray++Array.replicate (fn.ntmps-xs.toArray.size) undef,defers:=[]}:Act)=a0 at hr0⊢;obtain ⟨x,cs',u',hrec,hcs,hset,hxr⟩:∃x cs' u',(match recoverD (c₀::cs) with|some (v,cs')=>(v,cs')|none=>(Value.nilIface,c₀::cs))=(x,cs')/\cs'={c₀ with mode:=u'}::cs/\settle u'= .returning/\Rep V x (m.getD (.v .nilIface)):=by
  cases m with
  | none=>
    have hu':c₀.mode= .returning:=hu.trans hmode;refine⟨.nilIface,c₀::cs, .returning,by simp[recoverD,hu'],?_,rfl, .v _ ⟨rfl,λ_ _ e=>by cases e⟩⟩;cases c₀;simp_all
  | some d=>
    obtain⟨v,rfl,hv⟩:=hmode;exact⟨v,_, .panicking [{v,recovered:=true}],by simp[recoverD,hu],rfl,rfl,hv⟩
 have h1:=L9 hr0 (d:=some t1) (b:= .junk) (x:=x) (λs hs=>by cases hs;exact ht1) trivial;have hsz:t1<a0.tmps.size:=by rw[hr0.size];exact ht1
 have hev:(a0.put (some t1) x).eval (.tmp t1)=x:=by simp[Act.put,Act.eval,hsz]
 have h2:=L9 h1 (d:=some t2) (b:= .d (m.getD (.v .nilIface))) (x:=x) (λs hs=>by cases hs;exact ht2) hxr;have e0:∀ρ,(execOp ρ ⟨some t1, .call {callee:= .builtin .recover,args:= #[],argTypes:= #[]},ty1,pos1,af1,none⟩).run P W= .ok .recover W:=by
  intro ρ;simp[execOp,resolve,invoke,builtin]
 have e1:∀ρ,(execOp ρ ⟨some t2, .assign (.tmp t1),ty2,pos2,af2,none⟩).run P W= .ok (.value (ρ (.tmp t1))) W:=λρ=>rfl;have hlist:List.range (#[(⟨some t1, .call {callee:= .builtin .recover,args:= #[],argTypes:= #[]},ty1,pos1,af1,none⟩:Oper),⟨some t2, .assign (.tmp t1),ty2,pos2,af2,none⟩]:Array Oper).size=[0,1]:=rfl;rw[hlist];have key:rest.wpSIn Fence.wide 0 P (bodyPostS P fn c₀ cs λe u' W'=>∃γ' V' O',(∃v,e= .returned v)/\settle u'= .returning/\BelowX (o8 γ ins) W.heap.size W W'/\Fresh V V' (o8 γ ins) W.heap.size/\Sees V' W'/\A2 γ' V' W' O'/\
  (∀n b,d7 n O'=some b->∀k,(γ' n).2=some k->k∈o8 γ ins\/W.heap.size<=k)/\M4 γ' O'/\(∀n b,d7 n ins=some b->T4 n b=true->γ' n=γ n)/\R O') ((a0.put (some t1) x).put (some t2) x) cs' W:=by
  refine wpSIn_of_wpIn rfl (Go.wpIn_mono (F:=Fence.wide) ((a5q hT cf rest (h W.heap.size W V (o8 γ ins) γ)).run _ _ _ _ h2) λe a W' hq=>?_);have fin:∀{γ2:Gm} {st:SSt} {V':Know} {a:Act} {W':World},Rel ⟨W.heap.size,N,W,V,o8 γ ins,γ,none,W.heap.size,none⟩ γ2 st V' a W'->(a5a T cf fn.results.toList st λb st=>∃O' rb,(a0X st.O rb b/\a0r st.O O'/\(M8 ins).all (λn=>w6 n st.pins)=true)/\Done ((∃b,Out.ret rb= .ret b)/\R O'))->
   a.defers=[]/\∃u',cs'={c₀ with mode:=u'}::cs/\∃v,(results fn a.tmps).run P W'= .ok v W'/\∃γ' V' O',(∃v',Ending.returned v= .returned v')/\settle u'= .returning/\BelowX (o8 γ ins) W.heap.size W W'/\Fresh V V' (o8 γ ins) W.heap.size/\Sees V' W'/\A2 γ' V' W' O'/\
    (∀n b,d7 n O'=some b->∀k,(γ' n).2=some k->k∈o8 γ ins\/W.heap.size<=k)/\M4 γ' O'/\(∀n b,d7 n ins=some b->T4 n b=true->γ' n=γ n)/\R O':=by
   intro γ2 st V' a W' hr hk;refine⟨hr.defers,u',hcs,?_⟩;obtain⟨b,st',V2,v,⟨O',rb,⟨h1,h2,h3⟩,hd⟩,hr',hv,hrun⟩:=b0G hT hr hk;refine⟨v,hrun,γ2,V2,O',⟨v,rfl⟩,hset,hr'.below,hr'.fresh,hr'.sees,λn b hl=>?_,λn b hl=>?_,λn n' b b' hl hl' hne=>?_,λn b hl hb=>?_,hd.out.2⟩
   . obtain⟨y,hy,hs⟩:=M7 h2 n b hl;exact a5K hr'.own hs (hr'.own n y hy)
   . obtain⟨y,hy,_⟩:=M7 h2 n b hl;exact hr'.okb n y hy
   . obtain⟨y,hy,_⟩:=M7 h2 n b hl;obtain⟨y',hy',_⟩:=M7 h2 n' b' hl';exact hr'.inj n n' y y' hy hy' hne
   . exact hr'.pin n (memB_mem.1 (n7.1 h3 n (b8L hb (Y3 hl))))
  cases e with
  |normal=>obtain⟨γ2,st,V',hr',hk⟩:=hq;exact fin hr' hk
  |ret=>obtain⟨γ2,st,V',hr',hk⟩:=hq;exact fin hr' hk
  |exit n=>obtain⟨γ2,st,V',_,hk⟩:=hq;exact hk.elim
  | panic ch=>
    obtain⟨γ2,st,V',v,d,_,_,_,O',_,hd⟩:=hq;obtain⟨⟨b,hb⟩,_⟩:=hd.out;cases hb
  |goto l=>exact hq.elim
  |outgrown=>exact hq.elim
 simp only[wpOpsSIn,List.getElem?_toArray,List.getElem?_cons_zero,List.getElem?_cons_succ,Region.wanted,e0,e1,if_true,Exit.thenS];refine⟨λ_ _=>trivial,?_⟩;cases hrd:recoverD (c₀::cs) with
 | none=>
   rw[hrd] at hrec;cases hrec;exact⟨λ_ _=>trivial,by rw[hev];exact key⟩
 | some p=>
   obtain⟨v,cs2⟩:=p;rw[hrd] at hrec;cases hrec;exact⟨λ_ _=>trivial,by rw[hev];exact key⟩
theorem a7P {α:Type}{xs:List α}(f:α->List D){i:Nat}(h:i<xs.length){ds:List D}(hd:f xs[i]=ds):(xs.map f)[((i:Nat):Int).toNat]?=some ds:=by
 rw[U4,z7,t6 h,G9,hd]
theorem d2O {s:List UInt8}{i:Nat}(h:i<s.length):s[((i:Nat):Int).toNat]?=some s[i]:=by
 rw[U4,t6 h]
theorem BB:(∀(p:Prop) [Decidable p],(decide p=true)=p)/\(∀(p:Prop) [Decidable p],(decide p=false)=¬p)/\(∀b:Bool,((!b)=true)=(b=false))/\(∀b:Bool,((!b)=false)=(b=true))/\
 (∀b:Bool,(¬(b=true))=(b=false))/\(∀b:Bool,(¬(b=false))=(b=true))/\(∀a b:Bool,((a||b)=true)=(a=true\/b=true))/\(∀a b:Bool,((a&&b)=true)=(a=true/\b=true))/\
 (∀a b:Bool,((a||b)=false)=(a=false/\b=false))/\(∀a b:Bool,((a&&b)=false)=(a=true->b=false)):=
 ⟨λp _=>by simp,λp _=>by simp,by decide,by decide,by decide,by decide,by decide,by decide,by decide,by decide⟩
theorem i64 {n:Int}(h0: -9223372036854775808<=n)(h1:n<=9223372036854775807):w8 .i64 n:=⟨h0,h1⟩
theorem Ka {H1 H2 C E:Prop}(e:E)(h:H1->H2->C:=by(intro h1 h2;have:=h1.1;have:=h1.2;have:=h2.1;have:=h2.2;refine⟨?_,?_⟩<;>((try dsimp only at *);first|omega|(simp only[o9] at *;omega)))):(H1->H2->C)/\E:=⟨h,e⟩
theorem Kb {a b c d:Int}{E:Prop}(e:E)(h1:a<=b:=by((try dsimp only at *);omega))(h2:c<d:=by((try dsimp only at *);omega)):(a<=b/\c<d)/\E:=⟨⟨h1,h2⟩,e⟩
theorem Kc {α:Type}{xs:List α}{f:α->List D}{i n:Nat}{ds:List D}{E:List D->Prop}(h:i<xs.length:=by((try dsimp only at *);(try simp only[o9] at *);omega))(hd:f (xs[i]'h)=ds)(e:E ds)
 (hl:ds.length=n:=by rfl):∃ds,(0<=(i:Int)/\(xs.map f)[((i:Nat):Int).toNat]?=some ds/\ds.length=n)/\E ds:=
 ⟨ds,⟨Int.natCast_nonneg _,a7P f h hd,hl⟩,e⟩
theorem Kd {s:List UInt8}{i:Nat}{E:UInt8->Prop}(h:i<s.length:=by((try dsimp only at *);(try simp only[o9] at *);omega))(e:E (s[i]'h)):∃c,(0<=(i:Int)/\s[((i:Nat):Int).toNat]?=some c)/\E c:=
 ⟨s[i],⟨Int.natCast_nonneg _,d2O h⟩,e⟩
theorem Z {C:Cx}{st:SSt}{c:Code}{Q:E6}(h:b0C c=true)(k:vcC Tryz.prog T C {} c Q st):J Tryz.prog C c Q st:=b4I tok {} h k
theorem Kl {n m:Nat}{O O':List (Nat×Blk)}{E:Prop}(h:d7 n O=d7 m O')(e:E):d7 n O=d7 m O'/\E:=⟨h,e⟩
theorem Kh {c d:Bool}{E F:Prop}(h:c=true->E)(k:d=false->F):(c=true->E)/\(d=false->F):=⟨h,k⟩
theorem Kr {E:Prop}(h:E:=by repeat'(first|exact d9|exact rfl|refine d8 ?_ ?_)):E:=h
theorem SL:(∀(α β:Type) (f:α->β) (l:List α),(l.map f).length=l.length)/\maxLen=2^63-1:=⟨λ_ _ _ _=>o9 ..,rfl⟩
theorem BL:((∀(p:Prop) [Decidable p],(decide p=true)=p)/\(∀(p:Prop) [Decidable p],(decide p=false)=¬p)/\(∀b:Bool,((!b)=true)=(b=false))/\(∀b:Bool,((!b)=false)=(b=true))/\
 (∀b:Bool,(¬(b=true))=(b=false))/\(∀b:Bool,(¬(b=false))=(b=true))/\(∀a b:Bool,((a||b)=true)=(a=true\/b=true))/\(∀a b:Bool,((a&&b)=true)=(a=true/\b=true))/\
 (∀a b:Bool,((a||b)=false)=(a=false/\b=false))/\(∀a b:Bool,((a&&b)=false)=(a=true->b=false)))/\∀(α β:Type) (f:α->β) (l:List α),(l.map f).length=l.length:=⟨BB,λ_ _ _ _=>o9 ..⟩
theorem Y {C:Cx}{st:SSt}{c:Code}{Q:E6}(cf:Cfg)(h:b0C c=true)(k:vcC Tryz.prog T C cf c Q st):J Tryz.prog C c Q st:=b4I tok cf h k
def CfI (_:Cfg):Prop:=True
theorem Yh {C:Cx}{st:SSt}{c:Code}{Q:E6}{cf:Cfg}(_:CfI cf)(h:b0C c=true)(k:vcC Tryz.prog T C cf c Q st):J Tryz.prog C c Q st:=b4I tok cf h k
theorem Kw {P Q:Prop}(q:Q)(h:Q->P:=by(intro hq;(conv=>whnf);(repeat'(refine Z rfl ?_;conv=>whnf));exact hq)):P:=h q
theorem Kv (c:Cfg){P Q:Prop}(q:Q)(h:CfI c->Q->P:=by(intro hc hq;(conv=>whnf);(repeat'(refine Yh hc rfl ?_;conv=>whnf));exact hq)):P:=h d9 q
theorem K8a {H1 H2 C E:Prop}(h:H1->H2->C:=by(intro h1 h2;have:=h1.1;have:=h1.2;have:=h2.1;have:=h2.2;refine⟨?_,?_⟩<;>((try dsimp only at *);first|omega|(simp only[o9] at *;omega)))):E->(H1->H2->C)/\E:=λe=>⟨h,e⟩
theorem K8b {a b c d:Int}{E:Prop}(h1:a<=b:=by((try dsimp only at *);omega))(h2:c<d:=by((try dsimp only at *);omega)):E->(a<=b/\c<d)/\E:=λe=>⟨⟨h1,h2⟩,e⟩
theorem K8c {α:Type}{xs:List α}{f:α->List D}{i n:Nat}{ds:List D}{E:List D->Prop}(h:i<xs.length:=by((try dsimp only at *);(try simp only[o9] at *);omega))(hd:f (xs[i]'h)=ds:=by rfl)
 (hl:ds.length=n:=by rfl):E ds->∃ds,(0<=(i:Int)/\(xs.map f)[((i:Nat):Int).toNat]?=some ds/\ds.length=n)/\E ds:=λe=>Kc (hd:=hd) (e:=e) (hl:=hl)
theorem K8d {s:List UInt8}{i:Nat}{E:UInt8->Prop}(h:i<s.length:=by((try dsimp only at *);(try simp only[o9] at *);omega)):E (s[i]'h)->∃c,(0<=(i:Int)/\s[((i:Nat):Int).toNat]?=some c)/\E c:=λe=>Kd (e:=e)
theorem K8l {n m:Nat}{O O':List (Nat×Blk)}{E:Prop}(h:d7 n O=d7 m O':=by rfl):E->d7 n O=d7 m O'/\E:=λe=>⟨h,e⟩
theorem K8 {P Q:Prop}(q:Q)(h:Q->P:=by(first|exact K8a|exact K8b|exact K8c (hd:=rfl)|exact K8c (hd:=icells_eq _)|exact K8c (hd:=Cond.cells_eq _)|exact K8d|exact K8l)):P:=h q
theorem K9 {P Q:Prop}(q:Q)(h:Q->P:=by(first|exact K9s|exact K9q|exact K9t)):P:=h q
theorem En {f:FuncId}{fn:Func}{c:Code}{N:Nat}{args:List D}{R:D->Prop}(cf:Cfg)(hf:Tryz.prog.funcs[f]?=some fn)(hN:fn.ntmps=N)(h:∀(B0:Nat) (W0:World) (V0:Know) (lent:List Nat) (g0:Gm),vcC Tryz.prog T ⟨B0,N,W0,V0,lent,g0,none,B0,some []⟩ cf c (b3J T cf fn.results.toList R) ⟨U8 0 (args.map .d),[],[]⟩)
 (hb : fn.body = some c := by rfl) (hn : (fn.name == "runtime.NumGoroutine") = false := by kernel_rfl) (hl : args.length <= N := by simp) : Meets Tryz.prog f args R := enter tok cf hf hb hn hN hl h
theorem EnR {f:FuncId}{fn:Func}{c:Code}{N:Nat}{args:List Base}{ins:List (Nat×Blk)}{R:Out->List (Nat×Blk)->Prop}(cf:Cfg)(hf:Tryz.prog.funcs[f]?=some fn)(hN:fn.ntmps=N)(h:∀(B0:Nat) (W0:World) (V0:Know) (lent:List Nat) (g0:Gm),vcC Tryz.prog T ⟨B0,N,W0,V0,lent,g0,none,B0,some []⟩ cf c (b0F T cf fn.results.toList ins R) ⟨U8 0 args,ins,M8 ins⟩)
 (hb : fn.body = some c := by rfl) (hn : (fn.name == "runtime.NumGoroutine") = false := by kernel_rfl) (hl : args.length <= N := by simp) : MeetsR Tryz.prog f args ins R := c5O tok cf hf hb hn hN hl h
theorem Dr {C:Cx}{ops:Array Oper}{st:SSt}{id:Nat}{Q:E6}(cf:Cfg)(r:List Stp)(h:vcD Tryz.prog T C.N cf ops (λd st=>Q (.pan d) st) r [] st λst=>Q .nrm st)(hm:Tryz.prog.follows .mixedOrders=true:=by kernel_rfl)(hb:(b4m ops&&a1d ops r [])=true:=by kernel_rfl):J Tryz.prog C (.region id ops true) Q st:=c5G tok hm r hb h
theorem K7 {P Q:Prop}(q:Q)(h:Q->P:=by(first|exact K8a|exact K8b|exact K8c (hd:=rfl)|exact K8c (hd:=icells_eq _)|exact K8d|exact K8l)):P:=h q
abbrev Mt:=Meets Tryz.prog
abbrev MR:=MeetsR Tryz.prog
abbrev iD (n:Int):D:= .v (.int .i64 n)
abbrev bD (b:Bool):D:= .v (.bool b)
abbrev iB (n:Int):Base:= .d (iD n)
abbrev a0D (n:Int):List D:=[iD n]
theorem icells_eq (n:Int):a0D n=[iD n]:=rfl
structure Cond where
 kind:Int
 var:Int
 n:Int
 parts:List Cond
mutual
def Cond.cells:Cond->List D
 |⟨k,v,n,ps⟩=>[iD k,iD v,iD n, .sl (Cond.cellsL ps)]
def Cond.cellsL:List Cond->List (List D)
 |[]=>[]
 |c::cs=>c.cells::Cond.cellsL cs
end
theorem Cond.cellsL_eq:∀ps:List Cond,Cond.cellsL ps=ps.map Cond.cells:=by
 intro ps;induction ps with
 |nil=>rfl
 |cons c ps ih=>simp[Cond.cellsL,ih]
abbrev Cond.dc (c:Cond):List D:=[iD c.kind,iD c.var,iD c.n, .sl (c.parts.map Cond.cells)]
abbrev Cond.d (c:Cond):D:= .agg c.dc
theorem Cond.cells_eq (c:Cond):c.cells=c.dc:=by
 obtain⟨k,v,n,ps⟩:=c;simp only[Cond.cells,Cond.cellsL_eq]
theorem Cond.size_part {c x:Cond}(hx:x∈c.parts):SizeOf.sizeOf x<SizeOf.sizeOf c:=by
 obtain⟨k,v,n,ps⟩:=c;have:=U6 hx;simp only[Cond.mk.sizeOf_spec];simp only at this;omega
structure Step where
 kind:Int
 crit:Int
 cond:Cond
 th:List Step
 el:List Step
mutual
def Step.cells:Step->List D
 |⟨k,b,c,t,e⟩=>[iD k,iD b,iD c.kind,iD c.var,iD c.n, .sl (c.parts.map Cond.cells), .sl (Step.cellsL t), .sl (Step.cellsL e)]
def Step.cellsL:List Step->List (List D)
 |[]=>[]
 |c::cs=>c.cells::Step.cellsL cs
end
theorem Step.cellsL_eq:∀ps:List Step,Step.cellsL ps=ps.map Step.cells:=by
 intro ps;induction ps with
 |nil=>rfl
 |cons c ps ih=>simp[Step.cellsL,ih]
abbrev Step.dc (s:Step):List D:=[iD s.kind,iD s.crit,iD s.cond.kind,iD s.cond.var,iD s.cond.n, .sl (s.cond.parts.map Cond.cells), .sl (s.th.map Step.cells), .sl (s.el.map Step.cells)]
abbrev Step.d (s:Step):D:= .agg s.dc
theorem Step.cells_eq (s:Step):s.cells=s.dc:=by
 obtain⟨k,b,c,t,e⟩:=s;simp only[Step.cells,Step.cellsL_eq]
theorem a9o {c x:Step}(hx:x∈c.th):SizeOf.sizeOf x<SizeOf.sizeOf c:=by
 obtain⟨k,b,c,t,e⟩:=c;have:=U6 hx;simp only[Step.mk.sizeOf_spec];simp only at this;omega
theorem a9n {c x:Step}(hx:x∈c.el):SizeOf.sizeOf x<SizeOf.sizeOf c:=by
 obtain⟨k,b,c,t,e⟩:=c;have:=U6 hx;simp only[Step.mk.sizeOf_spec];simp only at this;omega
structure Part where
 mat:Int
 laps:Int
 parts:List Part
mutual
def Part.cells:Part->List D
 |⟨m,l,ps⟩=>[iD m,iD l, .sl (Part.cellsL ps)]
def Part.cellsL:List Part->List (List D)
 |[]=>[]
 |c::cs=>c.cells::Part.cellsL cs
end
theorem Part.cellsL_eq:∀ps:List Part,Part.cellsL ps=ps.map Part.cells:=by
 intro ps;induction ps with
 |nil=>rfl
 |cons c ps ih=>simp[Part.cellsL,ih]
abbrev Part.dc (c:Part):List D:=[iD c.mat,iD c.laps, .sl (c.parts.map Part.cells)]
abbrev Part.d (c:Part):D:= .agg c.dc
theorem Part.cells_eq (c:Part):c.cells=c.dc:=by
 obtain⟨m,l,ps⟩:=c;simp only[Part.cells,Part.cellsL_eq]
theorem Part.size_part {c x:Part}(hx:x∈c.parts):SizeOf.sizeOf x<SizeOf.sizeOf c:=by
 obtain⟨m,l,ps⟩:=c;have:=U6 hx;simp only[Part.mk.sizeOf_spec];simp only at this;omega
structure Mat where
 name:List UInt8
 kind:Int
abbrev Mat.cells (m:Mat):List D:=[.str m.name,iD m.kind]
abbrev Mat.d (m:Mat):D:= .agg m.cells
theorem Mat.cells_eq (m:Mat):m.cells=[.str m.name,iD m.kind]:=rfl
structure Leg where
 src:Int
 dst:Int
 lo:Int
 hi:Int
abbrev Leg.cells (m:Leg):List D:=[iD m.src,iD m.dst,iD m.lo,iD m.hi]
abbrev Leg.d (m:Leg):D:= .agg m.cells
theorem Leg.cells_eq (m:Leg):m.cells=[iD m.src,iD m.dst,iD m.lo,iD m.hi]:=rfl
structure Cutoff where
 mat:Int
 lap:Int
 limit:Int
abbrev Cutoff.cells (m:Cutoff):List D:=[iD m.mat,iD m.lap,iD m.limit]
abbrev Cutoff.d (m:Cutoff):D:= .agg m.cells
theorem Cutoff.cells_eq (m:Cutoff):m.cells=[iD m.mat,iD m.lap,iD m.limit]:=rfl
structure Distance where
 name:List UInt8
 route:List Part
 timing:Int
 cutoffs:List Cutoff
 extra:Int
abbrev Distance.cells (m:Distance):List D:=[.str m.name, .sl (m.route.map Part.cells),iD m.timing, .sl (m.cutoffs.map Cutoff.cells),iD m.extra]
abbrev Distance.d (m:Distance):D:= .agg m.cells
theorem Distance.cells_eq (m:Distance):m.cells=[.str m.name, .sl (m.route.map Part.cells),iD m.timing, .sl (m.cutoffs.map Cutoff.cells),iD m.extra]:=rfl
structure Wave where
 name:List UInt8
 gun:Int
abbrev Wave.cells (m:Wave):List D:=[.str m.name,iD m.gun]
abbrev Wave.d (m:Wave):D:= .agg m.cells
theorem Wave.cells_eq (m:Wave):m.cells=[.str m.name,iD m.gun]:=rfl
structure Offence where
 name:List UInt8
 time:Int
 laps:Int
 out:Bool
abbrev Offence.cells (m:Offence):List D:=[.str m.name,iD m.time,iD m.laps,bD m.out]
abbrev Offence.d (m:Offence):D:= .agg m.cells
theorem Offence.cells_eq (m:Offence):m.cells=[.str m.name,iD m.time,iD m.laps,bD m.out]:=rfl
structure Category where
 name:List UInt8
 lo:Int
 hi:Int
abbrev Category.cells (m:Category):List D:=[.str m.name,iD m.lo,iD m.hi]
abbrev Category.d (m:Category):D:= .agg m.cells
theorem Category.cells_eq (m:Category):m.cells=[.str m.name,iD m.lo,iD m.hi]:=rfl
structure Prize where
 distance:Int
 category:Int
 rank:Int
 amount:Int
abbrev Prize.cells (m:Prize):List D:=[iD m.distance,iD m.category,iD m.rank,iD m.amount]
abbrev Prize.d (m:Prize):D:= .agg m.cells
theorem Prize.cells_eq (m:Prize):m.cells=[iD m.distance,iD m.category,iD m.rank,iD m.amount]:=rfl
structure Faults where
 misses:Int
 strays:Int
 window:Int
 residual:Int
 drift:Int
structure Course where
 name:List UInt8
 mats:List Mat
 legs:List Leg
 distances:List Distance
 waves:List Wave
 offences:List Offence
 categories:List Category
 prizes:List Prize
 ties:List Step
 faults:Faults
 fee:Int
 deadline:Int
abbrev Course.cells (c:Course):List D:=[.str c.name, .sl (c.mats.map Mat.cells), .sl (c.legs.map Leg.cells), .sl (c.distances.map Distance.cells), .sl (c.waves.map Wave.cells), .sl (c.offences.map Offence.cells), .sl (c.categories.map Category.cells), .sl (c.prizes.map Prize.cells), .sl (c.ties.map Step.cells),
 iD c.faults.misses,iD c.faults.strays,iD c.faults.window,iD c.faults.residual,iD c.faults.drift,iD c.fee,iD c.deadline]
abbrev Course.d (c:Course):D:= .agg c.cells
structure Env where
 distance:Int
 field:Int
 short:Int
abbrev Env.d (x:Env):D:= .agg [iD x.distance,iD x.field,iD x.short]
inductive Form where
 |ofC (c:Cond)
 |ofS (s:Step)
def Form.t:Form->Nat| .ofC _=>137| .ofS _=>233
def Form.x:Form->D| .ofC c=> .agg [iD c.kind,iD c.var,iD c.n, .sl (c.parts.map Cond.cells)]| .ofS s=> .agg [iD s.kind,iD s.crit,iD s.cond.kind,iD s.cond.var,iD s.cond.n, .sl (s.cond.parts.map Cond.cells), .sl (s.th.map Step.cells), .sl (s.el.map Step.cells)]
abbrev Form.d (f:Form):D:= .iface f.t f.x
abbrev Form.cells (f:Form):List D:=[f.d]
theorem Form.cells_eq (f:Form):f.cells=[f.d]:=rfl
theorem a1b {α:Type}{p:α->Bool}{xs:List α}(h:∀x∈xs,p x=false):xs.any p=false:=by
 rw[List.any_eq_false];intro x hx;rw[h x hx];simp
theorem Y7 {α:Type}{p:α->Prop}{xs:List α}{i:Nat}(hi:i<xs.length)(h:∀x∈xs.take i,p x)(hx:p xs[i]):∀x∈xs.take (i+1),p x:=by
 intro x hm;rw[L1 hi,A8,I4] at hm;rcases hm with hm|rfl
 . exact h x hm
 . exact hx
def inR (lo hi n:Int):Bool:=decide (lo<=n)&&decide (n<=hi)
def L6 (cs:List Cond):List Form:=cs.map .ofC
def q9 (ss:List Step):List Form:=ss.map .ofS
mutual
def Cond.sz:Cond->Nat
 |⟨_,_,_,ps⟩=>1+Cond.szL ps
def Cond.szL:List Cond->Nat
 |[]=>0
 |c::cs=>1+c.sz+Cond.szL cs
end
mutual
def Step.sz:Step->Nat
 |⟨_,_,c,t,e⟩=>2+c.sz+Step.szL t+Step.szL e
def Step.szL:List Step->Nat
 |[]=>0
 |c::cs=>1+c.sz+Step.szL cs
end
def Form.sz:Form->Nat| .ofC c=>c.sz| .ofS s=>s.sz
def szF (l:List Form):Nat:=(l.map λf=>1+f.sz).sum
theorem Cond.sz_eq (c:Cond):c.sz=1+Cond.szL c.parts:=by obtain⟨k,v,n,ps⟩:=c;rfl
theorem Step.sz_eq (s:Step):s.sz=2+s.cond.sz+Step.szL s.th+Step.szL s.el:=by obtain⟨k,b,c,t,e⟩:=s;rfl
theorem c0F:∀cs:List Cond,szF (L6 cs)=Cond.szL cs:=by
 intro cs;induction cs with
 |nil=>rfl
 |cons c cs ih=>simp only[L6,szF,o5,Q6,Cond.szL] at ih⊢;rw[ih];rfl
theorem a5g:∀cs:List Step,szF (q9 cs)=Step.szL cs:=by
 intro cs;induction cs with
 |nil=>rfl
 |cons c cs ih=>simp only[q9,szF,o5,Q6,Step.szL] at ih⊢;rw[ih];rfl
theorem b4p (a b:List Form):szF (a++b)=szF a+szF b:=by simp[szF]
theorem a5i:∀{l:List Form} {f:Form},f∈l->1+f.sz<=szF l:=by
 intro l;induction l with
 |nil=>intro f h;cases h
 | cons x l ih=>
   intro f h;simp only[szF,o5,Q6] at ih⊢;rcases p8.1 h with rfl|h
   . omega
   . have:=ih h;omega
def small:Nat:=1048576
mutual
def Cond.ok:Cond->Prop
 |⟨_,_,_,ps⟩=>ps.length<=1048576/\Cond.okL ps
def Cond.okL:List Cond->Prop
 |[]=>True
 |c::cs=>c.ok/\Cond.okL cs
end
theorem Cond.okL_iff:∀{cs:List Cond},Cond.okL cs↔∀c∈cs,c.ok:=by
 intro cs;induction cs with
 |nil=>simp[Cond.okL]
 |cons c cs ih=>simp[Cond.okL,ih]
theorem Cond.ok_iff {c:Cond}:c.ok↔c.parts.length<=1048576/\∀x∈c.parts,x.ok:=by obtain⟨k,v,n,ps⟩:=c;simp only[Cond.ok,Cond.okL_iff]
mutual
def Step.ok:Step->Prop
 |⟨_,_,c,t,e⟩=>c.ok/\(t.length<=1048576/\Step.okL t)/\e.length<=1048576/\Step.okL e
def Step.okL:List Step->Prop
 |[]=>True
 |c::cs=>c.ok/\Step.okL cs
end
theorem Step.okL_iff:∀{cs:List Step},Step.okL cs↔∀c∈cs,c.ok:=by
 intro cs;induction cs with
 |nil=>simp[Step.okL]
 |cons c cs ih=>simp[Step.okL,ih]
theorem Step.ok_iff {s:Step}:s.ok↔s.cond.ok/\(s.th.length<=1048576/\∀x∈s.th,x.ok)/\s.el.length<=1048576/\∀x∈s.el,x.ok:=by obtain⟨k,b,c,t,e⟩:=s;simp only[Step.ok,Step.okL_iff]
def Form.ok:Form->Prop| .ofC c=>c.ok| .ofS s=>s.ok
theorem b9l {cs:List Cond}(h:∀c∈cs,c.ok):∀f∈L6 cs,f.ok:=by
 intro f hf;obtain⟨c,hc,rfl⟩:=v6.1 hf;exact h c hc
theorem a8o {cs:List Step}(h:∀c∈cs,c.ok):∀f∈q9 cs,f.ok:=by
 intro f hf;obtain⟨c,hc,rfl⟩:=v6.1 hf;exact h c hc
def Cond.isZero (c:Cond):Bool:=decide (c.kind=0)&&(decide (c.var=0)&&(decide (c.n=0)&&decide ((c.parts.length:Int)=0)))
mutual
def Cond.valid:Cond->Bool
 | ⟨k,v,n,ps⟩=>
   if k=1 then inR 1 3 v&&(inR 0 10000 n&&decide ((ps.length:Int)=0))
   else if k=4 then(decide (v=0)&&decide (n=0))&&(decide ((ps.length:Int)=1)&&Cond.validL ps)
   else if k=2\/k=3 then(decide (v=0)&&decide (n=0))&&((decide (0<(ps.length:Int))&&decide ((ps.length:Int)<=16))&&Cond.validL ps)
   else false
def Cond.validL:List Cond->Bool
 |[]=>true
 |c::cs=>c.valid&&Cond.validL cs
end
theorem Cond.validL_eq:∀cs:List Cond,Cond.validL cs=cs.all Cond.valid:=by
 intro cs;induction cs with
 |nil=>rfl
 |cons c cs ih=>simp[Cond.validL,ih]
theorem Cond.valid_eq (c:Cond):c.valid=if c.kind=1 then inR 1 3 c.var&&(inR 0 10000 c.n&&decide ((c.parts.length:Int)=0))
 else if c.kind=4 then(decide (c.var=0)&&decide (c.n=0))&&(decide ((c.parts.length:Int)=1)&&c.parts.all Cond.valid)
 else if c.kind=2\/c.kind=3 then(decide (c.var=0)&&decide (c.n=0))&&((decide (0<(c.parts.length:Int))&&decide ((c.parts.length:Int)<=16))&&c.parts.all Cond.valid)
 else false:=by obtain⟨k,v,n,ps⟩:=c;simp only[Cond.valid,Cond.validL_eq]
mutual
def Step.valid:Step->Bool
 | ⟨k,b,c,t,e⟩=>
   if k=1 then inR 1 5 b&&(c.isZero&&(decide ((t.length:Int)=0)&&decide ((e.length:Int)=0)))
   else if k=2 then decide (b=0)&&(c.valid&&(decide (0<(t.length:Int))&&(Step.validL t&&Step.validL e)))
   else false
def Step.validL:List Step->Bool
 |[]=>true
 |c::cs=>c.valid&&Step.validL cs
end
theorem Step.validL_eq:∀cs:List Step,Step.validL cs=cs.all Step.valid:=by
 intro cs;induction cs with
 |nil=>rfl
 |cons c cs ih=>simp[Step.validL,ih]
theorem Step.valid_eq (s:Step):s.valid=if s.kind=1 then inR 1 5 s.crit&&(s.cond.isZero&&(decide ((s.th.length:Int)=0)&&decide ((s.el.length:Int)=0)))
 else if s.kind=2 then decide (s.crit=0)&&(s.cond.valid&&(decide (0<(s.th.length:Int))&&(s.th.all Step.valid&&s.el.all Step.valid)))
 else false:=by obtain⟨k,b,c,t,e⟩:=s;simp only[Step.valid,Step.validL_eq]
def Form.valid:Form->Bool| .ofC c=>c.valid| .ofS s=>s.valid
theorem c3l (cs:List Cond):(L6 cs).all Form.valid=cs.all Cond.valid:=by simp only[L6,List.all_map];rfl
theorem b1O (cs:List Step):(q9 cs).all Form.valid=cs.all Step.valid:=by simp only[q9,List.all_map];rfl
end Go.Proofs.YteillnfhkeebjaaGreatDoor.Dx
