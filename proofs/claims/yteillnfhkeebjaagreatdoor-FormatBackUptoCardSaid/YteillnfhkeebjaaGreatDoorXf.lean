/- Same. -/
import Derived.Test.YteillnfhkeebjaaGreatDoorXe
import Derived.Test.YteillnfhkeebjaaGreatDoorWz
set_option linter.all false
namespace Go.Proofs.YteillnfhkeebjaaGreatDoor.Dx
open Go Go.RowKit Go.Proofs
set_option maxRecDepth 100000
set_option maxHeartbeats 32000000
set_option maxHeartbeats 4000000
theorem cut (p:UInt8->Bool):∀{x y s t:List UInt8},(∀b∈x,p b=true)->(∀b∈y,p b=true)->(∀b,s.head?=some b->p b=false)->(∀b,t.head?=some b->p b=false)->x++s=y++t->x=y/\s=t
 |[],[],s,t,_,_,_,_,h=>⟨rfl,h⟩
 | [],b::y,s,t,_,hy,hs,_,h=>by
   have h:s=b::(y++t):=h;have:=hs b (by rw[h];rfl);rw[hy b (by simp)] at this;cases this
 | b::x,[],s,t,hx,_,_,ht,h=>by
   have h:b::(x++s)=t:=h;have:=ht b (by rw[<-h];rfl);rw[hx b (by simp)] at this;cases this
 | b::x,c::y,s,t,hx,hy,hs,ht,h=>by
   simp only[q8,List.cons.injEq] at h;obtain⟨rfl,h⟩:=h;obtain⟨h1,h2⟩:=cut p (λz hz=>hx z (r6 _ hz)) (λz hz=>hy z (r6 _ hz)) hs ht h;exact⟨by rw[h1],h2⟩
def wch (b:UInt8):Bool:=a2K b||(decide (b=58)||decide (b=46))
def Wd (x:List UInt8):Prop:=∀b∈x,wch b=true
theorem Wd.cut {x y:List UInt8}{d e:UInt8}{s t:List UInt8}(hx:Wd x)(hy:Wd y)(h:x++d::s=y++e::t)(hd:wch d=false:=by decide)(he:wch e=false:=by decide):x=y/\d=e/\s=t:=by
 obtain⟨h1,h2⟩:=Dx.cut wch hx hy (by simpa using hd) (by simpa using he) h;rw[List.cons.injEq] at h2;exact⟨h1,h2.1,h2.2⟩
theorem Wd.nil:Wd []:=by intro b h;cases h
theorem Wd.app {x y:List UInt8}(hx:Wd x)(hy:Wd y):Wd (x++y):=by
 intro b hb;rcases A8.1 hb with h|h
 . exact hx b h
 . exact hy b h
theorem Wd.cons {x:List UInt8}{b:UInt8}(h:wch b=true)(hx:Wd x):Wd (b::x):=by
 intro c hc;rcases p8.1 hc with rfl|hc
 . exact h
 . exact hx c hc
theorem Wd.name {kw:List UInt8->Bool}{s:List UInt8}(h:N3 kw s=true):Wd s:=by
 simp only[N3,f0,n7] at h;intro b hb;simp only[wch,h.2.2.1 b hb,a2k]
theorem Wd.sub {x y:List UInt8}(h:∀b∈x,b∈y)(hy:Wd y):Wd x:=λb hb=>hy b (h b hb)
def dch (b:UInt8):Bool:=decide (48<=b.toNat)&&decide (b.toNat<=57)
theorem b6T {k:Nat}(h:k<10):dch (UInt8.ofNat (48+k))=true:=by
 have:∀k:Fin 10,dch (UInt8.ofNat (48+k.1))=true:=by decide
 exact this ⟨k,h⟩
theorem b6U {b:UInt8}(h:dch b=true):wch b=true:=by
 simp only[dch,f0,j0] at h;simp only[wch,a2K,C0,f0,j0];omega
theorem c5j:∀(u:Nat),∀b∈Lib.decDigits u,dch b=true:=by
 intro u;induction u using Nat.strongRecOn with
 | _ u ih=>
   intro b hb;by_cases h:u<10
   . rw[Lib.decDigits_one h] at hb;rw[I4.1 hb];exact b6T h
   . rw[Lib.decDigits,dif_neg h] at hb;rcases A8.1 hb with hb|hb
     . exact ih _ (by omega) b hb
     . rw[I4.1 hb];exact b6T (by omega)
theorem b2R {n:Int}(h:0<=n):∀b∈Lib.itoa n,dch b=true:=by
 rw[Lib.itoa,c8 (by omega)];exact c5j _
theorem Wd.itoa {n:Int}(h:0<=n):Wd (Lib.itoa n):=λb hb=>b6U (b2R h b hb)
theorem d4j {n:Int}(h0:0<=n)(h1:n<100):∀b∈R2 n,dch b=true:=by
 rw[c0Y h0 h1];intro b hb;rcases A8.1 hb with hb|hb
 . exact b2R (by omega) b hb
 . exact b2R (by omega) b hb
theorem d4c (l:List UInt8)(c:UInt8):∃k,l=Lib.trimRightB l c++List.replicate k c:=by
 have h:∀l:List UInt8,∃k,l=List.replicate k c++l.dropWhile (· ==c):=by
  intro l;induction l with
  |nil=>exact⟨0,rfl⟩
  | cons b l ih=>
    rw[a5z];split
    . rename_i hb;obtain⟨k,hk⟩:=ih;refine⟨k+1,?_⟩;rw[beq_iff_eq] at hb;rw[a9f,q8,<-hk,hb]
    . exact⟨0,rfl⟩
 obtain⟨k,hk⟩:=h l.reverse;refine⟨k,?_⟩;have:=d6 List.reverse hk;rw[List.reverse_reverse,List.reverse_append,List.reverse_replicate] at this;exact this
theorem d3N {t:Int}(h0:0<=t)(h1:t<=1099511627776):timeS t=a0Z t:=by
 have:Y0 t=true:=by simp only[Y0,inR,f0,j0];omega
 rw[timeS,d4 this,a8M,c8 (by omega)]
theorem Wd.two {n:Int}(h0:0<=n)(h1:n<100):Wd (R2 n):=λb hb=>b6U (d4j h0 h1 b hb)
theorem c3b {u:Int}(h0:0<=u)(h1:u<1000000):Wd (a4K u):=by
 unfold a4K;split
 . refine Wd.app (.cons (by decide) .nil) (Wd.sub (y:=Lib.itoa (1000000+u)) (λb hb=>?_) (Wd.itoa (by omega)));obtain⟨k,hk⟩:=d4c (List.drop 1 (Lib.itoa (1000000+u))) 48;have:b∈List.drop 1 (Lib.itoa (1000000+u)):=by rw[hk];exact a9d _ hb
   exact a0V this
 . exact .nil
theorem c3c {t:Int}(h0:0<=t)(h1:t<=1099511627776):Wd (timeS t):=by
 rw[d3N h0 h1,a0Z,a4B];refine Wd.app ?_ (c3b (by omega) (by omega));split
 . exact(((Wd.itoa (by omega)).app (.cons (by decide) .nil)).app (Wd.two (by omega) (by omega))).app (.cons (by decide) .nil)|>.app (Wd.two (by omega) (by omega))
 . exact((Wd.itoa (by omega)).app (.cons (by decide) .nil)).app (Wd.two (by omega) (by omega))
mutual
def Cond.cores:Cond->Cond
 | ⟨k,v,n,ps⟩=>match Cond.coresL ps with
   |[x]=>if k=2\/k=3 then x else⟨k,v,n,[x]⟩
   |l=>⟨k,v,n,l⟩
def Cond.coresL:List Cond->List Cond
 |[]=>[]
 |c::cs=>c.cores::Cond.coresL cs
end
theorem Cond.coresL_eq:∀l:List Cond,Cond.coresL l=l.map Cond.cores:=by
 intro l;induction l with|nil=>rfl|cons c l ih=>simp[Cond.coresL,ih]
theorem b5e {c p:Cond}(h:c.kind=2\/c.kind=3)(hp:c.parts=[p]):c.cores=p.cores:=by
 obtain⟨k,v,n,ps⟩:=c;dsimp only at h hp;subst hp;simp only[Cond.cores,Cond.coresL,d4 h]
theorem a6V {c:Cond}(h:c.thin=false):c.cores=⟨c.kind,c.var,c.n,c.parts.map Cond.cores⟩:=by
 obtain⟨k,v,n,ps⟩:=c;simp only[Cond.cores,Cond.coresL_eq];split
 . rename_i x hx;rw[c8]
   . rw[hx]
   intro hk;have hl:ps.length=1:=by have:=d6 List.length hx;simpa using this
   simp only[Cond.thin,U2,W8,L4] at h;omega
 . rfl
theorem a6U (c:Cond):c.core.cores=c.cores:=by
 cases ht:c.thin with
 |false=>rw[a5s ht]
 | true=>
   obtain⟨hk,p,hp⟩:=a4d ht;have hsz:=Cond.size_part (show p∈c.parts by simp[hp]);rw[a5t hk hp,b5e hk hp];exact a6U p
termination_by SizeOf.sizeOf c
decreasing_by exact hsz
def Hd (s:List UInt8):Prop:=∀b,s.head?=some b->wch b=false
def NoAnd (s:List UInt8):Prop:=Hd s/\∀u,s≠[32,97,110,100,32]++u
def Stop (s:List UInt8):Prop:=NoAnd s/\∀u,s≠[32,111,114,32]++u
theorem Hd.cons {b:UInt8}{s:List UInt8}(h:wch b=false:=by decide):Hd (b::s):=by intro c hc;simp only[List.head?_cons,H0] at hc;rw[<-hc];exact h
theorem NoAnd.or {s:List UInt8}:NoAnd ([32,111,114,32]++s):=⟨.cons,λu h=>by simp at h⟩
def J1 (c:Cond):List UInt8:=N7 c.pt
def N4 (c:Cond):List UInt8:=S1 c.pt
def b1Q (c:Cond):List Cond:=if c.kind=2 then c.parts else[c]
def orL (c:Cond):List Cond:=if c.kind=3 then c.parts else[c]
theorem b6D {c:Cond}(hv:c.valid=true)(ht:c.thin=false):
 (c.kind=1/\1<=c.var/\c.var<=3/\0<=c.n/\c.parts=[])\/(c.kind=4/\c.var=0/\c.n=0/\∃p,c.parts=[p])\/((c.kind=2\/c.kind=3)/\c.var=0/\c.n=0/\2<=c.parts.length):=by
 rw[Cond.valid_eq] at hv;split at hv
 . simp only[f0,inR,j0] at hv;exact .inl ⟨by assumption,by omega,by omega,by omega,C8 (by omega)⟩
 . split at hv
   . simp only[f0,j0] at hv;exact .inr (.inl ⟨by assumption,hv.1.1,hv.1.2,a5D.1 (by omega)⟩)
   . split at hv
     . simp only[f0,j0] at hv;refine .inr (.inr ⟨by assumption,hv.1.1,hv.1.2,?_⟩);simp only[Cond.thin,U2,W8,L4] at ht;omega
     . cases hv
theorem a8K {c:Cond}(ht:c.thin=false)(h2:c.kind≠2)(h3:c.kind≠3):J1 c=c.pt.2:=by
 rw[J1,N7,Y9 ht,c8 (by simp[h2,h3])]
theorem c0M {c:Cond}(ht:c.thin=false)(h:c.kind=2\/c.kind=3):J1 c=40::(c.pt.2++[41]):=by
 rw[J1,N7,Y9 ht,d4 h];rfl
theorem a3L {c:Cond}(ht:c.thin=false)(h3:c.kind≠3):N4 c=c.pt.2:=by
 rw[N4,S1,Y9 ht,c8 (by simp[h3])]
theorem b8G {c:Cond}(ht:c.thin=false)(h:c.kind=3):N4 c=J1 c:=by
 rw[N4,S1,J1,N7,Y9 ht,d4 h,d4 (.inr h)]
theorem c8A {c:Cond}(ht:c.thin=false):N4 c=Lib.join ((b1Q c).map J1) [32,97,110,100,32]:=by
 rw[b1Q];split
 . rename_i h2;rw[a3L ht (by omega),Y9 ht,a0l,c8 (by omega),c8 (by omega),d4 h2,L0];rfl
 . rw[o5,B8,Lib.join_one];by_cases h3:c.kind=3
   . exact b8G ht h3
   . rw[a3L ht h3,a8K ht (by assumption) h3]
theorem d3x {c:Cond}(hv:c.valid=true)(ht:c.thin=false):c.pt.2=Lib.join ((orL c).map N4) [32,111,114,32]:=by
 rw[orL];split
 . rename_i h3;rw[Y9 ht,a0l,c8 (by omega),c8 (by omega),c8 (by omega),L0];rfl
 . rw[o5,B8,Lib.join_one,a3L ht (by assumption)]
structure Tells (c:Cond):Prop where
 tight:∀d:Cond,d.valid=true->∀s t,J1 c++s=J1 d++t->Hd s->Hd t->c.cores=d.cores/\s=t
 loose:∀d:Cond,d.valid=true->∀s t,N4 c++s=N4 d++t->NoAnd s->NoAnd t->c.cores=d.cores/\s=t
 text:∀d:Cond,d.valid=true->∀s t,c.pt.2++s=d.pt.2++t->Stop s->Stop t->c.cores=d.cores/\s=t
theorem d4B (v:Int):Wd (a3Y v):=by
 unfold a3Y;split
 . intro b hb;revert b;decide
 . split
   . intro b hb;revert b;decide
   . intro b hb;revert b;decide
theorem c8c {c:Cond}(ht:c.thin=false)(h:c.kind=1)(s:List UInt8):J1 c++s=a3Y c.var++32::62::61::32::(Lib.itoa c.n++s):=by
 rw[a8K ht (by omega) (by omega),Y9 ht,a0l,d4 h];simp only[n9,q8,y8]
theorem c9F {c p:Cond}(ht:c.thin=false)(h:c.kind=4)(hp:c.parts=[p])(s:List UInt8):J1 c++s=110::111::116::32::(J1 p++s):=by
 rw[a8K ht (by omega) (by omega),Y9 ht,a0l,c8 (by omega),d4 h,hp,o5,B8,o5,B8,Lib.join_one];simp only[q8,y8];rfl
theorem d3A (c:Cond):J1 c.core=J1 c:=by rw[J1,J1,(N0 c).pt]
theorem c8y (c:Cond):N4 c.core=N4 c:=by rw[N4,N4,(N0 c).pt]
mutual
def Step.cores:Step->Step
 |⟨k,b,c,t,e⟩=>⟨k,b,if k=2 then c.cores else c,Step.coresL t,Step.coresL e⟩
def Step.coresL:List Step->List Step
 |[]=>[]
 |c::cs=>c.cores::Step.coresL cs
end
theorem Step.coresL_eq:∀l:List Step,Step.coresL l=l.map Step.cores:=by
 intro l;induction l with|nil=>rfl|cons c l ih=>simp[Step.coresL,ih]
theorem a3q (s:Step):s.cores=⟨s.kind,s.crit,if s.kind=2 then s.cond.cores else s.cond,s.th.map Step.cores,s.el.map Step.cores⟩:=by
 obtain⟨k,b,c,t,e⟩:=s;simp only[Step.cores,Step.coresL_eq]
def Course.cores (c:Course):Course:={c with ties:=c.ties.map Step.cores}
theorem c4V (v:Int):Wd (K4 v):=by
 unfold K4;split
 . intro b hb;revert b;decide
 . split
   . intro b hb;revert b;decide
   . split
     . intro b hb;revert b;decide
     . split<;>(intro b hb;revert b;decide)
theorem Step.zero {s:Step}(h:s.valid=true)(hk:s.kind=1):s.cond=⟨0,0,0,[]⟩/\s.th=[]/\s.el=[]:=by
 rw[Step.valid_eq,d4 hk] at h;simp only[f0,j0,Cond.isZero] at h;obtain⟨_,⟨h1,h2,h3,h4⟩,h5,h6⟩:=h;refine⟨?_,C8 (by omega),C8 (by omega)⟩;obtain⟨k,b,⟨ck,cv,cn,cp⟩,t,e⟩:=s;dsimp only at h1 h2 h3 h4⊢;rw[h1,h2,h3,C8 (by omega:cp.length=0)]
theorem d4l {s:Step}(h:s.kind=1)(u:List UInt8):s.tx++u=K4 s.crit++59::u:=by
 rw[Step.tx_eq,d4 h];simp only[n9,q8,y8]
theorem c1a {s:Step}(h:s.kind=2)(u:List UInt8):s.tx++u=105::102::32::(s.cond.pt.2++32::123::32::(s7 s.th++32::125::((if 0<s.el.length then[32,101,108,115,101,32,123,32]++s7 s.el++[32,125] else[])++u))):=by
 rw[Step.tx_eq,c8 (by omega),ifT];simp only[n9,q8,y8,j0]
theorem b3g {ms:List Mat}(h:nmL (ms.map (·.name))=true)(i:Int):Wd (G1 ms i):=by
 unfold G1;split
 . rename_i m hm;simp only[nmL,f0,n7] at h;exact Wd.name (h.1 _ (v6.2 ⟨m,M6 hm,rfl⟩))
 . exact .nil
theorem c8O {ms:List Mat}(h:nmL (ms.map (·.name))=true){i:Int}(hi:0<=i)(hi':i<=((ms.map Mat.cells).length:Int)-1):∃b r,G1 ms i=b::r/\wch b=true:=by
 simp only[o9] at hi';have a:ms[i.toNat]?=some ms[i.toNat]:=t6 (by omega);have hw:=b3g h i;simp only[nmL,f0,n7] at h;have:=h.1 _ (v6.2 ⟨_,M6 a,rfl⟩);simp only[N3,f0] at this;simp only[G1,a] at hw⊢;match hn:(ms[i.toNat]).name,this with
 |[],q=>rw[a8e] at q;simp at q
 |b::r,_=>exact⟨b,r,rfl,hw b (by rw[hn];simp)⟩
theorem Part.facts {m:Int}{p:Part}(h:p.good m=true):(p.laps=0/\0<=p.mat/\p.mat<=m/\p.parts=[])\/(1<=p.laps/\p.mat=0/\∀x∈p.parts,x.good m=true):=by
 rw[a4r] at h;split at h
 . simp only[f0,inR,j0] at h;exact .inl ⟨by assumption,h.1.1,h.1.2,C8 (by omega)⟩
 . simp only[f0,inR,j0,n7] at h;exact .inr ⟨h.1.1,h.2.1,h.2.2.2⟩
theorem b3B {ms:List Mat}{p:Part}(h:p.laps=0)(u:List UInt8):p.tx ms++u=G1 ms p.mat++59::u:=by
 rw[Part.tx_eq,d4 h];simp only[n9,q8,y8]
theorem b3A {ms:List Mat}{p:Part}(h:p.laps≠0)(u:List UInt8):p.tx ms++u=[108,97,112,115]++32::(Lib.itoa p.laps++32::123::32::(Q1 ms p.parts++32::125::u)):=by
 rw[Part.tx_eq,c8 h];simp only[n9,q8,y8]
theorem Wd.laps:Wd [108,97,112,115]:=by intro b hb;revert b;decide
theorem d0r {ms:List Mat}(hn:nmL (ms.map (·.name))=true){p:Part}(h:p.good (((ms.map Mat.cells).length:Int)-1)=true):∃b r,p.tx ms=b::r/\wch b=true:=by
 rcases Part.facts h with⟨k,h0,h1,_⟩|⟨k,_⟩
 . have e:=b3B (ms:=ms) k [];obtain⟨b,r,e2,hw⟩:=c8O hn h0 h1;rw[R4,e2] at e;exact⟨b,_,e,hw⟩
 . have e:=b3A (ms:=ms) (by omega:p.laps≠0) [];rw[R4] at e;exact⟨_,_,e,by decide⟩
def PE (ms:List Mat)(s:List UInt8):Prop:=∀x:Part,x.good (((ms.map Mat.cells).length:Int)-1)=true->∀u,s≠32::(x.tx ms++u)/\s≠x.tx ms++u
theorem PE.word {ms:List Mat}(hn:nmL (ms.map (·.name))=true){w s:List UInt8}(hw:Wd w)(hl:w≠[108,97,112,115]):PE ms (32::(w++32::s)):=by
 intro x hx u;constructor
 . intro e;rw[List.cons.injEq] at e;have e:=e.2;rcases Part.facts hx with⟨k,h0,h1,h2⟩|⟨k,h0,h1⟩
   . rw[b3B k] at e;exact absurd (hw.cut (b3g hn _) e).2.1 (by decide)
   . rw[b3A (by omega)] at e;exact hl (hw.cut .laps e).1
 . intro e;obtain⟨b,r,e2,h⟩:=d0r hn hx;rw[e2,q8,List.cons.injEq] at e;rw[<-e.1] at h;exact absurd h (by decide)
set_option maxHeartbeats 16000000
theorem c4F (l:List Cond):l.map (λp=>p.cores.dc)=(l.map Cond.cores).map Cond.cells:=by
 rw[L0];exact a7i λp _=>(Cond.cells_eq _).symm
theorem d1s (l:List Step):l.map (λp=>p.cores.dc)=(l.map Step.cores).map Step.cells:=by
 rw[L0];exact a7i λp _=>(Step.cells_eq _).symm
theorem b9G (c:Cond)(hok:c.ok):Mt 19 [c.d] λd=>d=c.cores.d:=by
 have hc:=N0 c;have hoc:=Cond.ok_iff.1 (hc.ok hok);have hp:∀p∈c.core.parts,Mt 19 [p.d] λd=>d=p.cores.d:=λp hp=>by
  have hlt:SizeOf.sizeOf p<SizeOf.sizeOf c:=a7n (Cond.size_part hp) hc.size;exact b9G p (hoc.2 p hp)
 have hcs:c.cores=⟨c.core.kind,c.core.var,c.core.n,c.core.parts.map Cond.cores⟩:=by rw[<-a6U,a6V hc.thin]
 have hco:=d0K c;have hl:=hoc.1;rw[hcs];clear hcs hc hoc;generalize c.core=k at *;refine En {} Tryz.func19 Tryz.ntmps19 λ_ _ _ _ _=>?_;refine Kw ?_;refine Meets.k hco ?_;refine Kw ?_;refine o4 tok {} [(.inl 3,3,47,4)] (X:=Nat) (λi=>[(4,iB i),(3, .own 3)]) (λi=>[(3, .sl ⟨47,4,(k.parts.take i).map (λp=>p.cores.dc),true⟩)]) [] (λi=>i<=k.parts.length) (λi=>k.parts.length-i) 0 ?_;refine Kw ?_;refine⟨by simp,?_⟩;refine Kw ?_;refine d8 ?_ ⟨by omega,λi hi=>?_⟩
 . exact Kr
 refine Kw ?_;repeat'((first|(intro hlq;try simp only[SL] at hlq)|refine K9 ?_|refine K8 ?_)<;>refine Kw ?_)
 refine⟨λh1=>?_,λh1=>?_⟩<;>(try simp only[BL] at h1)<;>refine Kw ?_
 . have h1':i<k.parts.length:=by omega
   repeat'((first|(intro hlq;try simp only[SL] at hlq)|refine Meets.k (hp k.parts[i] (q7 h1')) ?_|refine K9 ?_|((refine Kh (λhb=>?_) λhb=>?_)<;>try simp only[BL] at hb)|refine K8 ?_)<;>refine Kw ?_)
   refine⟨by simp,?_⟩;refine Kw ?_;refine⟨λh1 h2=>?_,?_⟩
   . simp only[maxLen,o9,R5,i7,j8] at *;omega
   refine Kw ?_;repeat'((first|(intro hlq;try simp only[SL] at hlq)|refine K9 ?_|((refine Kh (λhb=>?_) λhb=>?_)<;>try simp only[BL] at hb)|refine K8 ?_)<;>refine Kw ?_)
   refine⟨⟨i+1,?_,by omega,by omega⟩⟩;rw[L1 h1',D3];repeat'(first|exact d9|exact rfl|refine d8 ?_ ?_)
 have e:k.parts.take i=k.parts:=y6 (by omega);rw[e,c4F];exact⟨rfl⟩
termination_by SizeOf.sizeOf c
decreasing_by exact hlt
theorem b3G (l:List Step)(hl:l.length<=1048576)(hok:∀s∈l,s.ok):Mt 25 [.sl (l.map Step.cells)] λd=>d= .sl ((l.map Step.cores).map Step.cells):=by
 have hT:∀x∈l,Mt 25 [.sl (x.th.map Step.cells)] λd=>d= .sl ((x.th.map Step.cores).map Step.cells):=λx hx=>by
  have:=U6 hx;have:=Step.szl x;have hlt:SizeOf.sizeOf x.th<SizeOf.sizeOf l:=by omega
  have:=Step.ok_iff.1 (hok x hx);exact b3G x.th this.2.1.1 this.2.1.2
 have hE:∀x∈l,Mt 25 [.sl (x.el.map Step.cells)] λd=>d= .sl ((x.el.map Step.cores).map Step.cells):=λx hx=>by
  have:=U6 hx;have:=Step.szl x;have hlt:SizeOf.sizeOf x.el<SizeOf.sizeOf l:=by omega
  have:=Step.ok_iff.1 (hok x hx);exact b3G x.el this.2.2.1 this.2.2.2
 refine En {} Tryz.func25 Tryz.ntmps25 λ_ _ _ _ _=>?_;refine Kw ?_;refine o4 tok {} [(.inl 3,3,75,8)] (X:=Nat) (λi=>[(4,iB i),(3, .own 3)]) (λi=>[(3, .sl ⟨75,8,(l.take i).map (λp=>p.cores.dc),true⟩)]) [5] (λi=>i<=l.length) (λi=>l.length-i) 0 ?_;refine Kw ?_;refine⟨by simp,?_⟩;refine Kw ?_;refine d8 ?_ ⟨by omega,λi hi=>?_⟩
 . exact Kr
 refine Kw ?_;repeat'((first|(intro hlq;try simp only[SL] at hlq)|refine K9 ?_|refine K8 ?_)<;>refine Kw ?_)
 refine⟨λh1=>?_,λh1=>?_⟩<;>(try simp only[BL] at h1)<;>refine Kw ?_
 . have h1':i<l.length:=by omega
   have hoi:=Step.ok_iff.1 (hok _ (q7 h1'));repeat'((first|(intro hlq;try simp only[SL] at hlq)|refine Meets.k (b9G l[i].cond hoi.1) ?_|refine Meets.k (hT l[i] (q7 h1')) ?_|refine Meets.k (hE l[i] (q7 h1')) ?_|refine K9 ?_|((refine Kh (λhb=>?_) λhb=>?_)<;>try simp only[BL] at hb)|refine Ka ?_|refine Kb ?_|refine Kc (hd:=rfl) (e:=?_)|refine Kc (hd:=Step.cells_eq _) (e:=?_)|refine Kd (e:=?_)|refine Kl rfl ?_|fail)<;>refine Kw ?_)
   all_goals
    refine⟨by simp,?_⟩;refine Kw ?_;refine⟨λh1 h2=>?_,?_⟩
    . simp only[maxLen,o9,R5,i7,j8] at *;omega
    refine Kw ?_;repeat'((first|(intro hlq;try simp only[SL] at hlq)|refine K9 ?_|((refine Kh (λhb=>?_) λhb=>?_)<;>try simp only[BL] at hb)|refine K8 ?_)<;>refine Kw ?_)
    refine⟨⟨i+1,?_,by omega,by omega⟩⟩;rw[L1 h1',D3];first
     |rw[show[l[i]].map (λp=>p.cores.dc)=[(⟨l[i].kind,l[i].crit,l[i].cond.cores,l[i].th.map Step.cores,l[i].el.map Step.cores⟩:Step).dc] from by rw[o5,B8,a3q,d4 (by assumption)]]
     |rw[show[l[i]].map (λp=>p.cores.dc)=[(⟨l[i].kind,l[i].crit,l[i].cond,l[i].th.map Step.cores,l[i].el.map Step.cores⟩:Step).dc] from by rw[o5,B8,a3q,c8 (by assumption)]]
    repeat'(first|exact d9|exact rfl|refine d8 ?_ ?_)
 have e:l.take i=l:=y6 (by omega);rw[e,d1s];exact⟨rfl⟩
termination_by SizeOf.sizeOf l
decreasing_by all_goals assumption
theorem c1E (c:Course)(hc:c.small):Mt 11 [c.d] λd=>d=c.cores.d:=by
 refine En {} Tryz.func11 Tryz.ntmps11 λ_ _ _ _ _=>?_;refine Kw ?_;repeat'((first|(intro hlq;try simp only[SL] at hlq)|refine Meets.k (b3G c.ties hc.ties.1 hc.ties.2) ?_|refine K9 ?_|((refine Kh (λhb=>?_) λhb=>?_)<;>try simp only[BL] at hb)|refine K8 ?_)<;>refine Kw ?_)
 exact⟨rfl⟩
end Go.Proofs.YteillnfhkeebjaaGreatDoor.Dx
