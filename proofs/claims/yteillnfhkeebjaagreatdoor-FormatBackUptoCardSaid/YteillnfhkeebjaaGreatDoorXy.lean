/- Texts. -/
import Derived.Test.YteillnfhkeebjaaGreatDoorXf
import Derived.Test.YteillnfhkeebjaaGreatDoorXr
import Derived.Test.YteillnfhkeebjaaGreatDoorXg
set_option linter.all false
namespace Go.Proofs.YteillnfhkeebjaaGreatDoor.Dx
open Go Go.RowKit Go.Proofs
set_option maxRecDepth 100000
set_option maxHeartbeats 4000000
theorem b1v (c:Cond):c.cores.pt=c.pt:=by
 cases ht:c.thin with
 | true=>
   obtain⟨hk,p,hp⟩:=a4d ht;have hsz:=Cond.size_part (show p∈c.parts by simp[hp]);rw[b5e hk hp,a8X hk hp];exact b1v p
 | false=>
   rw[a6V ht,a8W,a8W c,L0];congr 1
   refine a7i λp hp=>?_;have hsz:=Cond.size_part hp;exact b1v p
termination_by SizeOf.sizeOf c
decreasing_by all_goals exact hsz
theorem b1H (s:Step):s.cores.tx=s.tx:=by
 have ht:(s.th.map Step.cores).map Step.tx=s.th.map Step.tx:=by
  rw[L0];exact a7i λx hx=>by
   have:=a9o hx;exact b1H x
 have he:(s.el.map Step.cores).map Step.tx=s.el.map Step.tx:=by
  rw[L0];exact a7i λx hx=>by
   have:=a9n hx;exact b1H x
 rw[a3q,Step.tx_eq,Step.tx_eq s,s7,s7,ht,he,o9];dsimp only;split
 . rfl
 . split
   . rw[b1v];rfl
   . rfl
termination_by SizeOf.sizeOf s
decreasing_by all_goals assumption
theorem d2L (l:List Step):s7 (l.map Step.cores)=s7 l:=by
 rw[s7,s7,L0];congr 1
 exact a7i λx _=>b1H x
theorem c4M (c:Course):O5 c.cores=O5 c:=by
 simp only[O5,a0c,a3V,Course.cores,d2L];rfl
abbrev Nl (x:List UInt8):Prop:=∀b∈x,b≠10
theorem Nl.app {x y:List UInt8}(hx:Nl x)(hy:Nl y):Nl (x++y):=by
 intro b hb;rcases A8.1 hb with h|h
 . exact hx b h
 . exact hy b h
theorem Wd.nl {x:List UInt8}(h:Wd x):Nl x:=by
 intro b hb e;have:=h b hb;rw[e] at this;exact absurd this (by decide)
theorem Nl.join {sep:List UInt8}(hs:Nl sep):∀{l:List (List UInt8)},(∀x∈l,Nl x)->Nl (Lib.join l sep)
 |[],_=>by intro b hb;simp[Lib.join,List.intercalate] at hb
 |[x],h=>by rw[Lib.join_one];exact h x (by simp)
 | x::y::l,h=>by
   rw[Dx.join_cons];exact(h x (by simp)).app (hs.app (Nl.join hs λz hz=>h z (r6 _ hz)))
theorem a7o:∀{b:Bool} {l:List (List UInt8)},(∀x∈l,Nl x)->Nl (t8 b l)
 |b,[],_=>by cases b<;>(intro c hc;simp[t8] at hc)
 | true,x::l,h=>by
   rw[t8];exact(h x (by simp)).app (a7o λz hz=>h z (r6 _ hz))
 | false,x::l,h=>by
   rw[t8];exact((show Nl [32] by decide).app (h x (by simp))).app (a7o λz hz=>h z (r6 _ hz))
theorem Nl.flat {α:Type}{f:α->List UInt8}:∀{l:List α},(∀x∈l,Nl (f x))->Nl (l.flatMap f)
 |[],_=>by intro b hb;cases hb
 | x::l,h=>by
   rw[a2n];exact(h x (by simp)).app (Nl.flat λz hz=>h z (r6 _ hz))
theorem Nl.tight {x:Int×List UInt8}(h:Nl x.2):Nl (N7 x):=by
 unfold N7;split
 . exact((show Nl [40] by decide).app h).app (by decide)
 . exact h
theorem Nl.loose {x:Int×List UInt8}(h:Nl x.2):Nl (S1 x):=by
 unfold S1;split
 . exact((show Nl [40] by decide).app h).app (by decide)
 . exact h
theorem Nl.cond (c:Cond)(hv:c.valid=true):Nl c.pt.2:=by
 have ih:∀p∈c.parts,Nl p.pt.2:=λp hp=>by
  have hsz:=Cond.size_part hp;exact Nl.cond p (a4e hv p hp)
 cases ht:c.thin with
 | true=>
   obtain⟨hk,p,hp⟩:=a4d ht;rw[a8X hk hp];exact ih p (by simp[hp])
 | false=>
   have hT:∀x∈(c.parts.map Cond.pt).map N7,Nl x:=by
    intro x hx;obtain⟨y,hy,rfl⟩:=v6.1 hx;obtain⟨p,hp,rfl⟩:=v6.1 hy;exact Nl.tight (ih p hp)
   have hL:∀x∈(c.parts.map Cond.pt).map S1,Nl x:=by
    intro x hx;obtain⟨y,hy,rfl⟩:=v6.1 hx;obtain⟨p,hp,rfl⟩:=v6.1 hy;exact Nl.loose (ih p hp)
   rw[Y9 ht];show Nl (a0l _ _ _ _);unfold a0l;split
   . rename_i h1;rcases b6D hv ht with h|h|h<;>try omega
     exact((d4B _).nl.app (by decide)).app (Wd.itoa h.2.2.2.1).nl
   . split
     . exact(show Nl [110,111,116,32] by decide).app (Nl.join (by decide) hT)
     . split
       . exact Nl.join (by decide) hT
       . exact Nl.join (by decide) hL
termination_by SizeOf.sizeOf c
decreasing_by exact hsz
theorem Nl.step (s:Step)(hv:s.valid=true):Nl s.tx:=by
 rw[Step.tx_eq];rcases Step.cases hv with⟨k,_⟩|⟨k,hc,_,ht,he⟩
 . rw[d4 k];exact(c4V _).nl.app (by decide)
 . have h1:Nl (s7 s.th):=a7o λx hx=>by
    obtain⟨y,hy,rfl⟩:=v6.1 hx;have:=a9o hy;exact Nl.step y (ht y hy)
   have h2:Nl (s7 s.el):=a7o λx hx=>by
    obtain⟨y,hy,rfl⟩:=v6.1 hx;have:=a9n hy;exact Nl.step y (he y hy)
   rw[c8 (by omega),ifT];refine Nl.app (((((show Nl _ by decide).app (Nl.cond _ hc)).app (by decide)).app h1).app (by decide)) ?_;split
   . exact((show Nl _ by decide).app h2).app (by decide)
   . decide
termination_by SizeOf.sizeOf s
decreasing_by all_goals assumption
theorem Nl.mat {c:Course}(g:Good c)(i:Int):Nl (G1 c.mats i):=by
 have hn:=g.named;simp only[Course.named,f0] at hn;exact(b3g hn.2.1 i).nl
theorem c2y {c:Course}(g:Good c)(m:Int)(p:Part)(hp:p.good m=true):Nl (p.tx c.mats):=by
 rw[Part.tx_eq];rcases Part.facts hp with⟨k,h0,h1,h2⟩|⟨k,h0,h1⟩
 . rw[d4 k];exact(Nl.mat g _).app (by decide)
 . have h3:Nl (Q1 c.mats p.parts):=a7o λx hx=>by
    obtain⟨y,hy,rfl⟩:=v6.1 hx;have:=Part.size_part hy;exact c2y g m y (h1 y hy)
   rw[c8 (by omega)];exact((((show Nl _ by decide).app (Wd.itoa (by omega)).nl).app (by decide)).app h3).app (by decide)
termination_by SizeOf.sizeOf p
decreasing_by assumption
def Ln (s:List UInt8):Prop:=(∃b r,s=b::r/\wch b=true)/\Nl s
structure Names (c:Course):Prop where
 name:N3 kw c.name=true
 mats:nmL (c.mats.map (·.name))=true
 distances:nmL (c.distances.map (·.name))=true
 waves:nmL (c.waves.map (·.name))=true
 offences:nmL (c.offences.map (·.name))=true
 categories:nmL (c.categories.map (·.name))=true
structure LegOk (m:Int) (l:Leg):Prop where
 src:0<=l.src/\l.src<=m
 dst:0<=l.dst/\l.dst<=m
 lo:0<=l.lo/\l.lo<=1099511627776
 hi:0<=l.hi/\l.hi<=1099511627776
structure CutOk (m:Int) (l:Cutoff):Prop where
 mat:0<=l.mat/\l.mat<=m
 lap:1<=l.lap
 limit:0<=l.limit/\l.limit<=1099511627776
structure DistOk (m:Int) (d:Distance):Prop where
 timing:1<=d.timing/\d.timing<=3
 extra: -1<=d.extra/\d.extra<=m
 route:∀p∈d.route,p.good m=true
 cutoffs:∀x∈d.cutoffs,CutOk m x
theorem Nl.time {t:Int}(h:0<=t/\t<=1099511627776):Nl (timeS t):=(c3c h.1 h.2).nl
theorem Ln.lit {s r:List UInt8}{b:UInt8}(h:Nl s)(e:s=b::r)(hb:wch b=true:=by decide):Ln s:=⟨⟨b,r,e,hb⟩,h⟩
structure FaultsOk (c:Course):Prop where
 misses:0<=c.faults.misses
 strays:0<=c.faults.strays
 window:0<=c.faults.window/\c.faults.window<=1099511627776
 residual:0<=c.faults.residual/\c.faults.residual<=1099511627776
 drift:0<=c.faults.drift
 fee:0<=c.fee
 deadline:0<=c.deadline/\c.deadline<=1099511627776
theorem c5k:∀{l:List Cond} {x:Cond},x∈l->1+x.deep<=Cond.deepL l:=by
 intro l;induction l with
 |nil=>intro x h;cases h
 | cons c l ih=>
   intro x h;simp only[Cond.deepL];rcases p8.1 h with rfl|h
   . omega
   . have:=ih h;omega
theorem a7G {c p:Cond}(h:p∈c.parts):1+p.deep<=c.deep:=by rw[Cond.deep_eq c];exact c5k h
theorem b2f (c:Cond):c.core.deep<=c.deep:=by
 cases ht:c.thin with
 |false=>rw[a5s ht];exact p0 _
 | true=>
   obtain⟨hk,p,hp⟩:=a4d ht;have hm:p∈c.parts:=by rw[hp];simp
   have hsz:=Cond.size_part hm;rw[a5t hk hp];have h1:=b2f p;have h2:=a7G hm;omega
termination_by SizeOf.sizeOf c
decreasing_by exact hsz
theorem b3Q:∀{l:List Step} {x:Step},x∈l->1+x.deep<=Step.deepL l:=by
 intro l;induction l with
 |nil=>intro x h;cases h
 | cons c l ih=>
   intro x h;simp only[Step.deepL];rcases p8.1 h with rfl|h
   . omega
   . have:=ih h;omega
theorem b3R:∀{l:List Step} {x:Step},x∈l->Step.dokL l=true->x.dok=true:=by
 intro l;induction l with
 |nil=>intro x h;cases h
 | cons c l ih=>
   intro x h hd;simp only[Step.dokL,f0] at hd;rcases p8.1 h with rfl|h
   . exact hd.1
   . exact ih h hd.2
def TL (c:Cond):Prop:=∃L:List BT,(∀r l,Brk r->Lx r l->Lx (J1 c++r) (L++l))/\∀d l,d+c.deep<=16->EvU d (L++l) c.cores l
def LL (m:Nat)(c:Cond):Prop:=∃L:List BT,(∀r l,Brk r->Lx r l->Lx (N4 c++r) (L++l))/\∀d l,d+c.deep<=m->E1 [97,110,100] l=false->EvJ d (L++l) c.cores l
def XL (m:Nat)(c:Cond):Prop:=∃L:List BT,(∀r l,Brk r->Lx r l->Lx (c.pt.2++r) (L++l))/\∀d l,d+c.deep<=m->E1 [97,110,100] l=false->E1 [111,114] l=false->EvC d (L++l) c.cores l
theorem LL.le {m n:Nat}{c:Cond}(h:LL m c)(hn:n<=m):LL n c:=by
 obtain⟨L,h1,h2⟩:=h;exact⟨L,h1,λd l hd=>h2 d l (by omega)⟩
theorem XL.le {m n:Nat}{c:Cond}(h:XL m c)(hn:n<=m):XL n c:=by
 obtain⟨L,h1,h2⟩:=h;exact⟨L,h1,λd l hd=>h2 d l (by omega)⟩
theorem b5X:∀ps:List Cond,(∀p∈ps,TL p)->∃L:List BT,(∀r l,Brk r->Lx r l->Brk (Lib.joinTail [32,97,110,100,32] (ps.map J1)++r)/\Lx (Lib.joinTail [32,97,110,100,32] (ps.map J1)++r) (L++l))/\
 ∀d l cs,(∀p∈ps,d+p.deep<=16)->E1 [97,110,100] l=false->a6X d cs (L++l) (mkC 2 (cs++ps.map Cond.cores)) l
 | [],_=>⟨[],λr l hb h=>⟨hb,h⟩,λd l cs _ ha=>by
    rw[B8,R4];exact b5p ha⟩
 | p ::ps,hp=>by
   obtain⟨L,h1,h2⟩:=b5X ps λx hx=>hp x (r6 _ hx);obtain⟨l0,c1,c2⟩:=hp p (A9 ..);refine⟨(1,[97,110,100])::(l0++L),λr l hb h=>?_,λd l cs hd ha=>?_⟩
   . obtain⟨hb2,hx⟩:=h1 r l hb h;have e:Lib.joinTail [32,97,110,100,32] ((p::ps).map J1)++r=[32,97,110,100,32]++(J1 p++(Lib.joinTail [32,97,110,100,32] (ps.map J1)++r)):=by
      simp only[Lib.joinTail,o5,K0,n9]
     rw[e];refine⟨J6,?_⟩;have:=c2p (c1 _ _ hb2 hx);simpa only[n9,q8] using this
   . have hc:=c2 d (L++l) (hd p (A9 ..));have hj:=h2 d l (cs++[p.cores]) (λx hx=>hd x (r6 _ hx)) ha;have:=c2c hc hj;simpa only[n9,q8,y8,o5] using this
theorem b9n:∀ps:List Cond,(∀p∈ps,LL 16 p)->∃L:List BT,(∀r l,Brk r->Lx r l->Brk (Lib.joinTail [32,111,114,32] (ps.map N4)++r)/\Lx (Lib.joinTail [32,111,114,32] (ps.map N4)++r) (L++l))/\
 (∀d l cs,(∀p∈ps,d+p.deep<=16)->E1 [97,110,100] l=false->E1 [111,114] l=false->a6W d cs (L++l) (mkC 3 (cs++ps.map Cond.cores)) l)/\∀l,E1 [97,110,100] l=false->E1 [97,110,100] (L++l)=false
 | [],_=>⟨[],λr l hb h=>⟨hb,h⟩,λd l cs _ _ ho=>by
    rw[B8,R4];exact b5c ho,λl h=>h⟩
 | p ::ps,hp=>by
   obtain⟨L,h1,h2,h3⟩:=b9n ps λx hx=>hp x (r6 _ hx);obtain⟨l0,c1,c2⟩:=hp p (A9 ..);refine⟨(1,[111,114])::(l0++L),λr l hb h=>?_,λd l cs hd ha ho=>?_,λl _=>rfl⟩
   . obtain⟨hb2,hx⟩:=h1 r l hb h;have e:Lib.joinTail [32,111,114,32] ((p::ps).map N4)++r=[32,111,114,32]++(N4 p++(Lib.joinTail [32,111,114,32] (ps.map N4)++r)):=by
      simp only[Lib.joinTail,o5,K0,n9]
     rw[e];refine⟨J6,?_⟩;have:=c2s (c1 _ _ hb2 hx);simpa only[n9,q8] using this
   . have hc:=c2 d (L++l) (hd p (A9 ..)) (h3 l ha);have hj:=h2 d l (cs++[p.cores]) (λx hx=>hd x (r6 _ hx)) ha ho;have:=c1A hc hj;simpa only[n9,q8,y8,o5] using this
theorem b1y {m:Nat}{c:Cond}(hm:m<=16)(e:N4 c=J1 c)(h:TL c):LL m c:=by
 obtain⟨L,h1,h2⟩:=h;refine⟨L,λr l hb hl=>by rw[e];exact h1 r l hb hl,λd l hd ha=>?_⟩;exact b5s (h2 d l (by omega)) (b5p (cs:=[c.cores]) ha)
theorem b1M {m:Nat}{c:Cond}(e:c.pt.2=N4 c)(h:LL m c):XL m c:=by
 obtain⟨L,h1,h2⟩:=h;refine⟨L,λr l hb hl=>by rw[e];exact h1 r l hb hl,λd l hd ha ho=>?_⟩;exact b5d (h2 d l hd ha) (b5c (cs:=[c.cores]) ho)
theorem b5H {c:Cond}(e:J1 c=40::(c.pt.2++[41]))(hp:1<=c.deep)(h:XL 17 c):TL c:=by
 obtain⟨L,h1,h2⟩:=h;refine⟨(5,[40])::(L++[(5,[41])]),λr l hb hl=>?_,λd l hd=>?_⟩
 . have:=Lx.lp (h1 _ _ c3M (c2t hl));rw[e];simpa only[n9,q8,y8] using this
 . have:=c2Z (by omega) (h2 (d+1) ((5,[41])::l) (by omega) rfl rfl);simpa only[n9,q8,y8] using this
theorem d4z {v:Int}(h:1<=v/\v<=3):a3Y v=a2Z v:=by
 have:v=1\/v=2\/v=3:=by omega
 rcases this with rfl|rfl|rfl<;>rfl
theorem c8d {c:Cond}(hv:c.valid=true)(hk:c.kind=1):c.n<=10000:=by
 rw[Cond.valid_eq,d4 hk] at hv;simp only[f0,inR,j0] at hv;omega
structure Rd (c:Cond):Prop where
 tight:TL c
 loose:LL 16 c
 text:XL 16 c
theorem b8R {k:Int}{l:List Cond}(h:2<=l.length):mkC k l=⟨k,0,0,l⟩:=by
 match l,h with
 |a::b::l,_=>rfl
theorem d0N {c:Cond}(hv:c.valid=true)(ht:c.thin=false)(ih:∀p∈c.parts,Rd p):Rd c:=by
 have hcs:=a6V ht;rcases b6D hv ht with k|k|k
 . have T:TL c:=by
    have hv3:c.var=1\/c.var=2\/c.var=3:=by omega
    have hn:=c8d hv k.1;refine⟨[(1,a2Z c.var),(5,[62,61]),(2,Lib.itoa c.n)],λr l hb hl=>?_,λd l hd=>?_⟩
    . rw[c8c ht k.1,d4z ⟨k.2.1,k.2.2.1⟩];have:=Lx.cmp hv3 k.2.2.2.1 (by omega) hb hl;simpa only[n9,q8,y8] using this
    . rw[hcs,k.1,k.2.2.2.2,B8];have e0:(⟨1,c.var,c.n,[]⟩:Cond)=leC c.var c.n:=rfl;have:=EvU.cmp (d:=d) (l:=l) hv3 k.2.2.2.1 (by omega:c.n<=1125899906842624);exact this
   have L:LL 16 c:=b1y (p0 _) (by rw[a3L ht (by omega),a8K ht (by omega) (by omega)]) T;exact⟨T,L,b1M (by rw[a3L ht (by omega)]) L⟩
 . obtain ⟨k1,k2,k3,p,hp⟩:=k;have hm:p∈c.parts:=by rw[hp];simp
   have hdp:=a7G hm;have T:TL c:=by
    obtain⟨L,h1,h2⟩:=(ih p hm).tight;refine⟨(1,[110,111,116])::L,λr l hb hl=>?_,λd l hd=>?_⟩
    . rw[c9F ht k1 hp];have:=c2r (h1 r l hb hl);simpa only[n9,q8,y8] using this
    . rw[hcs,k1,k2,k3,hp,o5,B8];exact c2Y (by omega) (h2 (d+1) l (by omega))
   have L:LL 16 c:=b1y (p0 _) (by rw[a3L ht (by omega),a8K ht (by omega) (by omega)]) T;exact⟨T,L,b1M (by rw[a3L ht (by omega)]) L⟩
 . obtain⟨k1,k2,k3,k4⟩:=k;obtain⟨p1,ps,hps⟩:∃p1 ps,c.parts=p1::ps:=by
    cases h:c.parts with
    |nil=>rw[h] at k4;simp at k4
    |cons a b=>exact⟨a,b,rfl⟩
   have hm:p1∈c.parts:=by rw[hps];simp
   have hd1:=a7G hm;have hml:∀p∈ps,p∈c.parts:=λp hp=>by rw[hps];exact r6 _ hp
   have hl2:2<=(p1.cores::ps.map Cond.cores).length:=by
    rw[hps] at k4;simpa using k4
   by_cases h2:c.kind=2
   . have hcc:c.cores=mkC 2 (p1.cores::ps.map Cond.cores):=by rw[hcs,h2,k2,k3,hps,b8R hl2];rfl
     have hL:LL 17 c:=by
      obtain⟨l0,c1,c2⟩:=(ih p1 hm).tight;obtain⟨L,h3,h4⟩:=b5X ps λp hp=>(ih p (hml p hp)).tight;refine⟨l0++L,λr l hb hl=>?_,λd l hd ha=>?_⟩
      . rw[c8A ht,b1Q,d4 h2,hps,o5,Lib.join_cons,n9,n9];obtain⟨hb2,hx⟩:=h3 r l hb hl;exact c1 _ _ hb2 hx
      . rw[hcc,n9];refine b5s (c2 d (L++l) (by omega)) ?_;have:=h4 d l [p1.cores] (λp hp=>by have:=a7G (hml p hp);omega) ha;exact this
     have hX:XL 17 c:=b1M (by rw[a3L ht (by omega)]) hL;exact⟨b5H (c0M ht k1) (by omega) hX,hL.le (by omega),hX.le (by omega)⟩
   . have h3:c.kind=3:=by omega
     have hcc:c.cores=mkC 3 (p1.cores::ps.map Cond.cores):=by rw[hcs,h3,k2,k3,hps,b8R hl2];rfl
     have hX:XL 17 c:=by
      obtain⟨l0,c1,c2⟩:=(ih p1 hm).loose;obtain⟨L,h4,h5,h6⟩:=b9n ps λp hp=>(ih p (hml p hp)).loose;refine⟨l0++L,λr l hb hl=>?_,λd l hd ha ho=>?_⟩
      . rw[d3x hv ht,orL,d4 h3,hps,o5,Lib.join_cons,n9,n9];obtain⟨hb2,hx⟩:=h4 r l hb hl;exact c1 _ _ hb2 hx
      . rw[hcc,n9];refine b5d (c2 d (L++l) (by omega) (h6 l ha)) ?_;have:=h5 d l [p1.cores] (λp hp=>by have:=a7G (hml p hp);omega) ha ho;exact this
     have T:=b5H (c0M ht k1) (by omega) hX;exact⟨T,b1y (p0 _) (b8G ht h3) T,hX.le (by omega)⟩
theorem b9I (c:Cond)(hv:c.valid=true):Rd c:=by
 have hvc:=(N0 c).valid hv;have hsz:=(N0 c).size;have hdp:=b2f c;have ih:∀p∈c.core.parts,Rd p:=λp hp=>by
  have:=Cond.size_part hp;exact b9I p (a4e hvc p hp)
 obtain⟨⟨A,a1,a2⟩,⟨B,b1,b2⟩,⟨D,d1,d2⟩⟩:=d0N hvc (N0 c).thin ih;rw[d3A] at a1;rw[c8y] at b1;rw[(N0 c).pt] at d1;rw[a6U] at a2 b2 d2;exact⟨⟨A,a1,λd l h=>a2 d l (by omega)⟩,⟨B,b1,λd l h=>b2 d l (by omega)⟩,⟨D,d1,λd l h=>d2 d l (by omega)⟩⟩
termination_by SizeOf.sizeOf c
decreasing_by omega
theorem b2g {b:Int}(h:1<=b/\b<=5)(l:List BT):a3b (K4 b)=true/\a7C ((1,K4 b)::l)=some b/\E1 [101,108,115,101] ((1,K4 b)::l)=false:=by
 have:b=1\/b=2\/b=3\/b=4\/b=5:=by omega
 rcases this with rfl|rfl|rfl|rfl|rfl<;>exact⟨by decide,rfl,rfl⟩
def SL1 (s:Step):Prop:=∃L:List BT,(∀r l,Lx r l->Lx (s.tx++r) (L++l))/\
 (∀d l l1 acc x,d+s.deep<=16->E1 [101,108,115,101] l=false->EvS d (acc++[s.cores]) l x l1->EvS d acc (L++l) x l1)/\∀l,E1 [101,108,115,101] (L++l)=false
theorem b4b:∀(x:List Step) (b:Bool),(∀s∈x,SL1 s)->∃L:List BT,(∀r l,Lx r l->Lx (t8 b (x.map Step.tx)++r) (L++l))/\
 (∀d l acc,(∀s∈x,d+s.deep<=16)->a8Y l->acc++x.map Step.cores≠[]->EvS d acc (L++l) (acc++x.map Step.cores) l)/\∀l,a8Y l->E1 [101,108,115,101] (L++l)=false
 | [],b,_=>by
   refine⟨[],λr l h=>by cases b<;>exact h,λd l acc _ he hne=>?_,λl he=>?_⟩
   . rw[B8,R4] at hne⊢;rcases he with⟨r,rfl⟩|rfl
     . exact b5D hne rfl rfl
     . exact b5D hne rfl rfl
   . rcases he with⟨r,rfl⟩|rfl<;>rfl
 | s ::x,b,h=>by
   obtain⟨L,h1,h2,h3⟩:=b4b x false λy hy=>h y (r6 _ hy);obtain⟨l0,s1,s2,s3⟩:=h s (A9 ..);refine⟨l0++L,λr l hl=>?_,λd l acc hd he hne=>?_,λl he=>by rw[n9];exact s3 _⟩
   . have:=s1 _ _ (h1 r l hl);cases b
     . have:=Lx.sp this;simpa only[o5,t8,n9,q8,y8] using this
     . simpa only[o5,t8,n9,q8,y8] using this
   . rw[n9];refine s2 d (L++l) l acc _ (hd s (A9 ..)) (h3 l he) ?_;have:=h2 d l (acc++[s.cores]) (λy hy=>hd y (r6 _ hy)) he (by simp);simpa only[o5,n9,q8,y8] using this
theorem c0p {x:List Step}(hne:x≠[])(h:∀s∈x,SL1 s):∃L:List BT,(∀r l,Lx r l->Lx ([123,32]++(s7 x++([32,125]++r))) ((5,[123])::(L++(5,[125])::l)))/\
 ∀d l,(∀s∈x,d+s.deep<=16)->EvB d ((5,[123])::(L++(5,[125])::l)) (x.map Step.cores) l:=by
 obtain⟨L,h1,h2,h3⟩:=b4b x true h;refine⟨L,λr l hl=>?_,λd l hd=>?_⟩
 . have:=a4m (Lx.sp (h1 _ _ (Lx.sp (a4n hl))));simpa only[s7,n9,q8,y8] using this
 . have:=h2 d ((5,[125])::l) [] hd (.inl ⟨_,rfl⟩) (by simpa using hne);exact b5b this
theorem b4c (s:Step)(hv:s.valid=true)(hdk:s.dok=true):SL1 s:=by
 have hT:∀x∈s.th,s.kind=2->SL1 x:=λx hx hk=>by
  have:=U6 hx;have:=Step.szl s;have hlt:SizeOf.sizeOf x<SizeOf.sizeOf s:=by omega
  have hv':=hv;rw[Step.valid_eq,c8 (by omega),d4 hk] at hv';simp only[f0,j0,n7] at hv';rw[Step.dok_eq] at hdk;simp only[f0] at hdk;exact b4c x (hv'.2.2.2.1 x hx) (b3R hx hdk.2.1)
 have hE:∀x∈s.el,s.kind=2->SL1 x:=λx hx hk=>by
  have:=U6 hx;have:=Step.szl s;have hlt:SizeOf.sizeOf x<SizeOf.sizeOf s:=by omega
  have hv':=hv;rw[Step.valid_eq,c8 (by omega),d4 hk] at hv';simp only[f0,j0,n7] at hv';rw[Step.dok_eq] at hdk;simp only[f0] at hdk;exact b4c x (hv'.2.2.2.2 x hx) (b3R hx hdk.2.2)
 by_cases hk:s.kind=1
 . have hz:=Step.zero hv hk;have hb:1<=s.crit/\s.crit<=5:=by
    rw[Step.valid_eq,d4 hk] at hv;simp only[f0,inR,j0] at hv;omega
   have hc:s.cores=⟨1,s.crit,⟨0,0,0,[]⟩,[],[]⟩:=by
    rw[a3q,hk,c8 (by decide),hz.1,hz.2.1,hz.2.2];rfl
   refine⟨[(1,K4 s.crit),(5,[59])],λr l hl=>?_,λd l l1 acc x _ _ hx=>?_,λl=>(b2g hb _).2.2⟩
   . rw[d4l hk];exact Lx.word (b2g hb []).1 Q8 (a3k hl)
   . rw[hc] at hx;exact c2D (b2g hb _).2.1 hx
 . have hk2:s.kind=2:=by
    rw[Step.valid_eq,c8 hk] at hv;by_cases h2:s.kind=2
    . exact h2
    . rw[c8 h2] at hv;cases hv
   have hv':=hv;rw[Step.valid_eq,c8 (by omega),d4 hk2] at hv';simp only[f0,j0,n7] at hv';obtain⟨hcr,hcv,hth,_,_⟩:=hv';have hdc:s.cond.deep<=16:=by
    rw[Step.dok_eq] at hdk;simp only[f0,Cond.dok,C0,j0] at hdk;rcases hdk.1 with h|h
    . exfalso;simp only[Cond.isZero,f0,j0] at h;rw[Cond.valid_eq,c8 (by omega),c8 (by omega),c8 (by omega)] at hcv;cases hcv
    . exact h
   obtain⟨lc,c1,c2⟩:=(b9I s.cond hcv).text;have htne:s.th≠[]:=by intro e;rw[e] at hth;simp at hth
   obtain⟨Lt,t1,t2⟩:=c0p htne λx hx=>hT x hx hk2;have hdt:∀x∈s.th,1+x.deep<=s.deep:=λx hx=>by
    have:=b3Q hx;rw[Step.deep_eq s];omega
   have hde:∀x∈s.el,1+x.deep<=s.deep:=λx hx=>by
    have:=b3Q hx;rw[Step.deep_eq s];omega
   have hd1:1<=s.deep:=by
    cases h:s.th with
    |nil=>exact absurd h htne
    | cons a b=>
      have:=hdt a (by rw[h];simp);omega
   by_cases he0:s.el=[]
   . have hc:s.cores=⟨2,0,s.cond.cores,s.th.map Step.cores,[]⟩:=by
      rw[a3q,hk2,d4 rfl,hcr,he0];rfl
     refine⟨(1,[105,102])::(lc++((5,[123])::(Lt++[(5,[125])]))),λr l hl=>?_,λd l l1 acc x hd hel hx=>?_,λl=>rfl⟩
     . rw[c1a hk2,he0,c8 (by simp)];have:=D4 (w:=[105,102]) (by decide) (c1 _ _ J6 (Lx.sp (t1 r l hl)));simpa only[n9,q8,y8] using this
     . rw[hc] at hx;have:=c2E (by omega) (c2 0 ((5,[123])::(Lt++(5,[125])::l)) (by omega) rfl rfl) (t2 (d+1) l λy hy=>by have:=hdt y hy;omega) hel hx;simpa only[n9,q8,y8] using this
   . obtain ⟨Le,e1,e2⟩:=c0p he0 λx hx=>hE x hx hk2;have hc:s.cores=⟨2,0,s.cond.cores,s.th.map Step.cores,s.el.map Step.cores⟩:=by
      rw[a3q,hk2,d4 rfl,hcr]
     have hlen:0<s.el.length:=a7g.2 he0;refine⟨(1,[105,102])::(lc++((5,[123])::(Lt++((5,[125])::(1,[101,108,115,101])::(5,[123])::(Le++[(5,[125])]))))),λr l hl=>?_,λd l l1 acc x hd hel hx=>?_,λl=>rfl⟩
     . rw[c1a hk2,d4 hlen];have:=D4 (w:=[105,102]) (by decide) (c1 _ _ J6 (Lx.sp (t1 _ _ (Lx.sp (D4 (w:=[101,108,115,101]) (by decide) (e1 r l hl))))));simpa only[n9,q8,y8] using this
     . rw[hc] at hx;have:=c2F (by omega) (c2 0 ((5,[123])::(Lt++(5,[125])::(1,[101,108,115,101])::(5,[123])::(Le++(5,[125])::l))) (by omega) rfl rfl) (t2 (d+1) _ λy hy=>by have:=hdt y hy;omega) (e2 (d+1) l λy hy=>by have:=hde y hy;omega) hx;simpa only[n9,q8,y8] using this
termination_by SizeOf.sizeOf s
decreasing_by all_goals exact hlt
theorem c0J {l:List Step}(h:K6 l=0):l≠[]/\(∀s∈l,s.valid=true)/\Step.deepL l<=17/\Step.dokL l=true/\Step.nstL l<=64/\Step.ncdL l<=256:=by
 unfold K6 at h;split at h
 . rename_i hf;split at h
   . rename_i hv;obtain⟨k1,k2,k3,k4⟩:=F_S l;simp only[C2,C0,f0,j0,k1,k2,k3,k4] at hf;rcases hf with hf|hf
     . exact absurd (by simpa[q9] using hf) hv.1
     . exact⟨hv.1,n7.1 hv.2,by omega,hf.1.2,by omega,by omega⟩
   . cases h
 . cases h
structure Cores (c:Cond):Prop where
 total:c.cores.total<=c.total
 deep:c.cores.deep<=c.deep
 valid:c.valid=true->c.cores.valid=true
 holds:∀x:Env,c.valid=true->c.cores.holds x=c.holds x
theorem c0T {f:Cond->Cond}:∀{l:List Cond},(∀p∈l,(f p).total<=p.total)->Cond.totalL (l.map f)<=Cond.totalL l
 |[],_=>p0 _
 | p::l,h=>by
   have h1:=h p (A9 ..);have h2:=c0T (f:=f) (l:=l) λq hq=>h q (r6 _ hq);simp only[o5,Cond.totalL];omega
theorem b6W {f:Cond->Cond}:∀{l:List Cond},(∀p∈l,(f p).deep<=p.deep)->Cond.deepL (l.map f)<=Cond.deepL l
 |[],_=>p0 _
 | p::l,h=>by
   have h1:=h p (A9 ..);have h2:=b6W (f:=f) (l:=l) λq hq=>h q (r6 _ hq);simp only[o5,Cond.deepL];omega
theorem c7b (x:Env){c p:Cond}(h:c.kind=2\/c.kind=3)(hp:c.parts=[p]):c.holds x=p.holds x:=by
 rw[b2I,c8 (by omega),c8 (by omega),hp];split<;>simp
theorem b7U (x:Env)(c:Cond):c.core.holds x=c.holds x:=by
 cases ht:c.thin with
 |false=>rw[a5s ht]
 | true=>
   obtain⟨hk,p,hp⟩:=a4d ht;have hm:p∈c.parts:=by rw[hp];simp
   have hsz:=Cond.size_part hm;rw[a5t hk hp,c7b x hk hp];exact b7U x p
termination_by SizeOf.sizeOf c
decreasing_by exact hsz
theorem c4G {c:Cond}(ht:c.thin=false)(ih:∀p∈c.parts,Cores p):Cores c:=by
 have e:=a6V ht;refine⟨?_,?_,λhv=>?_,λx hv=>?_⟩
 . rw[e,Cond.total_eq,Cond.total_eq];have:=c0T (f:=Cond.cores) λp hp=>(ih p hp).total;dsimp only;omega
 . rw[e,Cond.deep_eq,Cond.deep_eq];exact b6W (f:=Cond.cores) λp hp=>(ih p hp).deep
 . have hp:=a4e hv;have hall:(c.parts.map Cond.cores).all Cond.valid=true:=by
    rw[n7];intro y hy;obtain⟨p,hm,rfl⟩:=v6.1 hy;exact(ih p hm).valid (hp p hm)
   rw[e,Cond.valid_eq];rw[Cond.valid_eq] at hv;dsimp only;rw[o9,hall];have hall2:c.parts.all Cond.valid=true:=n7.2 hp;rw[hall2] at hv;exact hv
 . have hp:=a4e hv;rw[e,b2I,b2I];dsimp only;have hh:∀p∈c.parts,p.cores.holds x=p.holds x:=λp hm=>(ih p hm).holds x (hp p hm);have e1:(c.parts.map Cond.cores).any (Cond.holds x)=c.parts.any (Cond.holds x):=by
    rw[List.any_map,G8,N9,N9];exact⟨λ⟨p,hm,h⟩=>⟨p,hm,by rw[<-hh p hm];exact h⟩,λ⟨p,hm,h⟩=>⟨p,hm,(hh p hm).trans h⟩⟩
   have e2:(c.parts.map Cond.cores).all (Cond.holds x)=c.parts.all (Cond.holds x):=by
    rw[List.all_map,G8,n7,n7];exact⟨λh p hm=>by rw[<-hh p hm];exact h p hm,λh p hm=>(hh p hm).trans (h p hm)⟩
   rw[e1,e2];split
   . rfl
   . split
     . cases hps:c.parts with
       |nil=>rfl
       | cons p ps=>
         rw[o5];dsimp only;rw[hh p (by rw[hps];simp)]
     . rfl
theorem b6E (c:Cond):Cores c:=by
 have hsz:=(N0 c).size;have ih:∀p∈c.core.parts,Cores p:=λp hp=>by
  have:=Cond.size_part hp;exact b6E p
 obtain⟨h1,h2,h3,h4⟩:=c4G (N0 c).thin ih;rw[a6U] at h1 h2 h3 h4;have hd:=b2f c;have ht:=(N0 c).total;exact⟨by omega,by omega,λhv=>h3 ((N0 c).valid hv),λx hv=>(h4 x ((N0 c).valid hv)).trans (b7U x c)⟩
termination_by SizeOf.sizeOf c
decreasing_by omega
structure SCores (s:Step):Prop where
 nst:s.cores.nst=s.nst
 deep:s.cores.deep=s.deep
 ncd:s.valid=true->s.cores.ncd<=s.ncd
 dok:s.valid=true->s.dok=true->s.cores.dok=true
 valid:s.valid=true->s.cores.valid=true
 app:∀(x:Env) acc,s.valid=true->s.cores.app x acc=s.app x acc
theorem b0M:∀{l:List Step},(∀s∈l,SCores s)->Step.nstL (l.map Step.cores)=Step.nstL l
 |[],_=>rfl
 | s::l,h=>by
   simp only[o5,Step.nstL];rw[(h s (A9 ..)).nst,b0M λq hq=>h q (r6 _ hq)]
theorem b0J:∀{l:List Step},(∀s∈l,SCores s)->Step.deepL (l.map Step.cores)=Step.deepL l
 |[],_=>rfl
 | s::l,h=>by
   simp only[o5,Step.deepL];rw[(h s (A9 ..)).deep,b0J λq hq=>h q (r6 _ hq)]
theorem b0L:∀{l:List Step},(∀s∈l,SCores s)->(∀s∈l,s.valid=true)->Step.ncdL (l.map Step.cores)<=Step.ncdL l
 |[],_,_=>p0 _
 | s::l,h,hv=>by
   have h1:=(h s (A9 ..)).ncd (hv s (A9 ..));have h2:=b0L (l:=l) (λq hq=>h q (r6 _ hq)) λq hq=>hv q (r6 _ hq);simp only[o5,Step.ncdL];omega
theorem b0K:∀{l:List Step},(∀s∈l,SCores s)->(∀s∈l,s.valid=true)->Step.dokL l=true->Step.dokL (l.map Step.cores)=true
 |[],_,_,_=>rfl
 | s::l,h,hv,hd=>by
   simp only[Step.dokL,f0] at hd;simp only[o5,Step.dokL,f0];exact⟨(h s (A9 ..)).dok (hv s (A9 ..)) hd.1,b0K (λq hq=>h q (r6 _ hq)) (λq hq=>hv q (r6 _ hq)) hd.2⟩
theorem b3N (x:Env):∀{l:List Step} (acc:List Int),(∀s∈l,SCores s)->(∀s∈l,s.valid=true)->Step.appL x (l.map Step.cores) acc=Step.appL x l acc
 |[],_,_,_=>rfl
 | s::l,acc,h,hv=>by
   simp only[o5,Step.appL];rw[(h s (A9 ..)).app x acc (hv s (A9 ..))];exact b3N x _ (λq hq=>h q (r6 _ hq)) λq hq=>hv q (r6 _ hq)
theorem b0x {c:Cond}(h:c.valid=true):c.isZero=false:=by
 cases hz:c.isZero with
 |false=>rfl
 | true=>
   simp only[Cond.isZero,f0,j0] at hz;rw[Cond.valid_eq,c8 (by omega),c8 (by omega),c8 (by omega)] at h;cases h
theorem b3O (s:Step):SCores s:=by
 have hT:∀x∈s.th,SCores x:=λx hx=>by
  have:=U6 hx;have:=Step.szl s;have hlt:SizeOf.sizeOf x<SizeOf.sizeOf s:=by omega
  exact b3O x
 have hE:∀x∈s.el,SCores x:=λx hx=>by
  have:=U6 hx;have:=Step.szl s;have hlt:SizeOf.sizeOf x<SizeOf.sizeOf s:=by omega
  exact b3O x
 have hc:=b6E s.cond;have e:=a3q s;refine⟨?_,?_,λhv=>?_,λhv hd=>?_,λhv=>?_,λx acc hv=>?_⟩
 . rw[e,Step.nst_eq,Step.nst_eq];dsimp only;rw[b0M hT,b0M hE]
 . rw[e,Step.deep_eq,Step.deep_eq];dsimp only;rw[b0J hT,b0J hE]
 . rw [e,Step.ncd_eq,Step.ncd_eq];dsimp only;rcases b1f hv with k|⟨k,hcv,ht,he⟩
   . have hz:=Step.zero hv k;rw[c8 (by omega),hz.2.1,hz.2.2];exact p0 _
   . rw[d4 k];have h1:=b0L hT ht;have h2:=b0L hE he;have h3:s.cond.cores.num<=s.cond.num:=by
      unfold Cond.num;rw[b0x hcv,b0x (hc.valid hcv)];exact hc.total
     omega
 . rw [Step.dok_eq] at hd;simp only[f0] at hd;rw[e,Step.dok_eq];dsimp only;rcases b1f hv with k|⟨k,hcv,ht,he⟩
   . have hz:=Step.zero hv k;rw[c8 (by omega),hd.1,hz.2.1,hz.2.2];rfl
   . rw[d4 k,b0K hT ht hd.2.1,b0K hE he hd.2.2];have h3:s.cond.cores.dok=true:=by
      have:=hd.1;simp only[Cond.dok,C0,j0,b0x hcv,b0x (hc.valid hcv)] at this⊢;have:=hc.deep;simp_all
      omega
     rw[h3];rfl
 . rw [e,Step.valid_eq];dsimp only;rcases b1f hv with k|⟨k,hcv,ht,he⟩
   . have hz:=Step.zero hv k;rw[Step.valid_eq,d4 k] at hv;rw[d4 k,c8 (by omega),hz.2.1,hz.2.2];rw[hz.2.1,hz.2.2] at hv;exact hv
   . have h1:(s.th.map Step.cores).all Step.valid=true:=by
      rw[n7];intro y hy;obtain⟨p,hm,rfl⟩:=v6.1 hy;exact(hT p hm).valid (ht p hm)
     have h2:(s.el.map Step.cores).all Step.valid=true:=by
      rw[n7];intro y hy;obtain⟨p,hm,rfl⟩:=v6.1 hy;exact(hE p hm).valid (he p hm)
     rw[Step.valid_eq,c8 (by omega),d4 k] at hv;rw[c8 (by omega),d4 k,d4 k,hc.valid hcv,h1,h2,o9];rw[hcv] at hv;simp only[f0,j0] at hv⊢;exact⟨hv.1,d9,hv.2.2.1,d9,d9⟩
 . rw [e,b5Y,b5Y];dsimp only;rcases b1f hv with k|⟨k,hcv,ht,he⟩
   . have h2:¬s.kind=2:=by omega
     simp only[c8 h2]
   . rw[d4 k,d4 k,d4 k,hc.holds x hcv,b3N x acc hT ht,b3N x acc hE he]
termination_by SizeOf.sizeOf s
decreasing_by all_goals exact hlt
theorem d3y {l:List Step}(h:K6 l=0):K6 (l.map Step.cores)=0:=by
 obtain⟨hne,hv,hd,hok,hn,hc⟩:=c0J h;have hs:∀s∈l,SCores s:=λs _=>b3O s;unfold K6;obtain⟨k1,k2,k3,k4⟩:=F_S (l.map Step.cores);have e1:=b0M hs;have e2:=b0L hs hv;have e3:=b0J hs;have e4:=b0K hs hv hok;rw[d4,d4]
 . refine⟨by simpa using hne,?_⟩;rw[n7];intro y hy;obtain⟨p,hm,rfl⟩:=v6.1 hy;exact(hs p hm).valid (hv p hm)
 . simp only[C2,C0,f0,j0,k1,k2,k3,k4];exact .inr ⟨⟨by omega,e4⟩,by omega,by omega⟩
set_option maxHeartbeats 16000000
theorem b6F (c:Cond)(h:c.ok):c.cores.ok:=by
 have hc:=N0 c;have ho:=Cond.ok_iff.1 (hc.ok h);have hsz:=hc.size;have ih:∀p∈c.core.parts,p.cores.ok:=λp hp=>by
  have:=Cond.size_part hp;exact b6F p (ho.2 p hp)
 rw[<-a6U,a6V hc.thin];refine Cond.ok_iff.2 ⟨by simpa using ho.1,λx hx=>?_⟩;obtain⟨p,hp,rfl⟩:=v6.1 hx;exact ih p hp
termination_by SizeOf.sizeOf c
decreasing_by omega
theorem b3P (s:Step)(h:s.ok):s.cores.ok:=by
 have ho:=Step.ok_iff.1 h;have hz:=Step.szl s;have hT:∀x∈s.th,x.cores.ok:=λx hx=>by
  have:=U6 hx;have hlt:SizeOf.sizeOf x<SizeOf.sizeOf s:=by omega
  exact b3P x (ho.2.1.2 x hx)
 have hE:∀x∈s.el,x.cores.ok:=λx hx=>by
  have:=U6 hx;have hlt:SizeOf.sizeOf x<SizeOf.sizeOf s:=by omega
  exact b3P x (ho.2.2.2 x hx)
 rw[a3q];refine Step.ok_iff.2 ⟨?_,⟨by simpa using ho.2.1.1,λx hx=>?_⟩,by simpa using ho.2.2.1,λx hx=>?_⟩
 . dsimp only;split
   . exact b6F _ ho.1
   . exact ho.1
 . obtain⟨p,hp,rfl⟩:=v6.1 hx;exact hT p hp
 . obtain⟨p,hp,rfl⟩:=v6.1 hx;exact hE p hp
termination_by SizeOf.sizeOf s
decreasing_by all_goals exact hlt
end Go.Proofs.YteillnfhkeebjaaGreatDoor.Dx
