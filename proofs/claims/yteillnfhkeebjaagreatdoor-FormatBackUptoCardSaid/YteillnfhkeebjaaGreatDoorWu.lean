/- Expanded. -/
import Derived.Test.YteillnfhkeebjaaGreatDoorWt
set_option linter.all false
namespace Go.Proofs.YteillnfhkeebjaaGreatDoor.Dx
open Go Go.RowKit
set_option maxRecDepth 100000
set_option maxHeartbeats 16000000
def R9 (lap:List Int):Nat->List Int->List Int
 |0,acc=>acc
 |n+1,acc=>if acc.length>256 then acc else R9 lap n (acc++lap)
mutual
def Part.ex:Part->List Int->List Int
 |⟨m,l,ps⟩,acc=>if l>0 then R9 (Part.exL ps []) l.toNat acc else R9 [m] 1 acc
def Part.exL:List Part->List Int->List Int
 |[],acc=>acc
 |p::ps,acc=>Part.exL ps (Part.ex p acc)
end
theorem Part.ex_eq (p:Part)(acc:List Int):p.ex acc=if p.laps>0 then R9 (Part.exL p.parts []) p.laps.toNat acc else R9 [p.mat] 1 acc:=by
 obtain⟨m,l,ps⟩:=p;simp only[Part.ex]
theorem b2r (lap:List Int){acc:List Int}(h:acc.length>256):∀n,R9 lap n acc=acc
 |0=>rfl
 |n+1=>by rw[R9,d4 h]
theorem b2v {acc:List Int}(h:acc.length>256):∀l,Part.exL l acc=acc
 |[]=>rfl
 | p::l=>by
   have e:p.ex acc=acc:=by rw[Part.ex_eq];split<;>exact b2r _ h _
   rw[Part.exL,e,b2v h l]
theorem b2s {lap:List Int}{K:Nat}(hl:256+lap.length<=K):∀n (acc:List Int),acc.length<=K->(R9 lap n acc).length<=K
 |0,acc,h=>h
 | n+1,acc,h=>by
   rw[R9];split
   . exact h
   . exact b2s hl n _ (by rw[j6];omega)
mutual
theorem b8q:∀p:Part,(Part.exL p.parts []).length<=256*p.deep+1
 | ⟨m,l,ps⟩=>by
   have h:=exL_len ps [] (256*(Part.deepL ps+1)+1) (by omega) (by simp);cases ps with
   |nil=>simp[Part.exL]
   |cons q qs=>rw[show(⟨m,l,q::qs⟩:Part).deep=1+Part.deepL (q::qs) from rfl];simp only at h⊢;omega
theorem exL_len:∀(l:List Part) (acc:List Int) (K:Nat),256*(Part.deepL l+1)+1<=K->acc.length<=K->(Part.exL l acc).length<=K
 |[],acc,K,_,h=>h
 | p::l,acc,K,hK,h=>by
   rw[Part.deepL] at hK;rw[Part.exL];refine exL_len l _ K (by omega) ?_;rw[Part.ex_eq];have hp:=b8q p;split
   . exact b2s (by omega) _ _ h
   . exact b2s (by simp;omega) _ _ h
end
theorem c6g {l:List Part}{i:Nat}(h:i<l.length)(acc:List Int):Part.exL (l.drop i) acc=Part.exL (l.drop (i+1)) (l[i].ex acc):=by
 rw[F2 h,Part.exL]
theorem b7S {m:Int}{p:Part}(h:p.good m=true):∀x∈p.parts,x.good m=true:=by
 rw[a4r] at h;split at h
 . simp only[f0,j0] at h;have:p.parts=[]:=C8 (by omega);rw[this];simp
 . simp only[f0,n7] at h;exact h.2.2.2
theorem b7Q {m:Int}{p:Part}(h:p.good m=true):0<=p.laps/\p.laps<=64:=by
 rw[a4r] at h;split at h
 . omega
 . simp only[f0,inR,j0] at h;omega
theorem b7w (m:Int)(l:List Part)(hg:∀p∈l,p.good m=true)(hl:Part.cntL l<=1048576):Mt 118 [.sl (l.map Part.cells)] λr=>r= .sl ((Part.exL l []).map a0D):=by
 have hlen:=a4s l;have hdl:=a4q l;obtain⟨K,hK⟩:∃K,K=256*(Part.deepL l+1)+1:=⟨_,rfl⟩
 refine En {} Tryz.func118 Tryz.ntmps118 λ_ _ _ _ _=>?_;refine Kw ?_;repeat'((first|(intro hlq;try simp only[SL] at hlq)|refine K8 ?_)<;>refine Kw ?_)
 refine o4 tok {} [(.inl 2,2,3,1)] (X:=Nat×List Int) (λx=>[(8,iB x.1),(2, .own 2)]) (λx=>[(2, .sl ⟨3,1,x.2.map a0D,true⟩)]) [4] (λx=>x.1<=l.length/\Part.exL (l.drop x.1) x.2=Part.exL l []/\x.2.length<=K) (λx=>l.length-x.1) (0,[]) ?_;refine Kw ?_;refine⟨by simp,?_⟩;refine Kw ?_;refine d8 ?_ ⟨⟨by omega,by simp,by simp⟩,λx hΦ=>?_⟩
 . exact Kr
 obtain⟨i,acc⟩:=x;obtain⟨hi,heq,hal⟩:=hΦ;dsimp only at hi heq hal;refine Kw ?_;refine⟨λh1=>?_,λh1=>?_⟩<;>(try simp only[BL] at h1)<;>refine Kw ?_
 . have h1':i<l.length:=by omega
   have hp:=l[i].ex_eq acc;have hgi:=hg _ (q7 h1');have hlp:=b7Q hgi;have hlap:=b8q l[i];have hdm:=a9m (q7 h1');have hc:=a9l h1';rw[c6g h1'] at heq;repeat'((first|(intro hlq;try simp only[SL] at hlq)|refine Ka ?_|refine Kb ?_|refine Kc (hd:=rfl) (e:=?_)|refine Kc (hd:=Part.cells_eq _) (e:=?_)|refine Kd (e:=?_)|refine Kl rfl ?_|fail)<;>refine Kw ?_)
   refine⟨λh2=>?_,λh2=>?_⟩<;>(try simp only[BL] at h2)<;>refine Kw ?_
   . refine Meets.k (b7w m l[i].parts (b7S hgi) (by(try dsimp only at *);omega)) ?_;have h2':l[i].laps>0:=h2;rw[d4 h2'] at hp;refine Kw ?_;repeat'((first|(intro hlq;try simp only[SL] at hlq)|refine K8 ?_)<;>refine Kw ?_)
     refine o4 tok {} [] (X:=Nat×List Int) (λx=>[(24,iB x.1),(2, .own 2)]) (λx=>[(2, .sl ⟨3,1,x.2.map a0D,true⟩)]) [] (λx=>x.1<=l[i].laps.toNat/\R9 (Part.exL l[i].parts []) (l[i].laps.toNat-x.1) x.2=l[i].ex acc/\x.2.length<=K) (λx=>l[i].laps.toNat-x.1) (0,acc) ?_;refine Kw ?_;refine d8 ?_ ⟨⟨by dsimp only;omega,hp.symm,hal⟩,λy hΨ=>?_⟩
     . exact Kr
     obtain⟨k,acc2⟩:=y;obtain⟨hk,he2,hl2⟩:=hΨ;dsimp only at hk he2 hl2;refine Kw ?_;refine⟨λh3=>?_,λh3=>?_⟩<;>(try simp only[BL] at h3)<;>refine Kw ?_
     . repeat' ((first|(intro hlq;try simp only[SL] at hlq)|refine K8 ?_)<;>refine Kw ?_)
       refine⟨λh4=>?_,λh4=>?_⟩<;>(try simp only[BL] at h4)<;>refine Kw ?_
       . refine⟨d6 (λz:List Int=>D.sl (z.map a0D)) ?_⟩;have hf:acc2.length>256:=by(try simp only[o9] at h4);omega
         rw[b2r _ hf] at he2;rw[<-heq,<-he2,b2v hf]
       . have hf:¬acc2.length>256:=by(try simp only[o9] at h4);omega
         repeat'((first|(intro hlq;try simp only[SL] at hlq)|refine K8 ?_)<;>refine Kw ?_)
         refine⟨by simp,?_⟩;refine Kw ?_;refine⟨λ_ _=>by simp;omega,?_⟩;refine Kw ?_;repeat'((first|(intro hlq;try simp only[SL] at hlq)|refine K8 ?_)<;>refine Kw ?_)
         have hs:l[i].laps.toNat-k=(l[i].laps.toNat-(k+1))+1:=by(try dsimp only at *);omega
         rw[hs,R9,c8 hf] at he2;refine⟨⟨(k+1,acc2++(Part.exL l[i].parts [])),?_,⟨by(try dsimp only at *);omega,he2,by dsimp only;rw[j6];omega⟩,by(try dsimp only at *);omega⟩⟩;repeat'(first|exact d9|exact rfl|refine d8 ?_ ?_)
         all_goals (first|(dsimp only;rw[D3];done)|(dsimp only;rw[D3];rfl))
     . repeat'((first|(intro hlq;try simp only[SL] at hlq)|refine K8 ?_)<;>refine Kw ?_)
       have hs:l[i].laps.toNat-k=0:=by(try dsimp only at *);omega
       rw[hs,R9] at he2;refine⟨⟨(i+1,acc2),?_,⟨by(try dsimp only at *);omega,by dsimp only;rw[he2,heq],hl2⟩,by(try dsimp only at *);omega⟩⟩;repeat'(first|exact d9|exact rfl|refine d8 ?_ ?_)
   . skip
     have h2':¬l[i].laps>0:=h2;rw[c8 h2'] at hp;repeat'((first|(intro hlq;try simp only[SL] at hlq)|refine K8 ?_)<;>refine Kw ?_)
     refine o4 tok {} [] (X:=Nat×List Int) (λx=>[(24,iB x.1),(2, .own 2)]) (λx=>[(2, .sl ⟨3,1,x.2.map a0D,true⟩)]) [] (λx=>x.1<=1/\R9 [l[i].mat] (1-x.1) x.2=l[i].ex acc/\x.2.length<=K) (λx=>1-x.1) (0,acc) ?_;refine Kw ?_;refine d8 ?_ ⟨⟨by dsimp only;omega,hp.symm,hal⟩,λy hΨ=>?_⟩
     . exact Kr
     obtain⟨k,acc2⟩:=y;obtain⟨hk,he2,hl2⟩:=hΨ;dsimp only at hk he2 hl2;refine Kw ?_;refine⟨λh3=>?_,λh3=>?_⟩<;>(try simp only[BL] at h3)<;>refine Kw ?_
     . repeat' ((first|(intro hlq;try simp only[SL] at hlq)|refine K8 ?_)<;>refine Kw ?_)
       refine⟨λh4=>?_,λh4=>?_⟩<;>(try simp only[BL] at h4)<;>refine Kw ?_
       . refine⟨d6 (λz:List Int=>D.sl (z.map a0D)) ?_⟩;have hf:acc2.length>256:=by(try simp only[o9] at h4);omega
         rw[b2r _ hf] at he2;rw[<-heq,<-he2,b2v hf]
       . have hf:¬acc2.length>256:=by(try simp only[o9] at h4);omega
         repeat'((first|(intro hlq;try simp only[SL] at hlq)|refine K8 ?_)<;>refine Kw ?_)
         refine⟨by simp,?_⟩;refine Kw ?_;refine⟨λ_ _=>by simp;omega,?_⟩;refine Kw ?_;repeat'((first|(intro hlq;try simp only[SL] at hlq)|refine K8 ?_)<;>refine Kw ?_)
         have hs:1-k=(1-(k+1))+1:=by(try dsimp only at *);omega
         rw[hs,R9,c8 hf] at he2;refine⟨⟨(k+1,acc2++[l[i].mat]),?_,⟨by(try dsimp only at *);omega,he2,by dsimp only;rw[j6];simp only[List.length_singleton];omega⟩,by(try dsimp only at *);omega⟩⟩;repeat'(first|exact d9|exact rfl|refine d8 ?_ ?_)
         all_goals (first|(dsimp only;rw[D3];done)|(dsimp only;rw[D3];rfl))
     . repeat'((first|(intro hlq;try simp only[SL] at hlq)|refine K8 ?_)<;>refine Kw ?_)
       have hs:1-k=0:=by(try dsimp only at *);omega
       rw[hs,R9] at he2;refine⟨⟨(i+1,acc2),?_,⟨by(try dsimp only at *);omega,by dsimp only;rw[he2,heq],hl2⟩,by(try dsimp only at *);omega⟩⟩;repeat'(first|exact d9|exact rfl|refine d8 ?_ ?_)
 . refine⟨d6 (λz:List Int=>D.sl (z.map a0D)) ?_⟩;rw[a0U (by omega),Part.exL] at heq;exact heq
termination_by Part.cntL l
decreasing_by all_goals omega
theorem b8O (l:List (D×D))(k v x:D):G2 (H5 l k v) x=(open Classical in if k=x then some v else G2 l x):=by
 induction l with
 |nil=>simp[H5,G2]
 | cons p l ih=>
   simp only[H5];by_cases e:p.1=k
   . rw[d4 e];simp only[G2];by_cases h:k=x
     . simp[h]
     . rw[c8 h,c8 h,c8 (by rw[e];exact h)]
   . rw[c8 e];simp only[G2,ih];by_cases h:p.1=x
     . rw[d4 h,d4 h,c8 (by rw[<-h];exact λh2=>e h2.symm)]
     . rw[c8 h,c8 h]
theorem c7Q:∀n,∀ks:List D,ks.length=n->∀k:D,((G2 (J9 ks) k).getD (bD false)=bD true↔k∈ks)/\((G2 (J9 ks) k).getD (bD false)=bD false↔k∉ks):=by
 intro n;induction n with
 | zero=>
   intro ks h k;obtain rfl:=C8 h;simp[J9,G2]
 | succ n ih=>
   intro ks h k;obtain⟨l,q,rfl⟩:∃l q,ks=l++[q]:=by
    have hne:ks≠[]:=by rintro rfl;simp at h
    exact⟨_,_,(List.dropLast_concat_getLast hne).symm⟩
   have hi:=ih l (by simpa using h) k;rw[a7V,b8O];by_cases e:q=k
   . subst e;simp
   . rw[c8 e,hi.1,hi.2];simp[Ne.symm e]
def Course.kind (c:Course)(m:Int):Int:=match c.mats[m.toNat]? with|some x=>x.kind|none=>0
def Course.leg (c:Course)(a b:Int):Bool:=decide ((a,b)∈c.legs.map λl=>(l.src,l.dst))
noncomputable def Course.legMap (c:Course):List (D×D):=J9 (c.legs.map Leg.key)
theorem b8t (c:Course)(a b:Int):(G2 c.legMap (.agg [iD a,iD b])).getD (bD false)=bD (c.leg a b):=by
 obtain⟨h1,h2⟩:=c7Q _ (c.legs.map Leg.key) rfl (.agg [iD a,iD b]);have e:(D.agg [iD a,iD b]∈c.legs.map Leg.key)↔((a,b)∈c.legs.map λl=>(l.src,l.dst)):=by simp[Leg.key]
 rw[Course.legMap,Course.leg];by_cases h:(a,b)∈c.legs.map λl=>(l.src,l.dst)
 . rw[r9 h];exact h1.2 (e.2 h)
 . rw[D5 h];exact h2.2 λhh=>h (e.1 hh)
theorem b8v (c:Course):∀p∈c.legMap,U5 2 p.1:=b0d λk hk=>by
 obtain⟨x,_,rfl⟩:=v6.1 hk;exact⟨[x.src,x.dst],rfl,rfl⟩
theorem b2X {c:Course}{m:Int}(h0:0<=m)(h:m.toNat<c.mats.length):c.mats[m.toNat].kind=c.kind m:=by
 rw[Course.kind,t6 h]
def a0M (c:Course)(r:List Int)(i:Nat):Bool:=decide (c.kind (r.getD i 0)=if i=0 then 1 else if i+1=r.length then 3 else 2)&&(decide (i=0)||c.leg (r.getD (i-1) 0) (r.getD i 0))
def a6b (c:Course)(r:List Int)(x:Int):Bool:=decide (x= -1)||(decide (r.count x>0)&&(decide (c.kind x=2)&&c.leg x x))
def a5V (r:List Int)(x:Cutoff):Bool:=decide ((r.count x.mat:Int)≥x.lap)
def a0O (c:Course)(d:Distance):Bool:=
 (decide ((Part.exL d.route []).length≥2)&&decide ((Part.exL d.route []).length<=256))&&((List.range (Part.exL d.route []).length).all (a0M c (Part.exL d.route []))&&(a6b c (Part.exL d.route []) d.extra&&d.cutoffs.all (a5V (Part.exL d.route []))))
theorem b2t {lap:List Int}{p:Int->Prop}(hl:∀x∈lap,p x):∀n (acc:List Int),(∀x∈acc,p x)->∀x∈R9 lap n acc,p x
 |0,acc,h=>h
 | n +1,acc,h=>by
   rw[R9];split
   . exact h
   . refine b2t hl n _ λx hx=>?_;rcases A8.1 hx with hx|hx
     . exact h x hx
     . exact hl x hx
mutual
theorem c6i (m:Int):∀(p:Part) (acc:List Int),p.good m=true->(∀x∈acc,0<=x/\x<=m)->∀x∈p.ex acc,0<=x/\x<=m
 | ⟨mt,l,ps⟩,acc,hg,h=>by
   rw[Part.ex_eq];have hp:=b7S hg;have hl:=b7Q hg;simp only at hp hl⊢;split
   . exact b2t (exL_mem m ps [] hp (by simp)) _ _ h
   . refine b2t ?_ _ _ h;rw[a4r] at hg;simp only at hg;rw[d4 (by omega)] at hg;simp only[inR,f0,j0] at hg;simp;omega
theorem exL_mem (m:Int):∀(l:List Part) (acc:List Int),(∀p∈l,p.good m=true)->(∀x∈acc,0<=x/\x<=m)->∀x∈Part.exL l acc,0<=x/\x<=m
 |[],acc,_,h=>h
 | p::l,acc,hg,h=>by
   rw[Part.exL];exact exL_mem m l _ (λq hq=>hg q (r6 _ hq)) (c6i m p acc (hg p (A9 ..)) h)
end
theorem b6N (x:Cutoff)(r:List Int)(lm:List (D×D))(hm:∀n:Int,(G2 lm (iD n)).getD (iD 0)=iD (r.count n))(hk:∀p∈lm,M5 .i64 p.1):Mt 119 [x.d, .ptr [.mp lm] 0] λd=>d=bD (a5V r x):=by
 refine En {} Tryz.func119 Tryz.ntmps119 λ_ _ _ _ _=>?_;refine Kw ?_;refine⟨⟨⟨_,rfl⟩,hk⟩,_,hm _,?_⟩;refine Kw ?_;exact⟨rfl⟩
theorem b2F {α:Type}{xs:List α}(f:α->List D){n:Nat}(h:n<xs.length):(xs.map f)[n]?=some (f xs[n]):=by
 rw[z7,t6 h];rfl
theorem d0g {c:Course}{r:List Int}{i:Nat}(hi:i<r.length)(h2:2<=r.length)(hk:1<=c.kind r[i]/\c.kind r[i]<=3):
 a0M c r i=true↔(c.kind r[i]=1↔i=0)/\(c.kind r[i]=3↔i+1=r.length)/\(i=0\/c.leg (r.getD (i-1) 0) r[i]=true):=by
 have e:r.getD i 0=r[i]:=by simp[List.getD,t6 hi]
 rw[a0M,e];simp only[f0,C0,j0];generalize c.leg (r.getD (i-1) 0) r[i]=b;generalize c.kind r[i]=k at *;by_cases h0:i=0
 . subst h0;simp;omega
 . by_cases h1:i+1=r.length
   . simp[h0,h1];omega
   . cases b<;>simp[h0,h1];omega
theorem b3x {c:Course}{r:List Int}{i:Nat}(h:a0M c r i=false)(hi:i<r.length):(List.range r.length).all (a0M c r)=false:=by
 rw[List.all_eq_false];exact⟨i,a5F.2 hi,by rw[h];simp⟩
theorem c6W {r:List Int}{i:Nat}(h:0<i)(h1:i<r.length):r.getD (i-1) 0=r[((i:Int)-1).toNat]'(by omega):=by
 simp only[show((i:Int)-1).toNat=i-1 from by omega];simp[List.getD,t6 (show i-1<r.length by omega)]
theorem b7W {lm:List (D×D)}{t:List Int}{x:Int}(hget:∀n:Int,(G2 lm (iD n)).getD (iD 0)=iD (t.count n)):∀n:Int,(G2 (H5 lm (iD x) (iD ((t.count x:Int)+1))) (iD n)).getD (iD 0)=iD ((t++[x]).count n):=by
 intro n;rw[b8O,List.count_append];by_cases e:x=n
 . subst e;simp
 . rw[c8 (by simpa using e),hget n];simp[List.count_singleton,e]
theorem b7V {lm:List (D×D)}{x:Int}{v:D}(h:∀p∈lm,M5 .i64 p.1):∀p∈H5 lm (iD x) v,M5 .i64 p.1:=by
 intro p hp;rcases((b8T (l:=lm) (k:=iD x) (v:=v)).2 p.1).1 (v6.2 ⟨p,hp,rfl⟩) with h1|h1
 . obtain⟨q,hq,e⟩:=v6.1 h1;rw[<-e];exact h q hq
 . exact⟨x,h1⟩
theorem c7C (c:Course)(d:Distance)(hc:c.small)(hn:NumsOk c)(hd:d∈c.distances):Mt 45 [c.d,d.d, .mp c.legMap] λr=>r=bD (a0O c d):=by
 have hmats:=hc.mats;have hdg:=hn.distances d hd;simp only[Distance.good,f0,n7] at hdg;have hmem:=exL_mem c.m d.route [] hdg.2.2.1 (by simp);have hlen:=exL_len d.route [] _ (p0 _) (by simp);have hdl:=a4q d.route;have hct:=hc.route d hd;have hm1:c.m=c.mats.length-1:=by simp[Course.m]
 have hkd:∀x:Int,0<=x->x<=c.m->1<=c.kind x/\c.kind x<=3:=by
  intro x h0 h1;have hlt:x.toNat<c.mats.length:=by omega
  have:=hn.mats _ (q7 hlt);rw[<-b2X h0 hlt];simpa[Mat.good,inR] using this
 refine En {} Tryz.func45 Tryz.ntmps45 λ_ _ _ _ _=>?_;refine Kw ?_;refine Meets.k (b7w c.m d.route hdg.2.2.1 hct) ?_;rw[a0O];generalize Part.exL d.route []=r at *;refine Kw ?_;repeat'((first|(intro hlq;try simp only[SL] at hlq)|((refine Kh (λhb=>?_) λhb=>?_)<;>try simp only[BL] at hb)|refine K8 ?_)<;>refine Kw ?_)
 . refine⟨d6 bD ?_⟩;rw[D5 (by omega:¬r.length≥2)];rfl
 . refine⟨d6 bD ?_⟩;rw[D5 (by omega:¬r.length<=256),a4c];rfl
 rw[r9 (by omega:r.length≥2),r9 (by omega:r.length<=256),W9,W9];refine o4 tok {} [] (X:=Nat×List (D×D)) (λx=>[(29,iB x.1)]) (λx=>[(26, .mp x.2)]) [] (λx=>x.1<=r.length/\(∀j,j<x.1->a0M c r j=true)/\(∀n:Int,(G2 x.2 (iD n)).getD (iD 0)=iD ((r.take x.1).count n))/\∀p∈x.2,M5 .i64 p.1) (λx=>r.length-x.1) (0,[]) ?_;refine Kw ?_;refine d8 ?_ ⟨⟨by omega,λj hj=>by omega,λn=>by simp[G2],by simp⟩,λx hΦ=>?_⟩
 . exact Kr
 obtain⟨i,lm⟩:=x;obtain⟨hi,hpos,hget,hkey⟩:=hΦ;dsimp only at hi hpos hget hkey;refine Kw ?_;refine⟨λh1=>?_,λh1=>?_⟩<;>(try simp only[BL] at h1)<;>refine Kw ?_
 . have h1':i<r.length:=by omega
   have hr:=hmem _ (q7 h1');have hlt:r[i].toNat<c.mats.length:=by omega
   have hki:=hkd _ hr.1 hr.2;have hiff:=d0g h1' (by omega) hki;repeat'((first|(intro hlq;try simp only[SL] at hlq)|refine K8 ?_)<;>refine Kw ?_)
   refine⟨_,⟨hr.1,b2F Mat.cells hlt,rfl⟩,?_⟩;refine Kw ?_;rw[show c.mats[r[(i,lm).fst].toNat].kind=c.kind r[i] from b2X hr.1 hlt];repeat'((first|(intro hlq;try simp only[SL] at hlq)|((refine Kh (λhb=>?_) λhb=>?_)<;>try simp only[BL] at hb)|refine K8 ?_)<;>refine Kw ?_)
   . have hf:a0M c r i=false:=by
      rw[ne_eq,decide_eq_decide] at hb;rw[Bool.eq_false_iff,ne_eq,hiff];omega
     refine⟨d6 bD ?_⟩;rw[b3x hf h1'];rfl
   . have hf:a0M c r i=false:=by
      rw[ne_eq,decide_eq_decide] at hb;rw[Bool.eq_false_iff,ne_eq,hiff];omega
     refine⟨d6 bD ?_⟩;rw[b3x hf h1'];rfl
   . (try dsimp only at hb);have hpr:=c6W (by omega:0<i) h1';refine⟨_,⟨by dsimp only;omega,b2F a0D (by dsimp only;omega),rfl⟩,?_⟩;refine Kw ?_;refine⟨⟨⟨[_,_],rfl,rfl⟩,b8v c⟩,_,b8t c _ _,?_⟩;refine Kw ?_;refine⟨λh5=>?_,λh5=>?_⟩<;>(try simp only[BL] at h5)<;>refine Kw ?_
     . have hf:a0M c r i=false:=by
        rw[Bool.eq_false_iff,ne_eq,hiff,hpr,h5];(try dsimp only at hb);simp;omega
       refine⟨d6 bD ?_⟩;rw[b3x hf h1'];rfl
     . have hok:a0M c r i=true:=by
        rw[hiff,hpr];simp only[ne_eq,decide_eq_decide,Decidable.not_not] at *;exact⟨by omega,by omega, .inr h5⟩
       refine⟨⟨⟨_,rfl⟩,hkey⟩,_,hget _,?_⟩;refine Kw ?_;have hcnt:List.count r[i] (r.take i)<=i:=by have:=List.count_le_length (a:=r[i]) (l:=r.take i);rw[R5] at this;omega
       repeat'((first|(intro hlq;try simp only[SL] at hlq)|refine K8 ?_)<;>refine Kw ?_)
       refine⟨⟨⟨_,rfl⟩,hkey⟩,?_⟩;refine Kw ?_;repeat'((first|(intro hlq;try simp only[SL] at hlq)|refine K8 ?_)<;>refine Kw ?_)
       refine⟨⟨(i+1,H5 lm (iD r[i]) (iD ((List.count r[i] (r.take i):Int)+1))),?_,⟨by(try dsimp only at *);omega,λj hj=>?_,?_,b7V hkey⟩,by(try dsimp only at *);omega⟩⟩
       . exact Kr
       . rcases C5 j i with h|h
         . exact hpos j h
         . obtain rfl:j=i:=by(try dsimp only at hj);omega
           exact hok
       . dsimp only;rw[L1 h1'];exact b7W hget
   . have hok:a0M c r i=true:=by
      rw[hiff];simp only[ne_eq,decide_eq_decide,Decidable.not_not] at *;exact⟨by omega,by omega, .inl (by omega)⟩
     refine⟨⟨⟨_,rfl⟩,hkey⟩,_,hget _,?_⟩;refine Kw ?_;have hcnt:List.count r[i] (r.take i)<=i:=by have:=List.count_le_length (a:=r[i]) (l:=r.take i);rw[R5] at this;omega
     repeat'((first|(intro hlq;try simp only[SL] at hlq)|refine K8 ?_)<;>refine Kw ?_)
     refine⟨⟨⟨_,rfl⟩,hkey⟩,?_⟩;refine Kw ?_;repeat'((first|(intro hlq;try simp only[SL] at hlq)|refine K8 ?_)<;>refine Kw ?_)
     refine⟨⟨(i+1,H5 lm (iD r[i]) (iD ((List.count r[i] (r.take i):Int)+1))),?_,⟨by(try dsimp only at *);omega,λj hj=>?_,?_,b7V hkey⟩,by(try dsimp only at *);omega⟩⟩
     . exact Kr
     . rcases C5 j i with h|h
       . exact hpos j h
       . obtain rfl:j=i:=by(try dsimp only at hj);omega
         exact hok
     . dsimp only;rw[L1 h1'];exact b7W hget
 . have hall:(List.range r.length).all (a0M c r)=true:=by
    rw[n7];intro j hj;exact hpos j (by have:=a5F.1 hj;omega)
   rw[y6 (by omega)] at hget;rw[hall,W9];have hx:=hdg.2.1;simp only[inR,f0,j0] at hx;repeat'((first|(intro hlq;try simp only[SL] at hlq)|((refine Kh (λhb=>?_) λhb=>?_)<;>try simp only[BL] at hb)|refine K8 ?_)<;>refine Kw ?_)
   . refine ⟨⟨⟨_,rfl⟩,hkey⟩,_,hget _,?_⟩;refine Kw ?_;repeat'((first|(intro hlq;try simp only[SL] at hlq)|((refine Kh (λhb=>?_) λhb=>?_)<;>try simp only[BL] at hb)|refine K8 ?_)<;>refine Kw ?_)
     . refine⟨d6 bD ?_⟩;rw[a6b,D5 (by omega),D5 (by omega:¬r.count d.extra>0)];rfl
     . have hlt:d.extra.toNat<c.mats.length:=by omega
       refine⟨_,⟨by omega,b2F Mat.cells hlt,rfl⟩,?_⟩;refine Kw ?_;rw[show c.mats[d.extra.toNat].kind=c.kind d.extra from b2X (by omega) hlt];repeat'((first|(intro hlq;try simp only[SL] at hlq)|((refine Kh (λhb=>?_) λhb=>?_)<;>try simp only[BL] at hb)|refine K8 ?_)<;>refine Kw ?_)
       . refine⟨d6 bD ?_⟩;rw[a6b,D5 (by omega),D5 (by omega:¬c.kind d.extra=2)];simp
       . refine ⟨⟨⟨[_,_],rfl,rfl⟩,b8v c⟩,_,b8t c _ _,?_⟩;refine Kw ?_;repeat'((first|(intro hlq;try simp only[SL] at hlq)|((refine Kh (λhb=>?_) λhb=>?_)<;>try simp only[BL] at hb)|refine K8 ?_)<;>refine Kw ?_)
         . refine⟨d6 bD ?_⟩;have hl:c.leg d.extra d.extra=false:=by assumption
           rw[a6b,D5 (by omega),hl];simp
         . have hl:c.leg d.extra d.extra=true:=by assumption
           refine Meets.k (b1N d.cutoffs 119 [] [.ptr [.mp lm] 0] (a5V r) λx _=>b6N x r lm hget hkey) ?_;refine Kw ?_;refine⟨d6 bD ?_⟩;rw[a6b,hl,r9 (by omega:r.count d.extra>0),r9 (by omega:c.kind d.extra=2)];simp
   . refine Meets.k (b1N d.cutoffs 119 [] [.ptr [.mp lm] 0] (a5V r) λx _=>b6N x r lm hget hkey) ?_;refine Kw ?_;refine⟨d6 bD ?_⟩;rw[a6b,r9 (by omega:d.extra= -1)];simp
end Go.Proofs.YteillnfhkeebjaaGreatDoor.Dx
