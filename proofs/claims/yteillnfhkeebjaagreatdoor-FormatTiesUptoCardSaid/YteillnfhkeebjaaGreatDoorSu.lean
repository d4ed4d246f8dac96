/- Expanded routes,in the code and in the reference. -/
import Derived.Test.YteillnfhkeebjaaGreatDoorSt
set_option linter.all false
namespace Go.Proofs.YteillnfhkeebjaaGreatDoor.Dx
open Go Go.RowKit
set_option maxRecDepth 100000
set_option maxHeartbeats 16000000
def C3 (lap:List Int):Nat->List Int->List Int
 |0,acc=>acc
 |n+1,acc=>if acc.length>256 then acc else C3 lap n (acc++lap)
mutual
def Part.ex:Part->List Int->List Int
 |⟨m,l,ps⟩,acc=>if l>0 then C3 (Part.exL ps []) l.toNat acc else C3 [m] 1 acc
def Part.exL:List Part->List Int->List Int
 |[],acc=>acc
 |p::ps,acc=>Part.exL ps (Part.ex p acc)
end
theorem Part.ex_eq (p:Part)(acc:List Int):p.ex acc=if p.laps>0 then C3 (Part.exL p.parts []) p.laps.toNat acc else C3 [p.mat] 1 acc:=by
 obtain⟨m,l,ps⟩:=p;simp only[Part.ex]
theorem a6k (lap:List Int){acc:List Int}(h:acc.length>256):∀n,C3 lap n acc=acc
 |0=>rfl
 |n+1=>by rw[C3,if_pos h]
theorem a6n {acc:List Int}(h:acc.length>256):∀l,Part.exL l acc=acc
 |[]=>rfl
 | p::l=>by
   have e:p.ex acc=acc:=by rw[Part.ex_eq];split<;>exact a6k _ h _
   rw[Part.exL,e,a6n h l]
theorem a6l {lap:List Int}{K:Nat}(hl:256+lap.length<=K):∀n (acc:List Int),acc.length<=K->(C3 lap n acc).length<=K
 |0,acc,h=>h
 | n+1,acc,h=>by
   rw[C3]
   split
   . exact h
   . exact a6l hl n _ (by rw[List.length_append];omega)
mutual
theorem b1x:∀p:Part,(Part.exL p.parts []).length<=256*p.deep+1
 | ⟨m,l,ps⟩=>by
   have h:=exL_len ps [] (256*(Part.deepL ps+1)+1) (by omega) (by simp)
   cases ps with
   |nil=>simp[Part.exL]
   |cons q qs=>rw[show(⟨m,l,q::qs⟩:Part).deep=1+Part.deepL (q::qs) from rfl];simp only at h⊢;omega
theorem exL_len:∀(l:List Part) (acc:List Int) (K:Nat),256*(Part.deepL l+1)+1<=K->acc.length<=K->(Part.exL l acc).length<=K
 |[],acc,K,_,h=>h
 | p::l,acc,K,hK,h=>by
   rw[Part.deepL] at hK
   rw[Part.exL]
   refine exL_len l _ K (by omega) ?_
   rw[Part.ex_eq]
   have hp:=b1x p
   split
   . exact a6l (by omega) _ _ h
   . exact a6l (by simp;omega) _ _ h
end
theorem b7P {l:List Part}{i:Nat}(h:i<l.length)(acc:List Int):Part.exL (l.drop i) acc=Part.exL (l.drop (i+1)) (l[i].ex acc):=by
 rw[List.drop_eq_getElem_cons h,Part.exL]
theorem b1a {m:Int}{p:Part}(h:p.good m=true):∀x∈p.parts,x.good m=true:=by
 rw[Part.good_eq] at h
 split at h
 . simp only[Bool.and_eq_true,decide_eq_true_eq] at h
   have:p.parts=[]:=List.eq_nil_of_length_eq_zero (by omega)
   rw[this];simp
 . simp only[Bool.and_eq_true,List.all_eq_true] at h
   exact h.2.2.2
theorem b0Z {m:Int}{p:Part}(h:p.good m=true):0<=p.laps/\p.laps<=64:=by
 rw[Part.good_eq] at h
 split at h
 . omega
 . simp only[Bool.and_eq_true,inR,decide_eq_true_eq] at h
   omega
theorem b0H (m:Int)(l:List Part)(hg:∀p∈l,p.good m=true)(hl:Part.cntL l<=1048576):Meets Tryz.prog 118 [.sl (l.map Part.cells)] λr=>r= .sl ((Part.exL l []).map r7):=by
 have hlen:=Part.len_cnt l
 have hdl:=Part.deepL_le l
 obtain⟨K,hK⟩:∃K,K=256*(Part.deepL l+1)+1:=⟨_,rfl⟩
 refine enter tok {} Tryz.func118 rfl (by kernel_rfl) Tryz.ntmps118 (by simp) λB0 W0 V0 lent g0=>?_
 refine Kw ?_
 repeat'((first|(intro hlq;try simp only[SL] at hlq)|refine K8 ?_)<;>refine Kw ?_)
 refine d4 tok {} [(.inl 2,2,3,1)] (X:=Nat×List Int) (λx=>[(8,iB x.1),(2, .own 2)]) (λx=>[(2, .sl ⟨3,1,x.2.map r7,true⟩)]) [4] (λx=>x.1<=l.length/\Part.exL (l.drop x.1) x.2=Part.exL l []/\x.2.length<=K) (λx=>l.length-x.1) (0,[]) ?_
 refine Kw ?_
 refine⟨by simp,?_⟩
 refine Kw ?_
 refine And.intro ?_ ⟨⟨by omega,by simp,by simp⟩,λx hΦ=>?_⟩
 . exact Kr
 obtain⟨i,acc⟩:=x
 obtain⟨hi,heq,hal⟩:=hΦ
 dsimp only at hi heq hal
 refine Kw ?_
 refine⟨λh1=>?_,λh1=>?_⟩<;>(try simp only[BL] at h1)<;>refine Kw ?_
 . have h1':i<l.length:=by omega
   have hp:=l[i].ex_eq acc
   have hgi:=hg _ (List.getElem_mem h1')
   have hlp:=b0Z hgi
   have hlap:=b1x l[i]
   have hdm:=Part.deep_mem (List.getElem_mem h1')
   have hc:=Part.cnt_part h1'
   rw[b7P h1'] at heq
   repeat'((first|(intro hlq;try simp only[SL] at hlq)|refine Ka ?_|refine Kb ?_|refine Kc (hd:=rfl) (e:=?_)|refine Kc (hd:=Part.cells_eq _) (e:=?_)|refine Kd (e:=?_)|refine Kl rfl ?_|fail)<;>refine Kw ?_)
   refine⟨λh2=>?_,λh2=>?_⟩<;>(try simp only[BL] at h2)<;>refine Kw ?_
   . refine Meets.k (b0H m l[i].parts (b1a hgi) (by(try dsimp only at *);omega)) ?_
     have h2':l[i].laps>0:=h2
     rw[if_pos h2'] at hp
     refine Kw ?_
     repeat'((first|(intro hlq;try simp only[SL] at hlq)|refine K8 ?_)<;>refine Kw ?_)
     refine d4 tok {} [] (X:=Nat×List Int) (λx=>[(24,iB x.1),(2, .own 2)]) (λx=>[(2, .sl ⟨3,1,x.2.map r7,true⟩)]) [] (λx=>x.1<=l[i].laps.toNat/\C3 (Part.exL l[i].parts []) (l[i].laps.toNat-x.1) x.2=l[i].ex acc/\x.2.length<=K) (λx=>l[i].laps.toNat-x.1) (0,acc) ?_
     refine Kw ?_
     refine And.intro ?_ ⟨⟨by dsimp only;omega,hp.symm,hal⟩,λy hΨ=>?_⟩
     . exact Kr
     obtain⟨k,acc2⟩:=y
     obtain⟨hk,he2,hl2⟩:=hΨ
     dsimp only at hk he2 hl2
     refine Kw ?_
     refine⟨λh3=>?_,λh3=>?_⟩<;>(try simp only[BL] at h3)<;>refine Kw ?_
     . repeat' ((first|(intro hlq;try simp only[SL] at hlq)|refine K8 ?_)<;>refine Kw ?_)
       refine⟨λh4=>?_,λh4=>?_⟩<;>(try simp only[BL] at h4)<;>refine Kw ?_
       . refine⟨congrArg (λz:List Int=>D.sl (z.map r7)) ?_⟩
         have hf:acc2.length>256:=by(try simp only[List.length_map] at h4);omega
         rw[a6k _ hf] at he2
         rw[<-heq,<-he2,a6n hf]
       . have hf:¬acc2.length>256:=by(try simp only[List.length_map] at h4);omega
         repeat'((first|(intro hlq;try simp only[SL] at hlq)|refine K8 ?_)<;>refine Kw ?_)
         refine⟨by simp,?_⟩
         refine Kw ?_
         refine⟨λ_ _=>by simp;omega,?_⟩
         refine Kw ?_
         repeat'((first|(intro hlq;try simp only[SL] at hlq)|refine K8 ?_)<;>refine Kw ?_)
         have hs:l[i].laps.toNat-k=(l[i].laps.toNat-(k+1))+1:=by(try dsimp only at *);omega
         rw[hs,C3,if_neg hf] at he2
         refine⟨⟨(k+1,acc2++(Part.exL l[i].parts [])),?_,⟨by(try dsimp only at *);omega,he2,by dsimp only;rw[List.length_append];omega⟩,by(try dsimp only at *);omega⟩⟩
         repeat'(first|exact True.intro|exact rfl|refine And.intro ?_ ?_)
         all_goals (first|(dsimp only;rw[List.map_append];done)|(dsimp only;rw[List.map_append];rfl))
     . repeat'((first|(intro hlq;try simp only[SL] at hlq)|refine K8 ?_)<;>refine Kw ?_)
       have hs:l[i].laps.toNat-k=0:=by(try dsimp only at *);omega
       rw[hs,C3] at he2
       refine⟨⟨(i+1,acc2),?_,⟨by(try dsimp only at *);omega,by dsimp only;rw[he2,heq],hl2⟩,by(try dsimp only at *);omega⟩⟩
       repeat'(first|exact True.intro|exact rfl|refine And.intro ?_ ?_)
   . skip
     have h2':¬l[i].laps>0:=h2
     rw[if_neg h2'] at hp
     repeat'((first|(intro hlq;try simp only[SL] at hlq)|refine K8 ?_)<;>refine Kw ?_)
     refine d4 tok {} [] (X:=Nat×List Int) (λx=>[(24,iB x.1),(2, .own 2)]) (λx=>[(2, .sl ⟨3,1,x.2.map r7,true⟩)]) [] (λx=>x.1<=1/\C3 [l[i].mat] (1-x.1) x.2=l[i].ex acc/\x.2.length<=K) (λx=>1-x.1) (0,acc) ?_
     refine Kw ?_
     refine And.intro ?_ ⟨⟨by dsimp only;omega,hp.symm,hal⟩,λy hΨ=>?_⟩
     . exact Kr
     obtain⟨k,acc2⟩:=y
     obtain⟨hk,he2,hl2⟩:=hΨ
     dsimp only at hk he2 hl2
     refine Kw ?_
     refine⟨λh3=>?_,λh3=>?_⟩<;>(try simp only[BL] at h3)<;>refine Kw ?_
     . repeat' ((first|(intro hlq;try simp only[SL] at hlq)|refine K8 ?_)<;>refine Kw ?_)
       refine⟨λh4=>?_,λh4=>?_⟩<;>(try simp only[BL] at h4)<;>refine Kw ?_
       . refine⟨congrArg (λz:List Int=>D.sl (z.map r7)) ?_⟩
         have hf:acc2.length>256:=by(try simp only[List.length_map] at h4);omega
         rw[a6k _ hf] at he2
         rw[<-heq,<-he2,a6n hf]
       . have hf:¬acc2.length>256:=by(try simp only[List.length_map] at h4);omega
         repeat'((first|(intro hlq;try simp only[SL] at hlq)|refine K8 ?_)<;>refine Kw ?_)
         refine⟨by simp,?_⟩
         refine Kw ?_
         refine⟨λ_ _=>by simp;omega,?_⟩
         refine Kw ?_
         repeat'((first|(intro hlq;try simp only[SL] at hlq)|refine K8 ?_)<;>refine Kw ?_)
         have hs:1-k=(1-(k+1))+1:=by(try dsimp only at *);omega
         rw[hs,C3,if_neg hf] at he2
         refine⟨⟨(k+1,acc2++[l[i].mat]),?_,⟨by(try dsimp only at *);omega,he2,by dsimp only;rw[List.length_append];simp only[List.length_singleton];omega⟩,by(try dsimp only at *);omega⟩⟩
         repeat'(first|exact True.intro|exact rfl|refine And.intro ?_ ?_)
         all_goals (first|(dsimp only;rw[List.map_append];done)|(dsimp only;rw[List.map_append];rfl))
     . repeat'((first|(intro hlq;try simp only[SL] at hlq)|refine K8 ?_)<;>refine Kw ?_)
       have hs:1-k=0:=by(try dsimp only at *);omega
       rw[hs,C3] at he2
       refine⟨⟨(i+1,acc2),?_,⟨by(try dsimp only at *);omega,by dsimp only;rw[he2,heq],hl2⟩,by(try dsimp only at *);omega⟩⟩
       repeat'(first|exact True.intro|exact rfl|refine And.intro ?_ ?_)
 . refine⟨congrArg (λz:List Int=>D.sl (z.map r7)) ?_⟩
   rw[List.drop_eq_nil_of_le (by omega),Part.exL] at heq
   exact heq
termination_by Part.cntL l
decreasing_by all_goals omega
end Go.Proofs.YteillnfhkeebjaaGreatDoor.Dx
/- Is a route possible? In the code. -/
namespace Go.Proofs.YteillnfhkeebjaaGreatDoor.Dx
open Go Go.RowKit
set_option maxRecDepth 100000
set_option maxHeartbeats 16000000
theorem b1T (l:List (D×D))(k v x:D):p6 (q9 l k v) x=(open Classical in if k=x then some v else p6 l x):=by
 induction l with
 |nil=>simp[q9,p6]
 | cons p l ih=>
   simp only[q9]
   by_cases e:p.1=k
   . rw[if_pos e]
     simp only[p6]
     by_cases h:k=x
     . simp[h]
     . rw[if_neg h,if_neg h,if_neg (by rw[e];exact h)]
   . rw[if_neg e]
     simp only[p6,ih]
     by_cases h:p.1=x
     . rw[if_pos h,if_pos h,if_neg (by rw[<-h];exact λh2=>e h2.symm)]
     . rw[if_neg h,if_neg h]
theorem b9n:∀n,∀ks:List D,ks.length=n->∀k:D,((p6 (w5 ks) k).getD (bD false)=bD true↔k∈ks)/\((p6 (w5 ks) k).getD (bD false)=bD false↔k∉ks):=by
 intro n
 induction n with
 | zero=>
   intro ks h k
   obtain rfl:=List.eq_nil_of_length_eq_zero h
   simp[w5,p6]
 | succ n ih=>
   intro ks h k
   obtain⟨l,q,rfl⟩:∃l q,ks=l++[q]:=by
    have hne:ks≠[]:=by rintro rfl;simp at h
    exact⟨_,_,(List.dropLast_concat_getLast hne).symm⟩
   have hi:=ih l (by simpa using h) k
   rw[a2c,b1T]
   by_cases e:q=k
   . subst e;simp
   . rw[if_neg e,hi.1,hi.2]
     simp[Ne.symm e]
def Course.kind (c:Course)(m:Int):Int:=match c.mats[m.toNat]? with|some x=>x.kind|none=>0
def Course.leg (c:Course)(a b:Int):Bool:=decide ((a,b)∈c.legs.map λl=>(l.src,l.dst))
noncomputable def Course.legMap (c:Course):List (D×D):=w5 (c.legs.map Leg.key)
theorem b1z (c:Course)(a b:Int):(p6 c.legMap (.agg [iD a,iD b])).getD (bD false)=bD (c.leg a b):=by
 obtain⟨h1,h2⟩:=b9n _ (c.legs.map Leg.key) rfl (.agg [iD a,iD b])
 have e:(D.agg [iD a,iD b]∈c.legs.map Leg.key)↔((a,b)∈c.legs.map λl=>(l.src,l.dst)):=by simp[Leg.key]
 rw[Course.legMap,Course.leg]
 by_cases h:(a,b)∈c.legs.map λl=>(l.src,l.dst)
 . rw[decide_eq_true h];exact h1.2 (e.2 h)
 . rw[decide_eq_false h];exact h2.2 λhh=>h (e.1 hh)
theorem b1A (c:Course):∀p∈c.legMap,D4 2 p.1:=a3Y λk hk=>by
 obtain⟨x,_,rfl⟩:=List.mem_map.1 hk
 exact⟨[x.src,x.dst],rfl,rfl⟩
theorem a6M {c:Course}{m:Int}(h0:0<=m)(h:m.toNat<c.mats.length):c.mats[m.toNat].kind=c.kind m:=by
 rw[Course.kind,List.getElem?_eq_getElem h]
def I4 (c:Course)(r:List Int)(i:Nat):Bool:=decide (c.kind (r.getD i 0)=if i=0 then 1 else if i+1=r.length then 3 else 2)&&(decide (i=0)||c.leg (r.getD (i-1) 0) (r.getD i 0))
def a0C (c:Course)(r:List Int)(x:Int):Bool:=decide (x= -1)||(decide (r.count x>0)&&(decide (c.kind x=2)&&c.leg x x))
def a1L (r:List Int)(x:Cutoff):Bool:=decide ((r.count x.mat:Int)≥x.lap)
def U4 (c:Course)(d:Distance):Bool:=
 (decide ((Part.exL d.route []).length≥2)&&decide ((Part.exL d.route []).length<=256))&&((List.range (Part.exL d.route []).length).all (I4 c (Part.exL d.route []))&&(a0C c (Part.exL d.route []) d.extra&&d.cutoffs.all (a1L (Part.exL d.route []))))
theorem a6m {lap:List Int}{p:Int->Prop}(hl:∀x∈lap,p x):∀n (acc:List Int),(∀x∈acc,p x)->∀x∈C3 lap n acc,p x
 |0,acc,h=>h
 | n +1,acc,h=>by
   rw[C3]
   split
   . exact h
   . refine a6m hl n _ λx hx=>?_
     rcases List.mem_append.1 hx with hx|hx
     . exact h x hx
     . exact hl x hx
mutual
theorem b7Q (m:Int):∀(p:Part) (acc:List Int),p.good m=true->(∀x∈acc,0<=x/\x<=m)->∀x∈p.ex acc,0<=x/\x<=m
 | ⟨mt,l,ps⟩,acc,hg,h=>by
   rw[Part.ex_eq]
   have hp:=b1a hg
   have hl:=b0Z hg
   simp only at hp hl⊢
   split
   . exact a6m (exL_mem m ps [] hp (by simp)) _ _ h
   . refine a6m ?_ _ _ h
     rw[Part.good_eq] at hg
     simp only at hg
     rw[if_pos (by omega)] at hg
     simp only[inR,Bool.and_eq_true,decide_eq_true_eq] at hg
     simp
     omega
theorem exL_mem (m:Int):∀(l:List Part) (acc:List Int),(∀p∈l,p.good m=true)->(∀x∈acc,0<=x/\x<=m)->∀x∈Part.exL l acc,0<=x/\x<=m
 |[],acc,_,h=>h
 | p::l,acc,hg,h=>by
   rw[Part.exL]
   exact exL_mem m l _ (λq hq=>hg q (List.mem_cons_of_mem _ hq)) (b7Q m p acc (hg p (List.mem_cons_self ..)) h)
end
theorem a9Z (x:Cutoff)(r:List Int)(lm:List (D×D))(hm:∀n:Int,(p6 lm (iD n)).getD (iD 0)=iD (r.count n))(hk:∀p∈lm,y6 .i64 p.1):Meets Tryz.prog 119 [x.d, .ptr [.mp lm] 0] λd=>d=bD (a1L r x):=by
 refine enter tok {} Tryz.func119 rfl (by kernel_rfl) Tryz.ntmps119 (by simp) λB0 W0 V0 lent g0=>?_
 refine Kw ?_
 refine⟨⟨⟨_,rfl⟩,hk⟩,_,hm _,?_⟩
 refine Kw ?_
 exact⟨rfl⟩
theorem a6t {α:Type}{xs:List α}(f:α->List D){n:Nat}(h:n<xs.length):(xs.map f)[n]?=some (f xs[n]):=by
 rw[List.getElem?_map,List.getElem?_eq_getElem h];rfl
theorem c1b {c:Course}{r:List Int}{i:Nat}(hi:i<r.length)(h2:2<=r.length)(hk:1<=c.kind r[i]/\c.kind r[i]<=3):
 I4 c r i=true↔(c.kind r[i]=1↔i=0)/\(c.kind r[i]=3↔i+1=r.length)/\(i=0\/c.leg (r.getD (i-1) 0) r[i]=true):=by
 have e:r.getD i 0=r[i]:=by simp[List.getD,List.getElem?_eq_getElem hi]
 rw[I4,e]
 simp only[Bool.and_eq_true,Bool.or_eq_true,decide_eq_true_eq]
 generalize c.leg (r.getD (i-1) 0) r[i]=b
 generalize c.kind r[i]=k at *
 by_cases h0:i=0
 . subst h0;simp;omega
 . by_cases h1:i+1=r.length
   . simp[h0,h1];omega
   . cases b<;>simp[h0,h1];omega
theorem a7j {c:Course}{r:List Int}{i:Nat}(h:I4 c r i=false)(hi:i<r.length):(List.range r.length).all (I4 c r)=false:=by
 rw[List.all_eq_false]
 exact⟨i,List.mem_range.2 hi,by rw[h];simp⟩
theorem b8r {r:List Int}{i:Nat}(h:0<i)(h1:i<r.length):r.getD (i-1) 0=r[((i:Int)-1).toNat]'(by omega):=by
 simp only[show((i:Int)-1).toNat=i-1 from by omega]
 simp[List.getD,List.getElem?_eq_getElem (show i-1<r.length by omega)]
theorem b1e {lm:List (D×D)}{t:List Int}{x:Int}(hget:∀n:Int,(p6 lm (iD n)).getD (iD 0)=iD (t.count n)):∀n:Int,(p6 (q9 lm (iD x) (iD ((t.count x:Int)+1))) (iD n)).getD (iD 0)=iD ((t++[x]).count n):=by
 intro n
 rw[b1T,List.count_append]
 by_cases e:x=n
 . subst e;simp
 . rw[if_neg (by simpa using e),hget n]
   simp[List.count_singleton,e]
theorem b1d {lm:List (D×D)}{x:Int}{v:D}(h:∀p∈lm,y6 .i64 p.1):∀p∈q9 lm (iD x) v,y6 .i64 p.1:=by
 intro p hp
 rcases((b1Y (l:=lm) (k:=iD x) (v:=v)).2 p.1).1 (List.mem_map.2 ⟨p,hp,rfl⟩) with h1|h1
 . obtain⟨q,hq,e⟩:=List.mem_map.1 h1
   rw[<-e];exact h q hq
 . exact⟨x,h1⟩
theorem b8Z (c:Course)(d:Distance)(hc:c.small)(hn:NumsOk c)(hd:d∈c.distances):Meets Tryz.prog 45 [c.d,d.d, .mp c.legMap] λr=>r=bD (U4 c d):=by
 have hmats:=hc.mats
 have hdg:=hn.distances d hd
 simp only[Distance.good,Bool.and_eq_true,List.all_eq_true] at hdg
 have hmem:=exL_mem c.m d.route [] hdg.2.2.1 (by simp)
 have hlen:=exL_len d.route [] _ (Nat.le_refl _) (by simp)
 have hdl:=Part.deepL_le d.route
 have hct:=hc.route d hd
 have hm1:c.m=c.mats.length-1:=by simp[Course.m]
 have hkd:∀x:Int,0<=x->x<=c.m->1<=c.kind x/\c.kind x<=3:=by
  intro x h0 h1
  have hlt:x.toNat<c.mats.length:=by omega
  have:=hn.mats _ (List.getElem_mem hlt)
  rw[<-a6M h0 hlt]
  simpa[Mat.good,inR] using this
 refine enter tok {} Tryz.func45 rfl (by kernel_rfl) Tryz.ntmps45 (by simp) λB0 W0 V0 lent g0=>?_
 refine Kw ?_
 refine Meets.k (b0H c.m d.route hdg.2.2.1 hct) ?_
 rw[U4]
 generalize Part.exL d.route []=r at *
 refine Kw ?_
 repeat'((first|(intro hlq;try simp only[SL] at hlq)|((refine Kh (λhb=>?_) λhb=>?_)<;>try simp only[BL] at hb)|refine K8 ?_)<;>refine Kw ?_)
 . refine⟨congrArg bD ?_⟩
   rw[decide_eq_false (by omega:¬r.length≥2)];rfl
 . refine⟨congrArg bD ?_⟩
   rw[decide_eq_false (by omega:¬r.length<=256),Bool.and_false];rfl
 rw[decide_eq_true (by omega:r.length≥2),decide_eq_true (by omega:r.length<=256),Bool.true_and,Bool.true_and]
 refine d4 tok {} [] (X:=Nat×List (D×D)) (λx=>[(29,iB x.1)]) (λx=>[(26, .mp x.2)]) [] (λx=>x.1<=r.length/\(∀j,j<x.1->I4 c r j=true)/\(∀n:Int,(p6 x.2 (iD n)).getD (iD 0)=iD ((r.take x.1).count n))/\∀p∈x.2,y6 .i64 p.1) (λx=>r.length-x.1) (0,[]) ?_
 refine Kw ?_
 refine And.intro ?_ ⟨⟨by omega,λj hj=>by omega,λn=>by simp[p6],by simp⟩,λx hΦ=>?_⟩
 . exact Kr
 obtain⟨i,lm⟩:=x
 obtain⟨hi,hpos,hget,hkey⟩:=hΦ
 dsimp only at hi hpos hget hkey
 refine Kw ?_
 refine⟨λh1=>?_,λh1=>?_⟩<;>(try simp only[BL] at h1)<;>refine Kw ?_
 . have h1':i<r.length:=by omega
   have hr:=hmem _ (List.getElem_mem h1')
   have hlt:r[i].toNat<c.mats.length:=by omega
   have hki:=hkd _ hr.1 hr.2
   have hiff:=c1b h1' (by omega) hki
   repeat'((first|(intro hlq;try simp only[SL] at hlq)|refine K8 ?_)<;>refine Kw ?_)
   refine⟨_,⟨hr.1,a6t Mat.cells hlt,rfl⟩,?_⟩
   refine Kw ?_
   rw[show c.mats[r[(i,lm).fst].toNat].kind=c.kind r[i] from a6M hr.1 hlt]
   repeat'((first|(intro hlq;try simp only[SL] at hlq)|((refine Kh (λhb=>?_) λhb=>?_)<;>try simp only[BL] at hb)|refine K8 ?_)<;>refine Kw ?_)
   . have hf:I4 c r i=false:=by
      rw[ne_eq,decide_eq_decide] at hb
      rw[Bool.eq_false_iff,ne_eq,hiff]
      omega
     refine⟨congrArg bD ?_⟩
     rw[a7j hf h1'];rfl
   . have hf:I4 c r i=false:=by
      rw[ne_eq,decide_eq_decide] at hb
      rw[Bool.eq_false_iff,ne_eq,hiff]
      omega
     refine⟨congrArg bD ?_⟩
     rw[a7j hf h1'];rfl
   . (try dsimp only at hb)
     have hpr:=b8r (by omega:0<i) h1'
     refine⟨_,⟨by dsimp only;omega,a6t r7 (by dsimp only;omega),rfl⟩,?_⟩
     refine Kw ?_
     refine⟨⟨⟨[_,_],rfl,rfl⟩,b1A c⟩,_,b1z c _ _,?_⟩
     refine Kw ?_
     refine⟨λh5=>?_,λh5=>?_⟩<;>(try simp only[BL] at h5)<;>refine Kw ?_
     . have hf:I4 c r i=false:=by
        rw[Bool.eq_false_iff,ne_eq,hiff,hpr,h5]
        (try dsimp only at hb)
        simp
        omega
       refine⟨congrArg bD ?_⟩
       rw[a7j hf h1'];rfl
     . have hok:I4 c r i=true:=by
        rw[hiff,hpr]
        simp only[ne_eq,decide_eq_decide,Decidable.not_not] at *
        exact⟨by omega,by omega, .inr h5⟩
       refine⟨⟨⟨_,rfl⟩,hkey⟩,_,hget _,?_⟩
       refine Kw ?_
       have hcnt:List.count r[i] (r.take i)<=i:=by have:=List.count_le_length (a:=r[i]) (l:=r.take i);rw[List.length_take] at this;omega
       repeat'((first|(intro hlq;try simp only[SL] at hlq)|refine K8 ?_)<;>refine Kw ?_)
       refine⟨⟨⟨_,rfl⟩,hkey⟩,?_⟩
       refine Kw ?_
       repeat'((first|(intro hlq;try simp only[SL] at hlq)|refine K8 ?_)<;>refine Kw ?_)
       refine⟨⟨(i+1,q9 lm (iD r[i]) (iD ((List.count r[i] (r.take i):Int)+1))),?_,⟨by(try dsimp only at *);omega,λj hj=>?_,?_,b1d hkey⟩,by(try dsimp only at *);omega⟩⟩
       . exact Kr
       . rcases Nat.lt_or_ge j i with h|h
         . exact hpos j h
         . obtain rfl:j=i:=by(try dsimp only at hj);omega
           exact hok
       . dsimp only
         rw[List.take_succ_eq_append_getElem h1']
         exact b1e hget
   . have hok:I4 c r i=true:=by
      rw[hiff]
      simp only[ne_eq,decide_eq_decide,Decidable.not_not] at *
      exact⟨by omega,by omega, .inl (by omega)⟩
     refine⟨⟨⟨_,rfl⟩,hkey⟩,_,hget _,?_⟩
     refine Kw ?_
     have hcnt:List.count r[i] (r.take i)<=i:=by have:=List.count_le_length (a:=r[i]) (l:=r.take i);rw[List.length_take] at this;omega
     repeat'((first|(intro hlq;try simp only[SL] at hlq)|refine K8 ?_)<;>refine Kw ?_)
     refine⟨⟨⟨_,rfl⟩,hkey⟩,?_⟩
     refine Kw ?_
     repeat'((first|(intro hlq;try simp only[SL] at hlq)|refine K8 ?_)<;>refine Kw ?_)
     refine⟨⟨(i+1,q9 lm (iD r[i]) (iD ((List.count r[i] (r.take i):Int)+1))),?_,⟨by(try dsimp only at *);omega,λj hj=>?_,?_,b1d hkey⟩,by(try dsimp only at *);omega⟩⟩
     . exact Kr
     . rcases Nat.lt_or_ge j i with h|h
       . exact hpos j h
       . obtain rfl:j=i:=by(try dsimp only at hj);omega
         exact hok
     . dsimp only
       rw[List.take_succ_eq_append_getElem h1']
       exact b1e hget
 . have hall:(List.range r.length).all (I4 c r)=true:=by
    rw[List.all_eq_true]
    intro j hj
    exact hpos j (by have:=List.mem_range.1 hj;omega)
   rw[List.take_of_length_le (by omega)] at hget
   rw[hall,Bool.true_and]
   have hx:=hdg.2.1
   simp only[inR,Bool.and_eq_true,decide_eq_true_eq] at hx
   repeat'((first|(intro hlq;try simp only[SL] at hlq)|((refine Kh (λhb=>?_) λhb=>?_)<;>try simp only[BL] at hb)|refine K8 ?_)<;>refine Kw ?_)
   . refine ⟨⟨⟨_,rfl⟩,hkey⟩,_,hget _,?_⟩
     refine Kw ?_
     repeat'((first|(intro hlq;try simp only[SL] at hlq)|((refine Kh (λhb=>?_) λhb=>?_)<;>try simp only[BL] at hb)|refine K8 ?_)<;>refine Kw ?_)
     . refine⟨congrArg bD ?_⟩
       rw[a0C,decide_eq_false (by omega),decide_eq_false (by omega:¬r.count d.extra>0)];rfl
     . have hlt:d.extra.toNat<c.mats.length:=by omega
       refine⟨_,⟨by omega,a6t Mat.cells hlt,rfl⟩,?_⟩
       refine Kw ?_
       rw[show c.mats[d.extra.toNat].kind=c.kind d.extra from a6M (by omega) hlt]
       repeat'((first|(intro hlq;try simp only[SL] at hlq)|((refine Kh (λhb=>?_) λhb=>?_)<;>try simp only[BL] at hb)|refine K8 ?_)<;>refine Kw ?_)
       . refine⟨congrArg bD ?_⟩
         rw[a0C,decide_eq_false (by omega),decide_eq_false (by omega:¬c.kind d.extra=2)];simp
       . refine ⟨⟨⟨[_,_],rfl,rfl⟩,b1A c⟩,_,b1z c _ _,?_⟩
         refine Kw ?_
         repeat'((first|(intro hlq;try simp only[SL] at hlq)|((refine Kh (λhb=>?_) λhb=>?_)<;>try simp only[BL] at hb)|refine K8 ?_)<;>refine Kw ?_)
         . refine⟨congrArg bD ?_⟩
           have hl:c.leg d.extra d.extra=false:=by assumption
           rw[a0C,decide_eq_false (by omega),hl];simp
         . have hl:c.leg d.extra d.extra=true:=by assumption
           refine Meets.k (a5w d.cutoffs 119 [] [.ptr [.mp lm] 0] (a1L r) λx _=>a9Z x r lm hget hkey) ?_
           refine Kw ?_
           refine⟨congrArg bD ?_⟩
           rw[a0C,hl,decide_eq_true (by omega:r.count d.extra>0),decide_eq_true (by omega:c.kind d.extra=2)];simp
   . refine Meets.k (a5w d.cutoffs 119 [] [.ptr [.mp lm] 0] (a1L r) λx _=>a9Z x r lm hget hkey) ?_
     refine Kw ?_
     refine⟨congrArg bD ?_⟩
     rw[a0C,decide_eq_true (by omega:d.extra= -1)];simp
end Go.Proofs.YteillnfhkeebjaaGreatDoor.Dx
