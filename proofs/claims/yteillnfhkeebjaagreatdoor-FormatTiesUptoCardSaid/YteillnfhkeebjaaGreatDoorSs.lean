/- Names of a course,in the reference. -/
import Derived.Test.YteillnfhkeebjaaGreatDoorSr
import Derived.Test.YteillnfhkeebjaaGreatDoorSj
set_option linter.all false
namespace Go.Proofs.YteillnfhkeebjaaGreatDoor.Dx
open Go Go.RowKit
set_option maxRecDepth 100000
set_option maxHeartbeats 8000000
end Go.Proofs.YteillnfhkeebjaaGreatDoor.Dx
/- Numbers of a course: what is asked of elements. -/
namespace Go.Proofs.YteillnfhkeebjaaGreatDoor.Dx
open Go Go.RowKit
set_option maxRecDepth 100000
set_option maxHeartbeats 8000000
mutual
def Part.good (m:Int):Part->Bool
 |⟨mt,l,ps⟩=>if l=0 then inR 0 m mt&&decide ((ps.length:Int)=0) else inR 1 64 l&&(decide (mt=0)&&(decide ((ps.length:Int)>0)&&Part.goodL m ps))
def Part.goodL (m:Int):List Part->Bool
 |[]=>true
 |p::ps=>p.good m&&Part.goodL m ps
end
theorem Part.goodL_eq (m:Int):∀l:List Part,Part.goodL m l=l.all (Part.good m)
 |[]=>rfl
 |p::l=>by rw[Part.goodL,Part.goodL_eq m l,List.all_cons]
theorem Part.good_eq (m:Int)(p:Part):p.good m=if p.laps=0 then inR 0 m p.mat&&decide ((p.parts.length:Int)=0) else inR 1 64 p.laps&&(decide (p.mat=0)&&(decide ((p.parts.length:Int)>0)&&p.parts.all (Part.good m))):=by
 obtain⟨mt,l,ps⟩:=p;simp only[Part.good,Part.goodL_eq]
def Cutoff.good (m:Int)(x:Cutoff):Bool:=inR 0 m x.mat&&(decide (x.lap≥1)&&inR 0 1099511627776 x.limit)
def Distance.good (m:Int)(d:Distance):Bool:=inR 1 3 d.timing&&(inR (-1) m d.extra&&(d.route.all (Part.good m)&&d.cutoffs.all (Cutoff.good m)))
def Leg.good (m:Int)(l:Leg):Bool:=(inR 0 m l.src&&inR 0 m l.dst)&&((inR 0 68719476736 l.lo&&inR 0 68719476736 l.hi)&&decide (l.lo<=l.hi))
def Offence.good (o:Offence):Bool:=if o.out then decide (o.time=0)&&decide (o.laps=0) else if o.laps=0 then inR 0 68719476736 o.time else decide (o.time=0)&&inR 1 64 o.laps
def Prize.good (nd nc:Int)(p:Prize):Bool:=inR 0 nd p.distance&&(inR (-1) nc p.category&&(inR 1 4000 p.rank&&inR 1 1125899906842624 p.amount))
def Mat.good (m:Mat):Bool:=inR 1 3 m.kind
def Wave.good (w:Wave):Bool:=inR 0 1099511627776 w.gun
def Category.good (x:Category):Bool:=(inR 0 120 x.lo&&inR 0 120 x.hi)&&decide (x.lo<=x.hi)
abbrev mp1 (m:Int):D:= .ptr [iD m] 0
def pc (m:Int):List D->List D:=λx=>[.fn 94 [] [mp1 m, .ptr x 0]]
theorem b9X (x:Mat):Meets Tryz.prog 104 [x.d] λr=>r=bD x.good:=by
 refine enter tok {} Tryz.func104 rfl (by kernel_rfl) Tryz.ntmps104 (by simp) λB0 W0 V0 lent g0=>?_
 refine Kw ?_
 repeat'((first|(intro hlq;try simp only[SL] at hlq)|refine Meets.k (v6 1 3 [x.kind]) ?_|((refine Kh (λhb=>?_) λhb=>?_)<;>try simp only[BL] at hb)|refine K8 ?_)<;>refine Kw ?_)
 all_goals (refine⟨congrArg bD ?_⟩;simp_all [Mat.good])
theorem c4M (x:Wave):Meets Tryz.prog 109 [x.d] λr=>r=bD x.good:=by
 refine enter tok {} Tryz.func109 rfl (by kernel_rfl) Tryz.ntmps109 (by simp) λB0 W0 V0 lent g0=>?_
 refine Kw ?_
 repeat'((first|(intro hlq;try simp only[SL] at hlq)|refine Meets.k (v6 0 1099511627776 [x.gun]) ?_|((refine Kh (λhb=>?_) λhb=>?_)<;>try simp only[BL] at hb)|refine K8 ?_)<;>refine Kw ?_)
 all_goals (refine⟨congrArg bD ?_⟩;simp_all [Wave.good])
theorem b6k (x:Category):Meets Tryz.prog 112 [x.d] λr=>r=bD x.good:=by
 refine enter tok {} Tryz.func112 rfl (by kernel_rfl) Tryz.ntmps112 (by simp) λB0 W0 V0 lent g0=>?_
 refine Kw ?_
 repeat'((first|(intro hlq;try simp only[SL] at hlq)|refine Meets.k (v6 0 120 [x.lo,x.hi]) ?_|((refine Kh (λhb=>?_) λhb=>?_)<;>try simp only[BL] at hb)|refine K8 ?_)<;>refine Kw ?_)
 all_goals (refine⟨congrArg bD ?_⟩;simp_all [Category.good])
theorem c0Q (x:Offence):Meets Tryz.prog 101 [x.d] λr=>r=bD x.good:=by
 refine enter tok {} Tryz.func101 rfl (by kernel_rfl) Tryz.ntmps101 (by simp) λB0 W0 V0 lent g0=>?_
 refine Kw ?_
 repeat'((first|(intro hlq;try simp only[SL] at hlq)|refine Meets.k (v6 0 68719476736 [x.time]) ?_|refine Meets.k (v6 1 64 [x.laps]) ?_|((refine Kh (λhb=>?_) λhb=>?_)<;>try simp only[BL] at hb)|refine K8 ?_)<;>refine Kw ?_)
 all_goals (refine⟨congrArg bD ?_⟩;simp_all [Offence.good])
theorem b9z (m:Int)(x:Leg):Meets Tryz.prog 100 [x.d,mp1 m] λr=>r=bD (x.good m):=by
 refine enter tok {} Tryz.func100 rfl (by kernel_rfl) Tryz.ntmps100 (by simp) λB0 W0 V0 lent g0=>?_
 refine Kw ?_
 repeat'((first|(intro hlq;try simp only[SL] at hlq)|refine Meets.k (v6 0 m [x.src,x.dst]) ?_|refine Meets.k (v6 0 68719476736 [x.lo,x.hi]) ?_|((refine Kh (λhb=>?_) λhb=>?_)<;>try simp only[BL] at hb)|refine K8 ?_)<;>refine Kw ?_)
 all_goals (refine⟨congrArg bD ?_⟩;simp_all [Leg.good])
theorem b6Z (m:Int)(x:Cutoff):Meets Tryz.prog 97 [x.d,mp1 m] λr=>r=bD (x.good m):=by
 refine enter tok {} Tryz.func97 rfl (by kernel_rfl) Tryz.ntmps97 (by simp) λB0 W0 V0 lent g0=>?_
 refine Kw ?_
 repeat'((first|(intro hlq;try simp only[SL] at hlq)|refine Meets.k (v6 0 m [x.mat]) ?_|refine Meets.k (v6 0 1099511627776 [x.limit]) ?_|((refine Kh (λhb=>?_) λhb=>?_)<;>try simp only[BL] at hb)|refine K8 ?_)<;>refine Kw ?_)
 all_goals (refine⟨congrArg bD ?_⟩;simp_all [Cutoff.good])
 all_goals (intro h;omega)
theorem c1c (c:Course)(x:Prize):Meets Tryz.prog 102 [x.d, .ptr c.cells 0] λr=>r=bD (x.good (c.distances.length-1) (c.categories.length-1)):=by
 refine enter tok {} Tryz.func102 rfl (by kernel_rfl) Tryz.ntmps102 (by simp) λB0 W0 V0 lent g0=>?_
 refine Kw ?_
 repeat'((first|(intro hlq;try simp only[SL] at hlq)|refine Meets.k (v6 0 ((c.distances.map Distance.cells).length-1) [x.distance]) ?_|refine Meets.k (v6 (-1) ((c.categories.map Category.cells).length-1) [x.category]) ?_|refine Meets.k (v6 1 4000 [x.rank]) ?_|refine Meets.k (v6 1 1125899906842624 [x.amount]) ?_|((refine Kh (λhb=>?_) λhb=>?_)<;>try simp only[BL] at hb)|refine K8 ?_)<;>refine Kw ?_)
 all_goals (refine⟨congrArg bD ?_⟩;simp_all [Prize.good])
theorem Part.deep_mem:∀{l:List Part} {p:Part},p∈l->p.deep<=Part.deepL l
 | x::l,p,h=>by
   rw[Part.deepL]
   rcases List.mem_cons.1 h with rfl|h
   . omega
   . have:=Part.deep_mem h;omega
theorem b2r (m:Int)(p:Part)(j:List D)(k:Nat)(hk:p.deep<=k):Meets Tryz.prog 94 [p.d,mp1 m, .ptr (H8 (pc m) j k) 0] λr=>r=bD (p.good m):=by
 have hd:=p.deep_or
 refine enter tok {} Tryz.func94 rfl (by kernel_rfl) Tryz.ntmps94 (by simp) λB0 W0 V0 lent g0=>?_
 refine Kw ?_
 repeat'((first|(intro hlq;try simp only[SL] at hlq)|refine Meets.k (v6 0 m [p.mat]) ?_|refine Meets.k (v6 1 64 [p.laps]) ?_|((refine Kh (λhb=>?_) λhb=>?_)<;>try simp only[BL] at hb)|refine K8 ?_)<;>refine Kw ?_)
 all_goals first
  | (refine⟨congrArg bD ?_⟩
     rw[Part.good_eq]
     simp_all
     done)
  |skip
 cases k with
 |zero=>exfalso;omega
 | succ k=>
   refine Kw ?_
   refine Meets.k (a9p p.parts 94 [] [mp1 m, .ptr (H8 (pc m) j k) 0] (Part.good m) λx hx=>b2r m x j k (by have:=Part.deep_mem hx;omega)) ?_
   refine Kw ?_
   refine⟨congrArg bD ?_⟩
   rw[Part.good_eq]
   simp_all
termination_by k
theorem b7r (m:Int)(d:Distance)(j:List D)(k:Nat)(hk:Part.deepL d.route<k):Meets Tryz.prog 98 [d.d,mp1 m, .ptr (H8 (pc m) j k) 0, .ptr [.fn 97 [] [mp1 m]] 0] λr=>r=bD (d.good m):=by
 cases k with
 |zero=>exfalso;omega
 | succ k=>
   refine enter tok {} Tryz.func98 rfl (by kernel_rfl) Tryz.ntmps98 (by simp) λB0 W0 V0 lent g0=>?_
   refine Kw ?_
   repeat'((first|(intro hlq;try simp only[SL] at hlq)|refine Meets.k (v6 1 3 [d.timing]) ?_|refine Meets.k (v6 (-1) m [d.extra]) ?_|refine Meets.k (a9p d.route 94 [] [mp1 m, .ptr (H8 (pc m) j k) 0] (Part.good m) λx hx=>b2r m x j k (by have:=Part.deep_mem hx;omega)) ?_|refine Meets.k (a5w d.cutoffs 97 [] [mp1 m] (Cutoff.good m) λx _=>b6Z m x) ?_|((refine Kh (λhb=>?_) λhb=>?_)<;>try simp only[BL] at hb)|refine K8 ?_)<;>refine Kw ?_)
   all_goals (refine⟨congrArg bD ?_⟩;simp_all [Distance.good])
   all_goals (intro h;obtain⟨x,hx,hf⟩:=hb;rw[h x hx] at hf;cases hf)
abbrev Leg.key (l:Leg):D:= .agg [iD l.src,iD l.dst]
abbrev Prize.key (p:Prize):D:= .agg [iD p.distance,iD p.category,iD p.rank]
theorem b9A (x:Leg):Meets Tryz.prog 107 [x.d] λr=>r=x.key:=by
 refine enter tok {} Tryz.func107 rfl (by kernel_rfl) Tryz.ntmps107 (by simp) λB0 W0 V0 lent g0=>?_
 refine Kw ?_
 exact⟨rfl⟩
theorem c1d (x:Prize):Meets Tryz.prog 115 [x.d] λr=>r=x.key:=by
 refine enter tok {} Tryz.func115 rfl (by kernel_rfl) Tryz.ntmps115 (by simp) λB0 W0 V0 lent g0=>?_
 refine Kw ?_
 exact⟨rfl⟩
open Classical in
theorem b1Y {l:List (D×D)}{k v:D}:(q9 l k v).length=l.length+(if k∈l.map (·.1) then 0 else 1)/\∀x,x∈(q9 l k v).map (·.1)↔x∈l.map (·.1)\/x=k:=by
 induction l with
 |nil=>simp[q9]
 | cons p l ih=>
   simp only[q9]
   by_cases e:p.1=k
   . subst e
     simp
   . rw[if_neg e]
     have e':¬k=p.1:=λh=>e h.symm
     simp only[List.length_cons,List.map_cons,List.mem_cons,ih.1,e',false_or]
     refine⟨by omega,λx=>?_⟩
     rw[ih.2]
     simp only[or_assoc]
noncomputable def w5 (ks:List D):List (D×D):=ks.foldl (λl k=>q9 l k (bD true)) []
theorem a2c (ks:List D)(k:D):w5 (ks++[k])=q9 (w5 ks) k (bD true):=by simp[w5]
open Classical in
theorem a3Z:∀n,∀ks:List D,ks.length=n->(∀x,x∈(w5 ks).map (·.1)↔x∈ks)/\(w5 ks).length<=ks.length/\((w5 ks).length=ks.length↔ks.Nodup):=by
 intro n
 induction n with
 | zero=>
   intro ks h
   obtain rfl:=List.eq_nil_of_length_eq_zero h
   simp[w5]
 | succ n ih=>
   intro ks h
   obtain⟨l,k,rfl⟩:∃l k,ks=l++[k]:=by
    have hne:ks≠[]:=by rintro rfl;simp at h
    exact⟨_,_,(List.dropLast_concat_getLast hne).symm⟩
   obtain⟨h1,h2,h3⟩:=ih l (by simpa using h)
   obtain⟨g1,g2⟩:=b1Y (l:=w5 l) (k:=k) (v:=bD true)
   rw[a2c]
   refine⟨λx=>?_,?_,?_⟩
   . rw[g2,h1];simp
   . rw[g1];simp only[List.length_append,List.length_singleton];split<;>omega
   . rw [g1,List.nodup_append]
     simp only[List.length_append,List.length_singleton]
     simp only[h1]
     by_cases hm:k∈l
     . rw[if_pos hm]
       constructor
       . intro h;omega
       . intro ⟨_,_,h⟩;exact absurd rfl (h k hm k (List.mem_singleton.2 rfl))
     . rw [if_neg hm]
       constructor
       . intro h
         refine⟨h3.1 (by omega),by simp,λa ha b hb=>?_⟩
         rw[List.mem_singleton.1 hb]
         rintro rfl
         exact hm ha
       . intro ⟨h,_,_⟩
         have:=h3.2 h
         omega
theorem a3Y {S:D->Prop}{ks:List D}(h:∀k∈ks,S k):∀p∈w5 ks,S p.1:=λp hp=>h _ (((a3Z _ ks rfl).1 p.1).1 (List.mem_map.2 ⟨p,hp,rfl⟩))
theorem b1t {α β:Type}[DecidableEq β]{f:α->D}{g:α->β}{xs:List α}(h:∀a b,f a=f b↔g a=g b):decide ((w5 (xs.map f)).length=xs.length)=decide (xs.map g).Nodup:=by
 have h3:=(a3Z _ (xs.map f) rfl).2.2
 rw[List.length_map] at h3
 rw[Bool.eq_iff_iff,decide_eq_true_eq,decide_eq_true_eq,h3,List.Nodup,List.Nodup,List.pairwise_map,List.pairwise_map]
 constructor
 . exact λhp=>hp.imp λhn e=>hn ((h _ _).2 e)
 . exact λhp=>hp.imp λhn e=>hn ((h _ _).1 e)
theorem c0T (xs:List Leg)(hl:xs.length<=1048576):Meets Tryz.prog 106 [.sl (xs.map Leg.cells), .fn 107 [] []] λr=>r=bD (decide (xs.map λx=>(x.src,x.dst)).Nodup):=by
 have hkey:∀x∈xs.map Leg.key,D4 2 x:=by
  intro k hk
  obtain⟨x,_,rfl⟩:=List.mem_map.1 hk
  exact⟨[x.src,x.dst],rfl,rfl⟩
 refine enter tok {} Tryz.func106 rfl (by kernel_rfl) Tryz.ntmps106 (by simp) λB0 W0 V0 lent g0=>?_
 refine Kw ?_
 repeat'((first|(intro hlq;try simp only[SL] at hlq)|refine K8 ?_)<;>refine Kw ?_)
 refine d4 tok {} [] (X:=Nat) (λi=>[(11,iB i)]) (λi=>[(8, .mp (w5 ((xs.map Leg.key).take i)))]) [7] (λi=>i<=xs.length) (λi=>xs.length-i) 0 ?_
 refine Kw ?_
 refine And.intro ?_ ⟨by omega,λi hi=>?_⟩
 . exact Kr
 refine Kw ?_
 refine⟨λh1=>?_,λh1=>?_⟩<;>(try simp only[BL] at h1)<;>refine Kw ?_
 . have h1':i<xs.length:=by omega
   repeat'((first|(intro hlq;try simp only[SL] at hlq)|refine Meets.k (b9A xs[i]) ?_|((refine Kh (λhb=>?_) λhb=>?_)<;>try simp only[BL] at hb)|refine K8 ?_)<;>refine Kw ?_)
   refine⟨⟨hkey xs[i].key (List.mem_map.2 ⟨_,List.getElem_mem h1',rfl⟩),a3Y λk hk=>hkey k (List.mem_of_mem_take hk)⟩,?_⟩
   rw[show q9 (w5 (List.take i (List.map Leg.key xs))) xs[i].key (bD true)=w5 (List.take (i+1) (List.map Leg.key xs)) from by
    rw[List.take_succ_eq_append_getElem (by simpa using h1'),a2c,List.getElem_map]]
   refine Kw ?_
   repeat'((first|(intro hlq;try simp only[SL] at hlq)|refine K8 ?_)<;>refine Kw ?_)
   refine⟨⟨i+1,?_,by omega,by omega⟩⟩
   repeat'(first|exact True.intro|exact rfl|refine And.intro ?_ ?_)
 . have e:(xs.map Leg.key).take i=xs.map Leg.key:=List.take_of_length_le (by simp;omega)
   rw[e]
   have hlen:=(a3Z _ (xs.map Leg.key) rfl).2.1
   rw[List.length_map] at hlen
   refine⟨by simp only[maxLen];omega,?_⟩
   refine Kw ?_
   repeat'((first|(intro hlq;try simp only[SL] at hlq)|refine K8 ?_)<;>refine Kw ?_)
   refine⟨congrArg bD ?_⟩
   rw[<-b1t (f:=Leg.key) (g:=λx=>(x.src,x.dst)) (λa b=>by simp[Leg.key]),Bool.eq_iff_iff]
   simp only[decide_eq_true_eq,List.length_map]
   omega
theorem c0U (xs:List Prize)(hl:xs.length<=1048576):Meets Tryz.prog 114 [.sl (xs.map Prize.cells), .fn 115 [] []] λr=>r=bD (decide (xs.map λx=>(x.distance,x.category,x.rank)).Nodup):=by
 have hkey:∀x∈xs.map Prize.key,D4 3 x:=by
  intro k hk
  obtain⟨x,_,rfl⟩:=List.mem_map.1 hk
  exact⟨[x.distance,x.category,x.rank],rfl,rfl⟩
 refine enter tok {} Tryz.func114 rfl (by kernel_rfl) Tryz.ntmps114 (by simp) λB0 W0 V0 lent g0=>?_
 refine Kw ?_
 repeat'((first|(intro hlq;try simp only[SL] at hlq)|refine K8 ?_)<;>refine Kw ?_)
 refine d4 tok {} [] (X:=Nat) (λi=>[(11,iB i)]) (λi=>[(8, .mp (w5 ((xs.map Prize.key).take i)))]) [7] (λi=>i<=xs.length) (λi=>xs.length-i) 0 ?_
 refine Kw ?_
 refine And.intro ?_ ⟨by omega,λi hi=>?_⟩
 . exact Kr
 refine Kw ?_
 refine⟨λh1=>?_,λh1=>?_⟩<;>(try simp only[BL] at h1)<;>refine Kw ?_
 . have h1':i<xs.length:=by omega
   repeat'((first|(intro hlq;try simp only[SL] at hlq)|refine Meets.k (c1d xs[i]) ?_|((refine Kh (λhb=>?_) λhb=>?_)<;>try simp only[BL] at hb)|refine K8 ?_)<;>refine Kw ?_)
   refine⟨⟨hkey xs[i].key (List.mem_map.2 ⟨_,List.getElem_mem h1',rfl⟩),a3Y λk hk=>hkey k (List.mem_of_mem_take hk)⟩,?_⟩
   rw[show q9 (w5 (List.take i (List.map Prize.key xs))) xs[i].key (bD true)=w5 (List.take (i+1) (List.map Prize.key xs)) from by
    rw[List.take_succ_eq_append_getElem (by simpa using h1'),a2c,List.getElem_map]]
   refine Kw ?_
   repeat'((first|(intro hlq;try simp only[SL] at hlq)|refine K8 ?_)<;>refine Kw ?_)
   refine⟨⟨i+1,?_,by omega,by omega⟩⟩
   repeat'(first|exact True.intro|exact rfl|refine And.intro ?_ ?_)
 . have e:(xs.map Prize.key).take i=xs.map Prize.key:=List.take_of_length_le (by simp;omega)
   rw[e]
   have hlen:=(a3Z _ (xs.map Prize.key) rfl).2.1
   rw[List.length_map] at hlen
   refine⟨by simp only[maxLen];omega,?_⟩
   refine Kw ?_
   repeat'((first|(intro hlq;try simp only[SL] at hlq)|refine K8 ?_)<;>refine Kw ?_)
   refine⟨congrArg bD ?_⟩
   rw[<-b1t (f:=Prize.key) (g:=λx=>(x.distance,x.category,x.rank)) (λa b=>by simp[Prize.key]),Bool.eq_iff_iff]
   simp only[decide_eq_true_eq,List.length_map]
   omega
end Go.Proofs.YteillnfhkeebjaaGreatDoor.Dx
