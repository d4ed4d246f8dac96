/- Names. -/
import Derived.Test.YteillnfhkeebjaaGreatDoorWr
set_option linter.all false
namespace Go.Proofs.YteillnfhkeebjaaGreatDoor.Dx
open Go Go.RowKit
set_option maxRecDepth 100000
set_option maxHeartbeats 8000000
mutual
def Part.good (m:Int):Part->Bool
 |⟨mt,l,ps⟩=>if l=0 then inR 0 m mt&&decide ((ps.length:Int)=0) else inR 1 64 l&&(decide (mt=0)&&(decide ((ps.length:Int)>0)&&Part.goodL m ps))
def Part.goodL (m:Int):List Part->Bool
 |[]=>true
 |p::ps=>p.good m&&Part.goodL m ps
end
theorem b5B (m:Int):∀l:List Part,Part.goodL m l=l.all (Part.good m)
 |[]=>rfl
 |p::l=>by rw[Part.goodL,b5B m l,F8]
theorem a4r (m:Int)(p:Part):p.good m=if p.laps=0 then inR 0 m p.mat&&decide ((p.parts.length:Int)=0) else inR 1 64 p.laps&&(decide (p.mat=0)&&(decide ((p.parts.length:Int)>0)&&p.parts.all (Part.good m))):=by
 obtain⟨mt,l,ps⟩:=p;simp only[Part.good,b5B]
def Cutoff.good (m:Int)(x:Cutoff):Bool:=inR 0 m x.mat&&(decide (x.lap≥1)&&inR 0 1099511627776 x.limit)
def Distance.good (m:Int)(d:Distance):Bool:=inR 1 3 d.timing&&(inR (-1) m d.extra&&(d.route.all (Part.good m)&&d.cutoffs.all (Cutoff.good m)))
def Leg.good (m:Int)(l:Leg):Bool:=(inR 0 m l.src&&inR 0 m l.dst)&&((inR 0 68719476736 l.lo&&inR 0 68719476736 l.hi)&&decide (l.lo<=l.hi))
def Offence.good (o:Offence):Bool:=if o.out then decide (o.time=0)&&decide (o.laps=0) else if o.laps=0 then inR 0 68719476736 o.time else decide (o.time=0)&&inR 1 64 o.laps
def Prize.good (nd nc:Int)(p:Prize):Bool:=inR 0 nd p.distance&&(inR (-1) nc p.category&&(inR 1 4000 p.rank&&inR 1 1125899906842624 p.amount))
def Mat.good (m:Mat):Bool:=inR 1 3 m.kind
def Wave.good (w:Wave):Bool:=inR 0 1099511627776 w.gun
def Category.good (x:Category):Bool:=(inR 0 120 x.lo&&inR 0 120 x.hi)&&decide (x.lo<=x.hi)
abbrev mp1 (m:Int):D:= .ptr [iD m] 0
def pc (m:Int):List D->List D:=λx=>[.fn 94 [] [mp1 m, .ptr x 0]]
theorem c8K (x:Mat):Mt 104 [x.d] λr=>r=bD x.good:=by
 refine En {} Tryz.func104 Tryz.ntmps104 λ_ _ _ _ _=>?_;refine Kw ?_;repeat'((first|(intro hlq;try simp only[SL] at hlq)|refine Meets.k (J4 1 3 [x.kind]) ?_|((refine Kh (λhb=>?_) λhb=>?_)<;>try simp only[BL] at hb)|refine K8 ?_)<;>refine Kw ?_)
 all_goals (refine⟨d6 bD ?_⟩;simp_all [Mat.good])
theorem d5b (x:Wave):Mt 109 [x.d] λr=>r=bD x.good:=by
 refine En {} Tryz.func109 Tryz.ntmps109 λ_ _ _ _ _=>?_;refine Kw ?_;repeat'((first|(intro hlq;try simp only[SL] at hlq)|refine Meets.k (J4 0 1099511627776 [x.gun]) ?_|((refine Kh (λhb=>?_) λhb=>?_)<;>try simp only[BL] at hb)|refine K8 ?_)<;>refine Kw ?_)
 all_goals (refine⟨d6 bD ?_⟩;simp_all [Wave.good])
theorem c4d (x:Category):Mt 112 [x.d] λr=>r=bD x.good:=by
 refine En {} Tryz.func112 Tryz.ntmps112 λ_ _ _ _ _=>?_;refine Kw ?_;repeat'((first|(intro hlq;try simp only[SL] at hlq)|refine Meets.k (J4 0 120 [x.lo,x.hi]) ?_|((refine Kh (λhb=>?_) λhb=>?_)<;>try simp only[BL] at hb)|refine K8 ?_)<;>refine Kw ?_)
 all_goals (refine⟨d6 bD ?_⟩;simp_all [Category.good])
theorem c9O (x:Offence):Mt 101 [x.d] λr=>r=bD x.good:=by
 refine En {} Tryz.func101 Tryz.ntmps101 λ_ _ _ _ _=>?_;refine Kw ?_;repeat'((first|(intro hlq;try simp only[SL] at hlq)|refine Meets.k (J4 0 68719476736 [x.time]) ?_|refine Meets.k (J4 1 64 [x.laps]) ?_|((refine Kh (λhb=>?_) λhb=>?_)<;>try simp only[BL] at hb)|refine K8 ?_)<;>refine Kw ?_)
 all_goals (refine⟨d6 bD ?_⟩;simp_all [Offence.good])
theorem c8f (m:Int)(x:Leg):Mt 100 [x.d,mp1 m] λr=>r=bD (x.good m):=by
 refine En {} Tryz.func100 Tryz.ntmps100 λ_ _ _ _ _=>?_;refine Kw ?_;repeat'((first|(intro hlq;try simp only[SL] at hlq)|refine Meets.k (J4 0 m [x.src,x.dst]) ?_|refine Meets.k (J4 0 68719476736 [x.lo,x.hi]) ?_|((refine Kh (λhb=>?_) λhb=>?_)<;>try simp only[BL] at hb)|refine K8 ?_)<;>refine Kw ?_)
 all_goals (refine⟨d6 bD ?_⟩;simp_all [Leg.good])
theorem c5f (m:Int)(x:Cutoff):Mt 97 [x.d,mp1 m] λr=>r=bD (x.good m):=by
 refine En {} Tryz.func97 Tryz.ntmps97 λ_ _ _ _ _=>?_;refine Kw ?_;repeat'((first|(intro hlq;try simp only[SL] at hlq)|refine Meets.k (J4 0 m [x.mat]) ?_|refine Meets.k (J4 0 1099511627776 [x.limit]) ?_|((refine Kh (λhb=>?_) λhb=>?_)<;>try simp only[BL] at hb)|refine K8 ?_)<;>refine Kw ?_)
 all_goals (refine⟨d6 bD ?_⟩;simp_all [Cutoff.good])
 all_goals (intro h;omega)
theorem d0j (c:Course)(x:Prize):Mt 102 [x.d, .ptr c.cells 0] λr=>r=bD (x.good (c.distances.length-1) (c.categories.length-1)):=by
 refine En {} Tryz.func102 Tryz.ntmps102 λ_ _ _ _ _=>?_;refine Kw ?_;repeat'((first|(intro hlq;try simp only[SL] at hlq)|refine Meets.k (J4 0 ((c.distances.map Distance.cells).length-1) [x.distance]) ?_|refine Meets.k (J4 (-1) ((c.categories.map Category.cells).length-1) [x.category]) ?_|refine Meets.k (J4 1 4000 [x.rank]) ?_|refine Meets.k (J4 1 1125899906842624 [x.amount]) ?_|((refine Kh (λhb=>?_) λhb=>?_)<;>try simp only[BL] at hb)|refine K8 ?_)<;>refine Kw ?_)
 all_goals (refine⟨d6 bD ?_⟩;simp_all [Prize.good])
theorem a9m:∀{l:List Part} {p:Part},p∈l->p.deep<=Part.deepL l
 | x::l,p,h=>by
   rw[Part.deepL];rcases p8.1 h with rfl|h
   . omega
   . have:=a9m h;omega
theorem b9o (m:Int)(p:Part)(j:List D)(k:Nat)(hk:p.deep<=k):Mt 94 [p.d,mp1 m, .ptr (a0E (pc m) j k) 0] λr=>r=bD (p.good m):=by
 have hd:=p.deep_or;refine En {} Tryz.func94 Tryz.ntmps94 λ_ _ _ _ _=>?_;refine Kw ?_;repeat'((first|(intro hlq;try simp only[SL] at hlq)|refine Meets.k (J4 0 m [p.mat]) ?_|refine Meets.k (J4 1 64 [p.laps]) ?_|((refine Kh (λhb=>?_) λhb=>?_)<;>try simp only[BL] at hb)|refine K8 ?_)<;>refine Kw ?_)
 all_goals first
  | (refine⟨d6 bD ?_⟩
     rw[a4r];simp_all
     done)
  |skip
 cases k with
 |zero=>exfalso;omega
 | succ k=>
   refine Kw ?_;refine Meets.k (b5V p.parts 94 [] [mp1 m, .ptr (a0E (pc m) j k) 0] (Part.good m) λx hx=>b9o m x j k (by have:=a9m hx;omega)) ?_;refine Kw ?_;refine⟨d6 bD ?_⟩;rw[a4r];simp_all
termination_by k
theorem c5C (m:Int)(d:Distance)(j:List D)(k:Nat)(hk:Part.deepL d.route<k):Mt 98 [d.d,mp1 m, .ptr (a0E (pc m) j k) 0, .ptr [.fn 97 [] [mp1 m]] 0] λr=>r=bD (d.good m):=by
 cases k with
 |zero=>exfalso;omega
 | succ k=>
   refine En {} Tryz.func98 Tryz.ntmps98 λ_ _ _ _ _=>?_;refine Kw ?_;repeat'((first|(intro hlq;try simp only[SL] at hlq)|refine Meets.k (J4 1 3 [d.timing]) ?_|refine Meets.k (J4 (-1) m [d.extra]) ?_|refine Meets.k (b5V d.route 94 [] [mp1 m, .ptr (a0E (pc m) j k) 0] (Part.good m) λx hx=>b9o m x j k (by have:=a9m hx;omega)) ?_|refine Meets.k (b1N d.cutoffs 97 [] [mp1 m] (Cutoff.good m) λx _=>c5f m x) ?_|((refine Kh (λhb=>?_) λhb=>?_)<;>try simp only[BL] at hb)|refine K8 ?_)<;>refine Kw ?_)
   all_goals (refine⟨d6 bD ?_⟩;simp_all [Distance.good])
   all_goals (intro h;obtain⟨x,hx,hf⟩:=hb;rw[h x hx] at hf;cases hf)
abbrev Leg.key (l:Leg):D:= .agg [iD l.src,iD l.dst]
abbrev Prize.key (p:Prize):D:= .agg [iD p.distance,iD p.category,iD p.rank]
theorem c8g (x:Leg):Mt 107 [x.d] λr=>r=x.key:=by
 refine En {} Tryz.func107 Tryz.ntmps107 λ_ _ _ _ _=>?_;refine Kw ?_;exact⟨rfl⟩
theorem d0k (x:Prize):Mt 115 [x.d] λr=>r=x.key:=by
 refine En {} Tryz.func115 Tryz.ntmps115 λ_ _ _ _ _=>?_;refine Kw ?_;exact⟨rfl⟩
open Classical in
theorem b8T {l:List (D×D)}{k v:D}:(H5 l k v).length=l.length+(if k∈l.map (·.1) then 0 else 1)/\∀x,x∈(H5 l k v).map (·.1)↔x∈l.map (·.1)\/x=k:=by
 induction l with
 |nil=>simp[H5]
 | cons p l ih=>
   simp only[H5];by_cases e:p.1=k
   . subst e;simp
   . rw[c8 e];have e':¬k=p.1:=λh=>e h.symm;simp only[i7,o5,p8,ih.1,e',false_or];refine⟨by omega,λx=>?_⟩;rw[ih.2];simp only[or_assoc]
noncomputable def J9 (ks:List D):List (D×D):=ks.foldl (λl k=>H5 l k (bD true)) []
theorem a7V (ks:List D)(k:D):J9 (ks++[k])=H5 (J9 ks) k (bD true):=by simp[J9]
open Classical in
theorem b0e:∀n,∀ks:List D,ks.length=n->(∀x,x∈(J9 ks).map (·.1)↔x∈ks)/\(J9 ks).length<=ks.length/\((J9 ks).length=ks.length↔ks.Nodup):=by
 intro n;induction n with
 | zero=>
   intro ks h;obtain rfl:=C8 h;simp[J9]
 | succ n ih=>
   intro ks h;obtain⟨l,k,rfl⟩:∃l k,ks=l++[k]:=by
    have hne:ks≠[]:=by rintro rfl;simp at h
    exact⟨_,_,(List.dropLast_concat_getLast hne).symm⟩
   obtain⟨h1,h2,h3⟩:=ih l (by simpa using h);obtain⟨g1,g2⟩:=b8T (l:=J9 l) (k:=k) (v:=bD true);rw[a7V];refine⟨λx=>?_,?_,?_⟩
   . rw[g2,h1];simp
   . rw[g1];simp only[j6,List.length_singleton];split<;>omega
   . rw [g1,a7j];simp only[j6,List.length_singleton];simp only[h1];by_cases hm:k∈l
     . rw[d4 hm];constructor
       . intro h;omega
       . intro ⟨_,_,h⟩;exact absurd rfl (h k hm k (I4.2 rfl))
     . rw [c8 hm];constructor
       . intro h;refine⟨h3.1 (by omega),by simp,λa ha b hb=>?_⟩;rw[I4.1 hb];rintro rfl;exact hm ha
       . intro ⟨h,_,_⟩;have:=h3.2 h;omega
theorem b0d {S:D->Prop}{ks:List D}(h:∀k∈ks,S k):∀p∈J9 ks,S p.1:=λp hp=>h _ (((b0e _ ks rfl).1 p.1).1 (v6.2 ⟨p,hp,rfl⟩))
theorem b8n {α β:Type}[DecidableEq β]{f:α->D}{g:α->β}{xs:List α}(h:∀a b,f a=f b↔g a=g b):decide ((J9 (xs.map f)).length=xs.length)=decide (xs.map g).Nodup:=by
 have h3:=(b0e _ (xs.map f) rfl).2.2;rw[o9] at h3;rw[G8,j0,j0,h3,List.Nodup,List.Nodup,List.pairwise_map,List.pairwise_map];constructor
 . exact λhp=>hp.imp λhn e=>hn ((h _ _).2 e)
 . exact λhp=>hp.imp λhn e=>hn ((h _ _).1 e)
theorem c9S (xs:List Leg)(hl:xs.length<=1048576):Mt 106 [.sl (xs.map Leg.cells), .fn 107 [] []] λr=>r=bD (decide (xs.map λx=>(x.src,x.dst)).Nodup):=by
 have hkey:∀x∈xs.map Leg.key,U5 2 x:=by
  intro k hk;obtain⟨x,_,rfl⟩:=v6.1 hk;exact⟨[x.src,x.dst],rfl,rfl⟩
 refine En {} Tryz.func106 Tryz.ntmps106 λ_ _ _ _ _=>?_;refine Kw ?_;repeat'((first|(intro hlq;try simp only[SL] at hlq)|refine K8 ?_)<;>refine Kw ?_)
 refine o4 tok {} [] (X:=Nat) (λi=>[(11,iB i)]) (λi=>[(8, .mp (J9 ((xs.map Leg.key).take i)))]) [7] (λi=>i<=xs.length) (λi=>xs.length-i) 0 ?_;refine Kw ?_;refine d8 ?_ ⟨by omega,λi hi=>?_⟩
 . exact Kr
 refine Kw ?_;refine⟨λh1=>?_,λh1=>?_⟩<;>(try simp only[BL] at h1)<;>refine Kw ?_
 . have h1':i<xs.length:=by omega
   repeat'((first|(intro hlq;try simp only[SL] at hlq)|refine Meets.k (c8g xs[i]) ?_|((refine Kh (λhb=>?_) λhb=>?_)<;>try simp only[BL] at hb)|refine K8 ?_)<;>refine Kw ?_)
   refine⟨⟨hkey xs[i].key (v6.2 ⟨_,q7 h1',rfl⟩),b0d λk hk=>hkey k (Q5 hk)⟩,?_⟩;rw[show H5 (J9 (List.take i (List.map Leg.key xs))) xs[i].key (bD true)=J9 (List.take (i+1) (List.map Leg.key xs)) from by
    rw[L1 (by simpa using h1'),a7V,a3i]]
   refine Kw ?_;repeat'((first|(intro hlq;try simp only[SL] at hlq)|refine K8 ?_)<;>refine Kw ?_)
   refine⟨⟨i+1,?_,by omega,by omega⟩⟩;repeat'(first|exact d9|exact rfl|refine d8 ?_ ?_)
 . have e:(xs.map Leg.key).take i=xs.map Leg.key:=y6 (by simp;omega);rw[e];have hlen:=(b0e _ (xs.map Leg.key) rfl).2.1;rw[o9] at hlen;refine⟨by simp only[maxLen];omega,?_⟩;refine Kw ?_;repeat'((first|(intro hlq;try simp only[SL] at hlq)|refine K8 ?_)<;>refine Kw ?_)
   refine⟨d6 bD ?_⟩;rw[<-b8n (f:=Leg.key) (g:=λx=>(x.src,x.dst)) (λa b=>by simp[Leg.key]),G8];simp only[j0,o9];omega
theorem c9T (xs:List Prize)(hl:xs.length<=1048576):Mt 114 [.sl (xs.map Prize.cells), .fn 115 [] []] λr=>r=bD (decide (xs.map λx=>(x.distance,x.category,x.rank)).Nodup):=by
 have hkey:∀x∈xs.map Prize.key,U5 3 x:=by
  intro k hk;obtain⟨x,_,rfl⟩:=v6.1 hk;exact⟨[x.distance,x.category,x.rank],rfl,rfl⟩
 refine En {} Tryz.func114 Tryz.ntmps114 λ_ _ _ _ _=>?_;refine Kw ?_;repeat'((first|(intro hlq;try simp only[SL] at hlq)|refine K8 ?_)<;>refine Kw ?_)
 refine o4 tok {} [] (X:=Nat) (λi=>[(11,iB i)]) (λi=>[(8, .mp (J9 ((xs.map Prize.key).take i)))]) [7] (λi=>i<=xs.length) (λi=>xs.length-i) 0 ?_;refine Kw ?_;refine d8 ?_ ⟨by omega,λi hi=>?_⟩
 . exact Kr
 refine Kw ?_;refine⟨λh1=>?_,λh1=>?_⟩<;>(try simp only[BL] at h1)<;>refine Kw ?_
 . have h1':i<xs.length:=by omega
   repeat'((first|(intro hlq;try simp only[SL] at hlq)|refine Meets.k (d0k xs[i]) ?_|((refine Kh (λhb=>?_) λhb=>?_)<;>try simp only[BL] at hb)|refine K8 ?_)<;>refine Kw ?_)
   refine⟨⟨hkey xs[i].key (v6.2 ⟨_,q7 h1',rfl⟩),b0d λk hk=>hkey k (Q5 hk)⟩,?_⟩;rw[show H5 (J9 (List.take i (List.map Prize.key xs))) xs[i].key (bD true)=J9 (List.take (i+1) (List.map Prize.key xs)) from by
    rw[L1 (by simpa using h1'),a7V,a3i]]
   refine Kw ?_;repeat'((first|(intro hlq;try simp only[SL] at hlq)|refine K8 ?_)<;>refine Kw ?_)
   refine⟨⟨i+1,?_,by omega,by omega⟩⟩;repeat'(first|exact d9|exact rfl|refine d8 ?_ ?_)
 . have e:(xs.map Prize.key).take i=xs.map Prize.key:=y6 (by simp;omega);rw[e];have hlen:=(b0e _ (xs.map Prize.key) rfl).2.1;rw[o9] at hlen;refine⟨by simp only[maxLen];omega,?_⟩;refine Kw ?_;repeat'((first|(intro hlq;try simp only[SL] at hlq)|refine K8 ?_)<;>refine Kw ?_)
   refine⟨d6 bD ?_⟩;rw[<-b8n (f:=Prize.key) (g:=λx=>(x.distance,x.category,x.rank)) (λa b=>by simp[Prize.key]),G8];simp only[j0,o9];omega
end Go.Proofs.YteillnfhkeebjaaGreatDoor.Dx
