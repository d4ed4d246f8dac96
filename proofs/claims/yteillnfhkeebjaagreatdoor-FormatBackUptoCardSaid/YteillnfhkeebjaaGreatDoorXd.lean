/- format. -/
import Derived.Test.YteillnfhkeebjaaGreatDoorXc
set_option linter.all false
namespace Go.Proofs.YteillnfhkeebjaaGreatDoor.Dx
open Go Go.RowKit Go.Proofs
set_option maxRecDepth 100000
set_option maxHeartbeats 32000000
theorem c8J {cs:List Base}{b:Int}{o:Nat}(h:1<=b/\b<=3)(ho:o=0+b.toNat *1)(hc:cs=[.d (.str []), .d (.str [115,116,97,114,116]), .d (.str [112,97,115,115]), .d (.str [101,110,100])]):cs[o]?=some (.d (.str (a6n b))):=by
 subst ho hc;rcases(by omega:b=1\/b=2\/b=3) with rfl|rfl|rfl<;>rfl
theorem c4T (c:Course):O5 c=[99,111,117,114,115,101,32]++c.name++[32,123,10]++k9 (a6q c)++c.legs.flatMap (λx=>k9 (T5 c x))++c.distances.flatMap (O7 c)++c.waves.flatMap (λx=>k9 (U1 x))++c.offences.flatMap (λx=>k9 (T7 x))++
 c.categories.flatMap (λx=>k9 (T1 x))++c.prizes.flatMap (λx=>k9 (S5 c x))++k9 (a3V c)++k9 (a4F c.faults)++k9 (a4G c)++[125,10]:=by
 have e:O7 c=λx=>k9 (a1I c x):=rfl;simp only[O5,a0c,List.flatMap_append,a2n,List.flatMap_nil,List.flatMap_map,e,n9,R4,y8]
theorem c8q {s:List UInt8}(h:s.length<=40000):(k9 s).length<=40003:=by
 simp only[k9,j6,i7,j8];omega
abbrev k8:Cfg:={nm:=[(30,1000)],priv:=[29],sym:=[6],rs:=[38,60,65,78,84,98,109,130,150,174,216,221,225,253,266,270,275]}
theorem b1x (c:Course)(hs:c.small):Mt 7 [c.d] λd=>d= .tup [.sl (byteCells (U9 c)),iD (L3 c)]:=by
 refine En k8 Tryz.func7 Tryz.ntmps7 λ_ _ _ _ _=>?_;refine Kv k8 ?_;repeat'((first|(intro hlq;try simp only[SL] at hlq)|refine Meets.k (b5f c hs) ?_|refine K9 ?_|((refine Kh (λhb=>?_) λhb=>?_)<;>try simp only[BL] at hb)|refine K8 ?_)<;>refine Kv k8 ?_)
 . refine⟨?_⟩;rw[U9,L3,c8 (λe=>(by assumption:N1 c≠0) e.1),c8 (by assumption)];rfl
 have he:N1 c=0:=by omega
 have hg:=b7R hs he;have hll:=c8r hg;have hl:=lens hg.fits;have hF:=fok hg;have hnm:=hg.name;have hparts:=c4T c;have mem:∀{s},s∈a0c c->(k9 s).length<=40003:=λh=>c8q (hll _ h);obtain⟨P0,hP0⟩:∃P,P=([99,111,117,114,115,101,32]:List UInt8)++c.name++[32,123,10,32,32,109,97,116,115,32,123]:=⟨_,rfl⟩
 have hL0:=d6 List.length hP0;simp only[j6,i7,j8] at hL0;have hN0:P0≠[]:=by rw[hP0];simp
 refine⟨prN (rr (cR c)) 90,_,⟨?_,?_⟩,(b3D (cR c) P0 [99,111,117,114,115,101,32] (by simp) [.s c.name, .s [32,123,10,32,32,109,97,116,115,32,123]] (by rw[hP0];simp[r5,Item.text]) (by omega)).mono ?_⟩
 . exact Kr
 . repeat'(first|exact d9|exact rfl|refine d8 ?_ ?_)
   all_goals exact s6 _ _
 rintro o O2 ⟨rfl,rfl⟩;dsimp only;rw[p9 (p6 _)];refine Kv k8 ?_;refine⟨by simp,?_⟩;refine Kv k8 ?_;intro hq0;refine Kv k8 ?_;have hall:∀x∈c.mats,(S2 x).length<=40:=λm hm=>b8I (hg.mats m hm);have hB0:=a1g S2 40 c.mats hall;refine o4 tok k8 [] (X:=Nat×List UInt8) (λx=>[(43,iB x.1)]) (λx=>prO (rr (cR c)) 90 x.2) [8] (λx=>x.1<=c.mats.length/\x.2=P0++(c.mats.take x.1).flatMap S2) (λx=>c.mats.length-x.1) (0,P0) ?_;refine Kv k8 ?_;refine d8 ?_ ⟨⟨by omega,by simp⟩,λx hΦ=>?_⟩
 . repeat'(first|exact d9|exact rfl|refine d8 ?_ ?_)
   all_goals exact s6 _ _
 obtain⟨i,xs⟩:=x;obtain⟨hi,hxs⟩:=hΦ;dsimp only at hi hxs;have hLx:=d6 List.length hxs;simp only[j6] at hLx;have hj:=a3G S2 c.mats i;have hnx:xs≠[]:=by rw[hxs];simp[hN0]
 refine Kv k8 ?_;refine⟨λh1=>?_,λh1=>?_⟩<;>(try simp only[BL] at h1)<;>refine Kv k8 ?_
 . have h1':i<c.mats.length:=by omega
   have hst:=a3F S2 h1';have hm:=q7 h1';obtain⟨B3,hB3⟩:∃B3,B3=xs++S2 c.mats[i]:=⟨_,rfl⟩
   have hb3:(S2 c.mats[i]).length<=40:=hall _ hm;have hL3:B3.length=xs.length+(S2 c.mats[i]).length:=by rw[hB3,j6]
   have hk:=hg.nums.mats _ hm;simp only[Mat.good,inR,f0,j0] at hk;repeat'((first|(intro hlq;try simp only[SL] at hlq)|refine K9 ?_|refine Ka ?_|refine Kb ?_|refine Kc (hd:=rfl) (e:=?_)|refine Kc (hd:=Mat.cells_eq _) (e:=?_)|refine Kd (e:=?_)|refine Kl rfl ?_|fail)<;>refine Kv k8 ?_)
   refine Dr k8 [.p 0, .p 1, .p 2, .p 3, .p 4, .p 5, .p 6, .p 7, .p 8, .p 9, .p 10, .p 11, .p 12, .s 13 [0,12,1,6,7,10,11,5,9,4,8,3,2]] ?_;refine Kv k8 ?_;repeat'((first|(intro hlq;try simp only[SL] at hlq)|refine⟨_,c8J hk rfl rfl,?_⟩|refine K9 ?_|((refine Kh (λhb=>?_) λhb=>?_)<;>try simp only[BL] at hb)|refine K8 ?_)<;>refine Kv k8 ?_)
   refine⟨prO (rr (cR c)) 90 xs,_,⟨?_,?_⟩,(B6 (cR c) xs B3 [.s [32], .s (a6n c.mats[i].kind), .s [32], .s c.mats[i].name, .s [59]] hnx (by rw[hB3];simp[r5,Item.text,S2]) (by omega)).mono ?_⟩
   . exact Ko
   . exact Ko
   rintro o O2 ⟨rfl,rfl⟩;dsimp only;rw[p9 (p6 _)];refine Kv k8 ?_;repeat'((first|(intro hlq;try simp only[SL] at hlq)|refine K9 ?_|((refine Kh (λhb=>?_) λhb=>?_)<;>try simp only[BL] at hb)|refine K8 ?_)<;>refine Kv k8 ?_)
   refine⟨⟨(i+1,B3),?_,⟨by omega,by rw[hB3,hst,hxs,n9]⟩,by dsimp only;omega⟩⟩;repeat'(first|exact d9|exact rfl|refine d8 ?_ ?_)
   all_goals exact s6 _ _
 have e:c.mats.take i=c.mats:=y6 (by omega);rw[e] at hxs hLx;clear h1 e hall;obtain⟨P1,hP1⟩:∃P,P=xs++[32,125,10]:=⟨_,rfl⟩
 have hL1:=d6 List.length hP1;simp only[j6,i7,j8] at hL1;have hN1:P1≠[]:=by rw[hP1];simp
 repeat'((first|(intro hlq;try simp only[SL] at hlq)|refine K9 ?_|((refine Kh (λhb=>?_) λhb=>?_)<;>try simp only[BL] at hb)|refine K8 ?_)<;>refine Kv k8 ?_)
 refine⟨prO (rr (cR c)) 90 xs,_,⟨?_,?_⟩,(B6 (cR c) xs P1 [.s [32,125,10]] hnx (by rw[hP1];simp[r5,Item.text]) (by omega)).mono ?_⟩
 . exact Ko
 . exact Ko
 rintro o O2 ⟨rfl,rfl⟩;dsimp only;rw[p9 (p6 _)];refine Kv k8 ?_;repeat'((first|(intro hlq;try simp only[SL] at hlq)|refine K9 ?_|((refine Kh (λhb=>?_) λhb=>?_)<;>try simp only[BL] at hb)|refine K8 ?_)<;>refine Kv k8 ?_)
 have hQ1:P1=[99,111,117,114,115,101,32]++c.name++[32,123,10]++k9 (a6q c):=by rw[hP1,hxs,hP0];simp[k9,a6q]
 have hM1:P1.length<=10000:=by omega
 clear hP1 hxs hLx hj hnx hB0 hL1;have hall:∀x∈c.legs,((λx=>k9 (T5 c x)) x).length<=40003:=λx hx=>mem (by simp only[a0c,A8,v6];exact .inl (.inl (.inl (.inl (.inl (.inl (.inr ⟨x,hx,rfl⟩)))))));have hB1:=a1g (λx=>k9 (T5 c x)) 40003 c.legs hall;refine o4 tok k8 [] (X:=Nat×List UInt8) (λx=>[(69,iB x.1)]) (λx=>prO (rr (cR c)) 90 x.2) [10] (λx=>x.1<=c.legs.length/\x.2=P1++(c.legs.take x.1).flatMap (λx=>k9 (T5 c x))) (λx=>c.legs.length-x.1) (0,P1) ?_;refine Kv k8 ?_;refine d8 ?_ ⟨⟨by omega,by simp⟩,λx hΦ=>?_⟩
 . repeat'(first|exact d9|exact rfl|refine d8 ?_ ?_)
   all_goals exact s6 _ _
 obtain⟨i,xs⟩:=x;obtain⟨hi,hxs⟩:=hΦ;dsimp only at hi hxs;have hLx:=d6 List.length hxs;simp only[j6] at hLx;have hj:=a3G (λx=>k9 (T5 c x)) c.legs i;have hnx:xs≠[]:=by rw[hxs];simp[hN1]
 refine Kv k8 ?_;refine⟨λh1=>?_,λh1=>?_⟩<;>(try simp only[BL] at h1)<;>refine Kv k8 ?_
 . have h1':i<c.legs.length:=by omega
   have hst:=a3F (λx=>k9 (T5 c x)) h1';have hm:=q7 h1';obtain⟨B3,hB3⟩:∃B3,B3=xs++(λx=>k9 (T5 c x)) c.legs[i]:=⟨_,rfl⟩
   have hb3:((λx=>k9 (T5 c x)) c.legs[i]).length<=40003:=hall _ hm;have hL3:B3.length=xs.length+((λx=>k9 (T5 c x)) c.legs[i]).length:=by rw[hB3,j6]
   have hx:=c8o hg hm;repeat'((first|(intro hlq;try simp only[SL] at hlq)|refine K9 ?_|refine Ka ?_|refine Kb ?_|refine Kc (hd:=rfl) (e:=?_)|refine Kc (hd:=Leg.cells_eq _) (e:=?_)|refine Kd (e:=?_)|refine Kl rfl ?_|fail)<;>refine Kv k8 ?_)
   refine Dr k8 [.p 0, .p 1, .p 2, .p 3, .p 4, .p 7, .p 8, .p 9, .p 10, .p 13, .p 14, .p 15, .p 18, .p 19, .p 20, .p 23, .s 5 [2,4,3], .p 6, .s 11 [8,10,9], .p 12, .s 16 [15,14], .p 17, .s 21 [20,19], .p 22, .p 24, .s 25 [0,24,1,6,7,12,13,17,18,22,23]] ?_;refine Kv k8 ?_;repeat'((first|(intro hlq;try simp only[SL] at hlq)|refine Meets.k (a2I _) ?_|refine K9 ?_|((refine Kh (λhb=>?_) λhb=>?_)<;>try simp only[BL] at hb)|refine K8 ?_)<;>refine Kv k8 ?_)
   refine⟨prO (rr (cR c)) 90 xs,_,⟨?_,?_⟩,(a6x c c.legs[i].src hx.src.1 hx.src.2 xs).mono ?_⟩
   . exact Ko
   . exact Ko
   rintro o O2 ⟨rfl,rfl⟩;dsimp only;rw[p9 (p6 _)];refine Kv k8 ?_;repeat'((first|(intro hlq;try simp only[SL] at hlq)|refine Meets.k (a2I _) ?_|refine K9 ?_|((refine Kh (λhb=>?_) λhb=>?_)<;>try simp only[BL] at hb)|refine K8 ?_)<;>refine Kv k8 ?_)
   refine⟨prO (rr (cR c)) 90 xs,_,⟨?_,?_⟩,(a6x c c.legs[i].dst hx.dst.1 hx.dst.2 xs).mono ?_⟩
   . exact Ko
   . exact Ko
   rintro o O2 ⟨rfl,rfl⟩;dsimp only;rw[p9 (p6 _)];refine Kv k8 ?_;repeat'((first|(intro hlq;try simp only[SL] at hlq)|refine Meets.k (a2I _) ?_|refine K9 ?_|((refine Kh (λhb=>?_) λhb=>?_)<;>try simp only[BL] at hb)|refine K8 ?_)<;>refine Kv k8 ?_)
   refine⟨prO (rr (cR c)) 90 xs,_,⟨?_,?_⟩,(B6 (cR c) xs B3 [.s [32,32,108,101,103,32], .s (G1 c.mats c.legs[i].src), .s [32,116,111,32], .s (G1 c.mats c.legs[i].dst), .s [32], .s (timeS c.legs[i].lo), .s [32,46,46,32], .s (timeS c.legs[i].hi), .s [59,10]] hnx (by rw[hB3];simp[r5,Item.text,k9,T5]) (by omega)).mono ?_⟩
   . exact Ko
   . exact Ko
   rintro o O2 ⟨rfl,rfl⟩;dsimp only;rw[p9 (p6 _)];refine Kv k8 ?_;repeat'((first|(intro hlq;try simp only[SL] at hlq)|refine K9 ?_|((refine Kh (λhb=>?_) λhb=>?_)<;>try simp only[BL] at hb)|refine K8 ?_)<;>refine Kv k8 ?_)
   refine⟨⟨(i+1,B3),?_,⟨by omega,by rw[hB3,hst,hxs,n9]⟩,by dsimp only;omega⟩⟩;repeat'(first|exact d9|exact rfl|refine d8 ?_ ?_)
   all_goals exact s6 _ _
 have e:c.legs.take i=c.legs:=y6 (by omega);rw[e] at hxs hLx;clear h1 e hall;have hN2:xs≠[]:=hnx;have hQ2:=hxs;have hM2:xs.length<=20491536:=by omega
 clear hxs hLx hj hnx hB1;rename List UInt8=>P2
 repeat'((first|(intro hlq;try simp only[SL] at hlq)|refine K9 ?_|((refine Kh (λhb=>?_) λhb=>?_)<;>try simp only[BL] at hb)|refine K8 ?_)<;>refine Kv k8 ?_)
 have hall:∀x∈c.distances,((O7 c) x).length<=40003:=λx hx=>mem (by simp only[a0c,A8,v6];exact .inl (.inl (.inl (.inl (.inl (.inr ⟨x,hx,rfl⟩))))));have hB2:=a1g (O7 c) 40003 c.distances hall;refine o4 tok k8 [] (X:=Nat×List UInt8) (λx=>[(103,iB x.1)]) (λx=>prO (rr (cR c)) 90 x.2) [12] (λx=>x.1<=c.distances.length/\x.2=P2++(c.distances.take x.1).flatMap (O7 c)) (λx=>c.distances.length-x.1) (0,P2) ?_;refine Kv k8 ?_;refine d8 ?_ ⟨⟨by omega,by simp⟩,λx hΦ=>?_⟩
 . repeat'(first|exact d9|exact rfl|refine d8 ?_ ?_)
   all_goals exact s6 _ _
 obtain⟨i,xs⟩:=x;obtain⟨hi,hxs⟩:=hΦ;dsimp only at hi hxs;have hLx:=d6 List.length hxs;simp only[j6] at hLx;have hj:=a3G (O7 c) c.distances i;have hnx:xs≠[]:=by rw[hxs];simp[hN2]
 refine Kv k8 ?_;refine⟨λh1=>?_,λh1=>?_⟩<;>(try simp only[BL] at h1)<;>refine Kv k8 ?_
 . have h1':i<c.distances.length:=by omega
   have hst:=a3F (O7 c) h1';have hm:=q7 h1';obtain⟨B3,hB3⟩:∃B3,B3=xs++(O7 c) c.distances[i]:=⟨_,rfl⟩
   have hb3:((O7 c) c.distances[i]).length<=40003:=hall _ hm;have hL3:B3.length=xs.length+((O7 c) c.distances[i]).length:=by rw[hB3,j6]
   have hx:=dok hg hm;repeat'((first|(intro hlq;try simp only[SL] at hlq)|refine K9 ?_|refine Ka ?_|refine Kb ?_|refine Kc (hd:=rfl) (e:=?_)|refine Kc (hd:=Distance.cells_eq _) (e:=?_)|refine Kd (e:=?_)|refine Kl rfl ?_|fail)<;>refine Kv k8 ?_)
   refine⟨prO (rr (cR c)) 90 xs,_,⟨?_,?_⟩,(d0c c hg c.distances[i] hx xs hnx (by omega)).mono ?_⟩
   . exact Ko
   . exact Ko
   rintro o O2 ⟨rfl,rfl⟩;dsimp only;rw[p9 (p6 _)];refine Kv k8 ?_;rw[<-hB3];repeat'((first|(intro hlq;try simp only[SL] at hlq)|refine K9 ?_|((refine Kh (λhb=>?_) λhb=>?_)<;>try simp only[BL] at hb)|refine K8 ?_)<;>refine Kv k8 ?_)
   refine⟨⟨(i+1,B3),?_,⟨by omega,by rw[hB3,hst,hxs,n9]⟩,by dsimp only;omega⟩⟩;repeat'(first|exact d9|exact rfl|refine d8 ?_ ?_)
   all_goals exact s6 _ _
 have e:c.distances.take i=c.distances:=y6 (by omega);rw[e] at hxs hLx;clear h1 e hall;have hN3:xs≠[]:=hnx;have hQ3:=hxs;have hM3:xs.length<=20811560:=by omega
 clear hxs hLx hj hnx hB2;rename List UInt8=>P3
 repeat'((first|(intro hlq;try simp only[SL] at hlq)|refine K9 ?_|((refine Kh (λhb=>?_) λhb=>?_)<;>try simp only[BL] at hb)|refine K8 ?_)<;>refine Kv k8 ?_)
 have hall:∀x∈c.waves,((λx=>k9 (U1 x)) x).length<=40003:=λx hx=>mem (by simp only[a0c,A8,v6];exact .inl (.inl (.inl (.inl (.inr ⟨x,hx,rfl⟩)))));have hB3:=a1g (λx=>k9 (U1 x)) 40003 c.waves hall;refine o4 tok k8 [] (X:=Nat×List UInt8) (λx=>[(114,iB x.1)]) (λx=>prO (rr (cR c)) 90 x.2) [14] (λx=>x.1<=c.waves.length/\x.2=P3++(c.waves.take x.1).flatMap (λx=>k9 (U1 x))) (λx=>c.waves.length-x.1) (0,P3) ?_;refine Kv k8 ?_;refine d8 ?_ ⟨⟨by omega,by simp⟩,λx hΦ=>?_⟩
 . repeat'(first|exact d9|exact rfl|refine d8 ?_ ?_)
   all_goals exact s6 _ _
 obtain⟨i,xs⟩:=x;obtain⟨hi,hxs⟩:=hΦ;dsimp only at hi hxs;have hLx:=d6 List.length hxs;simp only[j6] at hLx;have hj:=a3G (λx=>k9 (U1 x)) c.waves i;have hnx:xs≠[]:=by rw[hxs];simp[hN3]
 refine Kv k8 ?_;refine⟨λh1=>?_,λh1=>?_⟩<;>(try simp only[BL] at h1)<;>refine Kv k8 ?_
 . have h1':i<c.waves.length:=by omega
   have hst:=a3F (λx=>k9 (U1 x)) h1';have hm:=q7 h1';obtain⟨B3,hB3⟩:∃B3,B3=xs++(λx=>k9 (U1 x)) c.waves[i]:=⟨_,rfl⟩
   have hb3:((λx=>k9 (U1 x)) c.waves[i]).length<=40003:=hall _ hm;have hL3:B3.length=xs.length+((λx=>k9 (U1 x)) c.waves[i]).length:=by rw[hB3,j6]
   repeat'((first|(intro hlq;try simp only[SL] at hlq)|refine K9 ?_|refine Ka ?_|refine Kb ?_|refine Kc (hd:=rfl) (e:=?_)|refine Kc (hd:=Wave.cells_eq _) (e:=?_)|refine Kd (e:=?_)|refine Kl rfl ?_|fail)<;>refine Kv k8 ?_)
   refine Dr k8 [.p 0, .p 1, .p 2, .p 3, .p 4, .p 5, .p 6, .p 7, .p 10, .s 8 [7,6], .p 9, .p 11, .s 12 [0,11,1,4,5,9,10,3,2]] ?_;refine Kv k8 ?_;repeat'((first|(intro hlq;try simp only[SL] at hlq)|refine Meets.k (a2I _) ?_|refine K9 ?_|((refine Kh (λhb=>?_) λhb=>?_)<;>try simp only[BL] at hb)|refine K8 ?_)<;>refine Kv k8 ?_)
   refine⟨prO (rr (cR c)) 90 xs,_,⟨?_,?_⟩,(B6 (cR c) xs B3 [.s [32,32,119,97,118,101,32], .s c.waves[i].name, .s [32], .s (timeS c.waves[i].gun), .s [59,10]] hnx (by rw[hB3];simp[r5,Item.text,k9,U1]) (by omega)).mono ?_⟩
   . exact Ko
   . exact Ko
   rintro o O2 ⟨rfl,rfl⟩;dsimp only;rw[p9 (p6 _)];refine Kv k8 ?_;repeat'((first|(intro hlq;try simp only[SL] at hlq)|refine K9 ?_|((refine Kh (λhb=>?_) λhb=>?_)<;>try simp only[BL] at hb)|refine K8 ?_)<;>refine Kv k8 ?_)
   refine⟨⟨(i+1,B3),?_,⟨by omega,by rw[hB3,hst,hxs,n9]⟩,by dsimp only;omega⟩⟩;repeat'(first|exact d9|exact rfl|refine d8 ?_ ?_)
   all_goals exact s6 _ _
 have e:c.waves.take i=c.waves:=y6 (by omega);rw[e] at hxs hLx;clear h1 e hall;have hN4:xs≠[]:=hnx;have hQ4:=hxs;have hM4:xs.length<=22091656:=by omega
 clear hxs hLx hj hnx hB3;rename List UInt8=>P4
 repeat'((first|(intro hlq;try simp only[SL] at hlq)|refine K9 ?_|((refine Kh (λhb=>?_) λhb=>?_)<;>try simp only[BL] at hb)|refine K8 ?_)<;>refine Kv k8 ?_)
 have hall:∀x∈c.offences,((λx=>k9 (T7 x)) x).length<=40003:=λx hx=>mem (by simp only[a0c,A8,v6];exact .inl (.inl (.inl (.inr ⟨x,hx,rfl⟩))));have hB4:=a1g (λx=>k9 (T7 x)) 40003 c.offences hall;refine o4 tok k8 [] (X:=Nat×List UInt8) (λx=>[(135,iB x.1)]) (λx=>prO (rr (cR c)) 90 x.2) [16] (λx=>x.1<=c.offences.length/\x.2=P4++(c.offences.take x.1).flatMap (λx=>k9 (T7 x))) (λx=>c.offences.length-x.1) (0,P4) ?_;refine Kv k8 ?_;refine d8 ?_ ⟨⟨by omega,by simp⟩,λx hΦ=>?_⟩
 . repeat'(first|exact d9|exact rfl|refine d8 ?_ ?_)
   all_goals exact s6 _ _
 obtain⟨i,xs⟩:=x;obtain⟨hi,hxs⟩:=hΦ;dsimp only at hi hxs;have hLx:=d6 List.length hxs;simp only[j6] at hLx;have hj:=a3G (λx=>k9 (T7 x)) c.offences i;have hnx:xs≠[]:=by rw[hxs];simp[hN4]
 refine Kv k8 ?_;refine⟨λh1=>?_,λh1=>?_⟩<;>(try simp only[BL] at h1)<;>refine Kv k8 ?_
 . have h1':i<c.offences.length:=by omega
   have hst:=a3F (λx=>k9 (T7 x)) h1';have hm:=q7 h1';obtain⟨B3,hB3⟩:∃B3,B3=xs++(λx=>k9 (T7 x)) c.offences[i]:=⟨_,rfl⟩
   have hb3:((λx=>k9 (T7 x)) c.offences[i]).length<=40003:=hall _ hm;have hL3:B3.length=xs.length+((λx=>k9 (T7 x)) c.offences[i]).length:=by rw[hB3,j6]
   have hx:=hg.nums.offences _ hm;repeat'((first|(intro hlq;try simp only[SL] at hlq)|refine K9 ?_|refine Ka ?_|refine Kb ?_|refine Kc (hd:=rfl) (e:=?_)|refine Kc (hd:=Offence.cells_eq _) (e:=?_)|refine Kd (e:=?_)|refine Kl rfl ?_|fail)<;>refine Kv k8 ?_)
   refine Dr k8 [.p 0, .p 1, .p 2, .p 3, .p 4, .p 5, .p 6, .p 9, .s 7 [6], .p 8, .p 10, .s 11 [0,10,1,4,5,8,9,3,2]] ?_;refine Kv k8 ?_;repeat'((first|(intro hlq;try simp only[SL] at hlq)|refine Meets.k (d0f _ hx) ?_|refine K9 ?_|((refine Kh (λhb=>?_) λhb=>?_)<;>try simp only[BL] at hb)|refine K8 ?_)<;>refine Kv k8 ?_)
   refine⟨prO (rr (cR c)) 90 xs,_,⟨?_,?_⟩,(B6 (cR c) xs B3 [.s [32,32,111,102,102,101,110,99,101,32], .s c.offences[i].name, .s [32], .s (a4X c.offences[i]), .s [59,10]] hnx (by rw[hB3];simp[r5,Item.text,k9,T7]) (by omega)).mono ?_⟩
   . exact Ko
   . exact Ko
   rintro o O2 ⟨rfl,rfl⟩;dsimp only;rw[p9 (p6 _)];refine Kv k8 ?_;repeat'((first|(intro hlq;try simp only[SL] at hlq)|refine K9 ?_|((refine Kh (λhb=>?_) λhb=>?_)<;>try simp only[BL] at hb)|refine K8 ?_)<;>refine Kv k8 ?_)
   refine⟨⟨(i+1,B3),?_,⟨by omega,by rw[hB3,hst,hxs,n9]⟩,by dsimp only;omega⟩⟩;repeat'(first|exact d9|exact rfl|refine d8 ?_ ?_)
   all_goals exact s6 _ _
 have e:c.offences.take i=c.offences:=y6 (by omega);rw[e] at hxs hLx;clear h1 e hall;have hN5:xs≠[]:=hnx;have hQ5:=hxs;have hM5:xs.length<=23371752:=by omega
 clear hxs hLx hj hnx hB4;rename List UInt8=>P5
 repeat'((first|(intro hlq;try simp only[SL] at hlq)|refine K9 ?_|((refine Kh (λhb=>?_) λhb=>?_)<;>try simp only[BL] at hb)|refine K8 ?_)<;>refine Kv k8 ?_)
 have hall:∀x∈c.categories,((λx=>k9 (T1 x)) x).length<=40003:=λx hx=>mem (by simp only[a0c,A8,v6];exact .inl (.inl (.inr ⟨x,hx,rfl⟩)));have hB5:=a1g (λx=>k9 (T1 x)) 40003 c.categories hall;refine o4 tok k8 [] (X:=Nat×List UInt8) (λx=>[(155,iB x.1)]) (λx=>prO (rr (cR c)) 90 x.2) [18] (λx=>x.1<=c.categories.length/\x.2=P5++(c.categories.take x.1).flatMap (λx=>k9 (T1 x))) (λx=>c.categories.length-x.1) (0,P5) ?_;refine Kv k8 ?_;refine d8 ?_ ⟨⟨by omega,by simp⟩,λx hΦ=>?_⟩
 . repeat'(first|exact d9|exact rfl|refine d8 ?_ ?_)
   all_goals exact s6 _ _
 obtain⟨i,xs⟩:=x;obtain⟨hi,hxs⟩:=hΦ;dsimp only at hi hxs;have hLx:=d6 List.length hxs;simp only[j6] at hLx;have hj:=a3G (λx=>k9 (T1 x)) c.categories i;have hnx:xs≠[]:=by rw[hxs];simp[hN5]
 refine Kv k8 ?_;refine⟨λh1=>?_,λh1=>?_⟩<;>(try simp only[BL] at h1)<;>refine Kv k8 ?_
 . have h1':i<c.categories.length:=by omega
   have hst:=a3F (λx=>k9 (T1 x)) h1';have hm:=q7 h1';obtain⟨B3,hB3⟩:∃B3,B3=xs++(λx=>k9 (T1 x)) c.categories[i]:=⟨_,rfl⟩
   have hb3:((λx=>k9 (T1 x)) c.categories[i]).length<=40003:=hall _ hm;have hL3:B3.length=xs.length+((λx=>k9 (T1 x)) c.categories[i]).length:=by rw[hB3,j6]
   repeat'((first|(intro hlq;try simp only[SL] at hlq)|refine K9 ?_|refine Ka ?_|refine Kb ?_|refine Kc (hd:=rfl) (e:=?_)|refine Kc (hd:=Category.cells_eq _) (e:=?_)|refine Kd (e:=?_)|refine Kl rfl ?_|fail)<;>refine Kv k8 ?_)
   repeat'((first|(intro hlq;try simp only[SL] at hlq)|refine K9 ?_|((refine Kh (λhb=>?_) λhb=>?_)<;>try simp only[BL] at hb)|refine K8 ?_)<;>refine Kv k8 ?_)
   refine⟨prO (rr (cR c)) 90 xs,_,⟨?_,?_⟩,(B6 (cR c) xs B3 [.s [32,32,99,97,116,101,103,111,114,121,32], .s c.categories[i].name, .s [32], .i c.categories[i].lo, .s [32,116,111,32], .i c.categories[i].hi, .s [59,10]] hnx (by rw[hB3];simp[r5,Item.text,k9,T1]) (by omega)).mono ?_⟩
   . exact Ko
   . exact Ko
   rintro o O2 ⟨rfl,rfl⟩;dsimp only;rw[p9 (p6 _)];refine Kv k8 ?_;repeat'((first|(intro hlq;try simp only[SL] at hlq)|refine K9 ?_|((refine Kh (λhb=>?_) λhb=>?_)<;>try simp only[BL] at hb)|refine K8 ?_)<;>refine Kv k8 ?_)
   refine⟨⟨(i+1,B3),?_,⟨by omega,by rw[hB3,hst,hxs,n9]⟩,by dsimp only;omega⟩⟩;repeat'(first|exact d9|exact rfl|refine d8 ?_ ?_)
   all_goals exact s6 _ _
 have e:c.categories.take i=c.categories:=y6 (by omega);rw[e] at hxs hLx;clear h1 e hall;have hN6:xs≠[]:=hnx;have hQ6:=hxs;have hM6:xs.length<=24651848:=by omega
 clear hxs hLx hj hnx hB5;rename List UInt8=>P6
 repeat'((first|(intro hlq;try simp only[SL] at hlq)|refine K9 ?_|((refine Kh (λhb=>?_) λhb=>?_)<;>try simp only[BL] at hb)|refine K8 ?_)<;>refine Kv k8 ?_)
 have hall:∀x∈c.prizes,((λx=>k9 (S5 c x)) x).length<=40003:=λx hx=>mem (by simp only[a0c,A8,v6];exact .inl (.inr ⟨x,hx,rfl⟩));have hB6:=a1g (λx=>k9 (S5 c x)) 40003 c.prizes hall;refine o4 tok k8 [] (X:=Nat×List UInt8) (λx=>[(179,iB x.1)]) (λx=>prO (rr (cR c)) 90 x.2) [20] (λx=>x.1<=c.prizes.length/\x.2=P6++(c.prizes.take x.1).flatMap (λx=>k9 (S5 c x))) (λx=>c.prizes.length-x.1) (0,P6) ?_;refine Kv k8 ?_;refine d8 ?_ ⟨⟨by omega,by simp⟩,λx hΦ=>?_⟩
 . repeat'(first|exact d9|exact rfl|refine d8 ?_ ?_)
   all_goals exact s6 _ _
 obtain⟨i,xs⟩:=x;obtain⟨hi,hxs⟩:=hΦ;dsimp only at hi hxs;have hLx:=d6 List.length hxs;simp only[j6] at hLx;have hj:=a3G (λx=>k9 (S5 c x)) c.prizes i;have hnx:xs≠[]:=by rw[hxs];simp[hN6]
 refine Kv k8 ?_;refine⟨λh1=>?_,λh1=>?_⟩<;>(try simp only[BL] at h1)<;>refine Kv k8 ?_
 . have h1':i<c.prizes.length:=by omega
   have hst:=a3F (λx=>k9 (S5 c x)) h1';have hm:=q7 h1';obtain⟨B3,hB3⟩:∃B3,B3=xs++(λx=>k9 (S5 c x)) c.prizes[i]:=⟨_,rfl⟩
   have hb3:((λx=>k9 (S5 c x)) c.prizes[i]).length<=40003:=hall _ hm;have hL3:B3.length=xs.length+((λx=>k9 (S5 c x)) c.prizes[i]).length:=by rw[hB3,j6]
   have hx:=b9C hg hm;obtain⟨a1,a2,a3,a4,hdist⟩:=c5x hx.distance.1 hx.distance.2;have hd0:=hx.distance.1;repeat'((first|(intro hlq;try simp only[SL] at hlq)|refine K9 ?_|refine Ka ?_|refine Kb ?_|refine Kc (hd:=rfl) (e:=?_)|refine Kc (hd:=Prize.cells_eq _) (e:=?_)|refine Kd (e:=?_)|refine Kl rfl ?_|fail)<;>refine Kv k8 ?_)
   refine⟨λh6=>?_,λh6=>?_⟩<;>(try simp only[BL] at h6)<;>refine Kv k8 ?_
   . obtain⟨a',b',hcat⟩:=c3Z h6 hx.category.2;repeat'((first|(intro hlq;try simp only[SL] at hlq)|refine⟨_,⟨h6,hcat,rfl⟩,?_⟩|refine K9 ?_|((refine Kh (λhb=>?_) λhb=>?_)<;>try simp only[BL] at hb)|refine K8 ?_)<;>refine Kv k8 ?_)
     refine Dr k8 [.p 0, .p 1, .p 2, .p 3, .p 4, .p 5, .p 6, .p 7, .p 8, .p 9, .p 10, .p 11, .p 12, .p 13, .p 14, .p 15, .p 16, .p 17, .p 18, .p 19, .p 20, .p 21, .p 22, .s 23 [0,22,1,9,10,12,13,16,17,20,21,8,11,15,19,7,14,18,6,3,5,2,4]] ?_;refine Kv k8 ?_;repeat'((first|(intro hlq;try simp only[SL] at hlq)|refine⟨_,⟨hd0,hdist,rfl⟩,?_⟩|refine K9 ?_|((refine Kh (λhb=>?_) λhb=>?_)<;>try simp only[BL] at hb)|refine K8 ?_)<;>refine Kv k8 ?_)
     refine⟨prO (rr (cR c)) 90 xs,_,⟨?_,?_⟩,(B6 (cR c) xs B3 [.s [32,32,112,114,105,122,101,32], .s (a2x c c.prizes[i].distance), .s [32], .s (a2e c c.prizes[i].category), .s [32], .i c.prizes[i].rank, .s [32], .i c.prizes[i].amount, .s [59,10]] hnx (by rw[hB3];simp[r5,Item.text,k9,S5]) (by omega)).mono ?_⟩
     . exact Ko
     . exact Ko
     rintro o O2 ⟨rfl,rfl⟩;dsimp only;rw[p9 (p6 _)];refine Kv k8 ?_;repeat'((first|(intro hlq;try simp only[SL] at hlq)|refine K9 ?_|((refine Kh (λhb=>?_) λhb=>?_)<;>try simp only[BL] at hb)|refine K8 ?_)<;>refine Kv k8 ?_)
     refine⟨⟨(i+1,B3),?_,⟨by omega,by rw[hB3,hst,hxs,n9]⟩,by dsimp only;omega⟩⟩;repeat'(first|exact d9|exact rfl|refine d8 ?_ ?_)
     all_goals exact s6 _ _
   have e6:a2e c c.prizes[i].category=[97,108,108]:=by rw[a2e,c8 h6]
   refine Dr k8 [.p 0, .p 1, .p 2, .p 3, .p 4, .p 5, .p 6, .p 7, .p 8, .p 9, .p 10, .p 11, .p 12, .p 13, .p 14, .p 15, .p 16, .p 17, .p 18, .p 19, .p 20, .p 21, .p 22, .s 23 [0,22,1,9,10,12,13,16,17,20,21,8,11,15,19,7,14,18,6,3,5,2,4]] ?_;refine Kv k8 ?_;repeat'((first|(intro hlq;try simp only[SL] at hlq)|refine⟨_,⟨hd0,hdist,rfl⟩,?_⟩|refine K9 ?_|((refine Kh (λhb=>?_) λhb=>?_)<;>try simp only[BL] at hb)|refine K8 ?_)<;>refine Kv k8 ?_)
   refine⟨prO (rr (cR c)) 90 xs,_,⟨?_,?_⟩,(B6 (cR c) xs B3 [.s [32,32,112,114,105,122,101,32], .s (a2x c c.prizes[i].distance), .s [32], .s [97,108,108], .s [32], .i c.prizes[i].rank, .s [32], .i c.prizes[i].amount, .s [59,10]] hnx (by rw[hB3];simp[r5,Item.text,k9,S5,e6]) (by omega)).mono ?_⟩
   . exact Ko
   . exact Ko
   rintro o O2 ⟨rfl,rfl⟩;dsimp only;rw[p9 (p6 _)];refine Kv k8 ?_;repeat'((first|(intro hlq;try simp only[SL] at hlq)|refine K9 ?_|((refine Kh (λhb=>?_) λhb=>?_)<;>try simp only[BL] at hb)|refine K8 ?_)<;>refine Kv k8 ?_)
   refine⟨⟨(i+1,B3),?_,⟨by omega,by rw[hB3,hst,hxs,n9]⟩,by dsimp only;omega⟩⟩;repeat'(first|exact d9|exact rfl|refine d8 ?_ ?_)
   all_goals exact s6 _ _
 have e:c.prizes.take i=c.prizes:=y6 (by omega);rw[e] at hxs hLx;clear h1 e hall;have hN7:xs≠[]:=hnx;have hQ7:=hxs;have hM7:xs.length<=25931944:=by omega
 clear hxs hLx hj hnx hB6;rename List UInt8=>P7
 have hT:=b4n hg.steps;have hnst:=hg.nst;have hncd:=hg.ncd;obtain⟨P8,hP8⟩:∃P,P=P7++[32,32,116,105,101,115,32,123,32]:=⟨_,rfl⟩
 have hL8:=d6 List.length hP8;simp only[j6,i7,j8] at hL8;have hN8:P8≠[]:=by rw[hP8];simp
 repeat'((first|(intro hlq;try simp only[SL] at hlq)|refine K9 ?_|((refine Kh (λhb=>?_) λhb=>?_)<;>try simp only[BL] at hb)|refine K8 ?_)<;>refine Kv k8 ?_)
 refine⟨prO (rr (cR c)) 90 P7,_,⟨?_,?_⟩,(B6 (cR c) P7 P8 [.s [32,32,116,105,101,115,32,123,32]] hN7 (by rw[hP8];simp[r5,Item.text]) (by omega)).mono ?_⟩
 . exact Ko
 . exact Ko
 rintro o O2 ⟨rfl,rfl⟩;dsimp only;rw[p9 (p6 _)];refine Kv k8 ?_;repeat'((first|(intro hlq;try simp only[SL] at hlq)|refine K9 ?_|((refine Kh (λhb=>?_) λhb=>?_)<;>try simp only[BL] at hb)|refine K8 ?_)<;>refine Kv k8 ?_)
 refine⟨prO (rr (cR c)) 90 P8,_,⟨?_,?_⟩,(a2S (cR c) c.ties P8 hN8 hg.steps hs.ties.2 (by omega) (by omega)).mono ?_⟩
 . exact Ko
 . exact Ko
 rintro o O2 ⟨rfl,rfl⟩;dsimp only;rw[p9 (p6 _)];refine Kv k8 ?_;obtain⟨P9,hP9⟩:∃P,P=P8++s7 c.ties:=⟨_,rfl⟩
 have hL9:=d6 List.length hP9;simp only[j6] at hL9;have hN9:P9≠[]:=by rw[hP9];simp[hN8]
 rw[<-hP9];have g1:=hF.misses;have g2:=hF.strays;have g3:=hF.drift;have g4:=hF.fee;have f1:=I7 c.faults.misses (by omega) (by omega);have f2:=I7 c.faults.strays (by omega) (by omega);have f3:=I7 c.faults.drift (by omega) (by omega);have f4:=I7 c.fee (by omega) (by omega);have f5:=a1w c.faults.window;have f6:=a1w c.faults.residual;have f7:=a1w c.deadline;obtain⟨P10,hP10⟩:∃P,P=P9++(([32,125,10,32,32,102,97,117,108,116,115,32,123,32,109,105,115,115,101,115,32]:List UInt8)++Lib.itoa c.faults.misses++[59,32,115,116,114,97,121,115,32]++Lib.itoa c.faults.strays++[59,32,119,105,110,100,111,119,32]++timeS c.faults.window++[59,32,114,101,115,105,100,117,97,108,32]++timeS c.faults.residual++[59,32,100,114,105,102,116,32]++Lib.itoa c.faults.drift++[59,32,125,10]):=⟨_,rfl⟩
 have hL10:=d6 List.length hP10;simp only[j6,i7,j8] at hL10;have hN10:P10≠[]:=by rw[hP10];simp
 obtain⟨P11,hP11⟩:∃P,P=P10++(([32,32,112,114,111,116,101,115,116,32,102,101,101,32]:List UInt8)++Lib.itoa c.fee++[32,100,101,97,100,108,105,110,101,32]++timeS c.deadline++[59,10,125,10]):=⟨_,rfl⟩
 have hL11:=d6 List.length hP11;simp only[j6,i7,j8] at hL11;have hN11:P11≠[]:=by rw[hP11];simp
 have hC:P11=O5 c:=by
  rw[hparts,hP11,hP10,hP9,hP8,hQ7,hQ6,hQ5,hQ4,hQ3,hQ2,hQ1];simp[k9,a3V,a4F,a4G]
 repeat'((first|(intro hlq;try simp only[SL] at hlq)|refine K9 ?_|((refine Kh (λhb=>?_) λhb=>?_)<;>try simp only[BL] at hb)|refine K8 ?_)<;>refine Kv k8 ?_)
 refine Dr k8 [.p 0, .p 1, .p 2, .p 3, .p 4, .p 5, .p 6, .p 7, .p 8, .p 9, .p 10, .p 11, .p 14, .p 15, .p 16, .p 19, .p 20, .p 21, .p 22, .p 23, .s 12 [11,10], .p 13, .s 17 [16,15], .p 18, .p 24, .s 25 [0,24,1,4,5,8,9,13,14,18,19,22,23,3,7,21,2,6,20]] ?_;refine Kv k8 ?_;repeat'((first|(intro hlq;try simp only[SL] at hlq)|refine Meets.k (a2I _) ?_|refine K9 ?_|((refine Kh (λhb=>?_) λhb=>?_)<;>try simp only[BL] at hb)|refine K8 ?_)<;>refine Kv k8 ?_)
 refine⟨prO (rr (cR c)) 90 P9,_,⟨?_,?_⟩,(B6 (cR c) P9 P10 [.s [32,125,10,32,32,102,97,117,108,116,115,32,123,32,109,105,115,115,101,115,32], .i c.faults.misses, .s [59,32,115,116,114,97,121,115,32], .i c.faults.strays, .s [59,32,119,105,110,100,111,119,32], .s (timeS c.faults.window), .s [59,32,114,101,115,105,100,117,97,108,32], .s (timeS c.faults.residual), .s [59,32,100,114,105,102,116,32], .i c.faults.drift, .s [59,32,125,10]] hN9 (by rw[hP10];simp[r5,Item.text]) (by omega)).mono ?_⟩
 . exact Ko
 . exact Ko
 rintro o O2 ⟨rfl,rfl⟩;dsimp only;rw[p9 (p6 _)];refine Kv k8 ?_;repeat'((first|(intro hlq;try simp only[SL] at hlq)|refine K9 ?_|((refine Kh (λhb=>?_) λhb=>?_)<;>try simp only[BL] at hb)|refine K8 ?_)<;>refine Kv k8 ?_)
 refine Dr k8 [.p 0, .p 1, .p 2, .p 3, .p 4, .p 5, .p 6, .p 7, .p 10, .s 8 [7,6], .p 9, .p 11, .s 12 [0,11,1,4,5,9,10,3,2]] ?_;refine Kv k8 ?_;repeat'((first|(intro hlq;try simp only[SL] at hlq)|refine Meets.k (a2I _) ?_|refine K9 ?_|((refine Kh (λhb=>?_) λhb=>?_)<;>try simp only[BL] at hb)|refine K8 ?_)<;>refine Kv k8 ?_)
 refine⟨prO (rr (cR c)) 90 P10,_,⟨?_,?_⟩,(B6 (cR c) P10 P11 [.s [32,32,112,114,111,116,101,115,116,32,102,101,101,32], .i c.fee, .s [32,100,101,97,100,108,105,110,101,32], .s (timeS c.deadline), .s [59,10,125,10]] hN10 (by rw[hP11];simp[r5,Item.text]) (by omega)).mono ?_⟩
 . exact Ko
 . exact Ko
 rintro o O2 ⟨rfl,rfl⟩;dsimp only;rw[p9 (p6 _)];refine Kv k8 ?_;repeat'((first|(intro hlq;try simp only[SL] at hlq)|refine K9 ?_|((refine Kh (λhb=>?_) λhb=>?_)<;>try simp only[BL] at hb)|refine K8 ?_)<;>refine Kv k8 ?_)
 refine⟨prO (rr (cR c)) 90 P11,_,⟨?_,?_⟩,(c8W (.loc 1000 0) P11).mono ?_⟩
 . exact Ko
 . exact Ko
 rintro o O2 ⟨rfl,rfl⟩;dsimp only;rw[p9 (p6 _)];refine Kv k8 ?_;rw[hC] at hL11 hN11⊢;repeat'((first|(intro hlq;try simp only[SL] at hlq)|refine K9 ?_|((refine Kh (λhb=>?_) λhb=>?_)<;>try simp only[BL] at hb)|refine K8 ?_)<;>refine Kv k8 ?_)
 . refine⟨?_⟩;rw[U9,L3,c8 (λe=>by omega),d4 he,c8 (by omega)];rfl
 refine⟨prO (rr (cR c)) 90 (O5 c),_,⟨?_,?_⟩,(b8K 1000 1001 (by decide) (.loc 1000 0) (O5 c) hN11 (by unfold maxLen;omega)).mono ?_⟩
 . exact Kr
 . repeat'(first|exact d9|exact rfl|refine d8 ?_ ?_)
   all_goals exact s6 _ _
 rintro o O2 ⟨rfl,rfl⟩;dsimp only;rw[b6v];refine Kv k8 ?_;refine⟨?_⟩;rw[U9,L3,d4 ⟨he,by omega⟩,d4 he,d4 (by omega)]
end Go.Proofs.YteillnfhkeebjaaGreatDoor.Dx
