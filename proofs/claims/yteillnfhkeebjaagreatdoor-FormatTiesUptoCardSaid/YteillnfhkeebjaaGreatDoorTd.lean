/- format.Course. -/
import Derived.Test.YteillnfhkeebjaaGreatDoorTc
set_option linter.all false
namespace Go.Proofs.YteillnfhkeebjaaGreatDoor.Dx
open Go Go.RowKit Go.Proofs
set_option maxRecDepth 100000
set_option maxHeartbeats 32000000
theorem b9W {cs:List Base}{b:Int}{o:Nat}(h:1<=b/\b<=3)(ho:o=0+b.toNat *1)(hc:cs=[.d (.str []), .d (.str [115,116,97,114,116]), .d (.str [112,97,115,115]), .d (.str [101,110,100])]):cs[o]?=some (.d (.str (a2m b))):=by
 subst ho hc
 rcases(by omega:b=1\/b=2\/b=3) with rfl|rfl|rfl<;>rfl
theorem b6R (c:Course):T1 c=[99,111,117,114,115,101,32]++c.name++[32,123,10]++f9 (a2n c)++c.legs.flatMap (λx=>f9 (H9 c x))++c.distances.flatMap (A3 c)++c.waves.flatMap (λx=>f9 (I9 x))++c.offences.flatMap (λx=>f9 (I3 x))++
 c.categories.flatMap (λx=>f9 (H0 x))++c.prizes.flatMap (λx=>f9 (G3 c x))++f9 (a4W c)++f9 (a3L c.faults)++f9 (a3M c)++[125,10]:=by
 have e:A3 c=λx=>f9 (a0A c x):=rfl
 simp only[T1,K2,List.flatMap_append,List.flatMap_cons,List.flatMap_nil,List.flatMap_map,e,List.append_assoc,List.append_nil,List.nil_append]
theorem b9G {s:List UInt8}(h:s.length<=40000):(f9 s).length<=40003:=by
 simp only[f9,List.length_append,List.length_cons,List.length_nil];omega
abbrev b9:Cfg:={nm:=[(30,1000)],priv:=[29],sym:=[6],rs:=[38,60,65,78,84,98,109,130,150,174,216,221,225,253,266,270,275]}
theorem b4C (c:Course)(hs:c.small):Meets Tryz.prog 7 [c.d] λd=>d= .tup [.sl (byteCells (a1I c)),iD (a1J c)]:=by
 refine enter tok b9 Tryz.func7 rfl (by kernel_rfl) Tryz.ntmps7 (by simp) λB0 W0 V0 lent g0=>?_
 refine Kv b9 ?_
 repeat'((first|(intro hlq;try simp only[SL] at hlq)|refine Meets.k (b4A c hs) ?_|refine K9 ?_|((refine Kh (λhb=>?_) λhb=>?_)<;>try simp only[BL] at hb)|refine K8 ?_)<;>refine Kv b9 ?_)
 . refine⟨?_⟩
   rw[a1I,a1J,if_neg (λe=>(by assumption:E1 c≠0) e.1),if_neg (by assumption)]
   rfl
 have he:E1 c=0:=by omega
 have hg:=b8v hs he
 have hll:=b9H hg
 have hl:=lens hg.fits
 have hF:=fok hg
 have hnm:=hg.name
 have hparts:=b6R c
 have mem:∀{s},s∈K2 c->(f9 s).length<=40003:=λh=>b9G (hll _ h)
 obtain⟨P0,hP0⟩:∃P,P=([99,111,117,114,115,101,32]:List UInt8)++c.name++[32,123,10,32,32,109,97,116,115,32,123]:=⟨_,rfl⟩
 have hL0:=congrArg List.length hP0
 simp only[List.length_append,List.length_cons,List.length_nil] at hL0
 have hN0:P0≠[]:=by rw[hP0];simp
 refine⟨prN (rr (cR c)) 90,_,⟨?_,?_⟩,(a7m (cR c) P0 [99,111,117,114,115,101,32] (by simp) [.s c.name, .s [32,123,10,32,32,109,97,116,115,32,123]] (by rw[hP0];simp[f0,Item.text]) (by omega)).mono ?_⟩
 . exact Kr
 . repeat'(first|exact True.intro|exact rfl|refine And.intro ?_ ?_)
   all_goals exact g6 _ _
 rintro o O2 ⟨rfl,rfl⟩
 dsimp only
 rw[d8 (d7 _)]
 refine Kv b9 ?_
 refine⟨by simp,?_⟩
 refine Kv b9 ?_
 intro hq0
 refine Kv b9 ?_
 have hall:∀x∈c.mats,(F9 x).length<=40:=λm hm=>b1O (hg.mats m hm)
 have hB0:=J7 F9 40 c.mats hall
 refine d4 tok b9 [] (X:=Nat×List UInt8) (λx=>[(43,iB x.1)]) (λx=>prO (rr (cR c)) 90 x.2) [8] (λx=>x.1<=c.mats.length/\x.2=P0++(c.mats.take x.1).flatMap F9) (λx=>c.mats.length-x.1) (0,P0) ?_
 refine Kv b9 ?_
 refine And.intro ?_ ⟨⟨by omega,by simp⟩,λx hΦ=>?_⟩
 . repeat'(first|exact True.intro|exact rfl|refine And.intro ?_ ?_)
   all_goals exact g6 _ _
 obtain⟨i,xs⟩:=x
 obtain⟨hi,hxs⟩:=hΦ
 dsimp only at hi hxs
 have hLx:=congrArg List.length hxs
 simp only[List.length_append] at hLx
 have hj:=T4 F9 c.mats i
 have hnx:xs≠[]:=by rw[hxs];simp[hN0]
 refine Kv b9 ?_
 refine⟨λh1=>?_,λh1=>?_⟩<;>(try simp only[BL] at h1)<;>refine Kv b9 ?_
 . have h1':i<c.mats.length:=by omega
   have hst:=T3 F9 h1'
   have hm:=List.getElem_mem h1'
   obtain⟨B3,hB3⟩:∃B3,B3=xs++F9 c.mats[i]:=⟨_,rfl⟩
   have hb3:(F9 c.mats[i]).length<=40:=hall _ hm
   have hL3:B3.length=xs.length+(F9 c.mats[i]).length:=by rw[hB3,List.length_append]
   have hk:=hg.nums.mats _ hm
   simp only[Mat.good,inR,Bool.and_eq_true,decide_eq_true_eq] at hk
   repeat'((first|(intro hlq;try simp only[SL] at hlq)|refine K9 ?_|refine Ka ?_|refine Kb ?_|refine Kc (hd:=rfl) (e:=?_)|refine Kc (hd:=Mat.cells_eq _) (e:=?_)|refine Kd (e:=?_)|refine Kl rfl ?_|fail)<;>refine Kv b9 ?_)
   refine k9 tok (cf:=b9) (by kernel_rfl) [.p 0, .p 1, .p 2, .p 3, .p 4, .p 5, .p 6, .p 7, .p 8, .p 9, .p 10, .p 11, .p 12, .s 13 [0,12,1,6,7,10,11,5,9,4,8,3,2]] (by kernel_rfl) ?_
   refine Kv b9 ?_
   repeat'((first|(intro hlq;try simp only[SL] at hlq)|refine⟨_,b9W hk rfl rfl,?_⟩|refine K9 ?_|((refine Kh (λhb=>?_) λhb=>?_)<;>try simp only[BL] at hb)|refine K8 ?_)<;>refine Kv b9 ?_)
   refine⟨prO (rr (cR c)) 90 xs,_,⟨?_,?_⟩,(l5 (cR c) xs B3 [.s [32], .s (a2m c.mats[i].kind), .s [32], .s c.mats[i].name, .s [59]] hnx (by rw[hB3];simp[f0,Item.text,F9]) (by omega)).mono ?_⟩
   . exact Ko
   . exact Ko
   rintro o O2 ⟨rfl,rfl⟩
   dsimp only
   rw[d8 (d7 _)]
   refine Kv b9 ?_
   repeat'((first|(intro hlq;try simp only[SL] at hlq)|refine K9 ?_|((refine Kh (λhb=>?_) λhb=>?_)<;>try simp only[BL] at hb)|refine K8 ?_)<;>refine Kv b9 ?_)
   refine⟨⟨(i+1,B3),?_,⟨by omega,by rw[hB3,hst,hxs,List.append_assoc]⟩,by dsimp only;omega⟩⟩
   repeat'(first|exact True.intro|exact rfl|refine And.intro ?_ ?_)
   all_goals exact g6 _ _
 have e:c.mats.take i=c.mats:=List.take_of_length_le (by omega)
 rw[e] at hxs hLx
 clear h1 e hall
 obtain⟨P1,hP1⟩:∃P,P=xs++[32,125,10]:=⟨_,rfl⟩
 have hL1:=congrArg List.length hP1
 simp only[List.length_append,List.length_cons,List.length_nil] at hL1
 have hN1:P1≠[]:=by rw[hP1];simp
 repeat'((first|(intro hlq;try simp only[SL] at hlq)|refine K9 ?_|((refine Kh (λhb=>?_) λhb=>?_)<;>try simp only[BL] at hb)|refine K8 ?_)<;>refine Kv b9 ?_)
 refine⟨prO (rr (cR c)) 90 xs,_,⟨?_,?_⟩,(l5 (cR c) xs P1 [.s [32,125,10]] hnx (by rw[hP1];simp[f0,Item.text]) (by omega)).mono ?_⟩
 . exact Ko
 . exact Ko
 rintro o O2 ⟨rfl,rfl⟩
 dsimp only
 rw[d8 (d7 _)]
 refine Kv b9 ?_
 repeat'((first|(intro hlq;try simp only[SL] at hlq)|refine K9 ?_|((refine Kh (λhb=>?_) λhb=>?_)<;>try simp only[BL] at hb)|refine K8 ?_)<;>refine Kv b9 ?_)
 have hQ1:P1=[99,111,117,114,115,101,32]++c.name++[32,123,10]++f9 (a2n c):=by rw[hP1,hxs,hP0];simp[f9,a2n]
 have hM1:P1.length<=10000:=by omega
 clear hP1 hxs hLx hj hnx hB0 hL1
 have hall:∀x∈c.legs,((λx=>f9 (H9 c x)) x).length<=40003:=λx hx=>mem (by simp only[K2,List.mem_append,List.mem_map];exact .inl (.inl (.inl (.inl (.inl (.inl (.inr ⟨x,hx,rfl⟩)))))))
 have hB1:=J7 (λx=>f9 (H9 c x)) 40003 c.legs hall
 refine d4 tok b9 [] (X:=Nat×List UInt8) (λx=>[(69,iB x.1)]) (λx=>prO (rr (cR c)) 90 x.2) [10] (λx=>x.1<=c.legs.length/\x.2=P1++(c.legs.take x.1).flatMap (λx=>f9 (H9 c x))) (λx=>c.legs.length-x.1) (0,P1) ?_
 refine Kv b9 ?_
 refine And.intro ?_ ⟨⟨by omega,by simp⟩,λx hΦ=>?_⟩
 . repeat'(first|exact True.intro|exact rfl|refine And.intro ?_ ?_)
   all_goals exact g6 _ _
 obtain⟨i,xs⟩:=x
 obtain⟨hi,hxs⟩:=hΦ
 dsimp only at hi hxs
 have hLx:=congrArg List.length hxs
 simp only[List.length_append] at hLx
 have hj:=T4 (λx=>f9 (H9 c x)) c.legs i
 have hnx:xs≠[]:=by rw[hxs];simp[hN1]
 refine Kv b9 ?_
 refine⟨λh1=>?_,λh1=>?_⟩<;>(try simp only[BL] at h1)<;>refine Kv b9 ?_
 . have h1':i<c.legs.length:=by omega
   have hst:=T3 (λx=>f9 (H9 c x)) h1'
   have hm:=List.getElem_mem h1'
   obtain⟨B3,hB3⟩:∃B3,B3=xs++(λx=>f9 (H9 c x)) c.legs[i]:=⟨_,rfl⟩
   have hb3:((λx=>f9 (H9 c x)) c.legs[i]).length<=40003:=hall _ hm
   have hL3:B3.length=xs.length+((λx=>f9 (H9 c x)) c.legs[i]).length:=by rw[hB3,List.length_append]
   have hx:=b9E hg hm
   repeat'((first|(intro hlq;try simp only[SL] at hlq)|refine K9 ?_|refine Ka ?_|refine Kb ?_|refine Kc (hd:=rfl) (e:=?_)|refine Kc (hd:=Leg.cells_eq _) (e:=?_)|refine Kd (e:=?_)|refine Kl rfl ?_|fail)<;>refine Kv b9 ?_)
   refine k9 tok (cf:=b9) (by kernel_rfl) [.p 0, .p 1, .p 2, .p 3, .p 4, .p 7, .p 8, .p 9, .p 10, .p 13, .p 14, .p 15, .p 18, .p 19, .p 20, .p 23, .s 5 [2,4,3], .p 6, .s 11 [8,10,9], .p 12, .s 16 [15,14], .p 17, .s 21 [20,19], .p 22, .p 24, .s 25 [0,24,1,6,7,12,13,17,18,22,23]] (by kernel_rfl) ?_
   refine Kv b9 ?_
   repeat'((first|(intro hlq;try simp only[SL] at hlq)|refine Meets.k (Q4 _) ?_|refine K9 ?_|((refine Kh (λhb=>?_) λhb=>?_)<;>try simp only[BL] at hb)|refine K8 ?_)<;>refine Kv b9 ?_)
   refine⟨prO (rr (cR c)) 90 xs,_,⟨?_,?_⟩,(a0S c c.legs[i].src hx.src.1 hx.src.2 xs).mono ?_⟩
   . exact Ko
   . exact Ko
   rintro o O2 ⟨rfl,rfl⟩
   dsimp only
   rw[d8 (d7 _)]
   refine Kv b9 ?_
   repeat'((first|(intro hlq;try simp only[SL] at hlq)|refine Meets.k (Q4 _) ?_|refine K9 ?_|((refine Kh (λhb=>?_) λhb=>?_)<;>try simp only[BL] at hb)|refine K8 ?_)<;>refine Kv b9 ?_)
   refine⟨prO (rr (cR c)) 90 xs,_,⟨?_,?_⟩,(a0S c c.legs[i].dst hx.dst.1 hx.dst.2 xs).mono ?_⟩
   . exact Ko
   . exact Ko
   rintro o O2 ⟨rfl,rfl⟩
   dsimp only
   rw[d8 (d7 _)]
   refine Kv b9 ?_
   repeat'((first|(intro hlq;try simp only[SL] at hlq)|refine Meets.k (Q4 _) ?_|refine K9 ?_|((refine Kh (λhb=>?_) λhb=>?_)<;>try simp only[BL] at hb)|refine K8 ?_)<;>refine Kv b9 ?_)
   refine⟨prO (rr (cR c)) 90 xs,_,⟨?_,?_⟩,(l5 (cR c) xs B3 [.s [32,32,108,101,103,32], .s (r8 c.mats c.legs[i].src), .s [32,116,111,32], .s (r8 c.mats c.legs[i].dst), .s [32], .s (s7 c.legs[i].lo), .s [32,46,46,32], .s (s7 c.legs[i].hi), .s [59,10]] hnx (by rw[hB3];simp[f0,Item.text,f9,H9]) (by omega)).mono ?_⟩
   . exact Ko
   . exact Ko
   rintro o O2 ⟨rfl,rfl⟩
   dsimp only
   rw[d8 (d7 _)]
   refine Kv b9 ?_
   repeat'((first|(intro hlq;try simp only[SL] at hlq)|refine K9 ?_|((refine Kh (λhb=>?_) λhb=>?_)<;>try simp only[BL] at hb)|refine K8 ?_)<;>refine Kv b9 ?_)
   refine⟨⟨(i+1,B3),?_,⟨by omega,by rw[hB3,hst,hxs,List.append_assoc]⟩,by dsimp only;omega⟩⟩
   repeat'(first|exact True.intro|exact rfl|refine And.intro ?_ ?_)
   all_goals exact g6 _ _
 have e:c.legs.take i=c.legs:=List.take_of_length_le (by omega)
 rw[e] at hxs hLx
 clear h1 e hall
 have hN2:xs≠[]:=hnx
 have hQ2:=hxs
 have hM2:xs.length<=20491536:=by omega
 clear hxs hLx hj hnx hB1
 rename List UInt8=>P2
 repeat'((first|(intro hlq;try simp only[SL] at hlq)|refine K9 ?_|((refine Kh (λhb=>?_) λhb=>?_)<;>try simp only[BL] at hb)|refine K8 ?_)<;>refine Kv b9 ?_)
 have hall:∀x∈c.distances,((A3 c) x).length<=40003:=λx hx=>mem (by simp only[K2,List.mem_append,List.mem_map];exact .inl (.inl (.inl (.inl (.inl (.inr ⟨x,hx,rfl⟩))))))
 have hB2:=J7 (A3 c) 40003 c.distances hall
 refine d4 tok b9 [] (X:=Nat×List UInt8) (λx=>[(103,iB x.1)]) (λx=>prO (rr (cR c)) 90 x.2) [12] (λx=>x.1<=c.distances.length/\x.2=P2++(c.distances.take x.1).flatMap (A3 c)) (λx=>c.distances.length-x.1) (0,P2) ?_
 refine Kv b9 ?_
 refine And.intro ?_ ⟨⟨by omega,by simp⟩,λx hΦ=>?_⟩
 . repeat'(first|exact True.intro|exact rfl|refine And.intro ?_ ?_)
   all_goals exact g6 _ _
 obtain⟨i,xs⟩:=x
 obtain⟨hi,hxs⟩:=hΦ
 dsimp only at hi hxs
 have hLx:=congrArg List.length hxs
 simp only[List.length_append] at hLx
 have hj:=T4 (A3 c) c.distances i
 have hnx:xs≠[]:=by rw[hxs];simp[hN2]
 refine Kv b9 ?_
 refine⟨λh1=>?_,λh1=>?_⟩<;>(try simp only[BL] at h1)<;>refine Kv b9 ?_
 . have h1':i<c.distances.length:=by omega
   have hst:=T3 (A3 c) h1'
   have hm:=List.getElem_mem h1'
   obtain⟨B3,hB3⟩:∃B3,B3=xs++(A3 c) c.distances[i]:=⟨_,rfl⟩
   have hb3:((A3 c) c.distances[i]).length<=40003:=hall _ hm
   have hL3:B3.length=xs.length+((A3 c) c.distances[i]).length:=by rw[hB3,List.length_append]
   have hx:=dok hg hm
   repeat'((first|(intro hlq;try simp only[SL] at hlq)|refine K9 ?_|refine Ka ?_|refine Kb ?_|refine Kc (hd:=rfl) (e:=?_)|refine Kc (hd:=Distance.cells_eq _) (e:=?_)|refine Kd (e:=?_)|refine Kl rfl ?_|fail)<;>refine Kv b9 ?_)
   refine⟨prO (rr (cR c)) 90 xs,_,⟨?_,?_⟩,(c0Z c hg c.distances[i] hx xs hnx (by omega)).mono ?_⟩
   . exact Ko
   . exact Ko
   rintro o O2 ⟨rfl,rfl⟩
   dsimp only
   rw[d8 (d7 _)]
   refine Kv b9 ?_
   rw[<-hB3]
   repeat'((first|(intro hlq;try simp only[SL] at hlq)|refine K9 ?_|((refine Kh (λhb=>?_) λhb=>?_)<;>try simp only[BL] at hb)|refine K8 ?_)<;>refine Kv b9 ?_)
   refine⟨⟨(i+1,B3),?_,⟨by omega,by rw[hB3,hst,hxs,List.append_assoc]⟩,by dsimp only;omega⟩⟩
   repeat'(first|exact True.intro|exact rfl|refine And.intro ?_ ?_)
   all_goals exact g6 _ _
 have e:c.distances.take i=c.distances:=List.take_of_length_le (by omega)
 rw[e] at hxs hLx
 clear h1 e hall
 have hN3:xs≠[]:=hnx
 have hQ3:=hxs
 have hM3:xs.length<=20811560:=by omega
 clear hxs hLx hj hnx hB2
 rename List UInt8=>P3
 repeat'((first|(intro hlq;try simp only[SL] at hlq)|refine K9 ?_|((refine Kh (λhb=>?_) λhb=>?_)<;>try simp only[BL] at hb)|refine K8 ?_)<;>refine Kv b9 ?_)
 have hall:∀x∈c.waves,((λx=>f9 (I9 x)) x).length<=40003:=λx hx=>mem (by simp only[K2,List.mem_append,List.mem_map];exact .inl (.inl (.inl (.inl (.inr ⟨x,hx,rfl⟩)))))
 have hB3:=J7 (λx=>f9 (I9 x)) 40003 c.waves hall
 refine d4 tok b9 [] (X:=Nat×List UInt8) (λx=>[(114,iB x.1)]) (λx=>prO (rr (cR c)) 90 x.2) [14] (λx=>x.1<=c.waves.length/\x.2=P3++(c.waves.take x.1).flatMap (λx=>f9 (I9 x))) (λx=>c.waves.length-x.1) (0,P3) ?_
 refine Kv b9 ?_
 refine And.intro ?_ ⟨⟨by omega,by simp⟩,λx hΦ=>?_⟩
 . repeat'(first|exact True.intro|exact rfl|refine And.intro ?_ ?_)
   all_goals exact g6 _ _
 obtain⟨i,xs⟩:=x
 obtain⟨hi,hxs⟩:=hΦ
 dsimp only at hi hxs
 have hLx:=congrArg List.length hxs
 simp only[List.length_append] at hLx
 have hj:=T4 (λx=>f9 (I9 x)) c.waves i
 have hnx:xs≠[]:=by rw[hxs];simp[hN3]
 refine Kv b9 ?_
 refine⟨λh1=>?_,λh1=>?_⟩<;>(try simp only[BL] at h1)<;>refine Kv b9 ?_
 . have h1':i<c.waves.length:=by omega
   have hst:=T3 (λx=>f9 (I9 x)) h1'
   have hm:=List.getElem_mem h1'
   obtain⟨B3,hB3⟩:∃B3,B3=xs++(λx=>f9 (I9 x)) c.waves[i]:=⟨_,rfl⟩
   have hb3:((λx=>f9 (I9 x)) c.waves[i]).length<=40003:=hall _ hm
   have hL3:B3.length=xs.length+((λx=>f9 (I9 x)) c.waves[i]).length:=by rw[hB3,List.length_append]
   repeat'((first|(intro hlq;try simp only[SL] at hlq)|refine K9 ?_|refine Ka ?_|refine Kb ?_|refine Kc (hd:=rfl) (e:=?_)|refine Kc (hd:=Wave.cells_eq _) (e:=?_)|refine Kd (e:=?_)|refine Kl rfl ?_|fail)<;>refine Kv b9 ?_)
   refine k9 tok (cf:=b9) (by kernel_rfl) [.p 0, .p 1, .p 2, .p 3, .p 4, .p 5, .p 6, .p 7, .p 10, .s 8 [7,6], .p 9, .p 11, .s 12 [0,11,1,4,5,9,10,3,2]] (by kernel_rfl) ?_
   refine Kv b9 ?_
   repeat'((first|(intro hlq;try simp only[SL] at hlq)|refine Meets.k (Q4 _) ?_|refine K9 ?_|((refine Kh (λhb=>?_) λhb=>?_)<;>try simp only[BL] at hb)|refine K8 ?_)<;>refine Kv b9 ?_)
   refine⟨prO (rr (cR c)) 90 xs,_,⟨?_,?_⟩,(l5 (cR c) xs B3 [.s [32,32,119,97,118,101,32], .s c.waves[i].name, .s [32], .s (s7 c.waves[i].gun), .s [59,10]] hnx (by rw[hB3];simp[f0,Item.text,f9,I9]) (by omega)).mono ?_⟩
   . exact Ko
   . exact Ko
   rintro o O2 ⟨rfl,rfl⟩
   dsimp only
   rw[d8 (d7 _)]
   refine Kv b9 ?_
   repeat'((first|(intro hlq;try simp only[SL] at hlq)|refine K9 ?_|((refine Kh (λhb=>?_) λhb=>?_)<;>try simp only[BL] at hb)|refine K8 ?_)<;>refine Kv b9 ?_)
   refine⟨⟨(i+1,B3),?_,⟨by omega,by rw[hB3,hst,hxs,List.append_assoc]⟩,by dsimp only;omega⟩⟩
   repeat'(first|exact True.intro|exact rfl|refine And.intro ?_ ?_)
   all_goals exact g6 _ _
 have e:c.waves.take i=c.waves:=List.take_of_length_le (by omega)
 rw[e] at hxs hLx
 clear h1 e hall
 have hN4:xs≠[]:=hnx
 have hQ4:=hxs
 have hM4:xs.length<=22091656:=by omega
 clear hxs hLx hj hnx hB3
 rename List UInt8=>P4
 repeat'((first|(intro hlq;try simp only[SL] at hlq)|refine K9 ?_|((refine Kh (λhb=>?_) λhb=>?_)<;>try simp only[BL] at hb)|refine K8 ?_)<;>refine Kv b9 ?_)
 have hall:∀x∈c.offences,((λx=>f9 (I3 x)) x).length<=40003:=λx hx=>mem (by simp only[K2,List.mem_append,List.mem_map];exact .inl (.inl (.inl (.inr ⟨x,hx,rfl⟩))))
 have hB4:=J7 (λx=>f9 (I3 x)) 40003 c.offences hall
 refine d4 tok b9 [] (X:=Nat×List UInt8) (λx=>[(135,iB x.1)]) (λx=>prO (rr (cR c)) 90 x.2) [16] (λx=>x.1<=c.offences.length/\x.2=P4++(c.offences.take x.1).flatMap (λx=>f9 (I3 x))) (λx=>c.offences.length-x.1) (0,P4) ?_
 refine Kv b9 ?_
 refine And.intro ?_ ⟨⟨by omega,by simp⟩,λx hΦ=>?_⟩
 . repeat'(first|exact True.intro|exact rfl|refine And.intro ?_ ?_)
   all_goals exact g6 _ _
 obtain⟨i,xs⟩:=x
 obtain⟨hi,hxs⟩:=hΦ
 dsimp only at hi hxs
 have hLx:=congrArg List.length hxs
 simp only[List.length_append] at hLx
 have hj:=T4 (λx=>f9 (I3 x)) c.offences i
 have hnx:xs≠[]:=by rw[hxs];simp[hN4]
 refine Kv b9 ?_
 refine⟨λh1=>?_,λh1=>?_⟩<;>(try simp only[BL] at h1)<;>refine Kv b9 ?_
 . have h1':i<c.offences.length:=by omega
   have hst:=T3 (λx=>f9 (I3 x)) h1'
   have hm:=List.getElem_mem h1'
   obtain⟨B3,hB3⟩:∃B3,B3=xs++(λx=>f9 (I3 x)) c.offences[i]:=⟨_,rfl⟩
   have hb3:((λx=>f9 (I3 x)) c.offences[i]).length<=40003:=hall _ hm
   have hL3:B3.length=xs.length+((λx=>f9 (I3 x)) c.offences[i]).length:=by rw[hB3,List.length_append]
   have hx:=hg.nums.offences _ hm
   repeat'((first|(intro hlq;try simp only[SL] at hlq)|refine K9 ?_|refine Ka ?_|refine Kb ?_|refine Kc (hd:=rfl) (e:=?_)|refine Kc (hd:=Offence.cells_eq _) (e:=?_)|refine Kd (e:=?_)|refine Kl rfl ?_|fail)<;>refine Kv b9 ?_)
   refine k9 tok (cf:=b9) (by kernel_rfl) [.p 0, .p 1, .p 2, .p 3, .p 4, .p 5, .p 6, .p 9, .s 7 [6], .p 8, .p 10, .s 11 [0,10,1,4,5,8,9,3,2]] (by kernel_rfl) ?_
   refine Kv b9 ?_
   repeat'((first|(intro hlq;try simp only[SL] at hlq)|refine Meets.k (c1a _ hx) ?_|refine K9 ?_|((refine Kh (λhb=>?_) λhb=>?_)<;>try simp only[BL] at hb)|refine K8 ?_)<;>refine Kv b9 ?_)
   refine⟨prO (rr (cR c)) 90 xs,_,⟨?_,?_⟩,(l5 (cR c) xs B3 [.s [32,32,111,102,102,101,110,99,101,32], .s c.offences[i].name, .s [32], .s (a0Q c.offences[i]), .s [59,10]] hnx (by rw[hB3];simp[f0,Item.text,f9,I3]) (by omega)).mono ?_⟩
   . exact Ko
   . exact Ko
   rintro o O2 ⟨rfl,rfl⟩
   dsimp only
   rw[d8 (d7 _)]
   refine Kv b9 ?_
   repeat'((first|(intro hlq;try simp only[SL] at hlq)|refine K9 ?_|((refine Kh (λhb=>?_) λhb=>?_)<;>try simp only[BL] at hb)|refine K8 ?_)<;>refine Kv b9 ?_)
   refine⟨⟨(i+1,B3),?_,⟨by omega,by rw[hB3,hst,hxs,List.append_assoc]⟩,by dsimp only;omega⟩⟩
   repeat'(first|exact True.intro|exact rfl|refine And.intro ?_ ?_)
   all_goals exact g6 _ _
 have e:c.offences.take i=c.offences:=List.take_of_length_le (by omega)
 rw[e] at hxs hLx
 clear h1 e hall
 have hN5:xs≠[]:=hnx
 have hQ5:=hxs
 have hM5:xs.length<=23371752:=by omega
 clear hxs hLx hj hnx hB4
 rename List UInt8=>P5
 repeat'((first|(intro hlq;try simp only[SL] at hlq)|refine K9 ?_|((refine Kh (λhb=>?_) λhb=>?_)<;>try simp only[BL] at hb)|refine K8 ?_)<;>refine Kv b9 ?_)
 have hall:∀x∈c.categories,((λx=>f9 (H0 x)) x).length<=40003:=λx hx=>mem (by simp only[K2,List.mem_append,List.mem_map];exact .inl (.inl (.inr ⟨x,hx,rfl⟩)))
 have hB5:=J7 (λx=>f9 (H0 x)) 40003 c.categories hall
 refine d4 tok b9 [] (X:=Nat×List UInt8) (λx=>[(155,iB x.1)]) (λx=>prO (rr (cR c)) 90 x.2) [18] (λx=>x.1<=c.categories.length/\x.2=P5++(c.categories.take x.1).flatMap (λx=>f9 (H0 x))) (λx=>c.categories.length-x.1) (0,P5) ?_
 refine Kv b9 ?_
 refine And.intro ?_ ⟨⟨by omega,by simp⟩,λx hΦ=>?_⟩
 . repeat'(first|exact True.intro|exact rfl|refine And.intro ?_ ?_)
   all_goals exact g6 _ _
 obtain⟨i,xs⟩:=x
 obtain⟨hi,hxs⟩:=hΦ
 dsimp only at hi hxs
 have hLx:=congrArg List.length hxs
 simp only[List.length_append] at hLx
 have hj:=T4 (λx=>f9 (H0 x)) c.categories i
 have hnx:xs≠[]:=by rw[hxs];simp[hN5]
 refine Kv b9 ?_
 refine⟨λh1=>?_,λh1=>?_⟩<;>(try simp only[BL] at h1)<;>refine Kv b9 ?_
 . have h1':i<c.categories.length:=by omega
   have hst:=T3 (λx=>f9 (H0 x)) h1'
   have hm:=List.getElem_mem h1'
   obtain⟨B3,hB3⟩:∃B3,B3=xs++(λx=>f9 (H0 x)) c.categories[i]:=⟨_,rfl⟩
   have hb3:((λx=>f9 (H0 x)) c.categories[i]).length<=40003:=hall _ hm
   have hL3:B3.length=xs.length+((λx=>f9 (H0 x)) c.categories[i]).length:=by rw[hB3,List.length_append]
   repeat'((first|(intro hlq;try simp only[SL] at hlq)|refine K9 ?_|refine Ka ?_|refine Kb ?_|refine Kc (hd:=rfl) (e:=?_)|refine Kc (hd:=Category.cells_eq _) (e:=?_)|refine Kd (e:=?_)|refine Kl rfl ?_|fail)<;>refine Kv b9 ?_)
   repeat'((first|(intro hlq;try simp only[SL] at hlq)|refine K9 ?_|((refine Kh (λhb=>?_) λhb=>?_)<;>try simp only[BL] at hb)|refine K8 ?_)<;>refine Kv b9 ?_)
   refine⟨prO (rr (cR c)) 90 xs,_,⟨?_,?_⟩,(l5 (cR c) xs B3 [.s [32,32,99,97,116,101,103,111,114,121,32], .s c.categories[i].name, .s [32], .i c.categories[i].lo, .s [32,116,111,32], .i c.categories[i].hi, .s [59,10]] hnx (by rw[hB3];simp[f0,Item.text,f9,H0]) (by omega)).mono ?_⟩
   . exact Ko
   . exact Ko
   rintro o O2 ⟨rfl,rfl⟩
   dsimp only
   rw[d8 (d7 _)]
   refine Kv b9 ?_
   repeat'((first|(intro hlq;try simp only[SL] at hlq)|refine K9 ?_|((refine Kh (λhb=>?_) λhb=>?_)<;>try simp only[BL] at hb)|refine K8 ?_)<;>refine Kv b9 ?_)
   refine⟨⟨(i+1,B3),?_,⟨by omega,by rw[hB3,hst,hxs,List.append_assoc]⟩,by dsimp only;omega⟩⟩
   repeat'(first|exact True.intro|exact rfl|refine And.intro ?_ ?_)
   all_goals exact g6 _ _
 have e:c.categories.take i=c.categories:=List.take_of_length_le (by omega)
 rw[e] at hxs hLx
 clear h1 e hall
 have hN6:xs≠[]:=hnx
 have hQ6:=hxs
 have hM6:xs.length<=24651848:=by omega
 clear hxs hLx hj hnx hB5
 rename List UInt8=>P6
 repeat'((first|(intro hlq;try simp only[SL] at hlq)|refine K9 ?_|((refine Kh (λhb=>?_) λhb=>?_)<;>try simp only[BL] at hb)|refine K8 ?_)<;>refine Kv b9 ?_)
 have hall:∀x∈c.prizes,((λx=>f9 (G3 c x)) x).length<=40003:=λx hx=>mem (by simp only[K2,List.mem_append,List.mem_map];exact .inl (.inr ⟨x,hx,rfl⟩))
 have hB6:=J7 (λx=>f9 (G3 c x)) 40003 c.prizes hall
 refine d4 tok b9 [] (X:=Nat×List UInt8) (λx=>[(179,iB x.1)]) (λx=>prO (rr (cR c)) 90 x.2) [20] (λx=>x.1<=c.prizes.length/\x.2=P6++(c.prizes.take x.1).flatMap (λx=>f9 (G3 c x))) (λx=>c.prizes.length-x.1) (0,P6) ?_
 refine Kv b9 ?_
 refine And.intro ?_ ⟨⟨by omega,by simp⟩,λx hΦ=>?_⟩
 . repeat'(first|exact True.intro|exact rfl|refine And.intro ?_ ?_)
   all_goals exact g6 _ _
 obtain⟨i,xs⟩:=x
 obtain⟨hi,hxs⟩:=hΦ
 dsimp only at hi hxs
 have hLx:=congrArg List.length hxs
 simp only[List.length_append] at hLx
 have hj:=T4 (λx=>f9 (G3 c x)) c.prizes i
 have hnx:xs≠[]:=by rw[hxs];simp[hN6]
 refine Kv b9 ?_
 refine⟨λh1=>?_,λh1=>?_⟩<;>(try simp only[BL] at h1)<;>refine Kv b9 ?_
 . have h1':i<c.prizes.length:=by omega
   have hst:=T3 (λx=>f9 (G3 c x)) h1'
   have hm:=List.getElem_mem h1'
   obtain⟨B3,hB3⟩:∃B3,B3=xs++(λx=>f9 (G3 c x)) c.prizes[i]:=⟨_,rfl⟩
   have hb3:((λx=>f9 (G3 c x)) c.prizes[i]).length<=40003:=hall _ hm
   have hL3:B3.length=xs.length+((λx=>f9 (G3 c x)) c.prizes[i]).length:=by rw[hB3,List.length_append]
   have hx:=b2E hg hm
   obtain⟨a1,a2,a3,a4,hdist⟩:=b7q hx.distance.1 hx.distance.2
   have hd0:=hx.distance.1
   repeat'((first|(intro hlq;try simp only[SL] at hlq)|refine K9 ?_|refine Ka ?_|refine Kb ?_|refine Kc (hd:=rfl) (e:=?_)|refine Kc (hd:=Prize.cells_eq _) (e:=?_)|refine Kd (e:=?_)|refine Kl rfl ?_|fail)<;>refine Kv b9 ?_)
   refine⟨λh6=>?_,λh6=>?_⟩<;>(try simp only[BL] at h6)<;>refine Kv b9 ?_
   . obtain⟨a',b',hcat⟩:=b6g h6 hx.category.2
     repeat'((first|(intro hlq;try simp only[SL] at hlq)|refine⟨_,⟨h6,hcat,rfl⟩,?_⟩|refine K9 ?_|((refine Kh (λhb=>?_) λhb=>?_)<;>try simp only[BL] at hb)|refine K8 ?_)<;>refine Kv b9 ?_)
     refine k9 tok (cf:=b9) (by kernel_rfl) [.p 0, .p 1, .p 2, .p 3, .p 4, .p 5, .p 6, .p 7, .p 8, .p 9, .p 10, .p 11, .p 12, .p 13, .p 14, .p 15, .p 16, .p 17, .p 18, .p 19, .p 20, .p 21, .p 22, .s 23 [0,22,1,9,10,12,13,16,17,20,21,8,11,15,19,7,14,18,6,3,5,2,4]] (by kernel_rfl) ?_
     refine Kv b9 ?_
     repeat'((first|(intro hlq;try simp only[SL] at hlq)|refine⟨_,⟨hd0,hdist,rfl⟩,?_⟩|refine K9 ?_|((refine Kh (λhb=>?_) λhb=>?_)<;>try simp only[BL] at hb)|refine K8 ?_)<;>refine Kv b9 ?_)
     refine⟨prO (rr (cR c)) 90 xs,_,⟨?_,?_⟩,(l5 (cR c) xs B3 [.s [32,32,112,114,105,122,101,32], .s (X6 c c.prizes[i].distance), .s [32], .s (W5 c c.prizes[i].category), .s [32], .i c.prizes[i].rank, .s [32], .i c.prizes[i].amount, .s [59,10]] hnx (by rw[hB3];simp[f0,Item.text,f9,G3]) (by omega)).mono ?_⟩
     . exact Ko
     . exact Ko
     rintro o O2 ⟨rfl,rfl⟩
     dsimp only
     rw[d8 (d7 _)]
     refine Kv b9 ?_
     repeat'((first|(intro hlq;try simp only[SL] at hlq)|refine K9 ?_|((refine Kh (λhb=>?_) λhb=>?_)<;>try simp only[BL] at hb)|refine K8 ?_)<;>refine Kv b9 ?_)
     refine⟨⟨(i+1,B3),?_,⟨by omega,by rw[hB3,hst,hxs,List.append_assoc]⟩,by dsimp only;omega⟩⟩
     repeat'(first|exact True.intro|exact rfl|refine And.intro ?_ ?_)
     all_goals exact g6 _ _
   have e6:W5 c c.prizes[i].category=[97,108,108]:=by rw[W5,if_neg h6]
   refine k9 tok (cf:=b9) (by kernel_rfl) [.p 0, .p 1, .p 2, .p 3, .p 4, .p 5, .p 6, .p 7, .p 8, .p 9, .p 10, .p 11, .p 12, .p 13, .p 14, .p 15, .p 16, .p 17, .p 18, .p 19, .p 20, .p 21, .p 22, .s 23 [0,22,1,9,10,12,13,16,17,20,21,8,11,15,19,7,14,18,6,3,5,2,4]] (by kernel_rfl) ?_
   refine Kv b9 ?_
   repeat'((first|(intro hlq;try simp only[SL] at hlq)|refine⟨_,⟨hd0,hdist,rfl⟩,?_⟩|refine K9 ?_|((refine Kh (λhb=>?_) λhb=>?_)<;>try simp only[BL] at hb)|refine K8 ?_)<;>refine Kv b9 ?_)
   refine⟨prO (rr (cR c)) 90 xs,_,⟨?_,?_⟩,(l5 (cR c) xs B3 [.s [32,32,112,114,105,122,101,32], .s (X6 c c.prizes[i].distance), .s [32], .s [97,108,108], .s [32], .i c.prizes[i].rank, .s [32], .i c.prizes[i].amount, .s [59,10]] hnx (by rw[hB3];simp[f0,Item.text,f9,G3,e6]) (by omega)).mono ?_⟩
   . exact Ko
   . exact Ko
   rintro o O2 ⟨rfl,rfl⟩
   dsimp only
   rw[d8 (d7 _)]
   refine Kv b9 ?_
   repeat'((first|(intro hlq;try simp only[SL] at hlq)|refine K9 ?_|((refine Kh (λhb=>?_) λhb=>?_)<;>try simp only[BL] at hb)|refine K8 ?_)<;>refine Kv b9 ?_)
   refine⟨⟨(i+1,B3),?_,⟨by omega,by rw[hB3,hst,hxs,List.append_assoc]⟩,by dsimp only;omega⟩⟩
   repeat'(first|exact True.intro|exact rfl|refine And.intro ?_ ?_)
   all_goals exact g6 _ _
 have e:c.prizes.take i=c.prizes:=List.take_of_length_le (by omega)
 rw[e] at hxs hLx
 clear h1 e hall
 have hN7:xs≠[]:=hnx
 have hQ7:=hxs
 have hM7:xs.length<=25931944:=by omega
 clear hxs hLx hj hnx hB6
 rename List UInt8=>P7
 have hT:=a4R hg.steps
 have hnst:=hg.nst
 have hncd:=hg.ncd
 obtain⟨P8,hP8⟩:∃P,P=P7++[32,32,116,105,101,115,32,123,32]:=⟨_,rfl⟩
 have hL8:=congrArg List.length hP8
 simp only[List.length_append,List.length_cons,List.length_nil] at hL8
 have hN8:P8≠[]:=by rw[hP8];simp
 repeat'((first|(intro hlq;try simp only[SL] at hlq)|refine K9 ?_|((refine Kh (λhb=>?_) λhb=>?_)<;>try simp only[BL] at hb)|refine K8 ?_)<;>refine Kv b9 ?_)
 refine⟨prO (rr (cR c)) 90 P7,_,⟨?_,?_⟩,(l5 (cR c) P7 P8 [.s [32,32,116,105,101,115,32,123,32]] hN7 (by rw[hP8];simp[f0,Item.text]) (by omega)).mono ?_⟩
 . exact Ko
 . exact Ko
 rintro o O2 ⟨rfl,rfl⟩
 dsimp only
 rw[d8 (d7 _)]
 refine Kv b9 ?_
 repeat'((first|(intro hlq;try simp only[SL] at hlq)|refine K9 ?_|((refine Kh (λhb=>?_) λhb=>?_)<;>try simp only[BL] at hb)|refine K8 ?_)<;>refine Kv b9 ?_)
 refine⟨prO (rr (cR c)) 90 P8,_,⟨?_,?_⟩,(Q8 (cR c) c.ties P8 hN8 hg.steps hs.ties.2 (by omega) (by omega)).mono ?_⟩
 . exact Ko
 . exact Ko
 rintro o O2 ⟨rfl,rfl⟩
 dsimp only
 rw[d8 (d7 _)]
 refine Kv b9 ?_
 obtain⟨P9,hP9⟩:∃P,P=P8++g9 c.ties:=⟨_,rfl⟩
 have hL9:=congrArg List.length hP9
 simp only[List.length_append] at hL9
 have hN9:P9≠[]:=by rw[hP9];simp[hN8]
 rw[<-hP9]
 have g1:=hF.misses
 have g2:=hF.strays
 have g3:=hF.drift
 have g4:=hF.fee
 have f1:=t7 c.faults.misses (by omega) (by omega)
 have f2:=t7 c.faults.strays (by omega) (by omega)
 have f3:=t7 c.faults.drift (by omega) (by omega)
 have f4:=t7 c.fee (by omega) (by omega)
 have f5:=L2 c.faults.window
 have f6:=L2 c.faults.residual
 have f7:=L2 c.deadline
 obtain⟨P10,hP10⟩:∃P,P=P9++(([32,125,10,32,32,102,97,117,108,116,115,32,123,32,109,105,115,115,101,115,32]:List UInt8)++Lib.itoa c.faults.misses++[59,32,115,116,114,97,121,115,32]++Lib.itoa c.faults.strays++[59,32,119,105,110,100,111,119,32]++s7 c.faults.window++[59,32,114,101,115,105,100,117,97,108,32]++s7 c.faults.residual++[59,32,100,114,105,102,116,32]++Lib.itoa c.faults.drift++[59,32,125,10]):=⟨_,rfl⟩
 have hL10:=congrArg List.length hP10
 simp only[List.length_append,List.length_cons,List.length_nil] at hL10
 have hN10:P10≠[]:=by rw[hP10];simp
 obtain⟨P11,hP11⟩:∃P,P=P10++(([32,32,112,114,111,116,101,115,116,32,102,101,101,32]:List UInt8)++Lib.itoa c.fee++[32,100,101,97,100,108,105,110,101,32]++s7 c.deadline++[59,10,125,10]):=⟨_,rfl⟩
 have hL11:=congrArg List.length hP11
 simp only[List.length_append,List.length_cons,List.length_nil] at hL11
 have hN11:P11≠[]:=by rw[hP11];simp
 have hC:P11=T1 c:=by
  rw[hparts,hP11,hP10,hP9,hP8,hQ7,hQ6,hQ5,hQ4,hQ3,hQ2,hQ1]
  simp[f9,a4W,a3L,a3M]
 repeat'((first|(intro hlq;try simp only[SL] at hlq)|refine K9 ?_|((refine Kh (λhb=>?_) λhb=>?_)<;>try simp only[BL] at hb)|refine K8 ?_)<;>refine Kv b9 ?_)
 refine k9 tok (cf:=b9) (by kernel_rfl) [.p 0, .p 1, .p 2, .p 3, .p 4, .p 5, .p 6, .p 7, .p 8, .p 9, .p 10, .p 11, .p 14, .p 15, .p 16, .p 19, .p 20, .p 21, .p 22, .p 23, .s 12 [11,10], .p 13, .s 17 [16,15], .p 18, .p 24, .s 25 [0,24,1,4,5,8,9,13,14,18,19,22,23,3,7,21,2,6,20]] (by kernel_rfl) ?_
 refine Kv b9 ?_
 repeat'((first|(intro hlq;try simp only[SL] at hlq)|refine Meets.k (Q4 _) ?_|refine K9 ?_|((refine Kh (λhb=>?_) λhb=>?_)<;>try simp only[BL] at hb)|refine K8 ?_)<;>refine Kv b9 ?_)
 refine⟨prO (rr (cR c)) 90 P9,_,⟨?_,?_⟩,(l5 (cR c) P9 P10 [.s [32,125,10,32,32,102,97,117,108,116,115,32,123,32,109,105,115,115,101,115,32], .i c.faults.misses, .s [59,32,115,116,114,97,121,115,32], .i c.faults.strays, .s [59,32,119,105,110,100,111,119,32], .s (s7 c.faults.window), .s [59,32,114,101,115,105,100,117,97,108,32], .s (s7 c.faults.residual), .s [59,32,100,114,105,102,116,32], .i c.faults.drift, .s [59,32,125,10]] hN9 (by rw[hP10];simp[f0,Item.text]) (by omega)).mono ?_⟩
 . exact Ko
 . exact Ko
 rintro o O2 ⟨rfl,rfl⟩
 dsimp only
 rw[d8 (d7 _)]
 refine Kv b9 ?_
 repeat'((first|(intro hlq;try simp only[SL] at hlq)|refine K9 ?_|((refine Kh (λhb=>?_) λhb=>?_)<;>try simp only[BL] at hb)|refine K8 ?_)<;>refine Kv b9 ?_)
 refine k9 tok (cf:=b9) (by kernel_rfl) [.p 0, .p 1, .p 2, .p 3, .p 4, .p 5, .p 6, .p 7, .p 10, .s 8 [7,6], .p 9, .p 11, .s 12 [0,11,1,4,5,9,10,3,2]] (by kernel_rfl) ?_
 refine Kv b9 ?_
 repeat'((first|(intro hlq;try simp only[SL] at hlq)|refine Meets.k (Q4 _) ?_|refine K9 ?_|((refine Kh (λhb=>?_) λhb=>?_)<;>try simp only[BL] at hb)|refine K8 ?_)<;>refine Kv b9 ?_)
 refine⟨prO (rr (cR c)) 90 P10,_,⟨?_,?_⟩,(l5 (cR c) P10 P11 [.s [32,32,112,114,111,116,101,115,116,32,102,101,101,32], .i c.fee, .s [32,100,101,97,100,108,105,110,101,32], .s (s7 c.deadline), .s [59,10,125,10]] hN10 (by rw[hP11];simp[f0,Item.text]) (by omega)).mono ?_⟩
 . exact Ko
 . exact Ko
 rintro o O2 ⟨rfl,rfl⟩
 dsimp only
 rw[d8 (d7 _)]
 refine Kv b9 ?_
 repeat'((first|(intro hlq;try simp only[SL] at hlq)|refine K9 ?_|((refine Kh (λhb=>?_) λhb=>?_)<;>try simp only[BL] at hb)|refine K8 ?_)<;>refine Kv b9 ?_)
 refine⟨prO (rr (cR c)) 90 P11,_,⟨?_,?_⟩,(c0b (.loc 1000 0) P11).mono ?_⟩
 . exact Ko
 . exact Ko
 rintro o O2 ⟨rfl,rfl⟩
 dsimp only
 rw[d8 (d7 _)]
 refine Kv b9 ?_
 rw[hC] at hL11 hN11⊢
 repeat'((first|(intro hlq;try simp only[SL] at hlq)|refine K9 ?_|((refine Kh (λhb=>?_) λhb=>?_)<;>try simp only[BL] at hb)|refine K8 ?_)<;>refine Kv b9 ?_)
 . refine⟨?_⟩
   rw[a1I,a1J,if_neg (λe=>by omega),if_pos he,if_neg (by omega)]
   rfl
 refine⟨prO (rr (cR c)) 90 (T1 c),_,⟨?_,?_⟩,(b1P 1000 1001 (by decide) (.loc 1000 0) (T1 c) hN11 (by unfold maxLen;omega)).mono ?_⟩
 . exact Kr
 . repeat'(first|exact True.intro|exact rfl|refine And.intro ?_ ?_)
   all_goals exact g6 _ _
 rintro o O2 ⟨rfl,rfl⟩
 dsimp only
 rw[a9P]
 refine Kv b9 ?_
 refine⟨?_⟩
 rw[a1I,a1J,if_pos ⟨he,by omega⟩,if_pos he,if_pos (by omega)]
end Go.Proofs.YteillnfhkeebjaaGreatDoor.Dx
