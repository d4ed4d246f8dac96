/- Chapter 06: SyntaxWritten: the walk of how a course is written. -/
import Derived.Test.YtaopegkpjhkooaaGreatDoorGj
set_option linter.all false
namespace Go.Proofs.YtaopegkpjhkooaaGreatDoor.Dx
open Go Go.RowKit
set_option maxRecDepth 100000
set_option maxHeartbeats 16000000
theorem b9l {k:Int}(h:1<=k/\k<=3):([[.str []],[.str [115,116,97,114,116,32]],[.str [112,97,115,115,32]],[.str [101,110,100,32]]]:List (List D))[k.toNat]?=some [.str (mtW k++[32])]:=by
 have:k=1\/k=2\/k=3:=by omega
 rcases this with rfl|rfl|rfl<;>rfl
theorem c2Y {k:Int}(h:1<=k/\k<=3):([[.str []],[.str [32,103,117,110,32,123]],[.str [32,99,104,105,112,32,123]],[.str [32,115,108,111,116,32,123]]]:List (List D))[k.toNat]?=some [.str (32::(tgW k++[32,123]))]:=by
 have:k=1\/k=2\/k=3:=by omega
 rcases this with rfl|rfl|rfl<;>rfl
theorem b6T (c:Course){i:Int}(h:I7 i c.distances.length=true):∃m:Distance,(0<=i/\i<((c.distances.map Distance.cells).length:Int))/\(c.distances.map Distance.cells)[i.toNat]?=some m.cells/\m.name=atN (C0 c.distances) i:=by
 have h:=of_decide_eq_true h
 have hlt:i.toNat<c.distances.length:=by omega
 refine⟨c.distances[i.toNat],⟨h.1,by rw[List.length_map];exact h.2⟩,by rw[List.getElem?_map,List.getElem?_eq_getElem hlt];rfl,?_⟩
 unfold atN
 rw[List.getD_eq_getElem?_getD,List.getElem?_map,List.getElem?_eq_getElem hlt];rfl
theorem b5F (c:Course){i:Int}(h:I7 i c.categories.length=true):∃m:Category,(0<=i/\i<((c.categories.map Category.cells).length:Int))/\(c.categories.map Category.cells)[i.toNat]?=some m.cells/\m.name=atN (B7 c.categories) i:=by
 have h:=of_decide_eq_true h
 have hlt:i.toNat<c.categories.length:=by omega
 refine⟨c.categories[i.toNat],⟨h.1,by rw[List.length_map];exact h.2⟩,by rw[List.getElem?_map,List.getElem?_eq_getElem hlt];rfl,?_⟩
 unfold atN
 rw[List.getD_eq_getElem?_getD,List.getElem?_map,List.getElem?_eq_getElem hlt];rfl
-- WALK
theorem b6f (c:Course)(hf:K4 c=true)(ties:List UInt8)(ht:ties.length<=900000000000000000):Meets Tryz.prog 20 [c.d, .str ties] λd=>d= .str (a0t c ties):=by
 have h:=Wr.of hf
 have b7:=h.cT_len
 have n7:(cT7 c).length=(cT6 c).length+((c.prizes.map (L3 (C0 c.distances) (B7 c.categories))).flatten).length:=by unfold cT7;rw[List.length_append]
 have n6:(cT6 c).length=(cT5 c).length+((c.categories.map L9).flatten).length:=by unfold cT6;rw[List.length_append]
 have n5:(cT5 c).length=(cT4 c).length+((c.offences.map J0).flatten).length:=by unfold cT5;rw[List.length_append]
 have n4:(cT4 c).length=(cT3 c).length+((c.waves.map O3).flatten).length:=by unfold cT4;rw[List.length_append]
 have n3:(cT3 c).length=(cT2 c).length+((c.distances.map (I5 c.ms)).flatten).length:=by unfold cT3;rw[List.length_append]
 have n2:(cT2 c).length=(cT1 c).length+((c.legs.map (M8 c.ms)).flatten).length:=by unfold cT2;rw[List.length_append]
 have n1:(cT1 c).length=(cT0 c).length+(((c.mats.map Q3).flatten).length+2):=by unfold cT1;rw[List.length_append,List.length_append];rfl
 have hnl:=N3 h.nm
 have hlen:(c.ms.length:Int)=c.mats.length:=by rw[List.length_map]
 refine enter tok {} Tryz.func20 rfl (by kernel_rfl) Tryz.ntmps20 (by simp) λB0 W0 V0 lent g0=>?_
 refine Kw ?_
 repeat'((first|(intro hlq;try simp only[SL] at hlq)|refine⟨λ_ _=>(by simp only[maxLen,List.length_append,List.length_cons,List.length_nil];omega),?_⟩|refine K9 ?_|((refine Kh (λhb=>?_) λhb=>?_)<;>try simp only[BL] at hb)|refine K8 ?_)<;>refine Kw ?_)
 refine j7 tok {} [] (X:=Nat) (λi=>[(31,iB i),(5, .d (.str (cT0 c++((c.mats.take i).map Q3).flatten)))]) (λ_=>[]) [] (λi=>i<=c.mats.length) (λi=>c.mats.length-i) 0 ?_
 refine Kw ?_
 refine And.intro ?_ ⟨Nat.zero_le _,λi hi=>?_⟩
 . repeat'(first|exact True.intro|refine And.intro ?_ ?_|exact congrArg D.str (by simp[cT0])|exact rfl)
 have hb0:=a0H Q3 c.mats i
 refine Kw ?_
 refine⟨λh1=>?_,λh1=>?_⟩<;>(try simp only[BL] at h1)<;>refine Kw ?_
 . have h1':i<c.mats.length:=by omega
   obtain⟨x,hs⟩:∃x,x=c.mats[i]:=⟨_,rfl⟩
   have hmem:x∈c.mats:=by rw[hs];exact List.getElem_mem _
   have hst:=Y3 Q3 c.mats i h1'
   rw[<-hs] at hst
   have hk:=of_decide_eq_true (show decide _=true from List.all_eq_true.1 h.mat x hmem)
   have hw:=b9l hk
   have hn:=N3 (E6 h.ms hmem)
   have hwl:(mtW x.kind).length<=5:=by unfold mtW;split<;>decide
   refine⟨x.cells,⟨by omega,by rw[Int.toNat_natCast,List.getElem?_map,List.getElem?_eq_getElem h1',hs];rfl,rfl⟩,?_⟩
   clear hs
   refine Kw ?_
   refine j9 tok (cf:={}) (by kernel_rfl) [.p 0, .p 1, .p 2, .p 3, .p 4, .p 5, .p 6, .p 7, .p 8, .p 9, .p 10, .p 11] (by kernel_rfl) ?_
   refine Kw ?_
   repeat'((first|(intro hlq;try simp only[SL] at hlq)|refine⟨_,⟨by omega,hw,rfl⟩,?_⟩|refine⟨λ_ _=>(by simp only[maxLen,List.length_append,List.length_cons,List.length_nil];omega),?_⟩|refine K9 ?_|((refine Kh (λhb=>?_) λhb=>?_)<;>try simp only[BL] at hb)|refine K8 ?_)<;>refine Kw ?_)
   refine⟨⟨i+1,?_,by omega,by omega⟩⟩
   repeat'(first|exact True.intro|refine And.intro ?_ ?_|exact congrArg D.str (by rw[hst];simp[Q3])|exact rfl)
 rw[show i=c.mats.length by omega,List.take_length]
 clear hb0 hi h1
 repeat'((first|(intro hlq;try simp only[SL] at hlq)|refine⟨λ_ _=>(by simp only[maxLen,List.length_append,List.length_cons,List.length_nil];omega),?_⟩|refine K9 ?_|((refine Kh (λhb=>?_) λhb=>?_)<;>try simp only[BL] at hb)|refine K8 ?_)<;>refine Kw ?_)
 refine j7 tok {} [] (X:=Nat) (λi=>[(52,iB i),(5, .d (.str (cT1 c++((c.legs.take i).map (M8 c.ms)).flatten)))]) (λ_=>[]) [] (λi=>i<=c.legs.length) (λi=>c.legs.length-i) 0 ?_
 refine Kw ?_
 refine And.intro ?_ ⟨Nat.zero_le _,λi hi=>?_⟩
 . repeat'(first|exact True.intro|refine And.intro ?_ ?_|exact congrArg D.str (by unfold cT1;simp)|exact rfl)
 have hb0:=a0H (M8 c.ms) c.legs i
 refine Kw ?_
 refine⟨λh1=>?_,λh1=>?_⟩<;>(try simp only[BL] at h1)<;>refine Kw ?_
 . have h1':i<c.legs.length:=by omega
   obtain⟨x,hs⟩:∃x,x=c.legs[i]:=⟨_,rfl⟩
   have hmem:x∈c.legs:=by rw[hs];exact List.getElem_mem _
   have hst:=Y3 (M8 c.ms) c.legs i h1'
   rw[<-hs] at hst
   have hx:=List.all_eq_true.1 h.leg x hmem
   simp only[M4,Bool.and_eq_true] at hx
   obtain⟨m,a1,a2,a3,a4⟩:=a2B c h.ms (i:=x.src) hx.1
   obtain⟨m',a1',a2',a3',a4'⟩:=a2B c h.ms (i:=x.dst) hx.2.1
   have e1:=L5 x.lo
   have e2:=L5 x.hi
   refine⟨x.cells,⟨by omega,by rw[Int.toNat_natCast,List.getElem?_map,List.getElem?_eq_getElem h1',hs];rfl,rfl⟩,?_⟩
   clear hs
   refine Kw ?_
   refine j9 tok (cf:={}) (by kernel_rfl) [.p 0, .p 1, .p 2, .p 3, .p 4, .p 5, .p 6, .p 7, .p 8, .p 9, .p 10, .p 11, .p 12, .p 13, .p 14, .p 15, .p 16, .p 17, .p 18, .p 19, .p 20, .p 24, .p 25, .s 21 [20,19], .p 22, .p 23, .s 26 [25,24], .p 27, .p 28, .p 29, .p 30] (by kernel_rfl) ?_
   refine Kw ?_
   repeat'((first|(intro hlq;try simp only[SL] at hlq)|refine⟨m.cells,⟨by omega,a2,rfl⟩,?_⟩|refine⟨m'.cells,⟨by omega,a2',rfl⟩,?_⟩|refine Meets.k (a0J x.lo) ?_|refine Meets.k (a0J x.hi) ?_|refine⟨λ_ _=>(by simp only[maxLen,List.length_append,List.length_cons,List.length_nil];omega),?_⟩|refine K9 ?_|((refine Kh (λhb=>?_) λhb=>?_)<;>try simp only[BL] at hb)|refine K8 ?_)<;>refine Kw ?_)
   refine⟨⟨i+1,?_,by omega,by omega⟩⟩
   repeat'(first|exact True.intro|refine And.intro ?_ ?_|exact congrArg D.str (by rw[hst];unfold M8;rw[<-a3,<-a3'];simp)|exact rfl)
 rw[show i=c.legs.length by omega,List.take_length]
 clear hb0 hi h1
 repeat'((first|(intro hlq;try simp only[SL] at hlq)|refine⟨λ_ _=>(by simp only[maxLen,List.length_append,List.length_cons,List.length_nil];omega),?_⟩|refine K9 ?_|((refine Kh (λhb=>?_) λhb=>?_)<;>try simp only[BL] at hb)|refine K8 ?_)<;>refine Kw ?_)
 refine j7 tok {} [] (X:=Nat) (λi=>[(90,iB i),(5, .d (.str (cT2 c++((c.distances.take i).map (I5 c.ms)).flatten)))]) (λ_=>[]) [] (λi=>i<=c.distances.length) (λi=>c.distances.length-i) 0 ?_
 refine Kw ?_
 refine And.intro ?_ ⟨Nat.zero_le _,λi hi=>?_⟩
 . repeat'(first|exact True.intro|refine And.intro ?_ ?_|exact congrArg D.str (by unfold cT2;simp)|exact rfl)
 have hb0:=a0H (I5 c.ms) c.distances i
 refine Kw ?_
 refine⟨λh1=>?_,λh1=>?_⟩<;>(try simp only[BL] at h1)<;>refine Kw ?_
 . have h1':i<c.distances.length:=by omega
   obtain⟨x,hs⟩:∃x,x=c.distances[i]:=⟨_,rfl⟩
   have hmem:x∈c.distances:=by rw[hs];exact List.getElem_mem _
   have hst:=Y3 (I5 c.ms) c.distances i h1'
   rw[<-hs] at hst
   have hx:=List.all_eq_true.1 h.dst x hmem
   simp only[G2,Bool.and_eq_true,decide_eq_true_eq] at hx
   have hw:=c2Y hx.1
   have hn:=N3 (E6 h.ds hmem)
   have hwl:(tgW x.timing).length<=4:=by unfold tgW;split<;>decide
   have kP:=b2j c h.ms 5 (Nat.le_refl _) x.route hx.2.2.2.1
   have hpl:(Q8 c.ms 5 x.route).length<=3744800:=Nat.le_trans (a3Y h.ms 5 x.route hx.2.2.2.1) (a7W (Nat.le_refl _))
   have dl2:=(h.dst_len x hmem).2.1
   obtain⟨P5,hP5⟩:∃P5,P5=Q8 c.ms 5 x.route:=⟨_,rfl⟩
   rw[<-hP5] at kP hpl
   have lc:(x.cutoffs.map Cutoff.cells).length=x.cutoffs.length:=List.length_map ..
   obtain⟨U,hU⟩:∃U:List UInt8,U=cT2 c++((c.distances.take i).map (I5 c.ms)).flatten++([100,105,115,116,97,110,99,101,32]++(x.name++(32::(tgW x.timing++([32,123]++P5))))):=⟨_,rfl⟩
   refine⟨x.cells,⟨by omega,by rw[Int.toNat_natCast,List.getElem?_map,List.getElem?_eq_getElem h1',hs];rfl,rfl⟩,?_⟩
   clear hs
   refine Kw ?_
   refine j9 tok (cf:={}) (by kernel_rfl) [.p 0, .p 1, .p 2, .p 3, .p 4, .p 5, .p 6, .p 7, .p 8, .p 9, .p 10, .p 11, .p 12, .s 13 [10,12,11], .p 14, .p 15, .p 16] (by kernel_rfl) ?_
   refine Kw ?_
   repeat'((first|(intro hlq;try simp only[SL] at hlq)|refine⟨_,⟨by omega,hw,rfl⟩,?_⟩|refine Meets.k (kP) ?_|refine⟨λ_ _=>(by simp only[maxLen,List.length_append,List.length_cons,List.length_nil];omega),?_⟩|refine K9 ?_|((refine Kh (λhb=>?_) λhb=>?_)<;>try simp only[BL] at hb)|refine K8 ?_)<;>refine Kw ?_)
   have hU1:U.length<=150000000:=by rw[hU];simp only[List.length_append,List.length_cons,List.length_nil];omega
   refine j7 tok {} [] (X:=Nat) (λj=>[(113,iB j),(5, .d (.str (U++((x.cutoffs.take j).map (P6 c.ms)).flatten)))]) (λ_=>[]) [] (λj=>j<=x.cutoffs.length) (λj=>x.cutoffs.length-j) 0 ?_
   refine Kw ?_
   refine And.intro ?_ ⟨Nat.zero_le _,λj hj=>?_⟩
   . repeat'(first|exact True.intro|refine And.intro ?_ ?_|exact congrArg D.str (by rw[hU];simp)|exact rfl)
   have hb2:=a0H (P6 c.ms) x.cutoffs j
   clear kP
   refine Kw ?_
   refine⟨λh2=>?_,λh2=>?_⟩<;>(try simp only[BL] at h2)<;>refine Kw ?_
   . have h2':j<x.cutoffs.length:=Int.ofNat_lt.1 h2
     refine Exists.elim (p:=λy:Cutoff=>y=x.cutoffs[j]'h2') ⟨_,rfl⟩ λy hy=>?_
     have hmy:y∈x.cutoffs:=by rw[hy];exact List.getElem_mem _
     have hsu:=Y3 (P6 c.ms) x.cutoffs j h2'
     rw[<-hy] at hsu
     have hq:=List.all_eq_true.1 hx.2.2.2.2 y hmy
     simp only[P8,Bool.and_eq_true] at hq
     refine Exists.elim (a2B c h.ms (i:=y.mat) hq.1) λm hm4=>?_
     have a1:=hm4.1
     have a2:=hm4.2.1
     have a3:=hm4.2.2.1
     have a4:=hm4.2.2.2
     have e1:=L5 y.limit
     have e2:=E9 hq.2.1
     refine⟨y.cells,⟨by omega,by rw[Int.toNat_natCast,List.getElem?_map,List.getElem?_eq_getElem h2',hy];rfl,rfl⟩,?_⟩
     clear hy hst
     refine Kw ?_
     refine j9 tok (cf:={}) (by kernel_rfl) [.p 0, .p 1, .p 2, .p 3, .p 4, .p 5, .p 6, .p 7, .p 8, .p 9, .p 10, .p 11, .p 15, .p 16, .s 12 [11,10], .p 13, .p 14, .s 17 [16,15], .p 18, .p 19, .p 20, .p 21] (by kernel_rfl) ?_
     refine Kw ?_
     repeat'((first|(intro hlq;try simp only[SL] at hlq)|refine⟨m.cells,⟨by omega,a2,rfl⟩,?_⟩|refine Meets.k (I2 y.lap) ?_|refine Meets.k (a0J y.limit) ?_|refine⟨λ_ _=>(by simp only[maxLen,List.length_append,List.length_cons,List.length_nil];omega),?_⟩|refine K9 ?_|((refine Kh (λhb=>?_) λhb=>?_)<;>try simp only[BL] at hb)|refine K8 ?_)<;>refine Kw ?_)
     refine⟨⟨j+1,?_,by omega,by omega⟩⟩
     repeat'(first|exact True.intro|refine And.intro ?_ ?_|exact congrArg D.str (by rw[hsu];unfold P6;rw[<-a3];simp)|exact rfl)
   . rw [show j=x.cutoffs.length by omega,List.take_length]
     clear hb2
     by_cases h0:0<=x.extra
     . refine Exists.elim (a2B c h.ms (i:=x.extra) (decide_eq_true ⟨h0,hx.2.1.2⟩)) λm hm4=>?_
       have a1:=hm4.1
       have a2:=hm4.2.1
       have a3:=hm4.2.2.1
       have a4:=hm4.2.2.2
       repeat'((first|(intro hlq;try simp only[SL] at hlq)|refine⟨m.cells,⟨by omega,a2,rfl⟩,?_⟩|refine⟨λ_ _=>(by simp only[maxLen,List.length_append,List.length_cons,List.length_nil];omega),?_⟩|refine K9 ?_|((refine Kh (λhb=>?_) λhb=>?_)<;>try simp only[BL] at hb)|refine K8 ?_)<;>refine Kw ?_)
       all_goals first
        |(exfalso;omega)
        |skip
       refine⟨⟨i+1,?_,by omega,by omega⟩⟩
       repeat'(first|exact True.intro|refine And.intro ?_ ?_|exact congrArg D.str (by rw[hst,hU];unfold I5 a0v;rw[if_pos h0,<-a3,<-hP5];simp)|exact rfl)
     . repeat'((first|(intro hlq;try simp only[SL] at hlq)|refine⟨λ_ _=>(by simp only[maxLen,List.length_append,List.length_cons,List.length_nil];omega),?_⟩|refine K9 ?_|((refine Kh (λhb=>?_) λhb=>?_)<;>try simp only[BL] at hb)|refine K8 ?_)<;>refine Kw ?_)
       all_goals first
        |(exfalso;omega)
        |skip
       refine⟨⟨i+1,?_,by omega,by omega⟩⟩
       repeat'(first|exact True.intro|refine And.intro ?_ ?_|exact congrArg D.str (by rw[hst,hU];unfold I5 a0v;rw[if_neg h0,<-hP5];simp)|exact rfl)
 rw[show i=c.distances.length by omega,List.take_length]
 clear hb0 hi h1
 repeat'((first|(intro hlq;try simp only[SL] at hlq)|refine⟨λ_ _=>(by simp only[maxLen,List.length_append,List.length_cons,List.length_nil];omega),?_⟩|refine K9 ?_|((refine Kh (λhb=>?_) λhb=>?_)<;>try simp only[BL] at hb)|refine K8 ?_)<;>refine Kw ?_)
 refine j7 tok {} [] (X:=Nat) (λi=>[(159,iB i),(5, .d (.str (cT3 c++((c.waves.take i).map O3).flatten)))]) (λ_=>[]) [] (λi=>i<=c.waves.length) (λi=>c.waves.length-i) 0 ?_
 refine Kw ?_
 refine And.intro ?_ ⟨Nat.zero_le _,λi hi=>?_⟩
 . repeat'(first|exact True.intro|refine And.intro ?_ ?_|exact congrArg D.str (by unfold cT3;simp)|exact rfl)
 have hb0:=a0H O3 c.waves i
 refine Kw ?_
 refine⟨λh1=>?_,λh1=>?_⟩<;>(try simp only[BL] at h1)<;>refine Kw ?_
 . have h1':i<c.waves.length:=by omega
   obtain⟨x,hs⟩:∃x,x=c.waves[i]:=⟨_,rfl⟩
   have hmem:x∈c.waves:=by rw[hs];exact List.getElem_mem _
   have hst:=Y3 O3 c.waves i h1'
   rw[<-hs] at hst
   have hn:=N3 (E6 h.ws hmem)
   have e1:=L5 x.gun
   refine⟨x.cells,⟨by omega,by rw[Int.toNat_natCast,List.getElem?_map,List.getElem?_eq_getElem h1',hs];rfl,rfl⟩,?_⟩
   clear hs
   refine Kw ?_
   refine j9 tok (cf:={}) (by kernel_rfl) [.p 0, .p 1, .p 2, .p 3, .p 4, .p 5, .p 6, .s 7 [6,5], .p 8, .p 9, .p 10, .p 11] (by kernel_rfl) ?_
   refine Kw ?_
   repeat'((first|(intro hlq;try simp only[SL] at hlq)|refine Meets.k (a0J x.gun) ?_|refine⟨λ_ _=>(by simp only[maxLen,List.length_append,List.length_cons,List.length_nil];omega),?_⟩|refine K9 ?_|((refine Kh (λhb=>?_) λhb=>?_)<;>try simp only[BL] at hb)|refine K8 ?_)<;>refine Kw ?_)
   refine⟨⟨i+1,?_,by omega,by omega⟩⟩
   repeat'(first|exact True.intro|refine And.intro ?_ ?_|exact congrArg D.str (by rw[hst];simp[O3])|exact rfl)
 rw[show i=c.waves.length by omega,List.take_length]
 clear hb0 hi h1
 repeat'((first|(intro hlq;try simp only[SL] at hlq)|refine⟨λ_ _=>(by simp only[maxLen,List.length_append,List.length_cons,List.length_nil];omega),?_⟩|refine K9 ?_|((refine Kh (λhb=>?_) λhb=>?_)<;>try simp only[BL] at hb)|refine K8 ?_)<;>refine Kw ?_)
 refine j7 tok {} [] (X:=Nat) (λi=>[(178,iB i),(5, .d (.str (cT4 c++((c.offences.take i).map J0).flatten)))]) (λ_=>[]) [] (λi=>i<=c.offences.length) (λi=>c.offences.length-i) 0 ?_
 refine Kw ?_
 refine And.intro ?_ ⟨Nat.zero_le _,λi hi=>?_⟩
 . repeat'(first|exact True.intro|refine And.intro ?_ ?_|exact congrArg D.str (by unfold cT4;simp)|exact rfl)
 have hb0:=a0H J0 c.offences i
 refine Kw ?_
 refine⟨λh1=>?_,λh1=>?_⟩<;>(try simp only[BL] at h1)<;>refine Kw ?_
 . have h1':i<c.offences.length:=by omega
   obtain⟨x,hs⟩:∃x,x=c.offences[i]:=⟨_,rfl⟩
   have hmem:x∈c.offences:=by rw[hs];exact List.getElem_mem _
   have hst:=Y3 J0 c.offences i h1'
   rw[<-hs] at hst
   have hn:=N3 (E6 h.os hmem)
   have e1:=L5 x.time
   have ho:=List.all_eq_true.1 h.off x hmem
   simp only[M5,Bool.and_eq_true] at ho
   have e2:=E9 ho.2.1
   refine⟨x.cells,⟨by omega,by rw[Int.toNat_natCast,List.getElem?_map,List.getElem?_eq_getElem h1',hs];rfl,rfl⟩,?_⟩
   clear hs
   refine Kw ?_
   repeat'((first|(intro hlq;try simp only[SL] at hlq)|refine⟨λ_ _=>(by simp only[maxLen,List.length_append,List.length_cons,List.length_nil];omega),?_⟩|refine K9 ?_|((refine Kh (λhb=>?_) λhb=>?_)<;>try simp only[BL] at hb)|refine K8 ?_)<;>refine Kw ?_)
   . refine⟨⟨i+1,?_,by omega,by omega⟩⟩
     repeat'(first|exact True.intro|refine And.intro ?_ ?_|exact congrArg D.str (by rw[hst];unfold J0;rw[if_pos (by assumption)];simp)|exact rfl)
   . refine j9 tok (cf:={}) (by kernel_rfl) [.p 0, .p 1, .p 2, .p 3, .p 4, .p 5, .p 6, .s 7 [6,5], .p 8, .p 9, .p 10, .p 11] (by kernel_rfl) ?_
     refine Kw ?_
     repeat'((first|(intro hlq;try simp only[SL] at hlq)|refine Meets.k (I2 x.laps) ?_|refine⟨λ_ _=>(by simp only[maxLen,List.length_append,List.length_cons,List.length_nil];omega),?_⟩|refine K9 ?_|((refine Kh (λhb=>?_) λhb=>?_)<;>try simp only[BL] at hb)|refine K8 ?_)<;>refine Kw ?_)
     refine⟨⟨i+1,?_,by omega,by omega⟩⟩
     repeat'(first|exact True.intro|refine And.intro ?_ ?_|exact congrArg D.str (by rw[hst];unfold J0;rw[if_neg (by simp_all),if_pos (by omega)];simp)|exact rfl)
   . refine j9 tok (cf:={}) (by kernel_rfl) [.p 0, .p 1, .p 2, .p 3, .p 4, .p 5, .p 6, .s 7 [6,5], .p 8, .p 9, .p 10, .p 11] (by kernel_rfl) ?_
     refine Kw ?_
     repeat'((first|(intro hlq;try simp only[SL] at hlq)|refine Meets.k (a0J x.time) ?_|refine⟨λ_ _=>(by simp only[maxLen,List.length_append,List.length_cons,List.length_nil];omega),?_⟩|refine K9 ?_|((refine Kh (λhb=>?_) λhb=>?_)<;>try simp only[BL] at hb)|refine K8 ?_)<;>refine Kw ?_)
     refine⟨⟨i+1,?_,by omega,by omega⟩⟩
     repeat'(first|exact True.intro|refine And.intro ?_ ?_|exact congrArg D.str (by rw[hst];unfold J0;rw[if_neg (by simp_all),if_neg (by omega)];simp)|exact rfl)
 rw[show i=c.offences.length by omega,List.take_length]
 clear hb0 hi h1
 repeat'((first|(intro hlq;try simp only[SL] at hlq)|refine⟨λ_ _=>(by simp only[maxLen,List.length_append,List.length_cons,List.length_nil];omega),?_⟩|refine K9 ?_|((refine Kh (λhb=>?_) λhb=>?_)<;>try simp only[BL] at hb)|refine K8 ?_)<;>refine Kw ?_)
 refine j7 tok {} [] (X:=Nat) (λi=>[(221,iB i),(5, .d (.str (cT5 c++((c.categories.take i).map L9).flatten)))]) (λ_=>[]) [] (λi=>i<=c.categories.length) (λi=>c.categories.length-i) 0 ?_
 refine Kw ?_
 refine And.intro ?_ ⟨Nat.zero_le _,λi hi=>?_⟩
 . repeat'(first|exact True.intro|refine And.intro ?_ ?_|exact congrArg D.str (by unfold cT5;simp)|exact rfl)
 have hb0:=a0H L9 c.categories i
 refine Kw ?_
 refine⟨λh1=>?_,λh1=>?_⟩<;>(try simp only[BL] at h1)<;>refine Kw ?_
 . have h1':i<c.categories.length:=by omega
   obtain⟨x,hs⟩:∃x,x=c.categories[i]:=⟨_,rfl⟩
   have hmem:x∈c.categories:=by rw[hs];exact List.getElem_mem _
   have hst:=Y3 L9 c.categories i h1'
   rw[<-hs] at hst
   have hn:=N3 (E6 h.cs hmem)
   have ho:=List.all_eq_true.1 h.cat x hmem
   simp only[M3,Bool.and_eq_true] at ho
   have e1:=E9 ho.1
   have e2:=E9 ho.2
   refine⟨x.cells,⟨by omega,by rw[Int.toNat_natCast,List.getElem?_map,List.getElem?_eq_getElem h1',hs];rfl,rfl⟩,?_⟩
   clear hs
   refine Kw ?_
   refine j9 tok (cf:={}) (by kernel_rfl) [.p 0, .p 1, .p 2, .p 3, .p 4, .p 5, .p 6, .p 10, .p 11, .s 7 [6,5], .p 8, .p 9, .s 12 [11,10], .p 13, .p 14, .p 15, .p 16] (by kernel_rfl) ?_
   refine Kw ?_
   repeat'((first|(intro hlq;try simp only[SL] at hlq)|refine Meets.k (I2 x.lo) ?_|refine Meets.k (I2 x.hi) ?_|refine⟨λ_ _=>(by simp only[maxLen,List.length_append,List.length_cons,List.length_nil];omega),?_⟩|refine K9 ?_|((refine Kh (λhb=>?_) λhb=>?_)<;>try simp only[BL] at hb)|refine K8 ?_)<;>refine Kw ?_)
   refine⟨⟨i+1,?_,by omega,by omega⟩⟩
   repeat'(first|exact True.intro|refine And.intro ?_ ?_|exact congrArg D.str (by rw[hst];simp[L9])|exact rfl)
 rw[show i=c.categories.length by omega,List.take_length]
 clear hb0 hi h1
 repeat'((first|(intro hlq;try simp only[SL] at hlq)|refine⟨λ_ _=>(by simp only[maxLen,List.length_append,List.length_cons,List.length_nil];omega),?_⟩|refine K9 ?_|((refine Kh (λhb=>?_) λhb=>?_)<;>try simp only[BL] at hb)|refine K8 ?_)<;>refine Kw ?_)
 refine j7 tok {} [] (X:=Nat) (λi=>[(245,iB i),(5, .d (.str (cT6 c++((c.prizes.take i).map (L3 (C0 c.distances) (B7 c.categories))).flatten)))]) (λ_=>[]) [] (λi=>i<=c.prizes.length) (λi=>c.prizes.length-i) 0 ?_
 refine Kw ?_
 refine And.intro ?_ ⟨Nat.zero_le _,λi hi=>?_⟩
 . repeat'(first|exact True.intro|refine And.intro ?_ ?_|exact congrArg D.str (by unfold cT6;simp)|exact rfl)
 have hb0:=a0H (L3 (C0 c.distances) (B7 c.categories)) c.prizes i
 refine Kw ?_
 refine⟨λh1=>?_,λh1=>?_⟩<;>(try simp only[BL] at h1)<;>refine Kw ?_
 . have h1':i<c.prizes.length:=by omega
   obtain⟨x,hs⟩:∃x,x=c.prizes[i]:=⟨_,rfl⟩
   have hmem:x∈c.prizes:=by rw[hs];exact List.getElem_mem _
   have hst:=Y3 (L3 (C0 c.distances) (B7 c.categories)) c.prizes i h1'
   rw[<-hs] at hst
   have hp:=List.all_eq_true.1 h.prz x hmem
   simp only[K3,Bool.and_eq_true,decide_eq_true_eq] at hp
   obtain⟨m,a1,a2,a3⟩:=b6T c (i:=x.distance) hp.1
   have a4:=a0n h.ds (i:=x.distance) (by rw[List.length_map];exact hp.1)
   rw[<-a3] at a4
   have e1:=E9 hp.2.2.1
   have e2:=E9 hp.2.2.2
   refine⟨x.cells,⟨by omega,by rw[Int.toNat_natCast,List.getElem?_map,List.getElem?_eq_getElem h1',hs];rfl,rfl⟩,?_⟩
   clear hs
   refine Kw ?_
   by_cases h0:0<=x.category
   . obtain⟨m',a1',a2',a3'⟩:=b5F c (i:=x.category) (decide_eq_true ⟨h0,hp.2.1.2⟩)
     have a4':=a0n h.cs (i:=x.category) (decide_eq_true ⟨h0,by rw[List.length_map];exact hp.2.1.2⟩)
     rw[<-a3'] at a4'
     repeat'((first|(intro hlq;try simp only[SL] at hlq)|refine⟨m'.cells,⟨by omega,a2',rfl⟩,?_⟩|refine K9 ?_|((refine Kh (λhb=>?_) λhb=>?_)<;>try simp only[BL] at hb)|refine K8 ?_)<;>refine Kw ?_)
     all_goals first
      |(exfalso;omega)
      |skip
     refine j9 tok (cf:={}) (by kernel_rfl) [.p 0, .p 1, .p 2, .p 3, .p 4, .p 5, .p 6, .p 7, .p 8, .p 9, .p 10, .p 11, .p 12, .p 13, .p 14, .p 18, .p 19, .s 15 [14,13], .p 16, .p 17, .s 20 [19,18], .p 21, .p 22, .p 23, .p 24] (by kernel_rfl) ?_
     refine Kw ?_
     repeat'((first|(intro hlq;try simp only[SL] at hlq)|refine⟨m.cells,⟨by omega,a2,rfl⟩,?_⟩|refine Meets.k (I2 x.rank) ?_|refine Meets.k (I2 x.amount) ?_|refine⟨λ_ _=>(by simp only[maxLen,List.length_append,List.length_cons,List.length_nil];omega),?_⟩|refine K9 ?_|((refine Kh (λhb=>?_) λhb=>?_)<;>try simp only[BL] at hb)|refine K8 ?_)<;>refine Kw ?_)
     refine⟨⟨i+1,?_,by omega,by omega⟩⟩
     repeat'(first|exact True.intro|refine And.intro ?_ ?_|exact congrArg D.str (by rw[hst];unfold L3 a0g;rw[if_pos h0,<-a3,<-a3'];simp)|exact rfl)
   . repeat'((first|(intro hlq;try simp only[SL] at hlq)|refine K9 ?_|((refine Kh (λhb=>?_) λhb=>?_)<;>try simp only[BL] at hb)|refine K8 ?_)<;>refine Kw ?_)
     all_goals first
      |(exfalso;omega)
      |skip
     refine j9 tok (cf:={}) (by kernel_rfl) [.p 0, .p 1, .p 2, .p 3, .p 4, .p 5, .p 6, .p 7, .p 8, .p 9, .p 10, .p 11, .p 12, .p 13, .p 14, .p 18, .p 19, .s 15 [14,13], .p 16, .p 17, .s 20 [19,18], .p 21, .p 22, .p 23, .p 24] (by kernel_rfl) ?_
     refine Kw ?_
     repeat'((first|(intro hlq;try simp only[SL] at hlq)|refine⟨m.cells,⟨by omega,a2,rfl⟩,?_⟩|refine Meets.k (I2 x.rank) ?_|refine Meets.k (I2 x.amount) ?_|refine⟨λ_ _=>(by simp only[maxLen,List.length_append,List.length_cons,List.length_nil];omega),?_⟩|refine K9 ?_|((refine Kh (λhb=>?_) λhb=>?_)<;>try simp only[BL] at hb)|refine K8 ?_)<;>refine Kw ?_)
     refine⟨⟨i+1,?_,by omega,by omega⟩⟩
     repeat'(first|exact True.intro|refine And.intro ?_ ?_|exact congrArg D.str (by rw[hst];unfold L3 a0g;rw[if_neg h0,<-a3];simp)|exact rfl)
 rw[show i=c.prizes.length by omega,List.take_length]
 clear hb0 hi h1
 repeat'((first|(intro hlq;try simp only[SL] at hlq)|refine⟨λ_ _=>(by simp only[maxLen,List.length_append,List.length_cons,List.length_nil];omega),?_⟩|refine K9 ?_|((refine Kh (λhb=>?_) λhb=>?_)<;>try simp only[BL] at hb)|refine K8 ?_)<;>refine Kw ?_)
 obtain⟨g1,g2,g3,g4⟩:=h.am
 obtain⟨k1,k2,k3⟩:=h.tm
 have e1:=E9 g1
 have e2:=E9 g2
 have e3:=E9 g3
 have e4:=E9 g4
 have e5:=L5 c.faults.window
 have e6:=L5 c.faults.residual
 have e7:=L5 c.deadline
 refine j9 tok (cf:={}) (by kernel_rfl) [.p 0, .p 1, .p 2, .p 3, .p 4, .p 5, .p 9, .p 10, .p 14, .p 15, .p 19, .p 20, .p 24, .p 25, .s 6 [5,4], .p 7, .p 8, .s 11 [10,9], .p 12, .p 13, .s 16 [15,14], .p 17, .p 18, .s 21 [20,19], .p 22, .p 23, .s 26 [25,24], .p 27, .p 28, .p 29, .p 30] (by kernel_rfl) ?_
 refine Kw ?_
 repeat'((first|(intro hlq;try simp only[SL] at hlq)|refine Meets.k (I2 c.faults.misses) ?_|refine Meets.k (I2 c.faults.strays) ?_|refine Meets.k (I2 c.faults.drift) ?_|refine Meets.k (a0J c.faults.window) ?_|refine Meets.k (a0J c.faults.residual) ?_|refine⟨λ_ _=>(by simp only[maxLen,List.length_append,List.length_cons,List.length_nil];omega),?_⟩|refine K9 ?_|((refine Kh (λhb=>?_) λhb=>?_)<;>try simp only[BL] at hb)|refine K8 ?_)<;>refine Kw ?_)
 refine j9 tok (cf:={}) (by kernel_rfl) [.p 0, .p 1, .p 2, .p 3, .p 7, .p 8, .s 4 [3,2], .p 5, .p 6, .s 9 [8,7], .p 10, .p 11, .p 12] (by kernel_rfl) ?_
 refine Kw ?_
 repeat'((first|(intro hlq;try simp only[SL] at hlq)|refine Meets.k (I2 c.fee) ?_|refine Meets.k (a0J c.deadline) ?_|refine⟨λ_ _=>(by simp only[maxLen,List.length_append,List.length_cons,List.length_nil];omega),?_⟩|refine K9 ?_|((refine Kh (λhb=>?_) λhb=>?_)<;>try simp only[BL] at hb)|refine K8 ?_)<;>refine Kw ?_)
 refine⟨congrArg D.str ?_⟩
 rw[<-b5A]
 unfold cT7 a4n
 simp only[List.append_assoc,List.cons_append,List.nil_append]
end Go.Proofs.YtaopegkpjhkooaaGreatDoor.Dx
