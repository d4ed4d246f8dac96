/- Chapter 06: SyntaxWritten: can a course be written? -/
import Derived.Test.YtaopegkpjhkooaaGreatDoorGi
set_option linter.all false
namespace Go.Proofs.YtaopegkpjhkooaaGreatDoor.Dx
open Go Go.RowKit
set_option maxRecDepth 100000
set_option maxHeartbeats 64000000
theorem b5d {α:Type}(p:α->Bool)(l:List α){i:Nat}(h:i<l.length):(l.take (i+1)).all p=((l.take i).all p&&p l[i]):=by
 rw[List.take_succ_eq_append_getElem h,List.all_append];simp
theorem a3S {α:Type}(f:α->List UInt8)(l:List α){i:Nat}(h:i<l.length):(((l.map f).take i).map stC)++[stC (f l[i])]=((l.map f).take (i+1)).map stC:=by
 have:=b8R stC (xs:=l.map f) (i:=i) (by rw[List.length_map];exact h)
 rw[List.getElem_map] at this
 exact this
theorem a0j {P:Program}{C:Cx}{c:Code}{Q:y8}{st:SSt}(st':SSt)(h1:X2 st st')(h2:J P C c Q st'):J P C c Q st:=⟨λγ V a W hr=>h2.run γ V a W (a4k hr h1)⟩
abbrev crB (c:Course):List Base:=[.d (.str c.name), .d (.sl (c.mats.map Mat.cells)), .d (.sl (c.legs.map Leg.cells)), .d (.sl (c.distances.map Distance.cells)), .d (.sl (c.waves.map Wave.cells)), .d (.sl (c.offences.map Offence.cells)), .d (.sl (c.categories.map Category.cells)), .d (.sl (c.prizes.map Prize.cells)), .d (.sl (c.ties.map Step.cells)),
 .d (iD c.faults.misses), .d (iD c.faults.strays), .d (iD c.faults.window), .d (iD c.faults.residual), .d (iD c.faults.drift), .d (iD c.fee), .d (iD c.deadline)]
def fB (a b:Bool):Bool:=a&&b
theorem a0w {α:Type}(g:Bool)(p:α->Bool)(l:List α){i:Nat}(h:i<l.length):fB g ((l.take (i+1)).all p)=(fB g ((l.take i).all p)&&p l[i]):=by
 unfold fB
 rw[b5d p l h,Bool.and_assoc]
theorem b0J {α:Type}{g b:Bool}{p:α->Bool}{l:List α}{j:Nat}(h:fB (fB g b) ((l.take j).all p)=false\/l.length<=j):fB (fB g b) ((l.take j).all p)=(g&&(b&&l.all p)):=by
 rcases h with h|h
 . rw[h]
   unfold fB at h
   cases g
   . rfl
   cases b
   . rfl
   rw[Bool.true_and,Bool.true_and] at h
   have:l.all p=false:=by
    rw[List.all_eq_false] at h⊢
    obtain⟨x,hx,hp⟩:=h
    exact⟨x,List.mem_of_mem_take hx,hp⟩
   rw[this];rfl
 . rw[List.take_of_length_le h]
   unfold fB
   rw[Bool.and_assoc]
theorem b8y (n:Int)(x:Leg):M4 n x=(decide (min x.src x.dst≥0)&&(decide (max x.src x.dst<n)&&[x.lo,x.hi].all tmB)):=by
 unfold M4 I7
 simp only[List.all_cons,List.all_nil,Bool.and_true]
 cases tmB x.lo<;>cases tmB x.hi<;>simp only[Bool.and_true,Bool.and_false]<;>(rw[<-Bool.decide_and,<-Bool.decide_and];exact decide_eq_decide.2 (by omega))
def a2i (n:Int)(d:Distance):Bool:=decide (d.timing≥1)&&(decide (d.timing<=3)&&(decide (d.extra≥ -1)&&(decide (d.extra<n)&&(decide ((d.cutoffs.length:Int)<=20)&&pfB n 5 d.route))))
theorem b0K (n:Int)(d:Distance):G2 n d=(a2i n d&&d.cutoffs.all (P8 n)):=by
 unfold G2 a2i
 cases pfB n 5 d.route<;>cases d.cutoffs.all (P8 n)<;>simp only[Bool.and_true,Bool.and_false]<;>(simp only[<-Bool.decide_and];exact decide_eq_decide.2 (by omega))
theorem b6v (n:Int)(x:Cutoff):P8 n x=(decide (x.mat≥0)&&(decide (x.mat<n)&&([x.lap].all amB&&[x.limit].all tmB))):=by
 unfold P8 I7
 simp only[List.all_cons,List.all_nil,Bool.and_true]
 cases amB x.lap<;>cases tmB x.limit<;>simp only[Bool.and_true,Bool.and_false]<;>(rw[<-Bool.decide_and])
theorem c0b (n m:Int)(x:Prize):K3 n m x=(decide (x.distance≥0)&&(decide (x.distance<n)&&(decide (x.category≥ -1)&&(decide (x.category<m)&&[x.rank,x.amount].all amB)))):=by
 unfold K3 I7
 simp only[List.all_cons,List.all_nil,Bool.and_true]
 cases amB x.rank<;>cases amB x.amount<;>simp only[Bool.and_true,Bool.and_false]<;>(simp only[<-Bool.decide_and];exact decide_eq_decide.2 (by omega))
theorem b5G (x:Category):M3 x=[x.lo,x.hi].all amB:=by
 unfold M3
 simp only[List.all_cons,List.all_nil,Bool.and_true]
theorem b8U (m:Mat):Y1 m=(decide (m.kind≥1)&&decide (m.kind<=3)):=by
 unfold Y1
 rw[<-Bool.decide_and]
theorem b9C (x:Offence):M5 x=([x.time].all tmB&&([x.laps].all amB&&((decide (x.time=0)||decide (x.laps=0))&&(!x.out||(decide (x.time=0)&&decide (x.laps=0)))))):=by
 unfold M5
 simp only[List.all_cons,List.all_nil,Bool.and_true,Bool.decide_or,Bool.decide_and]
theorem c4k (x:Wave):tmB x.gun=[x.gun].all tmB:=by
 simp only[List.all_cons,List.all_nil,Bool.and_true]
-- WALK
theorem b7q (c:Course):Meets Tryz.prog 19 [c.d] λd=>d=bD (K4 c):=by
 have l1:(c.mats.map Mat.cells).length=c.mats.length:=List.length_map ..
 have l2:(c.legs.map Leg.cells).length=c.legs.length:=List.length_map ..
 have l3:(c.distances.map Distance.cells).length=c.distances.length:=List.length_map ..
 have l4:(c.waves.map Wave.cells).length=c.waves.length:=List.length_map ..
 have l5:(c.offences.map Offence.cells).length=c.offences.length:=List.length_map ..
 have l6:(c.categories.map Category.cells).length=c.categories.length:=List.length_map ..
 have l7:(c.prizes.map Prize.cells).length=c.prizes.length:=List.length_map ..
 by_cases hfew:a7d c=true
 case neg=>
  have hB:K4 c=false:=by unfold K4;rw[Bool.eq_false_iff.2 hfew];rfl
  have hf:¬(c.legs.length<=20/\c.prizes.length<=20/\c.mats.length<=20/\c.distances.length<=20/\c.waves.length<=20/\c.offences.length<=20/\c.categories.length<=20):=λh=>hfew (decide_eq_true h)
  rw[hB]
  refine enter tok {} Tryz.func19 rfl (by kernel_rfl) Tryz.ntmps19 (by simp) λB0 W0 V0 lent g0=>?_
  ((conv=>whnf);repeat'((fail_if_success (refine q8 5 ?_));refine Z rfl ?_;conv=>whnf))
  repeat'((first|(intro hlq;try simp only[SL] at hlq)|refine K9 ?_|((refine Kh (λhb=>?_) λhb=>?_)<;>try simp only[BL] at hb)|refine K8 ?_)<;>((conv=>whnf);repeat'((fail_if_success (refine q8 5 ?_));refine Z rfl ?_;conv=>whnf)))
  all_goals first
   |exact⟨rfl⟩
   |contradiction
   |(exfalso;omega)
 have hf:c.legs.length<=20/\c.prizes.length<=20/\c.mats.length<=20/\c.distances.length<=20/\c.waves.length<=20/\c.offences.length<=20/\c.categories.length<=20:=of_decide_eq_true hfew
 obtain⟨q1,q2,q3,q4,q5,q6,q7⟩:=hf
 refine enter tok {} Tryz.func19 rfl (by kernel_rfl) Tryz.ntmps19 (by simp) λB0 W0 V0 lent g0=>?_
 ((conv=>whnf);repeat'((fail_if_success (refine q8 5 ?_));refine Z rfl ?_;conv=>whnf))
 repeat'((first|(intro hlq;try simp only[SL] at hlq)|refine K9 ?_|((refine Kh (λhb=>?_) λhb=>?_)<;>try simp only[BL] at hb)|refine K8 ?_)<;>((conv=>whnf);repeat'((fail_if_success (refine q8 5 ?_));refine Z rfl ?_;conv=>whnf)))
 all_goals try(exfalso;first|contradiction|omega)
 have hq7:((c.categories.map Category.cells).length:Int)<=20:=by omega
 obtain⟨g0,hg0⟩:∃g0:Bool,g0=true:=⟨_,rfl⟩
 refine a0j ⟨[(8, .d (bD g0)),(7, .full []),(6, .full []),(5, .full []),(4, .full []),(3, .full []),(1, .loc 1 0)],[(1, .box (crB c) 55)],[]⟩ ?_ ?_
 . repeat'(first|exact True.intro|exact rfl|refine And.intro ?_ ?_|(exact congrArg bD (by simp_all)))
 refine Kw ?_
 repeat'((first|(intro hlq;try simp only[SL] at hlq)|refine K9 ?_|refine K8 ?_)<;>refine Kw ?_)
 refine j7 tok {} [(.inl 3,3,9,1)] (X:=Nat) (λi=>[(71,iB i),(8, .d (bD (fB g0 ((c.mats.take i).all Y1)))),(3, .own 3)]) (λi=>[(3, .sl ⟨9,1,((c.mats.map (·.name)).take i).map stC,true⟩)]) [] (λi=>i<=c.mats.length) (λi=>c.mats.length-i) 0 ?_
 ((conv=>whnf);repeat'((fail_if_success (refine q8 11 ?_));refine Z rfl ?_;conv=>whnf))
 refine⟨by simp,?_⟩
 ((conv=>whnf);repeat'((fail_if_success (refine q8 11 ?_));refine Z rfl ?_;conv=>whnf))
 refine And.intro ?_ ⟨Nat.zero_le _,λi hi=>?_⟩
 . repeat'(first|exact True.intro|exact rfl|refine And.intro ?_ ?_|(exact congrArg bD (by simp[fB])))
 ((conv=>whnf);repeat'((fail_if_success (refine q8 11 ?_));refine Z rfl ?_;conv=>whnf))
 refine⟨λh1=>?_,λh1=>?_⟩<;>(try simp only[BL] at h1)<;>((conv=>whnf);repeat'((fail_if_success (refine q8 11 ?_));refine Z rfl ?_;conv=>whnf))
 . have h1':i<c.mats.length:=by omega
   obtain⟨x,hs⟩:∃x,x=c.mats[i]:=⟨_,rfl⟩
   have hst:=a0w g0 Y1 c.mats h1'
   have hsn:=a3S (·.name) c.mats h1'
   rw[<-hs] at hst hsn
   refine⟨x.cells,⟨by omega,by rw[Int.toNat_natCast,List.getElem?_map,List.getElem?_eq_getElem h1',hs];rfl,rfl⟩,?_⟩
   clear hs
   ((conv=>whnf);repeat'((fail_if_success (refine q8 11 ?_));refine Z rfl ?_;conv=>whnf))
   repeat'((first|(intro hlq;try simp only[SL] at hlq)|refine Kar ?_|refine⟨λ_ _=>(by simp only[List.length_map,List.length_take,List.length_cons,List.length_nil];omega),?_⟩|refine K9 ?_|((refine Kh (λhb=>?_) λhb=>?_)<;>try simp only[BL] at hb)|refine K8 ?_)<;>((conv=>whnf);repeat'((fail_if_success (refine q8 11 ?_));refine Z rfl ?_;conv=>whnf)))
   all_goals
    refine⟨⟨i+1,?_,by omega,by omega⟩⟩
    repeat'(first|exact True.intro|refine And.intro ?_ ?_|exact hsn|exact congrArg bD (by rw[hst,b8U];clear hst;(try clear hg0);(try clear hg1);(try clear hg2);(try clear hg3);(try clear hg4);(try clear hg5);(try clear hg6);(try clear hg7);first|(simp only[*,decide_true,decide_false,Bool.true_and,Bool.and_true,Bool.false_and,Bool.and_false,Bool.true_or,Bool.false_or,Bool.or_true,Bool.or_false,Bool.not_true,Bool.not_false];done)|(trace_state;done))|exact rfl)
 rw[show i=c.mats.length by omega,List.take_length,List.take_of_length_le (Nat.le_of_eq (List.length_map ..))]
 clear h1 hi
 obtain⟨g1,hg1⟩:∃g1:Bool,g1=fB g0 (c.mats.all Y1):=⟨_,rfl⟩
 refine a0j ⟨[(8, .d (bD g1)),(7, .full []),(6, .full []),(5, .full []),(4, .full []),(3, .own 3),(1, .loc 1 0)],[(3, .sl ⟨9,1,(c.mats.map (·.name)).map stC,true⟩),(1, .box (crB c) 55)],[]⟩ ?_ ?_
 . repeat'(first|exact True.intro|exact rfl|refine And.intro ?_ ?_|(exact congrArg bD (hg1.symm)))
 refine Kw ?_
 repeat'((first|(intro hlq;try simp only[SL] at hlq)|refine K9 ?_|refine K8 ?_)<;>refine Kw ?_)
 refine j7 tok {} [] (X:=Nat) (λi=>[(95,iB i),(8, .d (bD (fB g1 ((c.legs.take i).all (M4 c.mats.length)))))]) (λi=>[]) [] (λi=>i<=c.legs.length) (λi=>c.legs.length-i) 0 ?_
 ((conv=>whnf);repeat'((fail_if_success (refine q8 16 ?_));refine Z rfl ?_;conv=>whnf))
 refine And.intro ?_ ⟨Nat.zero_le _,λi hi=>?_⟩
 . repeat'(first|exact True.intro|exact rfl|refine And.intro ?_ ?_|(exact congrArg bD (by simp[fB])))
 ((conv=>whnf);repeat'((fail_if_success (refine q8 16 ?_));refine Z rfl ?_;conv=>whnf))
 refine⟨λh1=>?_,λh1=>?_⟩<;>(try simp only[BL] at h1)<;>((conv=>whnf);repeat'((fail_if_success (refine q8 16 ?_));refine Z rfl ?_;conv=>whnf))
 . have h1':i<c.legs.length:=by omega
   obtain⟨x,hs⟩:∃x,x=c.legs[i]:=⟨_,rfl⟩
   have hst:=a0w g1 (M4 c.mats.length) c.legs h1'
   rw[<-hs] at hst
   refine⟨x.cells,⟨by omega,by rw[Int.toNat_natCast,List.getElem?_map,List.getElem?_eq_getElem h1',hs];rfl,rfl⟩,?_⟩
   clear hs
   ((conv=>whnf);repeat'((fail_if_success (refine q8 16 ?_));refine Z rfl ?_;conv=>whnf))
   repeat'((first|(intro hlq;try simp only[SL] at hlq)|refine Meets.k (a4s [x.lo,x.hi]) ?_|refine K9 ?_|((refine Kh (λhb=>?_) λhb=>?_)<;>try simp only[BL] at hb)|refine K8 ?_)<;>((conv=>whnf);repeat'((fail_if_success (refine q8 16 ?_));refine Z rfl ?_;conv=>whnf)))
   all_goals
    refine⟨⟨i+1,?_,by omega,by omega⟩⟩
    repeat'(first|exact True.intro|refine And.intro ?_ ?_|exact congrArg bD (by rw[hst,b8y];clear hst;(try clear hg0);(try clear hg1);(try clear hg2);(try clear hg3);(try clear hg4);(try clear hg5);(try clear hg6);(try clear hg7);first|(simp only[*,decide_true,decide_false,Bool.true_and,Bool.and_true,Bool.false_and,Bool.and_false,Bool.true_or,Bool.false_or,Bool.or_true,Bool.or_false,Bool.not_true,Bool.not_false];done)|(trace_state;done))|exact rfl)
 rw[show i=c.legs.length by omega,List.take_length]
 clear h1 hi
 obtain⟨g2,hg2⟩:∃g2:Bool,g2=fB g1 (c.legs.all (M4 c.mats.length)):=⟨_,rfl⟩
 refine a0j ⟨[(8, .d (bD g2)),(7, .full []),(6, .full []),(5, .full []),(4, .full []),(3, .own 3),(1, .loc 1 0)],[(3, .sl ⟨9,1,(c.mats.map (·.name)).map stC,true⟩),(1, .box (crB c) 55)],[]⟩ ?_ ?_
 . repeat'(first|exact True.intro|exact rfl|refine And.intro ?_ ?_|(exact congrArg bD (hg2.symm)))
 refine Kw ?_
 repeat'((first|(intro hlq;try simp only[SL] at hlq)|refine K9 ?_|refine K8 ?_)<;>refine Kw ?_)
 refine j7 tok {} [(.inl 4,4,9,1)] (X:=Nat) (λi=>[(130,iB i),(8, .d (bD (fB g2 ((c.distances.take i).all (G2 c.mats.length))))),(4, .own 4)]) (λi=>[(4, .sl ⟨9,1,((c.distances.map (·.name)).take i).map stC,true⟩)]) [] (λi=>i<=c.distances.length) (λi=>c.distances.length-i) 0 ?_
 ((conv=>whnf);repeat'((fail_if_success (refine q8 27 ?_));refine Z rfl ?_;conv=>whnf))
 refine⟨by simp,?_⟩
 ((conv=>whnf);repeat'((fail_if_success (refine q8 27 ?_));refine Z rfl ?_;conv=>whnf))
 refine And.intro ?_ ⟨Nat.zero_le _,λi hi=>?_⟩
 . repeat'(first|exact True.intro|exact rfl|refine And.intro ?_ ?_|(exact congrArg bD (by simp[fB])))
 ((conv=>whnf);repeat'((fail_if_success (refine q8 27 ?_));refine Z rfl ?_;conv=>whnf))
 refine⟨λh1=>?_,λh1=>?_⟩<;>(try simp only[BL] at h1)<;>((conv=>whnf);repeat'((fail_if_success (refine q8 27 ?_));refine Z rfl ?_;conv=>whnf))
 . have h1':i<c.distances.length:=by omega
   obtain⟨x,hs⟩:∃x,x=c.distances[i]:=⟨_,rfl⟩
   have hst:=a0w g2 (G2 c.mats.length) c.distances h1'
   have hsn:=a3S (·.name) c.distances h1'
   rw[<-hs] at hst hsn
   refine⟨x.cells,⟨by omega,by rw[Int.toNat_natCast,List.getElem?_map,List.getElem?_eq_getElem h1',hs];rfl,rfl⟩,?_⟩
   clear hs
   ((conv=>whnf);repeat'((fail_if_success (refine q8 27 ?_));refine Z rfl ?_;conv=>whnf))
   repeat'((first|(intro hlq;try simp only[SL] at hlq)|refine Kar ?_|refine⟨λ_ _=>(by simp only[List.length_map,List.length_take,List.length_cons,List.length_nil];omega),?_⟩|refine K9 ?_|((refine Kh (λhb=>?_) λhb=>?_)<;>try simp only[BL] at hb)|refine K8 ?_)<;>((conv=>whnf);repeat'((fail_if_success (refine L6 20 ?_));refine Z rfl ?_;conv=>whnf)))
   have hml:(((c.mats.map (·.name)).map stC).length:Int)=c.mats.length:=by rw[List.length_map,List.length_map]
   have kP:Meets Tryz.prog 34 [.sl (x.route.map Part.cells),iD (((c.mats.map (·.name)).map stC).length:Int),iD 0] λd=>d=bD (pfB c.mats.length 5 x.route):=by
    rw[hml]
    exact b2i c.mats.length 5 (by omega) x.route
   have lc:(x.cutoffs.map Cutoff.cells).length=x.cutoffs.length:=List.length_map ..
   refine b0A tok {} [(8, .d (bD (fB (fB g2 ((c.distances.take i).all (G2 c.mats.length))) (a2i c.mats.length x))))] ?_
   conv=>whnf
   refine⟨?_,?_⟩
   . refine Kw ?_
     repeat'((first|(intro hlq;try simp only[SL] at hlq)|refine Meets.k (kP) ?_|refine K9 ?_|((refine Kh (λhb=>?_) λhb=>?_)<;>try simp only[BL] at hb)|refine K8 ?_)<;>refine Kw ?_)
     all_goals
      refine⟨?_⟩
      repeat'(first|exact True.intro|refine And.intro ?_ ?_|exact congrArg bD (by show _=((fB g2 ((c.distances.take i).all (G2 c.mats.length)))&&a2i c.mats.length x);unfold a2i;clear hst;(try clear hg0);(try clear hg1);(try clear hg2);(try clear hg3);(try clear hg4);(try clear hg5);(try clear hg6);(try clear hg7);first|(simp only[*,decide_true,decide_false,Bool.true_and,Bool.and_true,Bool.false_and,Bool.and_false,Bool.true_or,Bool.false_or,Bool.or_true,Bool.or_false,Bool.not_true,Bool.not_false];done)|(trace_state;done))|exact rfl)
   clear kP hml
   refine Kw ?_
   refine j7 tok {} [] (X:=Nat) (λj=>[(15,iB j),(8, .d (bD (fB (fB (fB g2 ((c.distances.take i).all (G2 c.mats.length))) (a2i c.mats.length x)) ((x.cutoffs.take j).all (P8 c.mats.length)))))]) (λ_=>[]) [] (λj=>j<=x.cutoffs.length) (λj=>x.cutoffs.length-j) 0 ?_
   refine Kw ?_
   refine And.intro ?_ ⟨Nat.zero_le _,λj hj=>?_⟩
   . repeat'(first|exact True.intro|exact rfl|refine And.intro ?_ ?_|(exact congrArg bD (by simp[fB])))
   refine Kw ?_
   repeat'((first|(intro hlq;try simp only[SL] at hlq)|refine Meets.k (a2U [_]) ?_|refine Meets.k (a4s [_]) ?_|refine K9 ?_|((refine Kh (λhb=>?_) λhb=>?_)<;>try simp only[BL] at hb)|refine K8 ?_)<;>refine Kw ?_)
   all_goals first
    | (have h2':j<x.cutoffs.length:=by omega
       refine⟨⟨j+1,?_,by omega,by omega⟩⟩
       repeat'(first|exact True.intro|refine And.intro ?_ ?_|exact congrArg bD (by rw[a0w _ _ x.cutoffs h2',b6v];clear hst;(try clear hg0);(try clear hg1);(try clear hg2);(try clear hg3);(try clear hg4);(try clear hg5);(try clear hg6);(try clear hg7);(simp only[*,decide_true,decide_false,Bool.true_and,Bool.and_true,Bool.false_and,Bool.and_false,Bool.true_or,Bool.false_or,Bool.or_true,Bool.or_false,Bool.not_true,Bool.not_false];done))|exact rfl)
       done)
    | (refine⟨⟨i+1,?_,by omega,by omega⟩⟩
       repeat'(first|exact True.intro|exact hsn|refine And.intro ?_ ?_|exact congrArg bD (by rw[hst,b0K];exact b0J (.inl (by assumption)))|exact congrArg bD (by rw[hst,b0K];exact b0J (.inr (by omega)))|exact rfl)
       done)
    |trace_state
 rw[show i=c.distances.length by omega,List.take_length,List.take_of_length_le (Nat.le_of_eq (List.length_map ..))]
 clear h1 hi
 obtain⟨g3,hg3⟩:∃g3:Bool,g3=fB g2 (c.distances.all (G2 c.mats.length)):=⟨_,rfl⟩
 refine a0j ⟨[(8, .d (bD g3)),(7, .full []),(6, .full []),(5, .full []),(4, .own 4),(3, .own 3),(1, .loc 1 0)],[(4, .sl ⟨9,1,(c.distances.map (·.name)).map stC,true⟩),(3, .sl ⟨9,1,(c.mats.map (·.name)).map stC,true⟩),(1, .box (crB c) 55)],[]⟩ ?_ ?_
 . repeat'(first|exact True.intro|exact rfl|refine And.intro ?_ ?_|(exact congrArg bD (hg3.symm)))
 refine Kw ?_
 repeat'((first|(intro hlq;try simp only[SL] at hlq)|refine K9 ?_|refine K8 ?_)<;>refine Kw ?_)
 refine j7 tok {} [(.inl 5,5,9,1)] (X:=Nat) (λi=>[(216,iB i),(8, .d (bD (fB g3 ((c.waves.take i).all (λw=>tmB w.gun))))),(5, .own 5)]) (λi=>[(5, .sl ⟨9,1,((c.waves.map (·.name)).take i).map stC,true⟩)]) [] (λi=>i<=c.waves.length) (λi=>c.waves.length-i) 0 ?_
 ((conv=>whnf);repeat'((fail_if_success (refine q8 33 ?_));refine Z rfl ?_;conv=>whnf))
 refine⟨by simp,?_⟩
 ((conv=>whnf);repeat'((fail_if_success (refine q8 33 ?_));refine Z rfl ?_;conv=>whnf))
 refine And.intro ?_ ⟨Nat.zero_le _,λi hi=>?_⟩
 . repeat'(first|exact True.intro|exact rfl|refine And.intro ?_ ?_|(exact congrArg bD (by simp[fB])))
 ((conv=>whnf);repeat'((fail_if_success (refine q8 33 ?_));refine Z rfl ?_;conv=>whnf))
 refine⟨λh1=>?_,λh1=>?_⟩<;>(try simp only[BL] at h1)<;>((conv=>whnf);repeat'((fail_if_success (refine q8 33 ?_));refine Z rfl ?_;conv=>whnf))
 . have h1':i<c.waves.length:=by omega
   obtain⟨x,hs⟩:∃x,x=c.waves[i]:=⟨_,rfl⟩
   have hst:=a0w g3 (λw=>tmB w.gun) c.waves h1'
   have hsn:=a3S (·.name) c.waves h1'
   rw[<-hs] at hst hsn
   refine⟨x.cells,⟨by omega,by rw[Int.toNat_natCast,List.getElem?_map,List.getElem?_eq_getElem h1',hs];rfl,rfl⟩,?_⟩
   clear hs
   ((conv=>whnf);repeat'((fail_if_success (refine q8 33 ?_));refine Z rfl ?_;conv=>whnf))
   have hst:_=(_&&tmB x.gun):=hst
   repeat'((first|(intro hlq;try simp only[SL] at hlq)|refine Kar ?_|refine Meets.k (a4s [x.gun]) ?_|refine⟨λ_ _=>(by simp only[List.length_map,List.length_take,List.length_cons,List.length_nil];omega),?_⟩|refine K9 ?_|((refine Kh (λhb=>?_) λhb=>?_)<;>try simp only[BL] at hb)|refine K8 ?_)<;>((conv=>whnf);repeat'((fail_if_success (refine q8 33 ?_));refine Z rfl ?_;conv=>whnf)))
   all_goals
    refine⟨⟨i+1,?_,by omega,by omega⟩⟩
    repeat'(first|exact True.intro|refine And.intro ?_ ?_|exact hsn|exact congrArg bD (by rw[hst,c4k];clear hst;(try clear hg0);(try clear hg1);(try clear hg2);(try clear hg3);(try clear hg4);(try clear hg5);(try clear hg6);(try clear hg7);first|(simp only[*,decide_true,decide_false,Bool.true_and,Bool.and_true,Bool.false_and,Bool.and_false,Bool.true_or,Bool.false_or,Bool.or_true,Bool.or_false,Bool.not_true,Bool.not_false];done)|(trace_state;done))|exact rfl)
 rw[show i=c.waves.length by omega,List.take_length,List.take_of_length_le (Nat.le_of_eq (List.length_map ..))]
 clear h1 hi
 obtain⟨g4,hg4⟩:∃g4:Bool,g4=fB g3 (c.waves.all (λw=>tmB w.gun)):=⟨_,rfl⟩
 refine a0j ⟨[(8, .d (bD g4)),(7, .full []),(6, .full []),(5, .own 5),(4, .own 4),(3, .own 3),(1, .loc 1 0)],[(5, .sl ⟨9,1,(c.waves.map (·.name)).map stC,true⟩),(4, .sl ⟨9,1,(c.distances.map (·.name)).map stC,true⟩),(3, .sl ⟨9,1,(c.mats.map (·.name)).map stC,true⟩),(1, .box (crB c) 55)],[]⟩ ?_ ?_
 . repeat'(first|exact True.intro|exact rfl|refine And.intro ?_ ?_|(exact congrArg bD (hg4.symm)))
 refine Kw ?_
 repeat'((first|(intro hlq;try simp only[SL] at hlq)|refine K9 ?_|refine K8 ?_)<;>refine Kw ?_)
 refine j7 tok {} [(.inl 6,6,9,1)] (X:=Nat) (λi=>[(236,iB i),(8, .d (bD (fB g4 ((c.offences.take i).all M5)))),(6, .own 6)]) (λi=>[(6, .sl ⟨9,1,((c.offences.map (·.name)).take i).map stC,true⟩)]) [] (λi=>i<=c.offences.length) (λi=>c.offences.length-i) 0 ?_
 ((conv=>whnf);repeat'((fail_if_success (refine q8 39 ?_));refine Z rfl ?_;conv=>whnf))
 refine⟨by simp,?_⟩
 ((conv=>whnf);repeat'((fail_if_success (refine q8 39 ?_));refine Z rfl ?_;conv=>whnf))
 refine And.intro ?_ ⟨Nat.zero_le _,λi hi=>?_⟩
 . repeat'(first|exact True.intro|exact rfl|refine And.intro ?_ ?_|(exact congrArg bD (by simp[fB])))
 ((conv=>whnf);repeat'((fail_if_success (refine q8 39 ?_));refine Z rfl ?_;conv=>whnf))
 refine⟨λh1=>?_,λh1=>?_⟩<;>(try simp only[BL] at h1)<;>((conv=>whnf);repeat'((fail_if_success (refine q8 39 ?_));refine Z rfl ?_;conv=>whnf))
 . have h1':i<c.offences.length:=by omega
   obtain⟨x,hs⟩:∃x,x=c.offences[i]:=⟨_,rfl⟩
   have hst:=a0w g4 M5 c.offences h1'
   have hsn:=a3S (·.name) c.offences h1'
   rw[<-hs] at hst hsn
   refine⟨x.cells,⟨by omega,by rw[Int.toNat_natCast,List.getElem?_map,List.getElem?_eq_getElem h1',hs];rfl,rfl⟩,?_⟩
   clear hs
   ((conv=>whnf);repeat'((fail_if_success (refine q8 39 ?_));refine Z rfl ?_;conv=>whnf))
   repeat'((first|(intro hlq;try simp only[SL] at hlq)|refine Kar ?_|refine Meets.k (a4s [x.time]) ?_|refine Meets.k (a2U [x.laps]) ?_|refine⟨λ_ _=>(by simp only[List.length_map,List.length_take,List.length_cons,List.length_nil];omega),?_⟩|refine K9 ?_|((refine Kh (λhb=>?_) λhb=>?_)<;>try simp only[BL] at hb)|refine K8 ?_)<;>((conv=>whnf);repeat'((fail_if_success (refine q8 39 ?_));refine Z rfl ?_;conv=>whnf)))
   all_goals try contradiction
   all_goals
    refine⟨⟨i+1,?_,by omega,by omega⟩⟩
    repeat'(first|exact True.intro|refine And.intro ?_ ?_|exact hsn|exact congrArg bD (by rw[hst,b9C];clear hst;generalize hA:[x.time].all tmB=A at *;generalize hB:[x.laps].all amB=B at *;clear hA hB;(try clear hg0);(try clear hg1);(try clear hg2);(try clear hg3);(try clear hg4);(try clear hg5);(try clear hg6);(try clear hg7);first|(simp only[*,decide_true,decide_false,Bool.true_and,Bool.and_true,Bool.false_and,Bool.and_false,Bool.true_or,Bool.false_or,Bool.or_true,Bool.or_false,Bool.not_true,Bool.not_false];done)|(trace_state;done))|exact rfl)
 rw[show i=c.offences.length by omega,List.take_length,List.take_of_length_le (Nat.le_of_eq (List.length_map ..))]
 clear h1 hi
 obtain⟨g5,hg5⟩:∃g5:Bool,g5=fB g4 (c.offences.all M5):=⟨_,rfl⟩
 refine a0j ⟨[(8, .d (bD g5)),(7, .full []),(6, .own 6),(5, .own 5),(4, .own 4),(3, .own 3),(1, .loc 1 0)],[(6, .sl ⟨9,1,(c.offences.map (·.name)).map stC,true⟩),(5, .sl ⟨9,1,(c.waves.map (·.name)).map stC,true⟩),(4, .sl ⟨9,1,(c.distances.map (·.name)).map stC,true⟩),(3, .sl ⟨9,1,(c.mats.map (·.name)).map stC,true⟩),(1, .box (crB c) 55)],[]⟩ ?_ ?_
 . repeat'(first|exact True.intro|exact rfl|refine And.intro ?_ ?_|(exact congrArg bD (hg5.symm)))
 refine Kw ?_
 repeat'((first|(intro hlq;try simp only[SL] at hlq)|refine K9 ?_|refine K8 ?_)<;>refine Kw ?_)
 refine j7 tok {} [(.inl 7,7,9,1)] (X:=Nat) (λi=>[(287,iB i),(8, .d (bD (fB g5 ((c.categories.take i).all M3)))),(7, .own 7)]) (λi=>[(7, .sl ⟨9,1,((c.categories.map (·.name)).take i).map stC,true⟩)]) [] (λi=>i<=c.categories.length) (λi=>c.categories.length-i) 0 ?_
 ((conv=>whnf);repeat'((fail_if_success (refine q8 45 ?_));refine Z rfl ?_;conv=>whnf))
 refine⟨by simp,?_⟩
 ((conv=>whnf);repeat'((fail_if_success (refine q8 45 ?_));refine Z rfl ?_;conv=>whnf))
 refine And.intro ?_ ⟨Nat.zero_le _,λi hi=>?_⟩
 . repeat'(first|exact True.intro|exact rfl|refine And.intro ?_ ?_|(exact congrArg bD (by simp[fB])))
 ((conv=>whnf);repeat'((fail_if_success (refine q8 45 ?_));refine Z rfl ?_;conv=>whnf))
 refine⟨λh1=>?_,λh1=>?_⟩<;>(try simp only[BL] at h1)<;>((conv=>whnf);repeat'((fail_if_success (refine q8 45 ?_));refine Z rfl ?_;conv=>whnf))
 . have h1':i<c.categories.length:=by omega
   obtain⟨x,hs⟩:∃x,x=c.categories[i]:=⟨_,rfl⟩
   have hst:=a0w g5 M3 c.categories h1'
   have hsn:=a3S (·.name) c.categories h1'
   rw[<-hs] at hst hsn
   refine⟨x.cells,⟨by omega,by rw[Int.toNat_natCast,List.getElem?_map,List.getElem?_eq_getElem h1',hs];rfl,rfl⟩,?_⟩
   clear hs
   ((conv=>whnf);repeat'((fail_if_success (refine q8 45 ?_));refine Z rfl ?_;conv=>whnf))
   repeat'((first|(intro hlq;try simp only[SL] at hlq)|refine Kar ?_|refine Meets.k (a2U [x.lo,x.hi]) ?_|refine⟨λ_ _=>(by simp only[List.length_map,List.length_take,List.length_cons,List.length_nil];omega),?_⟩|refine K9 ?_|((refine Kh (λhb=>?_) λhb=>?_)<;>try simp only[BL] at hb)|refine K8 ?_)<;>((conv=>whnf);repeat'((fail_if_success (refine q8 45 ?_));refine Z rfl ?_;conv=>whnf)))
   all_goals
    refine⟨⟨i+1,?_,by omega,by omega⟩⟩
    repeat'(first|exact True.intro|refine And.intro ?_ ?_|exact hsn|exact congrArg bD (by rw[hst,b5G];clear hst;(try clear hg0);(try clear hg1);(try clear hg2);(try clear hg3);(try clear hg4);(try clear hg5);(try clear hg6);(try clear hg7);first|(simp only[*,decide_true,decide_false,Bool.true_and,Bool.and_true,Bool.false_and,Bool.and_false,Bool.true_or,Bool.false_or,Bool.or_true,Bool.or_false,Bool.not_true,Bool.not_false];done)|(trace_state;done))|exact rfl)
 rw[show i=c.categories.length by omega,List.take_length,List.take_of_length_le (Nat.le_of_eq (List.length_map ..))]
 clear h1 hi
 obtain⟨g6,hg6⟩:∃g6:Bool,g6=fB g5 (c.categories.all M3):=⟨_,rfl⟩
 refine a0j ⟨[(8, .d (bD g6)),(7, .own 7),(6, .own 6),(5, .own 5),(4, .own 4),(3, .own 3),(1, .loc 1 0)],[(7, .sl ⟨9,1,(c.categories.map (·.name)).map stC,true⟩),(6, .sl ⟨9,1,(c.offences.map (·.name)).map stC,true⟩),(5, .sl ⟨9,1,(c.waves.map (·.name)).map stC,true⟩),(4, .sl ⟨9,1,(c.distances.map (·.name)).map stC,true⟩),(3, .sl ⟨9,1,(c.mats.map (·.name)).map stC,true⟩),(1, .box (crB c) 55)],[]⟩ ?_ ?_
 . repeat'(first|exact True.intro|exact rfl|refine And.intro ?_ ?_|(exact congrArg bD (hg6.symm)))
 refine Kw ?_
 repeat'((first|(intro hlq;try simp only[SL] at hlq)|refine K9 ?_|refine K8 ?_)<;>refine Kw ?_)
 refine j7 tok {} [] (X:=Nat) (λi=>[(309,iB i),(8, .d (bD (fB g6 ((c.prizes.take i).all (K3 c.distances.length c.categories.length)))))]) (λi=>[]) [] (λi=>i<=c.prizes.length) (λi=>c.prizes.length-i) 0 ?_
 ((conv=>whnf);repeat'((fail_if_success (refine L6 51 ?_));refine Z rfl ?_;conv=>whnf))
 refine And.intro ?_ ⟨Nat.zero_le _,λi hi=>?_⟩
 . repeat'(first|exact True.intro|exact rfl|refine And.intro ?_ ?_|(exact congrArg bD (by simp[fB])))
 ((conv=>whnf);repeat'((fail_if_success (refine L6 51 ?_));refine Z rfl ?_;conv=>whnf))
 refine⟨λh1=>?_,λh1=>?_⟩<;>(try simp only[BL] at h1)<;>((conv=>whnf);repeat'((fail_if_success (refine L6 51 ?_));refine Z rfl ?_;conv=>whnf))
 . have h1':i<c.prizes.length:=by omega
   obtain⟨x,hs⟩:∃x,x=c.prizes[i]:=⟨_,rfl⟩
   have hst:=a0w g6 (K3 c.distances.length c.categories.length) c.prizes h1'
   rw[<-hs] at hst
   refine⟨x.cells,⟨by omega,by rw[Int.toNat_natCast,List.getElem?_map,List.getElem?_eq_getElem h1',hs];rfl,rfl⟩,?_⟩
   clear hs
   ((conv=>whnf);repeat'((fail_if_success (refine L6 51 ?_));refine Z rfl ?_;conv=>whnf))
   repeat'((first|(intro hlq;try simp only[SL] at hlq)|refine Meets.k (a2U [x.rank,x.amount]) ?_|refine K9 ?_|((refine Kh (λhb=>?_) λhb=>?_)<;>try simp only[BL] at hb)|refine K8 ?_)<;>((conv=>whnf);repeat'((fail_if_success (refine L6 51 ?_));refine Z rfl ?_;conv=>whnf)))
   all_goals
    refine⟨⟨i+1,?_,by omega,by omega⟩⟩
    repeat'(first|exact True.intro|refine And.intro ?_ ?_|exact congrArg bD (by rw[hst,c0b _ _];clear hst;(try clear hg0);(try clear hg1);(try clear hg2);(try clear hg3);(try clear hg4);(try clear hg5);(try clear hg6);(try clear hg7);first|(simp only[*,decide_true,decide_false,Bool.true_and,Bool.and_true,Bool.false_and,Bool.and_false,Bool.true_or,Bool.false_or,Bool.or_true,Bool.or_false,Bool.not_true,Bool.not_false];done)|(trace_state;done))|exact rfl)
 rw[show i=c.prizes.length by omega,List.take_length]
 clear h1 hi
 obtain⟨g7,hg7⟩:∃g7:Bool,g7=fB g6 (c.prizes.all (K3 c.distances.length c.categories.length)):=⟨_,rfl⟩
 refine a0j ⟨[(8, .d (bD g7)),(7, .own 7),(6, .own 6),(5, .own 5),(4, .own 4),(3, .own 3),(25, .loc 25 0),(1, .loc 1 0)],[(7, .sl ⟨9,1,(c.categories.map (·.name)).map stC,true⟩),(6, .sl ⟨9,1,(c.offences.map (·.name)).map stC,true⟩),(5, .sl ⟨9,1,(c.waves.map (·.name)).map stC,true⟩),(4, .sl ⟨9,1,(c.distances.map (·.name)).map stC,true⟩),(3, .sl ⟨9,1,(c.mats.map (·.name)).map stC,true⟩),(25, .box [.d (iD c.faults.misses), .d (iD c.faults.strays), .d (iD c.faults.window), .d (iD c.faults.residual), .d (iD c.faults.drift)] 53),(1, .box (crB c) 55)],[]⟩ ?_ ?_
 . repeat'(first|exact True.intro|exact rfl|refine And.intro ?_ ?_|(exact congrArg bD hg7.symm))
 have hfin:K4 c=(fB g7 ([c.faults.misses,c.faults.strays,c.faults.drift,c.fee].all amB&&[c.faults.window,c.faults.residual,c.deadline].all tmB)&&(F3 [c.name]&&(F3 (c.mats.map (·.name))&&(F3 (c.distances.map (·.name))&&(F3 (c.waves.map (·.name))&&(F3 (c.offences.map (·.name))&&F3 (c.categories.map (·.name)))))))):=by
  rw[hg7,hg6,hg5,hg4,hg3,hg2,hg1,hg0]
  unfold K4 fB
  rw[hfew]
  simp only[Bool.true_and,Bool.and_assoc]
 clear hg7 hg6 hg5 hg4 hg3 hg2 hg1 hg0
 have k0:=a2D [c.name] (by rw[List.length_singleton];omega)
 have k1:=a2D (c.mats.map (·.name)) (by rw[List.length_map];omega)
 have k2:=a2D (c.distances.map (·.name)) (by rw[List.length_map];omega)
 have k3:=a2D (c.waves.map (·.name)) (by rw[List.length_map];omega)
 have k4:=a2D (c.offences.map (·.name)) (by rw[List.length_map];omega)
 have k5:=a2D (c.categories.map (·.name)) (by rw[List.length_map];omega)
 refine b0A tok {} [(8, .d (bD (fB g7 ([c.faults.misses,c.faults.strays,c.faults.drift,c.fee].all amB&&[c.faults.window,c.faults.residual,c.deadline].all tmB))))] ?_
 conv=>whnf
 refine⟨?_,?_⟩
 . clear k0 k1 k2 k3 k4 k5 hfin
   refine Kw ?_
   repeat'((first|(intro hlq;try simp only[SL] at hlq)|refine Meets.k (a2U [c.faults.misses,c.faults.strays,c.faults.drift,c.fee]) ?_|refine Meets.k (a4s [c.faults.window,c.faults.residual,c.deadline]) ?_|refine K9 ?_|((refine Kh (λhb=>?_) λhb=>?_)<;>try simp only[BL] at hb)|refine K8 ?_)<;>refine Kw ?_)
   all_goals
    refine⟨?_⟩
    repeat'(first|exact True.intro|refine And.intro ?_ ?_|exact congrArg bD (by show _=(g7&&([c.faults.misses,c.faults.strays,c.faults.drift,c.fee].all amB&&[c.faults.window,c.faults.residual,c.deadline].all tmB));first|(simp only[*,decide_true,decide_false,Bool.true_and,Bool.and_true,Bool.false_and,Bool.and_false,Bool.true_or,Bool.false_or,Bool.or_true,Bool.or_false,Bool.not_true,Bool.not_false];done)|(trace_state;done))|exact rfl)
 refine Kw ?_
 repeat'((first|(intro hlq;try simp only[SL] at hlq)|refine Meets.k (k0) ?_|refine Meets.k (k1) ?_|refine Meets.k (k2) ?_|refine Meets.k (k3) ?_|refine Meets.k (k4) ?_|refine Meets.k (k5) ?_|refine K9 ?_|((refine Kh (λhb=>?_) λhb=>?_)<;>try simp only[BL] at hb)|refine K8 ?_)<;>refine Kw ?_)
 all_goals
  refine⟨congrArg bD ?_⟩
  rw[hfin]
  clear hfin k0 k1 k2 k3 k4 k5
  first
   |(simp only[*,decide_true,decide_false,Bool.true_and,Bool.and_true,Bool.false_and,Bool.and_false,Bool.true_or,Bool.false_or,Bool.or_true,Bool.or_false,Bool.not_true,Bool.not_false];done)
   |(trace_state;done)
end Go.Proofs.YtaopegkpjhkooaaGreatDoor.Dx
