/- Chapter 06: Same,in the reference (as chapter 08's). -/
import Derived.Test.YtaopegkpjhkooaaGreatDoorFm
import Derived.Test.YtaopegkpjhkooaaGreatDoorFk
set_option linter.all false
namespace Go.Proofs.YtaopegkpjhkooaaGreatDoor.Dx
open Go Go.RowKit Go.Proofs
set_option maxRecDepth 100000
set_option maxHeartbeats 32000000
open Classical in
noncomputable def G5 {α:Type}(a b:α):Bool:=decide (a=b)
theorem a0a {α:Type}{a b:α}(h:a=b):G5 a b=true:=by simp only[G5,decide_eq_true_eq];exact h
theorem H9 {α:Type}{a b:α}(h:a≠b):G5 a b=false:=by simp only[G5,decide_eq_false_iff_not];exact h
theorem sameB_iff {α:Type}{a b:α}:G5 a b=true↔a=b:=by simp only[G5,decide_eq_true_eq]
theorem sameB_niff {α:Type}{a b:α}:G5 a b=false↔a≠b:=by simp only[G5,decide_eq_false_iff_not,ne_eq]
theorem T1 {α:Type}{xs ys:List α}{i:Nat}(hi:i<xs.length)(hj:i<ys.length)(h:xs.take i=ys.take i)(e:xs[i]=ys[i]):xs.take (i+1)=ys.take (i+1):=by
 rw[List.take_succ_eq_append_getElem hi,List.take_succ_eq_append_getElem hj,h,e]
theorem S4 {α:Type}{xs ys:List α}{i:Nat}(hi:i<xs.length)(hj:i<ys.length)(e:xs[i]≠ys[i]):xs≠ys:=by
 rintro rfl;exact e rfl
theorem b1T {α:Type}{xs ys:List α}(h:(xs.length:Int)≠ys.length):xs≠ys:=by
 rintro rfl;exact h rfl
theorem T0 {α:Type}{xs ys:List α}{i:Nat}(hi:¬(i:Int)<xs.length)(hl:xs.length=ys.length)(h:xs.take i=ys.take i):xs=ys:=by
 rwa[List.take_of_length_le (by omega),List.take_of_length_le (by omega)] at h
theorem Mat.c_iff {a b:Mat}:a.cells=b.cells↔a=b:=by obtain⟨_,_⟩:=a;obtain⟨_,_⟩:=b;simp[Mat.cells]
theorem Leg.c_iff {a b:Leg}:[a.src,a.dst,a.lo,a.hi]=[b.src,b.dst,b.lo,b.hi]↔a=b:=by obtain⟨_,_,_,_⟩:=a;obtain⟨_,_,_,_⟩:=b;simp
theorem Wave.c_iff {a b:Wave}:a.cells=b.cells↔a=b:=by obtain⟨_,_⟩:=a;obtain⟨_,_⟩:=b;simp[Wave.cells]
theorem Offence.c_iff {a b:Offence}:a.cells=b.cells↔a=b:=by obtain⟨_,_,_,_⟩:=a;obtain⟨_,_,_,_⟩:=b;simp[Offence.cells]
theorem Category.c_iff {a b:Category}:a.cells=b.cells↔a=b:=by obtain⟨_,_,_⟩:=a;obtain⟨_,_,_⟩:=b;simp[Category.cells]
theorem Prize.c_iff {a b:Prize}:[a.distance,a.category,a.rank,a.amount]=[b.distance,b.category,b.rank,b.amount]↔a=b:=by obtain⟨_,_,_,_⟩:=a;obtain⟨_,_,_,_⟩:=b;simp
theorem Cutoff.c_iff {a b:Cutoff}:[a.mat,a.lap,a.limit]=[b.mat,b.lap,b.limit]↔a=b:=by obtain⟨_,_,_⟩:=a;obtain⟨_,_,_⟩:=b;simp
theorem Cond.e_iff {a b:Cond}:a=b↔a.kind=b.kind/\a.var=b.var/\a.n=b.n/\a.parts=b.parts:=by obtain⟨_,_,_,_⟩:=a;obtain⟨_,_,_,_⟩:=b;simp
theorem Step.e_iff {a b:Step}:a=b↔a.kind=b.kind/\a.crit=b.crit/\a.cond=b.cond/\a.th=b.th/\a.el=b.el:=by obtain⟨_,_,_,_,_⟩:=a;obtain⟨_,_,_,_,_⟩:=b;simp
theorem Part.e_iff {a b:Part}:a=b↔a.mat=b.mat/\a.laps=b.laps/\a.parts=b.parts:=by obtain⟨_,_,_⟩:=a;obtain⟨_,_,_⟩:=b;simp
theorem Distance.e_iff {a b:Distance}:a=b↔a.name=b.name/\a.timing=b.timing/\a.extra=b.extra/\a.cutoffs=b.cutoffs/\a.route=b.route:=by
 constructor
 . rintro rfl;simp
 . obtain⟨⟩:=a;obtain⟨⟩:=b
   rintro⟨h1,h2,h3,h4,h5⟩
   simp_all
theorem Faults.e_iff {a b:Faults}:a=b↔[a.misses,a.strays,a.window,a.residual,a.drift]=[b.misses,b.strays,b.window,b.residual,b.drift]:=by obtain⟨_,_,_,_,_⟩:=a;obtain⟨_,_,_,_,_⟩:=b;simp
theorem Course.e_iff {a b:Course}:a=b↔a.name=b.name/\a.faults=b.faults/\a.fee=b.fee/\a.deadline=b.deadline/\a.mats=b.mats/\a.legs=b.legs/\a.distances=b.distances/\a.waves=b.waves/\a.offences=b.offences/\a.categories=b.categories/\a.prizes=b.prizes/\a.ties=b.ties:=by
 constructor
 . rintro rfl;simp
 . obtain⟨⟩:=a;obtain⟨⟩:=b
   rintro⟨h1,h2,h3,h4,h5,h6,h7,h8,h9,h10,h11,h12⟩
   simp_all
theorem Step.szl (s:Step):SizeOf.sizeOf s.th<SizeOf.sizeOf s/\SizeOf.sizeOf s.el<SizeOf.sizeOf s:=by
 obtain⟨k,b,c,t,e⟩:=s
 simp only[Step.mk.sizeOf_spec]
 omega
theorem Part.szl (s:Part):SizeOf.sizeOf s.parts<SizeOf.sizeOf s:=by
 obtain⟨k,b,c⟩:=s
 simp only[Part.mk.sizeOf_spec]
 omega
theorem a5R (a b:Cond):Meets Tryz.prog 15 [a.d,b.d] λd=>d=bD (G5 a b):=by
 have hp:∀x∈a.parts,∀y,Meets Tryz.prog 15 [x.d,y.d] λd=>d=bD (G5 x y):=λx hx y=>by
  have:=Cond.size_part hx
  exact a5R x y
 refine enter tok {} Tryz.func15 rfl (by kernel_rfl) Tryz.ntmps15 (by simp) λB0 W0 V0 lent g0=>?_
 refine Kw ?_
 repeat'((first|(intro hlq;try simp only[SL] at hlq)|refine K9 ?_|((refine Kh (λhb=>?_) λhb=>?_)<;>try simp only[BL] at hb)|refine K8 ?_|refine Kc (hd:=Cond.cells_eq _) (e:=?_))<;>refine Kw ?_)
 all_goals try
  refine⟨congrArg bD ?_⟩
  exact(H9 (λe=>by rw[Cond.e_iff] at e;simp_all)).symm
  done
 . skip
   have hl:a.parts.length=b.parts.length:=by omega
   refine j7 tok {} [] (X:=Nat) (λi=>[(5,iB i)]) (λ_=>[]) [] (λi=>i<=a.parts.length/\a.parts.take i=b.parts.take i) (λi=>a.parts.length-i) 0 ?_
   refine Kw ?_
   refine And.intro ?_ ⟨⟨by omega,rfl⟩,λi hΦ=>?_⟩
   . exact Kr
   obtain⟨hi,hq⟩:=hΦ
   refine Kw ?_
   repeat'((first|(intro hlq;try simp only[SL] at hlq)|refine K9 ?_|refine K8 ?_|refine Kc (hd:=Cond.cells_eq _) (e:=?_))<;>refine Kw ?_)
   refine⟨λh1=>?_,λh1=>?_⟩<;>(try simp only[BL] at h1)<;>refine Kw ?_
   . have h1':i<a.parts.length:=by omega
     have h2':i<b.parts.length:=by omega
     refine j9 tok (cf:={}) (by kernel_rfl) [.p 0, .p 1, .p 2, .p 3, .p 4, .p 5, .p 6, .p 7, .p 8, .p 9, .s 10 [4,9,3,8,1,2,6,7,0,5], .p 11] (by kernel_rfl) ?_
     refine Kw ?_
     repeat'((first|(intro hlq;try simp only[SL] at hlq)|refine Meets.k (hp a.parts[i] (List.getElem_mem h1') b.parts[i]) ?_|refine K9 ?_|((refine Kh (λhb=>?_) λhb=>?_)<;>try simp only[BL] at hb)|refine K8 ?_|refine Kc (hd:=Cond.cells_eq _) (e:=?_))<;>refine Kw ?_)
     . exact⟨congrArg bD (H9 λe=>S4 h1' h2' (sameB_niff.1 (by assumption)) (by rw[e])).symm⟩
     . refine⟨⟨i+1,?_,⟨by omega,T1 h1' h2' hq (sameB_iff.1 (by assumption))⟩,by omega⟩⟩
       repeat'(first|exact True.intro|exact rfl|refine And.intro ?_ ?_)
   . refine⟨congrArg bD (a0a ?_).symm⟩
     have:=T0 (by omega) hl hq
     rw[Cond.e_iff]
     exact⟨by omega,by omega,by omega,this⟩
termination_by SizeOf.sizeOf a
decreasing_by assumption
theorem b2U (xs ys:List Part):Meets Tryz.prog 82 [.sl (xs.map Part.cells), .sl (ys.map Part.cells)] λd=>d=bD (G5 xs ys):=by
 have hp:∀x∈xs,∀y:Part,Meets Tryz.prog 82 [.sl (x.parts.map Part.cells), .sl (y.parts.map Part.cells)] λd=>d=bD (G5 x.parts y.parts):=λx hx y=>by
  have:=List.sizeOf_lt_of_mem hx
  have:=Part.szl x
  have hlt:SizeOf.sizeOf x.parts<SizeOf.sizeOf xs:=by omega
  exact b2U x.parts y.parts
 refine enter tok {} Tryz.func82 rfl (by kernel_rfl) Tryz.ntmps82 (by simp) λB0 W0 V0 lent g0=>?_
 refine Kw ?_
 repeat'((first|(intro hlq;try simp only[SL] at hlq)|refine K9 ?_|refine K8 ?_|refine Kc (hd:=Cond.cells_eq _) (e:=?_))<;>refine Kw ?_)
 refine⟨λh0=>?_,λh0=>?_⟩<;>(try simp only[BL] at h0)<;>refine Kw ?_
 . exact⟨congrArg bD (H9 (b1T (by simpa using h0))).symm⟩
 have hl:xs.length=ys.length:=by omega
 refine j7 tok {} [] (X:=Nat) (λi=>[(5,iB i)]) (λ_=>[]) [] (λi=>i<=xs.length/\xs.take i=ys.take i) (λi=>xs.length-i) 0 ?_
 refine Kw ?_
 refine And.intro ?_ ⟨⟨by omega,rfl⟩,λi hΦ=>?_⟩
 . exact Kr
 obtain⟨hi,hq⟩:=hΦ
 refine Kw ?_
 repeat'((first|(intro hlq;try simp only[SL] at hlq)|refine K9 ?_|refine K8 ?_|refine Kc (hd:=Cond.cells_eq _) (e:=?_))<;>refine Kw ?_)
 refine⟨λh1=>?_,λh1=>?_⟩<;>(try simp only[BL] at h1)<;>refine Kw ?_
 . have h1':i<xs.length:=by omega
   have h2':i<ys.length:=by omega
   refine j9 tok (cf:={}) (by kernel_rfl) [.p 0, .p 1, .p 2, .p 3, .p 4, .p 5, .p 6, .p 7, .p 8, .p 9, .p 10, .p 11, .p 12, .p 13, .p 14, .p 15, .p 16, .p 17, .p 18, .p 19, .p 20, .p 21, .p 22, .p 23, .p 24, .p 25, .p 26, .p 27, .p 28, .p 29, .p 30, .p 31, .p 32, .p 33, .p 34, .s 35 [29,34,24,28,33,23,11,27,32,22,10,25,26,30,31,16,21,4,9,15,20,3,8,14,19,2,7,12,13,17,18,0,1,5,6], .p 36, .p 37] (by kernel_rfl) ?_
   refine Kw ?_
   repeat'((first|(intro hlq;try simp only[SL] at hlq)|refine Meets.k (hp xs[i] (List.getElem_mem h1') ys[i]) ?_|refine K9 ?_|((refine Kh (λhb=>?_) λhb=>?_)<;>try simp only[BL] at hb)|refine Ka ?_|refine Kb ?_|refine Kc (hd:=rfl) (e:=?_)|refine Kc (hd:=Part.cells_eq _) (e:=?_)|refine Kd (e:=?_)|refine Kl rfl ?_|fail)<;>refine Kw ?_)
   clear hp
   all_goals
    first
     | (refine⟨congrArg bD (H9 (S4 h1' h2' λe=>?_)).symm⟩
        rw[Part.e_iff] at e
        (try simp only[sameB_iff,sameB_niff] at *)
        simp_all
        done)
     | (refine⟨⟨i+1,?_,⟨by omega,T1 h1' h2' hq (Part.e_iff.2 ⟨by omega,by omega,sameB_iff.1 (by assumption)⟩)⟩,by omega⟩⟩
        (repeat'(first|exact True.intro|exact rfl|refine And.intro ?_ ?_)))
 . exact⟨congrArg bD (a0a (T0 (by omega) hl hq)).symm⟩
termination_by SizeOf.sizeOf xs
decreasing_by assumption
theorem a5T (xs ys:List Step):Meets Tryz.prog 18 [.sl (xs.map Step.cells), .sl (ys.map Step.cells)] λd=>d=bD (G5 xs ys):=by
 have hp:∀x∈xs,∀y:Step,Meets Tryz.prog 18 [.sl (x.th.map Step.cells), .sl (y.th.map Step.cells)] λd=>d=bD (G5 x.th y.th):=λx hx y=>by
  have:=List.sizeOf_lt_of_mem hx
  have:=Step.szl x
  have hlt:SizeOf.sizeOf x.th<SizeOf.sizeOf xs:=by omega
  exact a5T x.th y.th
 have hr:∀x∈xs,∀y:Step,Meets Tryz.prog 18 [.sl (x.el.map Step.cells), .sl (y.el.map Step.cells)] λd=>d=bD (G5 x.el y.el):=λx hx y=>by
  have:=List.sizeOf_lt_of_mem hx
  have:=Step.szl x
  have hlt:SizeOf.sizeOf x.el<SizeOf.sizeOf xs:=by omega
  exact a5T x.el y.el
 refine enter tok {} Tryz.func18 rfl (by kernel_rfl) Tryz.ntmps18 (by simp) λB0 W0 V0 lent g0=>?_
 refine Kw ?_
 repeat'((first|(intro hlq;try simp only[SL] at hlq)|refine K9 ?_|refine K8 ?_|refine Kc (hd:=Cond.cells_eq _) (e:=?_))<;>refine Kw ?_)
 refine⟨λh0=>?_,λh0=>?_⟩<;>(try simp only[BL] at h0)<;>refine Kw ?_
 . exact⟨congrArg bD (H9 (b1T (by simpa using h0))).symm⟩
 have hl:xs.length=ys.length:=by omega
 refine j7 tok {} [] (X:=Nat) (λi=>[(5,iB i)]) (λ_=>[]) [] (λi=>i<=xs.length/\xs.take i=ys.take i) (λi=>xs.length-i) 0 ?_
 refine Kw ?_
 refine And.intro ?_ ⟨⟨by omega,rfl⟩,λi hΦ=>?_⟩
 . exact Kr
 obtain⟨hi,hq⟩:=hΦ
 refine Kw ?_
 repeat'((first|(intro hlq;try simp only[SL] at hlq)|refine K9 ?_|refine K8 ?_|refine Kc (hd:=Cond.cells_eq _) (e:=?_))<;>refine Kw ?_)
 refine⟨λh1=>?_,λh1=>?_⟩<;>(try simp only[BL] at h1)<;>refine Kw ?_
 . have h1':i<xs.length:=by omega
   have h2':i<ys.length:=by omega
   refine j9 tok (cf:={}) (by kernel_rfl) [.p 0, .p 1, .p 2, .p 3, .p 4, .p 5, .p 6, .p 7, .p 8, .p 9, .p 10, .p 11, .p 12, .p 13, .p 14, .p 15, .p 16, .p 17, .p 18, .p 19, .p 20, .p 21, .p 22, .p 23, .p 24, .p 25, .p 26, .p 27, .p 28, .p 29, .p 30, .p 31, .p 32, .p 33, .p 34, .s 35 [29,34,24,28,33,23,11,27,32,22,10,25,26,30,31,16,21,4,9,15,20,3,8,14,19,2,7,12,13,17,18,0,1,5,6], .p 36, .p 37, .p 38, .p 39, .p 40, .p 41, .p 42, .p 43, .p 44, .p 45, .p 46, .p 47, .p 48, .s 49 [43,48,38,42,47,37,41,46,36,39,40,44,45], .p 50, .p 51, .p 52, .p 53, .p 54, .p 55, .p 56, .p 57, .p 58, .p 59, .p 60, .p 61, .p 62, .s 63 [57,62,52,56,61,51,55,60,50,53,54,58,59], .p 64, .p 65] (by kernel_rfl) ?_
   refine Kw ?_
   repeat'((first|(intro hlq;try simp only[SL] at hlq)|refine Meets.k (a5R xs[i].cond ys[i].cond) ?_|refine Meets.k (hp xs[i] (List.getElem_mem h1') ys[i]) ?_|refine Meets.k (hr xs[i] (List.getElem_mem h1') ys[i]) ?_|refine K9 ?_|((refine Kh (λhb=>?_) λhb=>?_)<;>try simp only[BL] at hb)|refine Ka ?_|refine Kb ?_|refine Kc (hd:=rfl) (e:=?_)|refine Kc (hd:=Step.cells_eq _) (e:=?_)|refine Kd (e:=?_)|refine Kl rfl ?_|fail)<;>refine Kw ?_)
   clear hp hr
   all_goals
    first
     | (refine⟨congrArg bD (H9 (S4 h1' h2' λe=>?_)).symm⟩
        rw[Step.e_iff] at e
        (try simp only[sameB_iff,sameB_niff] at *)
        simp_all
        done)
     | (refine⟨⟨i+1,?_,⟨by omega,T1 h1' h2' hq (Step.e_iff.2 ⟨by omega,by omega,sameB_iff.1 (by assumption),sameB_iff.1 (by assumption),sameB_iff.1 (by assumption)⟩)⟩,by omega⟩⟩
        (repeat'(first|exact True.intro|exact rfl|refine And.intro ?_ ?_)))
 . exact⟨congrArg bD (a0a (T0 (by omega) hl hq)).symm⟩
termination_by SizeOf.sizeOf xs
decreasing_by all_goals assumption
theorem c1c (a b:Distance):Meets Tryz.prog 42 [a.d,b.d] λd=>d=bD (G5 a b):=by
 refine enter tok {} Tryz.func42 rfl (by kernel_rfl) Tryz.ntmps42 (by simp) λB0 W0 V0 lent g0=>?_
 refine Kw ?_
 repeat'((first|(intro hlq;try simp only[SL] at hlq)|refine Meets.k (b2U a.route b.route) ?_|refine K9 ?_|((refine Kh (λhb=>?_) λhb=>?_)<;>try simp only[BL] at hb)|refine K8 ?_|refine Kc (hd:=Cond.cells_eq _) (e:=?_))<;>refine Kw ?_)
 all_goals try
  refine⟨congrArg bD ?_⟩
  exact(H9 (λe=>by(try simp only[sameB_iff,sameB_niff] at *);rw[Distance.e_iff] at e;simp_all)).symm
  done
 try simp only[sameB_iff,sameB_niff] at *
 have hl_cutoffs:a.cutoffs.length=b.cutoffs.length:=by omega
 refine j7 tok {} [] (X:=Nat) (λi=>[(5,iB i)]) (λ_=>[]) [] (λi=>i<=a.cutoffs.length/\a.cutoffs.take i=b.cutoffs.take i) (λi=>a.cutoffs.length-i) 0 ?_
 refine Kw ?_
 refine And.intro ?_ ⟨⟨by omega,rfl⟩,λi hΦ=>?_⟩
 . exact Kr
 obtain⟨hi,hq⟩:=hΦ
 refine Kw ?_
 repeat'((first|(intro hlq;try simp only[SL] at hlq)|refine K9 ?_|refine K8 ?_|refine Kc (hd:=Cond.cells_eq _) (e:=?_))<;>refine Kw ?_)
 refine⟨λh1=>?_,λh1=>?_⟩<;>(try simp only[BL] at h1)<;>refine Kw ?_
 . have h1':i<a.cutoffs.length:=by omega
   have h2':i<b.cutoffs.length:=by omega
   refine j9 tok (cf:={}) (by kernel_rfl) [.p 0, .p 1, .p 2, .p 3, .p 4, .p 5, .p 6, .p 7, .p 8, .p 9, .p 10] (by kernel_rfl) ?_
   refine Kw ?_
   repeat'((first|(intro hlq;try simp only[SL] at hlq)|refine K9 ?_|refine Ka ?_|refine Kb ?_|refine Kc (hd:=rfl) (e:=?_)|refine Kc (hd:=Cutoff.cells_eq _) (e:=?_)|refine Kd (e:=?_)|refine Kl rfl ?_|fail)<;>refine Kw ?_)
   refine⟨⟨⟨[a.cutoffs[i].mat,a.cutoffs[i].lap,a.cutoffs[i].limit],rfl,rfl⟩,⟨[b.cutoffs[i].mat,b.cutoffs[i].lap,b.cutoffs[i].limit],rfl,rfl⟩⟩,?_⟩
   refine Kw ?_
   repeat'((first|(intro hlq;try simp only[SL] at hlq)|refine K9 ?_|((refine Kh (λhb=>?_) λhb=>?_)<;>try simp only[BL] at hb)|refine K8 ?_|refine Kc (hd:=Cond.cells_eq _) (e:=?_))<;>refine Kw ?_)
   . exact⟨congrArg bD (H9 λe=>S4 h1' h2' (λe2=>(by assumption:_≠_) (Cutoff.c_iff.2 e2)) (by rw[e])).symm⟩
   . refine⟨⟨i+1,?_,⟨by omega,T1 h1' h2' hq (Cutoff.c_iff.1 (Classical.not_not.1 (by assumption)))⟩,by omega⟩⟩
     repeat'(first|exact True.intro|exact rfl|refine And.intro ?_ ?_)
 have e_cutoffs:=T0 (by omega) hl_cutoffs hq
 clear hi hq
 exact⟨congrArg bD (a0a (Distance.e_iff.2 ⟨Classical.not_not.1 (by assumption),by omega,by omega,e_cutoffs,by assumption⟩)).symm⟩
theorem c1b (a b:Course):Meets Tryz.prog 22 [a.d,b.d] λd=>d=bD (G5 a b):=by
 refine enter tok {} Tryz.func22 rfl (by kernel_rfl) Tryz.ntmps22 (by simp) λB0 W0 V0 lent g0=>?_
 refine Kw ?_
 repeat'((first|(intro hlq;try simp only[SL] at hlq)|refine Meets.k (a5T a.ties b.ties) ?_|refine⟨⟨⟨[a.faults.misses,a.faults.strays,a.faults.window,a.faults.residual,a.faults.drift],rfl,rfl⟩,⟨[b.faults.misses,b.faults.strays,b.faults.window,b.faults.residual,b.faults.drift],rfl,rfl⟩⟩,?_⟩|refine K9 ?_|((refine Kh (λhb=>?_) λhb=>?_)<;>try simp only[BL] at hb)|refine K8 ?_|refine Kc (hd:=Cond.cells_eq _) (e:=?_))<;>refine Kw ?_)
 all_goals try
  refine⟨congrArg bD ?_⟩
  exact(H9 (λe=>by(try simp only[sameB_iff,sameB_niff] at *);rw[Course.e_iff,Faults.e_iff] at e;simp_all)).symm
  done
 try simp only[sameB_iff,sameB_niff] at *
 have hl_mats:a.mats.length=b.mats.length:=by omega
 refine j7 tok {} [] (X:=Nat) (λi=>[(5,iB i)]) (λ_=>[]) [] (λi=>i<=a.mats.length/\a.mats.take i=b.mats.take i) (λi=>a.mats.length-i) 0 ?_
 refine Kw ?_
 refine And.intro ?_ ⟨⟨by omega,rfl⟩,λi hΦ=>?_⟩
 . exact Kr
 obtain⟨hi,hq⟩:=hΦ
 refine Kw ?_
 repeat'((first|(intro hlq;try simp only[SL] at hlq)|refine K9 ?_|refine K8 ?_|refine Kc (hd:=Cond.cells_eq _) (e:=?_))<;>refine Kw ?_)
 refine⟨λh1=>?_,λh1=>?_⟩<;>(try simp only[BL] at h1)<;>refine Kw ?_
 . have h1':i<a.mats.length:=by omega
   have h2':i<b.mats.length:=by omega
   refine j9 tok (cf:={}) (by kernel_rfl) [.p 0, .p 1, .p 2, .p 3, .p 4, .p 5, .p 6, .p 7, .p 8, .p 9, .p 10] (by kernel_rfl) ?_
   refine Kw ?_
   repeat'((first|(intro hlq;try simp only[SL] at hlq)|refine K9 ?_|refine Ka ?_|refine Kb ?_|refine Kc (hd:=rfl) (e:=?_)|refine Kc (hd:=Mat.cells_eq _) (e:=?_)|refine Kd (e:=?_)|refine Kl rfl ?_|fail)<;>refine Kw ?_)
   refine⟨⟨⟨_,by simp[O6,KSc],rfl⟩,⟨_,by simp[O6,KSc],rfl⟩⟩,?_⟩
   refine Kw ?_
   repeat'((first|(intro hlq;try simp only[SL] at hlq)|refine K9 ?_|((refine Kh (λhb=>?_) λhb=>?_)<;>try simp only[BL] at hb)|refine K8 ?_|refine Kc (hd:=Cond.cells_eq _) (e:=?_))<;>refine Kw ?_)
   . exact⟨congrArg bD (H9 λe=>S4 h1' h2' (λe2=>(by assumption:_≠_) (Mat.c_iff.2 e2)) (by rw[e])).symm⟩
   . refine⟨⟨i+1,?_,⟨by omega,T1 h1' h2' hq (Mat.c_iff.1 (Classical.not_not.1 (by assumption)))⟩,by omega⟩⟩
     repeat'(first|exact True.intro|exact rfl|refine And.intro ?_ ?_)
 have e_mats:=T0 (by omega) hl_mats hq
 clear hi hq
 have hl_legs:a.legs.length=b.legs.length:=by omega
 refine j7 tok {} [] (X:=Nat) (λi=>[(6,iB i)]) (λ_=>[]) [] (λi=>i<=a.legs.length/\a.legs.take i=b.legs.take i) (λi=>a.legs.length-i) 0 ?_
 refine Kw ?_
 refine And.intro ?_ ⟨⟨by omega,rfl⟩,λi hΦ=>?_⟩
 . exact Kr
 obtain⟨hi,hq⟩:=hΦ
 refine Kw ?_
 repeat'((first|(intro hlq;try simp only[SL] at hlq)|refine K9 ?_|refine K8 ?_|refine Kc (hd:=Cond.cells_eq _) (e:=?_))<;>refine Kw ?_)
 refine⟨λh1=>?_,λh1=>?_⟩<;>(try simp only[BL] at h1)<;>refine Kw ?_
 . have h1':i<a.legs.length:=by omega
   have h2':i<b.legs.length:=by omega
   refine j9 tok (cf:={}) (by kernel_rfl) [.p 0, .p 1, .p 2, .p 3, .p 4, .p 5, .p 6, .p 7, .p 8, .p 9, .p 10] (by kernel_rfl) ?_
   refine Kw ?_
   repeat'((first|(intro hlq;try simp only[SL] at hlq)|refine K9 ?_|refine Ka ?_|refine Kb ?_|refine Kc (hd:=rfl) (e:=?_)|refine Kc (hd:=Leg.cells_eq _) (e:=?_)|refine Kd (e:=?_)|refine Kl rfl ?_|fail)<;>refine Kw ?_)
   refine⟨⟨⟨[a.legs[i].src,a.legs[i].dst,a.legs[i].lo,a.legs[i].hi],rfl,rfl⟩,⟨[b.legs[i].src,b.legs[i].dst,b.legs[i].lo,b.legs[i].hi],rfl,rfl⟩⟩,?_⟩
   refine Kw ?_
   repeat'((first|(intro hlq;try simp only[SL] at hlq)|refine K9 ?_|((refine Kh (λhb=>?_) λhb=>?_)<;>try simp only[BL] at hb)|refine K8 ?_|refine Kc (hd:=Cond.cells_eq _) (e:=?_))<;>refine Kw ?_)
   . exact⟨congrArg bD (H9 λe=>S4 h1' h2' (λe2=>(by assumption:_≠_) (Leg.c_iff.2 e2)) (by rw[e])).symm⟩
   . refine⟨⟨i+1,?_,⟨by omega,T1 h1' h2' hq (Leg.c_iff.1 (Classical.not_not.1 (by assumption)))⟩,by omega⟩⟩
     repeat'(first|exact True.intro|exact rfl|refine And.intro ?_ ?_)
 have e_legs:=T0 (by omega) hl_legs hq
 clear hi hq
 have hl_distances:a.distances.length=b.distances.length:=by omega
 refine j7 tok {} [] (X:=Nat) (λi=>[(7,iB i)]) (λ_=>[]) [] (λi=>i<=a.distances.length/\a.distances.take i=b.distances.take i) (λi=>a.distances.length-i) 0 ?_
 refine Kw ?_
 refine And.intro ?_ ⟨⟨by omega,rfl⟩,λi hΦ=>?_⟩
 . exact Kr
 obtain⟨hi,hq⟩:=hΦ
 refine Kw ?_
 repeat'((first|(intro hlq;try simp only[SL] at hlq)|refine K9 ?_|refine K8 ?_|refine Kc (hd:=Cond.cells_eq _) (e:=?_))<;>refine Kw ?_)
 refine⟨λh1=>?_,λh1=>?_⟩<;>(try simp only[BL] at h1)<;>refine Kw ?_
 . have h1':i<a.distances.length:=by omega
   have h2':i<b.distances.length:=by omega
   refine j9 tok (cf:={}) (by kernel_rfl) [.p 0, .p 1, .p 2, .p 3, .p 4, .p 5, .p 6, .p 7, .p 8, .p 9, .s 10 [4,9,3,8,1,2,6,7,0,5], .p 11] (by kernel_rfl) ?_
   refine Kw ?_
   repeat'((first|(intro hlq;try simp only[SL] at hlq)|refine Meets.k (c1c a.distances[i] b.distances[i]) ?_|refine K9 ?_|((refine Kh (λhb=>?_) λhb=>?_)<;>try simp only[BL] at hb)|refine Ka ?_|refine Kb ?_|refine Kc (hd:=rfl) (e:=?_)|refine Kc (hd:=Distance.cells_eq _) (e:=?_)|refine Kd (e:=?_)|refine Kl rfl ?_|fail)<;>refine Kw ?_)
   . exact⟨congrArg bD (H9 λe=>S4 h1' h2' (sameB_niff.1 (by assumption)) (by rw[e])).symm⟩
   . refine⟨⟨i+1,?_,⟨by omega,T1 h1' h2' hq (sameB_iff.1 (by assumption))⟩,by omega⟩⟩
     repeat'(first|exact True.intro|exact rfl|refine And.intro ?_ ?_)
 have e_distances:=T0 (by omega) hl_distances hq
 clear hi hq
 have hl_waves:a.waves.length=b.waves.length:=by omega
 refine j7 tok {} [] (X:=Nat) (λi=>[(8,iB i)]) (λ_=>[]) [] (λi=>i<=a.waves.length/\a.waves.take i=b.waves.take i) (λi=>a.waves.length-i) 0 ?_
 refine Kw ?_
 refine And.intro ?_ ⟨⟨by omega,rfl⟩,λi hΦ=>?_⟩
 . exact Kr
 obtain⟨hi,hq⟩:=hΦ
 refine Kw ?_
 repeat'((first|(intro hlq;try simp only[SL] at hlq)|refine K9 ?_|refine K8 ?_|refine Kc (hd:=Cond.cells_eq _) (e:=?_))<;>refine Kw ?_)
 refine⟨λh1=>?_,λh1=>?_⟩<;>(try simp only[BL] at h1)<;>refine Kw ?_
 . have h1':i<a.waves.length:=by omega
   have h2':i<b.waves.length:=by omega
   refine j9 tok (cf:={}) (by kernel_rfl) [.p 0, .p 1, .p 2, .p 3, .p 4, .p 5, .p 6, .p 7, .p 8, .p 9, .p 10] (by kernel_rfl) ?_
   refine Kw ?_
   repeat'((first|(intro hlq;try simp only[SL] at hlq)|refine K9 ?_|refine Ka ?_|refine Kb ?_|refine Kc (hd:=rfl) (e:=?_)|refine Kc (hd:=Wave.cells_eq _) (e:=?_)|refine Kd (e:=?_)|refine Kl rfl ?_|fail)<;>refine Kw ?_)
   refine⟨⟨⟨_,by simp[O6,KSc],rfl⟩,⟨_,by simp[O6,KSc],rfl⟩⟩,?_⟩
   refine Kw ?_
   repeat'((first|(intro hlq;try simp only[SL] at hlq)|refine K9 ?_|((refine Kh (λhb=>?_) λhb=>?_)<;>try simp only[BL] at hb)|refine K8 ?_|refine Kc (hd:=Cond.cells_eq _) (e:=?_))<;>refine Kw ?_)
   . exact⟨congrArg bD (H9 λe=>S4 h1' h2' (λe2=>(by assumption:_≠_) (Wave.c_iff.2 e2)) (by rw[e])).symm⟩
   . refine⟨⟨i+1,?_,⟨by omega,T1 h1' h2' hq (Wave.c_iff.1 (Classical.not_not.1 (by assumption)))⟩,by omega⟩⟩
     repeat'(first|exact True.intro|exact rfl|refine And.intro ?_ ?_)
 have e_waves:=T0 (by omega) hl_waves hq
 clear hi hq
 have hl_offences:a.offences.length=b.offences.length:=by omega
 refine j7 tok {} [] (X:=Nat) (λi=>[(9,iB i)]) (λ_=>[]) [] (λi=>i<=a.offences.length/\a.offences.take i=b.offences.take i) (λi=>a.offences.length-i) 0 ?_
 refine Kw ?_
 refine And.intro ?_ ⟨⟨by omega,rfl⟩,λi hΦ=>?_⟩
 . exact Kr
 obtain⟨hi,hq⟩:=hΦ
 refine Kw ?_
 repeat'((first|(intro hlq;try simp only[SL] at hlq)|refine K9 ?_|refine K8 ?_|refine Kc (hd:=Cond.cells_eq _) (e:=?_))<;>refine Kw ?_)
 refine⟨λh1=>?_,λh1=>?_⟩<;>(try simp only[BL] at h1)<;>refine Kw ?_
 . have h1':i<a.offences.length:=by omega
   have h2':i<b.offences.length:=by omega
   refine j9 tok (cf:={}) (by kernel_rfl) [.p 0, .p 1, .p 2, .p 3, .p 4, .p 5, .p 6, .p 7, .p 8, .p 9, .p 10] (by kernel_rfl) ?_
   refine Kw ?_
   repeat'((first|(intro hlq;try simp only[SL] at hlq)|refine K9 ?_|refine Ka ?_|refine Kb ?_|refine Kc (hd:=rfl) (e:=?_)|refine Kc (hd:=Offence.cells_eq _) (e:=?_)|refine Kd (e:=?_)|refine Kl rfl ?_|fail)<;>refine Kw ?_)
   refine⟨⟨⟨_,by simp[O6,KSc],rfl⟩,⟨_,by simp[O6,KSc],rfl⟩⟩,?_⟩
   refine Kw ?_
   repeat'((first|(intro hlq;try simp only[SL] at hlq)|refine K9 ?_|((refine Kh (λhb=>?_) λhb=>?_)<;>try simp only[BL] at hb)|refine K8 ?_|refine Kc (hd:=Cond.cells_eq _) (e:=?_))<;>refine Kw ?_)
   . exact⟨congrArg bD (H9 λe=>S4 h1' h2' (λe2=>(by assumption:_≠_) (Offence.c_iff.2 e2)) (by rw[e])).symm⟩
   . refine⟨⟨i+1,?_,⟨by omega,T1 h1' h2' hq (Offence.c_iff.1 (Classical.not_not.1 (by assumption)))⟩,by omega⟩⟩
     repeat'(first|exact True.intro|exact rfl|refine And.intro ?_ ?_)
 have e_offences:=T0 (by omega) hl_offences hq
 clear hi hq
 have hl_categories:a.categories.length=b.categories.length:=by omega
 refine j7 tok {} [] (X:=Nat) (λi=>[(10,iB i)]) (λ_=>[]) [] (λi=>i<=a.categories.length/\a.categories.take i=b.categories.take i) (λi=>a.categories.length-i) 0 ?_
 refine Kw ?_
 refine And.intro ?_ ⟨⟨by omega,rfl⟩,λi hΦ=>?_⟩
 . exact Kr
 obtain⟨hi,hq⟩:=hΦ
 refine Kw ?_
 repeat'((first|(intro hlq;try simp only[SL] at hlq)|refine K9 ?_|refine K8 ?_|refine Kc (hd:=Cond.cells_eq _) (e:=?_))<;>refine Kw ?_)
 refine⟨λh1=>?_,λh1=>?_⟩<;>(try simp only[BL] at h1)<;>refine Kw ?_
 . have h1':i<a.categories.length:=by omega
   have h2':i<b.categories.length:=by omega
   refine j9 tok (cf:={}) (by kernel_rfl) [.p 0, .p 1, .p 2, .p 3, .p 4, .p 5, .p 6, .p 7, .p 8, .p 9, .p 10] (by kernel_rfl) ?_
   refine Kw ?_
   repeat'((first|(intro hlq;try simp only[SL] at hlq)|refine K9 ?_|refine Ka ?_|refine Kb ?_|refine Kc (hd:=rfl) (e:=?_)|refine Kc (hd:=Category.cells_eq _) (e:=?_)|refine Kd (e:=?_)|refine Kl rfl ?_|fail)<;>refine Kw ?_)
   refine⟨⟨⟨_,by simp[O6,KSc],rfl⟩,⟨_,by simp[O6,KSc],rfl⟩⟩,?_⟩
   refine Kw ?_
   repeat'((first|(intro hlq;try simp only[SL] at hlq)|refine K9 ?_|((refine Kh (λhb=>?_) λhb=>?_)<;>try simp only[BL] at hb)|refine K8 ?_|refine Kc (hd:=Cond.cells_eq _) (e:=?_))<;>refine Kw ?_)
   . exact⟨congrArg bD (H9 λe=>S4 h1' h2' (λe2=>(by assumption:_≠_) (Category.c_iff.2 e2)) (by rw[e])).symm⟩
   . refine⟨⟨i+1,?_,⟨by omega,T1 h1' h2' hq (Category.c_iff.1 (Classical.not_not.1 (by assumption)))⟩,by omega⟩⟩
     repeat'(first|exact True.intro|exact rfl|refine And.intro ?_ ?_)
 have e_categories:=T0 (by omega) hl_categories hq
 clear hi hq
 have hl_prizes:a.prizes.length=b.prizes.length:=by omega
 refine j7 tok {} [] (X:=Nat) (λi=>[(11,iB i)]) (λ_=>[]) [] (λi=>i<=a.prizes.length/\a.prizes.take i=b.prizes.take i) (λi=>a.prizes.length-i) 0 ?_
 refine Kw ?_
 refine And.intro ?_ ⟨⟨by omega,rfl⟩,λi hΦ=>?_⟩
 . exact Kr
 obtain⟨hi,hq⟩:=hΦ
 refine Kw ?_
 repeat'((first|(intro hlq;try simp only[SL] at hlq)|refine K9 ?_|refine K8 ?_|refine Kc (hd:=Cond.cells_eq _) (e:=?_))<;>refine Kw ?_)
 refine⟨λh1=>?_,λh1=>?_⟩<;>(try simp only[BL] at h1)<;>refine Kw ?_
 . have h1':i<a.prizes.length:=by omega
   have h2':i<b.prizes.length:=by omega
   refine j9 tok (cf:={}) (by kernel_rfl) [.p 0, .p 1, .p 2, .p 3, .p 4, .p 5, .p 6, .p 7, .p 8, .p 9, .p 10] (by kernel_rfl) ?_
   refine Kw ?_
   repeat'((first|(intro hlq;try simp only[SL] at hlq)|refine K9 ?_|refine Ka ?_|refine Kb ?_|refine Kc (hd:=rfl) (e:=?_)|refine Kc (hd:=Prize.cells_eq _) (e:=?_)|refine Kd (e:=?_)|refine Kl rfl ?_|fail)<;>refine Kw ?_)
   refine⟨⟨⟨[a.prizes[i].distance,a.prizes[i].category,a.prizes[i].rank,a.prizes[i].amount],rfl,rfl⟩,⟨[b.prizes[i].distance,b.prizes[i].category,b.prizes[i].rank,b.prizes[i].amount],rfl,rfl⟩⟩,?_⟩
   refine Kw ?_
   repeat'((first|(intro hlq;try simp only[SL] at hlq)|refine K9 ?_|((refine Kh (λhb=>?_) λhb=>?_)<;>try simp only[BL] at hb)|refine K8 ?_|refine Kc (hd:=Cond.cells_eq _) (e:=?_))<;>refine Kw ?_)
   . exact⟨congrArg bD (H9 λe=>S4 h1' h2' (λe2=>(by assumption:_≠_) (Prize.c_iff.2 e2)) (by rw[e])).symm⟩
   . refine⟨⟨i+1,?_,⟨by omega,T1 h1' h2' hq (Prize.c_iff.1 (Classical.not_not.1 (by assumption)))⟩,by omega⟩⟩
     repeat'(first|exact True.intro|exact rfl|refine And.intro ?_ ?_)
 have e_prizes:=T0 (by omega) hl_prizes hq
 clear hi hq
 refine⟨congrArg bD (a0a (Course.e_iff.2 ⟨Classical.not_not.1 (by assumption),Faults.e_iff.2 (Classical.not_not.1 (by assumption)),by omega,by omega,e_mats,e_legs,e_distances,e_waves,e_offences,e_categories,e_prizes,by assumption⟩)).symm⟩
end Go.Proofs.YtaopegkpjhkooaaGreatDoor.Dx
