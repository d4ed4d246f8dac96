/- Parts of routes: their depth and their number; fits. -/
import Derived.Test.YteillnfhkeebjaaGreatDoorSq
set_option linter.all false
namespace Go.Proofs.YteillnfhkeebjaaGreatDoor.Dx
open Go Go.RowKit
set_option maxRecDepth 100000
set_option maxHeartbeats 8000000
mutual
def Part.deep:Part->Nat
 |⟨_,_,ps⟩=>if ps.isEmpty then 0 else 1+Part.deepL ps
def Part.deepL:List Part->Nat
 |[]=>0
 |p::ps=>max p.deep (Part.deepL ps)
end
mutual
def Part.cnt:Part->Nat
 |⟨_,_,ps⟩=>1+Part.cntL ps
def Part.cntL:List Part->Nat
 |[]=>0
 |p::ps=>p.cnt+Part.cntL ps
end
theorem Part.deep_eq (p:Part):p.deep=if p.parts.isEmpty then 0 else 1+Part.deepL p.parts:=by obtain⟨m,n,ps⟩:=p;rfl
theorem Part.cnt_eq (p:Part):p.cnt=1+Part.cntL p.parts:=by obtain⟨m,n,ps⟩:=p;rfl
theorem Part.deepL_append:∀a b:List Part,Part.deepL (a++b)=max (Part.deepL a) (Part.deepL b)
 |[],b=>by simp[Part.deepL]
 |x::a,b=>by rw[List.cons_append,Part.deepL,Part.deepL_append a b,Part.deepL];omega
theorem Part.cntL_append:∀a b:List Part,Part.cntL (a++b)=Part.cntL a+Part.cntL b
 |[],b=>by simp[Part.cntL]
 |x::a,b=>by rw[List.cons_append,Part.cntL,Part.cntL_append a b,Part.cntL];omega
theorem Part.len_cnt:∀l:List Part,l.length<=Part.cntL l
 |[]=>by simp
 |x::l=>by have:=Part.len_cnt l;rw[Part.cntL,Part.cnt_eq,List.length_cons];omega
theorem Part.deepL_take {l:List Part}{i:Nat}(h:i<l.length):Part.deepL (l.take (i+1))=max (Part.deepL (l.take i)) l[i].deep:=by
 rw[List.take_succ_eq_append_getElem h,Part.deepL_append];simp[Part.deepL]
theorem Part.cntL_take {l:List Part}{i:Nat}(h:i<l.length):Part.cntL (l.take (i+1))=Part.cntL (l.take i)+(1+Part.cntL l[i].parts):=by
 rw[List.take_succ_eq_append_getElem h,Part.cntL_append];simp[Part.cntL,Part.cnt_eq]
theorem Part.cnt_part {l:List Part}{i:Nat}(h:i<l.length):1+Part.cntL l[i].parts<=Part.cntL l:=by
 have h1:=Part.cntL_take h
 have h2:=Part.cntL_append (l.take (i+1)) (l.drop (i+1))
 rw[List.take_append_drop] at h2
 omega
mutual
theorem Part.deep_le:∀p:Part,p.deep<=p.cnt
 | ⟨m,n,ps⟩=>by
   have:=Part.deepL_le ps
   simp only[Part.deep,Part.cnt]
   split<;>omega
theorem Part.deepL_le:∀l:List Part,Part.deepL l<=Part.cntL l
 |[]=>by simp[Part.deepL]
 | p::l=>by
   have h1:=Part.deep_le p
   have h2:=Part.deepL_le l
   simp only[Part.deepL,Part.cntL]
   omega
end
theorem Part.deep_or (p:Part):(p.parts.length=0/\p.deep=0/\Part.cntL p.parts=0)\/(0<p.parts.length/\p.deep=1+Part.deepL p.parts):=by
 obtain⟨m,n,ps⟩:=p
 cases ps with
 |nil=>exact .inl ⟨rfl,rfl,rfl⟩
 |cons x l=>exact .inr ⟨Nat.succ_pos _,rfl⟩
def Dep (n:Nat)(t:List Part)(left d m:Int):Prop:=
 (m+t.length<=n+Part.cntL t/\(n:Int)<=m)/\(0<=d/\d<=Part.deepL t)/\(m<=256->((Part.deepL t:Int)<=left->d=Part.deepL t/\m+t.length=n+Part.cntL t)/\(left<(Part.deepL t:Int)->left<=d))
theorem b0j (l:List Part)(left:Int)(h0:0<=left/\left<=17)(hl:Part.cntL l<=1048576):
 Meets Tryz.prog 82 [.sl (l.map Part.cells),iD left] λr=>∃d m:Int,r= .tup [iD d,iD m]/\Dep l.length l left d m:=by
 have hlen:=Part.len_cnt l
 refine enter tok {} Tryz.func82 rfl (by kernel_rfl) Tryz.ntmps82 (by simp) λB0 W0 V0 lent g0=>?_
 refine Kw ?_
 repeat'((first|(intro hlq;try simp only[SL] at hlq)|refine K8 ?_)<;>refine Kw ?_)
 refine d4 tok {} [] (X:=Nat×Int×Int) (λx=>[(14,iB x.1),(4,iB x.2.1),(5,iB x.2.2)]) (λ_=>[]) [7] (λx=>x.1<=l.length/\Dep l.length (l.take x.1) left x.2.1 x.2.2) (λx=>l.length-x.1) (0,0,((l.map Part.cells).length:Int)) ?_
 refine Kw ?_
 refine And.intro ?_ ⟨⟨by omega,by simp[Dep,Part.deepL,Part.cntL];omega⟩,λx hΦ=>?_⟩
 . exact Kr
 obtain⟨i,d,m⟩:=x
 obtain⟨hi,hD⟩:=hΦ
 dsimp only at hi hD
 refine Kw ?_
 refine⟨λh1=>?_,λh1=>?_⟩<;>(try simp only[BL] at h1)<;>refine Kw ?_
 . have h1':i<l.length:=by omega
   have e1:=Part.deepL_take h1'
   have e2:=Part.cntL_take h1'
   have e3:=l[i].deep_or
   have e4:=Part.cnt_part h1'
   have e5:=Part.len_cnt l[i].parts
   have e6:(l.take (i+1)).length=i+1:=by rw[List.length_take];omega
   have e7:(l.take i).length=i:=by rw[List.length_take];omega
   rw[Dep,e7] at hD
   have hskip:(l[i].parts.length=0\/left=0\/m>256)->Dep l.length (l.take (i+1)) left d m:=by
    intro h
    rw[Dep,e1,e2,e6]
    omega
   repeat'((first|(intro hlq;try simp only[SL] at hlq)|((refine Kh (λhb=>?_) λhb=>?_)<;>try simp only[BL] at hb)|refine Ka ?_|refine Kb ?_|refine Kc (hd:=rfl) (e:=?_)|refine Kc (hd:=Part.cells_eq _) (e:=?_)|refine Kd (e:=?_)|refine Kl rfl ?_|fail)<;>refine Kw ?_)
   iterate 3
    . refine⟨⟨(i+1,d,m),?_,⟨by dsimp only;omega,hskip (by(try dsimp only at *);omega)⟩,by dsimp only;omega⟩⟩
      repeat'(first|exact True.intro|exact rfl|refine And.intro ?_ ?_)
   (try dsimp only at *)
   refine(b0j l[i].parts (left-1) (by omega) (by omega)).mono λr hr=>?_
   obtain⟨d',m',rfl,hD'⟩:=hr
   have e8:=Part.deepL_le l[i].parts
   rw[Dep] at hD'
   refine Kw ?_
   repeat'((first|(intro hlq;try simp only[SL] at hlq)|refine K8 ?_)<;>refine Kw ?_)
   refine⟨⟨(i+1,max d (d'+1),m+m'),?_,⟨by dsimp only;omega,?_⟩,by dsimp only;omega⟩⟩
   . exact Kr
   dsimp only
   rw[Dep,e1,e2,e6]
   omega
 . skip
   have e:l.take i=l:=List.take_of_length_le (by omega)
   rw[e] at hD
   exact⟨d,m,rfl,hD⟩
termination_by Part.cntL l
decreasing_by omega
theorem Dep.fit {l:List Part}{d m:Int}(h:Dep l.length l 17 d m):(d<=16/\m<=256)↔(Part.deepL l<=16/\Part.cntL l<=256):=by
 rw[Dep] at h
 omega
end Go.Proofs.YteillnfhkeebjaaGreatDoor.Dx
/- Parts of routes in the reference; has a course not too many elements? -/
namespace Go.Proofs.YteillnfhkeebjaaGreatDoor.Dx
open Go Go.RowKit
set_option maxRecDepth 100000
set_option maxHeartbeats 8000000
def Distance.fits (d:Distance):Bool:=decide (d.cutoffs.length<=64)&&(decide (Part.deepL d.route<=16)&&decide (Part.cntL d.route<=256))
def Course.fits (c:Course):Bool:=(decide (c.mats.length<=40)&&(decide (c.legs.length<=512)&&(decide (c.distances.length<=8)&&(decide (c.waves.length<=32)&&(decide (c.offences.length<=32)&&(decide (c.categories.length<=32)&&decide (c.prizes.length<=32)))))))&&c.distances.all Distance.fits
theorem Course.fits_false {c:Course}(h:c.mats.length>40\/c.legs.length>512\/c.distances.length>8\/c.waves.length>32\/c.offences.length>32\/c.categories.length>32\/c.prizes.length>32):c.fits=false:=by
 cases hf:c.fits with
 |false=>rfl
 | true=>
   simp only[Course.fits,Bool.and_eq_true,decide_eq_true_eq] at hf
   omega
theorem Course.fits_eq {c:Course}(h:¬(c.mats.length>40\/c.legs.length>512\/c.distances.length>8\/c.waves.length>32\/c.offences.length>32\/c.categories.length>32\/c.prizes.length>32)):c.fits=c.distances.all Distance.fits:=by
 rw[Course.fits,decide_eq_true (by omega),decide_eq_true (by omega),decide_eq_true (by omega),decide_eq_true (by omega),decide_eq_true (by omega),decide_eq_true (by omega),decide_eq_true (by omega)]
 rfl
theorem b7Y (c:Course)(hc:∀d∈c.distances,Part.cntL d.route<=1048576):Meets Tryz.prog 40 [c.d] λr=>r=bD c.fits:=by
 refine enter tok {} Tryz.func40 rfl (by kernel_rfl) Tryz.ntmps40 (by simp) λB0 W0 V0 lent g0=>?_
 refine Kw ?_
 repeat'((first|(intro hlq;try simp only[SL] at hlq)|((refine Kh (λhb=>?_) λhb=>?_)<;>try simp only[BL] at hb)|refine K8 ?_)<;>refine Kw ?_)
 iterate 7
  . exact⟨congrArg bD (Course.fits_false (by omega)).symm⟩
 rw[Course.fits_eq (by omega)]
 refine d4 tok {} [] (X:=Nat) (λi=>[(50,iB i)]) (λ_=>[]) [4] (λi=>i<=c.distances.length/\∀x∈c.distances.take i,Distance.fits x=true) (λi=>c.distances.length-i) 0 ?_
 refine Kw ?_
 refine And.intro ?_ ⟨⟨by omega,by simp⟩,λi hΦ=>?_⟩
 . exact Kr
 obtain⟨hi,hp⟩:=hΦ
 refine Kw ?_
 refine⟨λh1=>?_,λh1=>?_⟩<;>(try simp only[BL] at h1)<;>refine Kw ?_
 . have h1':i<c.distances.length:=by omega
   repeat'((first|(intro hlq;try simp only[SL] at hlq)|refine Ka ?_|refine Kb ?_|refine Kc (hd:=rfl) (e:=?_)|refine Kc (hd:=Distance.cells_eq _) (e:=?_)|refine Kd (e:=?_)|refine Kl rfl ?_|fail)<;>refine Kw ?_)
   refine(b0j c.distances[i].route 17 (by omega) (hc _ (List.getElem_mem h1'))).mono λr hr=>?_
   obtain⟨d,m,rfl,hD⟩:=hr
   have hf:=hD.fit
   refine Kw ?_
   repeat'((first|(intro hlq;try simp only[SL] at hlq)|((refine Kh (λhb=>?_) λhb=>?_)<;>try simp only[BL] at hb)|refine K8 ?_)<;>refine Kw ?_)
   all_goals first
    | (refine⟨congrArg bD ?_⟩
       have hn:Distance.fits c.distances[i]=false:=by
        simp only[Distance.fits,Bool.and_eq_false_iff,decide_eq_false_iff_not];omega
       rw[a3l (List.getElem_mem h1') hn]
       done)
    | (refine⟨⟨i+1,?_,⟨by omega,D2 h1' hp ?_⟩,by omega⟩⟩
       . exact Kr
       simp only[Distance.fits,Bool.and_eq_true,decide_eq_true_eq];omega)
 . refine⟨congrArg bD ?_⟩
   rw[a5y (by omega) hp]
end Go.Proofs.YteillnfhkeebjaaGreatDoor.Dx
/- Names of elements: different ones. -/
namespace Go.Proofs.YteillnfhkeebjaaGreatDoor.Dx
open Go Go.RowKit
set_option maxRecDepth 100000
set_option maxHeartbeats 8000000
def nmL (l:List (List UInt8)):Bool:=l.all (C4 kw)&&decide l.Nodup
def K7 (l:List (List UInt8)):List (D×D):=l.map λs=>(.str s,bD true)
theorem N0 {l:List (List UInt8)}:∀p∈K7 l,a1t p.1:=by
 intro p hp
 obtain⟨s,_,rfl⟩:=List.mem_map.1 hp
 exact⟨s,rfl⟩
theorem a2G (l:List (List UInt8))(s:List UInt8):(p6 (K7 l) (.str s)).getD (bD false)=bD (decide (s∈l)):=by
 induction l with
 |nil=>rfl
 | cons x l ih=>
   simp only[K7,List.map_cons,p6] at ih⊢
   by_cases e:x=s
   . subst e;simp
   . have:¬(D.str x=D.str s):=by simpa using e
     rw[if_neg this,ih]
     simp[Ne.symm e]
theorem a2H {l:List (List UInt8)}{s:List UInt8}(h:s∉l):q9 (K7 l) (.str s) (bD true)=K7 (l++[s]):=by
 rw[b1Z]
 . simp[K7]
 . intro p hp e
   obtain⟨x,hx,rfl⟩:=List.mem_map.1 hp
   simp only[D.str.injEq] at e
   exact h (e▸hx)
theorem a2q {l:List (List UInt8)}{i:Nat}(h:i<l.length)(hp:nmL (l.take i)=true):
 ((C4 kw l[i]=true/\decide (l[i]∈l.take i)=false)->nmL (l.take (i+1))=true)/\(C4 kw l[i]=false->nmL l=false)/\(decide (l[i]∈l.take i)=true->nmL l=false):=by
 rw[nmL,Bool.and_eq_true,List.all_eq_true,decide_eq_true_eq] at hp
 refine⟨λ⟨h1,h2⟩=>?_,λh1=>?_,λh1=>?_⟩
 . rw [decide_eq_false_iff_not] at h2
   rw[nmL,Bool.and_eq_true,List.all_eq_true,decide_eq_true_eq,List.take_succ_eq_append_getElem h]
   refine⟨λx hx=>?_,?_⟩
   . rcases List.mem_append.1 hx with hx|hx
     . exact hp.1 x hx
     . rw[List.mem_singleton.1 hx];exact h1
   . rw[List.nodup_append]
     refine⟨hp.2,by simp,λa ha b hb=>?_⟩
     rw[List.mem_singleton.1 hb]
     rintro rfl
     exact h2 ha
 . rw[nmL,a3l (List.getElem_mem h) h1];rfl
 . rw[decide_eq_true_eq] at h1
   rw[nmL,Bool.and_eq_false_iff]
   right
   rw[decide_eq_false_iff_not]
   intro hn
   have h2:(l.take (i+1)).Nodup:=hn.sublist (List.take_sublist _ _)
   rw[List.take_succ_eq_append_getElem h,List.nodup_append] at h2
   exact h2.2.2 _ h1 _ (List.mem_singleton.2 rfl) rfl
theorem a1X {α β:Type}{f:α->β}{xs:List α}{i:Nat}(h:i<xs.length):(xs.map f)[i]'(by simpa using h)=f xs[i]:=by simp
theorem a2N {α:Type}{l:List α}{i:Nat}(h:i<l.length):l.take (i+1)=l.take i++[l[i]]:=List.take_succ_eq_append_getElem h
theorem c0p (x:Mat):Meets Tryz.prog 85 [x.d] λd=>d= .str x.name:=by
 refine enter tok {} Tryz.func85 rfl (by kernel_rfl) Tryz.ntmps85 (by simp) λB0 W0 V0 lent g0=>?_
 refine Kw ?_
 exact⟨rfl⟩
theorem c0v (xs:List Mat)(hl:xs.length<=1048576):Meets Tryz.prog 84 [.sl (xs.map Mat.cells), .fn 85 [] []] λd=>d=bD (nmL (xs.map (·.name))):=by
 refine enter tok {} Tryz.func84 rfl (by kernel_rfl) Tryz.ntmps84 (by simp) λB0 W0 V0 lent g0=>?_
 refine Kw ?_
 repeat'((first|(intro hlq;try simp only[SL] at hlq)|refine K8 ?_)<;>refine Kw ?_)
 refine d4 tok {} [] (X:=Nat) (λi=>[(12,iB i)]) (λi=>[(9, .mp (K7 ((xs.map (·.name)).take i)))]) [7] (λi=>i<=xs.length/\nmL ((xs.map (·.name)).take i)=true) (λi=>xs.length-i) 0 ?_
 refine Kw ?_
 refine And.intro ?_ ⟨⟨by omega,by simp[nmL]⟩,λi hΦ=>?_⟩
 . exact Kr
 obtain⟨hi,hp⟩:=hΦ
 refine Kw ?_
 refine⟨λh1=>?_,λh1=>?_⟩<;>(try simp only[BL] at h1)<;>refine Kw ?_
 . have h1':i<xs.length:=by omega
   have hstep:=a2q (l:=xs.map (·.name)) (i:=i) (by simpa using h1') hp
   simp only[List.getElem_map] at hstep
   repeat'((first|(intro hlq;try simp only[SL] at hlq)|refine Meets.k (c0p xs[i]) ?_|refine Meets.k (a0G xs[i].name) ?_|((refine Kh (λhb=>?_) λhb=>?_)<;>try simp only[BL] at hb)|refine K8 ?_)<;>refine Kw ?_)
   all_goals first
    | (refine⟨⟨⟨_,rfl⟩,N0⟩,?_⟩
       refine⟨_,a2G _ _,?_⟩
       (conv=>whnf);repeat'(refine Z rfl ?_;conv=>whnf))
    |skip
   repeat'((first|(intro hlq;try simp only[SL] at hlq)|((refine Kh (λhb=>?_) λhb=>?_)<;>try simp only[BL] at hb)|refine K8 ?_)<;>refine Kw ?_)
   all_goals first
    | (refine⟨congrArg bD ?_⟩
       exact(hstep.2.2 (by assumption)).symm)
    | (refine⟨congrArg bD ?_⟩
       exact(hstep.2.1 (by assumption)).symm)
    | (refine⟨congrArg bD ?_⟩
       exact(hstep.2.2 (decide_eq_true (by assumption))).symm)
    |skip
   refine⟨⟨⟨_,rfl⟩,N0⟩,?_⟩
   rw[a2H (by assumption),<-a1X (f:=λx:Mat=>x.name) h1',<-a2N]
   refine Kw ?_
   repeat'((first|(intro hlq;try simp only[SL] at hlq)|refine K8 ?_)<;>refine Kw ?_)
   refine⟨⟨i+1,?_,⟨by omega,hstep.1 ⟨by assumption,decide_eq_false (by assumption)⟩⟩,by omega⟩⟩
   repeat'(first|exact True.intro|exact rfl|refine And.intro ?_ ?_)
 . refine⟨congrArg bD ?_⟩
   rw[List.take_of_length_le (by simp;omega)] at hp
   exact hp.symm
theorem c0o (x:Distance):Meets Tryz.prog 87 [x.d] λd=>d= .str x.name:=by
 refine enter tok {} Tryz.func87 rfl (by kernel_rfl) Tryz.ntmps87 (by simp) λB0 W0 V0 lent g0=>?_
 refine Kw ?_
 exact⟨rfl⟩
theorem c0t (xs:List Distance)(hl:xs.length<=1048576):Meets Tryz.prog 86 [.sl (xs.map Distance.cells), .fn 87 [] []] λd=>d=bD (nmL (xs.map (·.name))):=by
 refine enter tok {} Tryz.func86 rfl (by kernel_rfl) Tryz.ntmps86 (by simp) λB0 W0 V0 lent g0=>?_
 refine Kw ?_
 repeat'((first|(intro hlq;try simp only[SL] at hlq)|refine K8 ?_)<;>refine Kw ?_)
 refine d4 tok {} [] (X:=Nat) (λi=>[(12,iB i)]) (λi=>[(9, .mp (K7 ((xs.map (·.name)).take i)))]) [7] (λi=>i<=xs.length/\nmL ((xs.map (·.name)).take i)=true) (λi=>xs.length-i) 0 ?_
 refine Kw ?_
 refine And.intro ?_ ⟨⟨by omega,by simp[nmL]⟩,λi hΦ=>?_⟩
 . exact Kr
 obtain⟨hi,hp⟩:=hΦ
 refine Kw ?_
 refine⟨λh1=>?_,λh1=>?_⟩<;>(try simp only[BL] at h1)<;>refine Kw ?_
 . have h1':i<xs.length:=by omega
   have hstep:=a2q (l:=xs.map (·.name)) (i:=i) (by simpa using h1') hp
   simp only[List.getElem_map] at hstep
   repeat'((first|(intro hlq;try simp only[SL] at hlq)|refine Meets.k (c0o xs[i]) ?_|refine Meets.k (a0G xs[i].name) ?_|((refine Kh (λhb=>?_) λhb=>?_)<;>try simp only[BL] at hb)|refine K8 ?_)<;>refine Kw ?_)
   all_goals first
    | (refine⟨⟨⟨_,rfl⟩,N0⟩,?_⟩
       refine⟨_,a2G _ _,?_⟩
       (conv=>whnf);repeat'(refine Z rfl ?_;conv=>whnf))
    |skip
   repeat'((first|(intro hlq;try simp only[SL] at hlq)|((refine Kh (λhb=>?_) λhb=>?_)<;>try simp only[BL] at hb)|refine K8 ?_)<;>refine Kw ?_)
   all_goals first
    | (refine⟨congrArg bD ?_⟩
       exact(hstep.2.2 (by assumption)).symm)
    | (refine⟨congrArg bD ?_⟩
       exact(hstep.2.1 (by assumption)).symm)
    | (refine⟨congrArg bD ?_⟩
       exact(hstep.2.2 (decide_eq_true (by assumption))).symm)
    |skip
   refine⟨⟨⟨_,rfl⟩,N0⟩,?_⟩
   rw[a2H (by assumption),<-a1X (f:=λx:Distance=>x.name) h1',<-a2N]
   refine Kw ?_
   repeat'((first|(intro hlq;try simp only[SL] at hlq)|refine K8 ?_)<;>refine Kw ?_)
   refine⟨⟨i+1,?_,⟨by omega,hstep.1 ⟨by assumption,decide_eq_false (by assumption)⟩⟩,by omega⟩⟩
   repeat'(first|exact True.intro|exact rfl|refine And.intro ?_ ?_)
 . refine⟨congrArg bD ?_⟩
   rw[List.take_of_length_le (by simp;omega)] at hp
   exact hp.symm
theorem c0r (x:Wave):Meets Tryz.prog 89 [x.d] λd=>d= .str x.name:=by
 refine enter tok {} Tryz.func89 rfl (by kernel_rfl) Tryz.ntmps89 (by simp) λB0 W0 V0 lent g0=>?_
 refine Kw ?_
 exact⟨rfl⟩
theorem c0x (xs:List Wave)(hl:xs.length<=1048576):Meets Tryz.prog 88 [.sl (xs.map Wave.cells), .fn 89 [] []] λd=>d=bD (nmL (xs.map (·.name))):=by
 refine enter tok {} Tryz.func88 rfl (by kernel_rfl) Tryz.ntmps88 (by simp) λB0 W0 V0 lent g0=>?_
 refine Kw ?_
 repeat'((first|(intro hlq;try simp only[SL] at hlq)|refine K8 ?_)<;>refine Kw ?_)
 refine d4 tok {} [] (X:=Nat) (λi=>[(12,iB i)]) (λi=>[(9, .mp (K7 ((xs.map (·.name)).take i)))]) [7] (λi=>i<=xs.length/\nmL ((xs.map (·.name)).take i)=true) (λi=>xs.length-i) 0 ?_
 refine Kw ?_
 refine And.intro ?_ ⟨⟨by omega,by simp[nmL]⟩,λi hΦ=>?_⟩
 . exact Kr
 obtain⟨hi,hp⟩:=hΦ
 refine Kw ?_
 refine⟨λh1=>?_,λh1=>?_⟩<;>(try simp only[BL] at h1)<;>refine Kw ?_
 . have h1':i<xs.length:=by omega
   have hstep:=a2q (l:=xs.map (·.name)) (i:=i) (by simpa using h1') hp
   simp only[List.getElem_map] at hstep
   repeat'((first|(intro hlq;try simp only[SL] at hlq)|refine Meets.k (c0r xs[i]) ?_|refine Meets.k (a0G xs[i].name) ?_|((refine Kh (λhb=>?_) λhb=>?_)<;>try simp only[BL] at hb)|refine K8 ?_)<;>refine Kw ?_)
   all_goals first
    | (refine⟨⟨⟨_,rfl⟩,N0⟩,?_⟩
       refine⟨_,a2G _ _,?_⟩
       (conv=>whnf);repeat'(refine Z rfl ?_;conv=>whnf))
    |skip
   repeat'((first|(intro hlq;try simp only[SL] at hlq)|((refine Kh (λhb=>?_) λhb=>?_)<;>try simp only[BL] at hb)|refine K8 ?_)<;>refine Kw ?_)
   all_goals first
    | (refine⟨congrArg bD ?_⟩
       exact(hstep.2.2 (by assumption)).symm)
    | (refine⟨congrArg bD ?_⟩
       exact(hstep.2.1 (by assumption)).symm)
    | (refine⟨congrArg bD ?_⟩
       exact(hstep.2.2 (decide_eq_true (by assumption))).symm)
    |skip
   refine⟨⟨⟨_,rfl⟩,N0⟩,?_⟩
   rw[a2H (by assumption),<-a1X (f:=λx:Wave=>x.name) h1',<-a2N]
   refine Kw ?_
   repeat'((first|(intro hlq;try simp only[SL] at hlq)|refine K8 ?_)<;>refine Kw ?_)
   refine⟨⟨i+1,?_,⟨by omega,hstep.1 ⟨by assumption,decide_eq_false (by assumption)⟩⟩,by omega⟩⟩
   repeat'(first|exact True.intro|exact rfl|refine And.intro ?_ ?_)
 . refine⟨congrArg bD ?_⟩
   rw[List.take_of_length_le (by simp;omega)] at hp
   exact hp.symm
theorem c0q (x:Offence):Meets Tryz.prog 91 [x.d] λd=>d= .str x.name:=by
 refine enter tok {} Tryz.func91 rfl (by kernel_rfl) Tryz.ntmps91 (by simp) λB0 W0 V0 lent g0=>?_
 refine Kw ?_
 exact⟨rfl⟩
theorem c0w (xs:List Offence)(hl:xs.length<=1048576):Meets Tryz.prog 90 [.sl (xs.map Offence.cells), .fn 91 [] []] λd=>d=bD (nmL (xs.map (·.name))):=by
 refine enter tok {} Tryz.func90 rfl (by kernel_rfl) Tryz.ntmps90 (by simp) λB0 W0 V0 lent g0=>?_
 refine Kw ?_
 repeat'((first|(intro hlq;try simp only[SL] at hlq)|refine K8 ?_)<;>refine Kw ?_)
 refine d4 tok {} [] (X:=Nat) (λi=>[(12,iB i)]) (λi=>[(9, .mp (K7 ((xs.map (·.name)).take i)))]) [7] (λi=>i<=xs.length/\nmL ((xs.map (·.name)).take i)=true) (λi=>xs.length-i) 0 ?_
 refine Kw ?_
 refine And.intro ?_ ⟨⟨by omega,by simp[nmL]⟩,λi hΦ=>?_⟩
 . exact Kr
 obtain⟨hi,hp⟩:=hΦ
 refine Kw ?_
 refine⟨λh1=>?_,λh1=>?_⟩<;>(try simp only[BL] at h1)<;>refine Kw ?_
 . have h1':i<xs.length:=by omega
   have hstep:=a2q (l:=xs.map (·.name)) (i:=i) (by simpa using h1') hp
   simp only[List.getElem_map] at hstep
   repeat'((first|(intro hlq;try simp only[SL] at hlq)|refine Meets.k (c0q xs[i]) ?_|refine Meets.k (a0G xs[i].name) ?_|((refine Kh (λhb=>?_) λhb=>?_)<;>try simp only[BL] at hb)|refine K8 ?_)<;>refine Kw ?_)
   all_goals first
    | (refine⟨⟨⟨_,rfl⟩,N0⟩,?_⟩
       refine⟨_,a2G _ _,?_⟩
       (conv=>whnf);repeat'(refine Z rfl ?_;conv=>whnf))
    |skip
   repeat'((first|(intro hlq;try simp only[SL] at hlq)|((refine Kh (λhb=>?_) λhb=>?_)<;>try simp only[BL] at hb)|refine K8 ?_)<;>refine Kw ?_)
   all_goals first
    | (refine⟨congrArg bD ?_⟩
       exact(hstep.2.2 (by assumption)).symm)
    | (refine⟨congrArg bD ?_⟩
       exact(hstep.2.1 (by assumption)).symm)
    | (refine⟨congrArg bD ?_⟩
       exact(hstep.2.2 (decide_eq_true (by assumption))).symm)
    |skip
   refine⟨⟨⟨_,rfl⟩,N0⟩,?_⟩
   rw[a2H (by assumption),<-a1X (f:=λx:Offence=>x.name) h1',<-a2N]
   refine Kw ?_
   repeat'((first|(intro hlq;try simp only[SL] at hlq)|refine K8 ?_)<;>refine Kw ?_)
   refine⟨⟨i+1,?_,⟨by omega,hstep.1 ⟨by assumption,decide_eq_false (by assumption)⟩⟩,by omega⟩⟩
   repeat'(first|exact True.intro|exact rfl|refine And.intro ?_ ?_)
 . refine⟨congrArg bD ?_⟩
   rw[List.take_of_length_le (by simp;omega)] at hp
   exact hp.symm
theorem c0n (x:Category):Meets Tryz.prog 93 [x.d] λd=>d= .str x.name:=by
 refine enter tok {} Tryz.func93 rfl (by kernel_rfl) Tryz.ntmps93 (by simp) λB0 W0 V0 lent g0=>?_
 refine Kw ?_
 exact⟨rfl⟩
theorem c0s (xs:List Category)(hl:xs.length<=1048576):Meets Tryz.prog 92 [.sl (xs.map Category.cells), .fn 93 [] []] λd=>d=bD (nmL (xs.map (·.name))):=by
 refine enter tok {} Tryz.func92 rfl (by kernel_rfl) Tryz.ntmps92 (by simp) λB0 W0 V0 lent g0=>?_
 refine Kw ?_
 repeat'((first|(intro hlq;try simp only[SL] at hlq)|refine K8 ?_)<;>refine Kw ?_)
 refine d4 tok {} [] (X:=Nat) (λi=>[(12,iB i)]) (λi=>[(9, .mp (K7 ((xs.map (·.name)).take i)))]) [7] (λi=>i<=xs.length/\nmL ((xs.map (·.name)).take i)=true) (λi=>xs.length-i) 0 ?_
 refine Kw ?_
 refine And.intro ?_ ⟨⟨by omega,by simp[nmL]⟩,λi hΦ=>?_⟩
 . exact Kr
 obtain⟨hi,hp⟩:=hΦ
 refine Kw ?_
 refine⟨λh1=>?_,λh1=>?_⟩<;>(try simp only[BL] at h1)<;>refine Kw ?_
 . have h1':i<xs.length:=by omega
   have hstep:=a2q (l:=xs.map (·.name)) (i:=i) (by simpa using h1') hp
   simp only[List.getElem_map] at hstep
   repeat'((first|(intro hlq;try simp only[SL] at hlq)|refine Meets.k (c0n xs[i]) ?_|refine Meets.k (a0G xs[i].name) ?_|((refine Kh (λhb=>?_) λhb=>?_)<;>try simp only[BL] at hb)|refine K8 ?_)<;>refine Kw ?_)
   all_goals first
    | (refine⟨⟨⟨_,rfl⟩,N0⟩,?_⟩
       refine⟨_,a2G _ _,?_⟩
       (conv=>whnf);repeat'(refine Z rfl ?_;conv=>whnf))
    |skip
   repeat'((first|(intro hlq;try simp only[SL] at hlq)|((refine Kh (λhb=>?_) λhb=>?_)<;>try simp only[BL] at hb)|refine K8 ?_)<;>refine Kw ?_)
   all_goals first
    | (refine⟨congrArg bD ?_⟩
       exact(hstep.2.2 (by assumption)).symm)
    | (refine⟨congrArg bD ?_⟩
       exact(hstep.2.1 (by assumption)).symm)
    | (refine⟨congrArg bD ?_⟩
       exact(hstep.2.2 (decide_eq_true (by assumption))).symm)
    |skip
   refine⟨⟨⟨_,rfl⟩,N0⟩,?_⟩
   rw[a2H (by assumption),<-a1X (f:=λx:Category=>x.name) h1',<-a2N]
   refine Kw ?_
   repeat'((first|(intro hlq;try simp only[SL] at hlq)|refine K8 ?_)<;>refine Kw ?_)
   refine⟨⟨i+1,?_,⟨by omega,hstep.1 ⟨by assumption,decide_eq_false (by assumption)⟩⟩,by omega⟩⟩
   repeat'(first|exact True.intro|exact rfl|refine And.intro ?_ ?_)
 . refine⟨congrArg bD ?_⟩
   rw[List.take_of_length_le (by simp;omega)] at hp
   exact hp.symm
end Go.Proofs.YteillnfhkeebjaaGreatDoor.Dx
/- Names of a course,in the code and in the reference. -/
namespace Go.Proofs.YteillnfhkeebjaaGreatDoor.Dx
open Go Go.RowKit
set_option maxRecDepth 100000
set_option maxHeartbeats 8000000
def Course.named (c:Course):Bool:=C4 kw c.name&&(nmL (c.mats.map (·.name))&&(nmL (c.distances.map (·.name))&&(nmL (c.waves.map (·.name))&&(nmL (c.offences.map (·.name))&&nmL (c.categories.map (·.name))))))
structure Course.small (c:Course):Prop where
 mats:c.mats.length<=1048576
 legs:c.legs.length<=1048576
 distances:c.distances.length<=1048576
 waves:c.waves.length<=1048576
 offences:c.offences.length<=1048576
 categories:c.categories.length<=1048576
 prizes:c.prizes.length<=1048576
 ties:c.ties.length<=1048576/\∀s∈c.ties,s.ok
 route:∀d∈c.distances,Part.cntL d.route<=1048576
 cutoffs:∀d∈c.distances,d.cutoffs.length<=1048576
theorem c0y (c:Course)(hc:c.small):Meets Tryz.prog 41 [c.d] λr=>r=bD c.named:=by
 refine enter tok {} Tryz.func41 rfl (by kernel_rfl) Tryz.ntmps41 (by simp) λB0 W0 V0 lent g0=>?_
 refine Kw ?_
 repeat'((first|(intro hlq;try simp only[SL] at hlq)|refine Meets.k (a0G c.name) ?_|refine Meets.k (c0v c.mats hc.mats) ?_|refine Meets.k (c0t c.distances hc.distances) ?_|refine Meets.k (c0x c.waves hc.waves) ?_|refine Meets.k (c0w c.offences hc.offences) ?_|refine Meets.k (c0s c.categories hc.categories) ?_|((refine Kh (λhb=>?_) λhb=>?_)<;>try simp only[BL] at hb)|refine K8 ?_)<;>refine Kw ?_)
 all_goals (refine⟨congrArg bD ?_⟩;rw[Course.named];simp_all)
abbrev s6 (s:List UInt8):List D:=[.str s]
theorem a4B (s:List UInt8):s6 s=[.str s]:=rfl
end Go.Proofs.YteillnfhkeebjaaGreatDoor.Dx
