/- Conditions: Core,cond,in the reference. -/
import Derived.Test.YteillnfhkeebjaaGreatDoorSy
import Derived.Test.YteillnfhkeebjaaGreatDoorSx
set_option linter.all false
namespace Go.Proofs.YteillnfhkeebjaaGreatDoor.Dx
open Go Go.RowKit Go.Proofs
set_option maxRecDepth 100000
set_option maxHeartbeats 8000000
theorem c1A (c:Cond):Meets Tryz.prog 70 [c.d] λd=>d=c.core.d:=by
 refine enter tok {} Tryz.func70 rfl (by kernel_rfl) Tryz.ntmps70 (by simp) λB0 W0 V0 lent g0=>?_
 refine Kw ?_
 refine d4 tok {} [] (X:=Cond) (λ_=>[]) (λx=>[(1, .box [iB x.kind,iB x.var,iB x.n, .d (.sl (x.parts.map Cond.cells))] 47)]) [] (λx=>x.core=c.core) (λx=>SizeOf.sizeOf x) c ?_
 refine Kw ?_
 refine And.intro ?_ ⟨rfl,λx hx=>?_⟩
 . exact Kr
 have hthin:x.kind=2\/x.kind=3->(h:(x.parts.length:Int)=1)->(x.parts[0]'(by omega)).core=c.core/\SizeOf.sizeOf (x.parts[0]'(by omega))<SizeOf.sizeOf x:=λhk h=>by
  obtain⟨p,hp⟩:=List.length_eq_one_iff.1 (by omega:x.parts.length=1)
  have hm:p∈x.parts:=by rw[hp];simp
  simp only[hp,List.getElem_cons_zero]
  rw[<-Cond.core_thin hk hp]
  exact⟨hx,Cond.size_part hm⟩
 have hself:x.thin=false->D.agg x.dc=c.core.d:=λh=>by rw[<-hx,Cond.core_self h]
 refine Kw ?_
 repeat'((first|(intro hlq;try simp only[SL] at hlq)|refine K9 ?_|((refine Kh (λhb=>?_) λhb=>?_)<;>try simp only[BL] at hb)|refine K8 ?_)<;>refine Kw ?_)
 . obtain⟨k1,k2⟩:=hthin (.inl (by assumption)) (by assumption)
   refine⟨⟨_,?_,k1,k2⟩⟩
   repeat'(first|exact True.intro|exact rfl|refine And.intro ?_ ?_)
 . exact⟨hself (by simp only[Cond.thin,Bool.and_eq_false_iff,Bool.or_eq_false_iff,decide_eq_false_iff_not];omega)⟩
 . obtain⟨k1,k2⟩:=hthin (.inr (by assumption)) (by assumption)
   refine⟨⟨_,?_,k1,k2⟩⟩
   repeat'(first|exact True.intro|exact rfl|refine And.intro ?_ ?_)
 . exact⟨hself (by simp only[Cond.thin,Bool.and_eq_false_iff,Bool.or_eq_false_iff,decide_eq_false_iff_not];omega)⟩
 . exact⟨hself (by simp only[Cond.thin,Bool.and_eq_false_iff,Bool.or_eq_false_iff,decide_eq_false_iff_not];omega)⟩
end Go.Proofs.YteillnfhkeebjaaGreatDoor.Dx
/- How long the texts are; what a valid course is. -/
namespace Go.Proofs.YteillnfhkeebjaaGreatDoor.Dx
open Go Go.RowKit Go.Proofs
set_option maxRecDepth 100000
set_option maxHeartbeats 8000000
theorem L2 (t:Int):(s7 t).length<=100:=by
 unfold s7
 split
 . rename_i h
   simp only[O8,inR,Bool.and_eq_true,decide_eq_true_eq] at h
   have key:∀n:Int,0<=n->n<=1099511627776->(a0k n).length<=90:=by
    intro n h0 h1
    have f1:=t7 (n/1000000/60) (by omega) (by omega)
    have f2:=t7 (n/1000000/3600) (by omega) (by omega)
    have f3:=a5a (n/1000000%60) (by omega) (by omega)
    have f4:=a5a (n/1000000/60%60) (by omega) (by omega)
    have f5:=t7 (1000000+n%1000000) (by omega) (by omega)
    have f7:=a8f (List.drop 1 (Lib.itoa (1000000+n%1000000))) 48
    simp only[List.length_drop] at f7
    unfold a0k a3r a3N
    split<;>split<;>simp only[List.length_append,List.length_cons,List.length_nil]<;>omega
   unfold a8c
   split
   . have:=key (-t) (by omega) (by omega)
     simp only[List.length_append,List.length_cons,List.length_nil];omega
   . have:=key t (by omega) (by omega)
     omega
 . simp
theorem a7F:∀(b:Bool) (l:List (List UInt8)) (x:List UInt8),j2 b (l++[x])=j2 b l++(if b=true/\l=[] then[] else[32])++x
 |true,[],x=>by simp[j2]
 |false,[],x=>by simp[j2]
 | true,y::l,x=>by
   have:=a7F false l x
   simp only[List.cons_append,j2,this]
   simp
 | false,y::l,x=>by
   have:=a7F false l x
   simp only[List.cons_append,j2,this]
   simp
theorem a4I {α:Type}(f:α->List UInt8){l:List α}{i:Nat}(h:i<l.length):j2 true ((l.map f).take (i+1))=if i=0 then f l[i] else j2 true ((l.map f).take i)++[32]++f l[i]:=by
 rw[List.take_succ_eq_append_getElem (by simpa using h),a7F,List.getElem_map]
 by_cases e:i=0
 . subst e;simp[j2]
 . rw[if_neg,if_neg e]
   rintro⟨-,e2⟩
   have:=congrArg List.length e2
   simp only[List.length_take,List.length_map,List.length_nil] at this
   omega
theorem a0Z:∀(b:Bool) (l:List (List UInt8)) (i:Nat),(j2 b (l.take i)).length<=(j2 b l).length
 |b,l,0=>by cases b<;>simp[j2]
 |b,[],i+1=>by simp
 |true,x::l,i+1=>by have:=a0Z false l i;simp only[List.take_succ_cons,j2,List.length_append];omega
 |false,x::l,i+1=>by have:=a0Z false l i;simp only[List.take_succ_cons,j2,List.length_append];omega
theorem a0Y {α:Type}(f:α->List UInt8)(g:α->Nat):∀(b:Bool) (l:List α),(∀x∈l,(f x).length+1<=g x)->(j2 b (l.map f)).length<=(l.map g).sum
 |b,[],_=>by cases b<;>simp[j2]
 | b,x::l,h=>by
   have ih:=a0Y f g false l λy hy=>h y (List.mem_cons_of_mem _ hy)
   have:=h x (by simp)
   cases b<;>simp only[List.map_cons,j2,List.length_append,List.sum_cons,List.length_cons,List.length_nil] at * <;>omega
theorem a2X {c:Cond}(h:c.valid=true):c.num=c.total:=by
 have:c.isZero=false:=by
  have hk:c.kind≠0:=by rcases a2V h with h|⟨h,_⟩|⟨h,_⟩<;>omega
  simp[Cond.isZero,hk]
 rw[Cond.num,this];rfl
theorem Step.sum_nst:∀l:List Step,(l.map λs=>40*(s.nst+s.ncd)).sum=40*(Step.nstL l+Step.ncdL l):=by
 intro l;induction l with|nil=>rfl|cons s l ih=>simp only[List.map_cons,List.sum_cons,ih,Step.nstL,Step.ncdL];omega
theorem Step.cases {s:Step}(h:s.valid=true):(s.kind=1/\1<=s.crit/\s.crit<=5)\/(s.kind=2/\s.cond.valid=true/\s.th≠[]/\(∀x∈s.th,x.valid=true)/\∀x∈s.el,x.valid=true):=by
 rw[Step.valid_eq] at h
 split at h
 . simp only[Bool.and_eq_true,inR,decide_eq_true_eq] at h
   exact .inl ⟨by assumption,h.1.1,h.1.2⟩
 . split at h
   . simp only[Bool.and_eq_true,decide_eq_true_eq,List.all_eq_true] at h
     refine .inr ⟨by assumption,h.2.1,?_,h.2.2.2.1,h.2.2.2.2⟩
     intro e
     have:=h.2.2.1
     rw[e] at this;simp at this
   . cases h
theorem b6S (b:Int):(y9 b).length<=7:=by
 unfold y9
 split;simp
 split;simp
 split;simp
 split<;>simp
theorem a8i (s:Step)(hv:s.valid=true):s.tx.length+1<=40*(s.nst+s.ncd):=by
 rw[Step.tx_eq,s.nst_eq,s.ncd_eq]
 rcases Step.cases hv with⟨hk,_⟩|⟨hk,hc,hne,ht,he⟩
 . rw[if_pos hk]
   have:=b6S s.crit
   simp only[List.length_append,List.length_cons,List.length_nil];omega
 . rw [if_neg (by omega)]
   have h1:(g9 s.th).length<=40*(Step.nstL s.th+Step.ncdL s.th):=by
    rw[<-Step.sum_nst]
    exact a0Y _ _ _ _ λx hx=>by
     have:=Step.size_th hx
     exact a8i x (ht x hx)
   have h2:(g9 s.el).length<=40*(Step.nstL s.el+Step.ncdL s.el):=by
    rw[<-Step.sum_nst]
    exact a0Y _ _ _ _ λx hx=>by
     have:=Step.size_el hx
     exact a8i x (he x hx)
   have h3:=Q9 s.cond hc
   rw[a2X hc]
   unfold ifT
   split<;>simp only[List.length_append,List.length_cons,List.length_nil]<;>omega
termination_by SizeOf.sizeOf s
decreasing_by all_goals assumption
theorem a4R {l:List Step}(hv:∀s∈l,s.valid=true):(g9 l).length<=40*(Step.nstL l+Step.ncdL l):=by
 rw[<-Step.sum_nst]
 exact a0Y _ _ _ _ λx hx=>a8i x (hv x hx)
theorem a6Z:∀{l:List Step} {x:Step},x∈l->x.nst<=Step.nstL l/\x.ncd<=Step.ncdL l:=by
 intro l
 induction l with
 |nil=>intro x h;cases h
 | cons c l ih=>
   intro x h
   simp only[Step.nstL,Step.ncdL]
   rcases List.mem_cons.1 h with rfl|h
   . omega
   . have:=ih h;omega
theorem a0K {ms:List Mat}(h:∀m∈ms,m.name.length<=24)(i:Int):(r8 ms i).length<=24:=by
 unfold r8
 split
 . rename_i m hm;exact h m (List.mem_of_getElem? hm)
 . simp
theorem Part.sum_cnt:∀l:List Part,(l.map λs=>40*s.cnt).sum=40*Part.cntL l:=by
 intro l;induction l with|nil=>rfl|cons s l ih=>simp only[List.map_cons,List.sum_cons,ih,Part.cntL];omega
theorem Part.cases {m:Int}{p:Part}(h:p.good m=true):(p.laps=0/\0<=p.mat/\p.mat<=m)\/(1<=p.laps/\p.laps<=64/\∀x∈p.parts,x.good m=true):=by
 rw[Part.good_eq] at h
 split at h
 . simp only[Bool.and_eq_true,inR,decide_eq_true_eq] at h
   exact .inl ⟨by assumption,h.1⟩
 . simp only[Bool.and_eq_true,inR,decide_eq_true_eq,List.all_eq_true] at h
   exact .inr ⟨h.1.1,h.1.2,h.2.2.2⟩
theorem b2B {ms:List Mat}(hn:∀m∈ms,m.name.length<=24){m:Int}(p:Part)(hg:p.good m=true):(p.tx ms).length+1<=40*p.cnt:=by
 rw[Part.tx_eq,p.cnt_eq]
 rcases Part.cases hg with⟨hk,_⟩|⟨h0,h1,hp⟩
 . rw[if_pos hk]
   have:=a0K hn p.mat
   simp only[List.length_append,List.length_cons,List.length_nil];omega
 . rw [if_neg (by omega)]
   have h3:(D1 ms p.parts).length<=40*Part.cntL p.parts:=by
    rw[<-Part.sum_cnt]
    exact a0Y _ _ _ _ λx hx=>by
     have:=Part.size_part hx
     exact b2B hn x (hp x hx)
   have:=t7 p.laps (by omega) (by omega)
   simp only[List.length_append,List.length_cons,List.length_nil];omega
termination_by SizeOf.sizeOf p
decreasing_by assumption
theorem b2t {ms:List Mat}(hn:∀m∈ms,m.name.length<=24){m:Int}{l:List Part}(hg:∀p∈l,p.good m=true):(D1 ms l).length<=40*Part.cntL l:=by
 rw[<-Part.sum_cnt]
 exact a0Y _ _ _ _ λx hx=>b2B hn x (hg x hx)
theorem b6p:∀{l:List Part} {x:Part},x∈l->x.cnt<=Part.cntL l:=by
 intro l
 induction l with
 |nil=>intro x h;cases h
 | cons c l ih=>
   intro x h
   simp only[Part.cntL]
   rcases List.mem_cons.1 h with rfl|h
   . omega
   . have:=ih h;omega
theorem b1k {s:List UInt8}(h:C4 kw s=true):s.length<=24:=by
 simp only[C4,Bool.and_eq_true,decide_eq_true_eq] at h;exact h.1
theorem a2p {α:Type}{l:List α}{f:α->List UInt8}(h:nmL (l.map f)=true):∀x∈l,(f x).length<=24:=by
 intro x hx
 simp only[nmL,Bool.and_eq_true,List.all_eq_true] at h
 exact b1k (h.1 _ (List.mem_map.2 ⟨x,hx,rfl⟩))
structure Good (c:Course):Prop where
 small:c.small
 fits:c.fits=true
 named:c.named=true
 nums:NumsOk c
 ties:p8 c.ties=0
 name:c.name.length<=24
 mats:∀x∈c.mats,x.name.length<=24
 distances:∀x∈c.distances,x.name.length<=24
 waves:∀x∈c.waves,x.name.length<=24
 offences:∀x∈c.offences,x.name.length<=24
 categories:∀x∈c.categories,x.name.length<=24
 steps:∀s∈c.ties,s.valid=true
 nst:Step.nstL c.ties<=64
 ncd:Step.ncdL c.ties<=256
 routes:∀d∈c.distances,U4 c d=true
theorem b8v {c:Course}(hs:c.small)(h:E1 c=0):Good c:=by
 unfold E1 at h
 split at h;· cases h
 split at h;· cases h
 split at h;· cases h
 split at h
 case isFalse=>exact absurd h ‹_›
 split at h
 case isFalse=>cases h
 rename_i h1 h2 h3 h4 h5
 have hn:c.named=true:=by simpa using h2
 have hn':=hn
 simp only[Course.named,Bool.and_eq_true] at hn'
 obtain⟨n1,n2,n3,n4,n5,n6⟩:=hn'
 have ht:=a8b h4
 refine⟨hs,by simpa using h1,hn,(b2m c).1 (by simpa using h3),h4,b1k n1,a2p n2,a2p n3,a2p n4,a2p n5,a2p n6,ht.1,ht.2,?_,List.all_eq_true.1 h5⟩
 unfold p8 at h4
 split at h4
 . rename_i hf
   split at h4
   . rename_i hv
     obtain⟨_,k2,_⟩:=F_S c.ties
     simp only[l8,Bool.or_eq_true,Bool.and_eq_true,decide_eq_true_eq,k2] at hf
     rcases hf with hf|hf
     . exact absurd (by simpa[e9] using hf) hv.1
     . omega
   . cases h4
 . cases h4
theorem Step.szl (s:Step):SizeOf.sizeOf s.th<SizeOf.sizeOf s/\SizeOf.sizeOf s.el<SizeOf.sizeOf s:=by
 obtain⟨k,b,c,t,e⟩:=s
 simp only[Step.mk.sizeOf_spec]
 omega
theorem Part.szl (s:Part):SizeOf.sizeOf s.parts<SizeOf.sizeOf s:=by
 obtain⟨k,b,c⟩:=s
 simp only[Part.mk.sizeOf_spec]
 omega
theorem c0a {c:Course}{i:Int}(h0:0<=i)(h1:i<=c.m):∃k,(c.mats.map Mat.cells)[i.toNat]?=some [.str (r8 c.mats i),iD k]:=by
 have hl:i.toNat<c.mats.length:=by simp only[Course.m,List.length_map] at h1;omega
 refine⟨(c.mats[i.toNat]).kind,?_⟩
 rw[List.getElem?_map,List.getElem?_eq_getElem hl]
 simp only[Option.map_some,Mat.cells]
 rw[r8,List.getElem?_eq_getElem hl]
end Go.Proofs.YteillnfhkeebjaaGreatDoor.Dx
/- format's printer: put on a fresh Builder; mat,moment,penalty. -/
namespace Go.Proofs.YteillnfhkeebjaaGreatDoor.Dx
open Go Go.RowKit Go.Proofs
set_option maxRecDepth 100000
set_option maxHeartbeats 8000000
abbrev prN (rest:List Base)(ty:TypeId):List (Nat×Blk):=[(1000, .box (.d (.v (.pointer none)):: .d (.raw (.slice none 0 0))::rest) ty)]
noncomputable abbrev prF (rest:List Base)(ty:TypeId)(l:List UInt8):List (Nat×Blk):=match l with|[]=>prN rest ty|b::l=>prO rest ty (b::l)
abbrev o6:Cfg:={rs:=[22,31]}
theorem c1j (r:Nat->D)(c:UInt8)(t:List UInt8)(more:List Item)(hlen:(f0 (.s (c::t)::more)).length<=140737488355328):
 MeetsR Tryz.prog 32 [.loc 1000 0, .d (.sl ((Item.s (c::t)::more).map λx=>[x.d]))] (prN (rr r) 90) λo O'=>o= .ret (.d (.tup []))/\O'=prO (rr r) 90 (f0 (.s (c::t)::more)):=by
 generalize hI:Item.s (c::t)::more=items at hlen⊢
 refine m9 tok o6 Tryz.func32 rfl (by kernel_rfl) Tryz.ntmps32 (by simp) λB0 W0 V0 lent g0=>?_
 refine Kv o6 ?_
 repeat'((first|(intro hlq;try simp only[SL] at hlq)|refine K9 ?_|refine K8 ?_)<;>refine Kv o6 ?_)
 refine d4 tok o6 [] (X:=Nat×List UInt8) (λs=>[(10,iB s.1)]) (λs=>prF (rr r) 90 s.2) [] (λs=>s.1<=items.length/\(s.2=[]->s.1=0)/\s.2++f0 (items.drop s.1)=f0 items) (λs=>items.length-s.1) (0,[]) ?_
 refine Kv o6 ?_
 refine And.intro ?_ ⟨⟨by omega,λ_=>rfl,rfl⟩,λs hΦ=>?_⟩
 . repeat'(first|exact True.intro|exact rfl|refine And.intro ?_ ?_)
   all_goals exact g6 _ _
 obtain⟨i,xs⟩:=s
 obtain⟨hi,hx0,heq⟩:=hΦ
 dsimp only at hi hx0 heq
 cases xs with
 | nil=>
   obtain rfl:i=0:=hx0 rfl
   subst hI
   refine Kv o6 ?_
   refine⟨λ_=>?_,λh1=>?_⟩
   rotate_left
   . simp at h1
   refine Kv o6 ?_
   refine⟨_,⟨by simp,rfl,rfl⟩,?_⟩
   refine Kv o6 ?_
   refine Kv o6 ?_
   refine Kv o6 ?_
   refine⟨prN (rr r) 90,_,⟨?_,?_⟩,(c0c 1000 1001 (by decide) (d7 r) (c::t) (by simp) (by simp only[f0,List.flatMap_cons,Item.text,List.length_append] at hlen;omega) (by kernel_rfl)).mono ?_⟩
   . exact Kr
   . repeat'(first|exact True.intro|exact rfl|refine And.intro ?_ ?_)
     all_goals exact g6 _ _
   rintro o O' ⟨rfl,rfl⟩
   dsimp only
   rw[show H3 (.d (a1n (c::t))) [(1000,Blk.box (.loc 1000 0:: .own 1001::rr r) 90),(1001, .sl (v7 (c::t)))]=true from d8 (d7 r) _ _]
   refine Kv o6 ?_
   refine⟨λ_=>by simp only[i7] at *;omega,?_⟩
   refine Kv o6 ?_
   refine⟨⟨(1,c::t),?_,⟨by simp,(λh=>by cases h),rfl⟩,by simp⟩⟩
   repeat'(first|exact True.intro|exact rfl|refine And.intro ?_ ?_)
   all_goals exact g6 _ _
 | cons b xs=>
   have hx1:b::xs≠[]:=by simp
   have hlen':(b::xs).length+(f0 (items.drop i)).length<=140737488355328:=by
    have:=congrArg List.length heq
    rw[List.length_append] at this
    omega
   refine Kv o6 ?_
   refine⟨λh1=>?_,λh1=>?_⟩<;>(try simp only[BL] at h1)<;>refine Kv o6 ?_
   . have h1':i<items.length:=by omega
     rw[List.drop_eq_getElem_cons h1',f0,List.flatMap_cons,<-f0] at heq hlen'
     rw[List.length_append] at hlen'
     repeat'((first|(intro hlq;try simp only[SL] at hlq)|refine K9 ?_|refine K8 ?_)<;>refine Kv o6 ?_)
     dsimp only
     generalize items[i]=w at heq hlen'⊢
     cases w with
     | s t=>
       simp only[Item.text] at heq hlen'
       repeat'((first|(intro hlq;try simp only[SL] at hlq)|refine K9 ?_|refine Ka ?_|refine Kb ?_|refine Kc (hd:=rfl) (e:=?_)|refine Kc (hd:=Item.d _) (e:=?_)|refine Kd (e:=?_)|refine Kl rfl ?_|fail)<;>refine Kv o6 ?_)
       refine Kv o6 ?_
       refine Kv o6 ?_
       refine Kv o6 ?_
       refine⟨prO (rr r) 90 (b::xs),_,⟨?_,?_⟩,(a4j 1000 1001 (by decide) (d7 r) (b::xs) t hx1 (by omega)).mono ?_⟩
       . exact Kr
       . repeat'(first|exact True.intro|exact rfl|refine And.intro ?_ ?_)
         all_goals exact g6 _ _
       rintro o O' ⟨rfl,rfl⟩
       dsimp only
       rw[d8 (d7 r)]
       refine Kv o6 ?_
       refine⟨λ_=>by simp only[i7] at *;omega,?_⟩
       refine Kv o6 ?_
       refine⟨⟨(i+1,b::(xs++t)),?_,⟨by dsimp only;omega,(λh=>by cases h),by rw[<-heq];simp⟩,by dsimp only;omega⟩⟩
       repeat'(first|exact True.intro|exact rfl|refine And.intro ?_ ?_)
       all_goals exact g6 _ _
     | i n=>
       simp only[Item.text] at heq hlen'
       repeat'((first|(intro hlq;try simp only[SL] at hlq)|refine K9 ?_|refine Ka ?_|refine Kb ?_|refine Kc (hd:=rfl) (e:=?_)|refine Kc (hd:=Item.d _) (e:=?_)|refine Kd (e:=?_)|refine Kl rfl ?_|fail)<;>refine Kv o6 ?_)
       refine Kv o6 ?_
       refine Kv o6 ?_
       refine Kv o6 ?_
       refine k9 tok (cf:=o6) (by kernel_rfl) [.p 0, .p 1, .p 2, .p 3, .s 4 [3], .s 5 [2,1,0]] (by kernel_rfl) ?_
       refine Kv o6 ?_
       refine Kv o6 ?_
       refine Meets.k (a0e n) ?_
       refine Kv o6 ?_
       iterate 3 (try refine Kl rfl ?_)
       refine Kv o6 ?_
       refine⟨prO (rr r) 90 (b::xs),_,⟨?_,?_⟩,(a4j 1000 1001 (by decide) (d7 r) (b::xs) (Lib.itoa n) hx1 (by omega)).mono ?_⟩
       . exact Kr
       . repeat'(first|exact True.intro|exact rfl|refine And.intro ?_ ?_)
         all_goals exact g6 _ _
       rintro o O' ⟨rfl,rfl⟩
       dsimp only
       rw[d8 (d7 r)]
       refine Kv o6 ?_
       refine⟨λ_=>by simp only[i7] at *;omega,?_⟩
       refine Kv o6 ?_
       refine⟨⟨(i+1,b::(xs++Lib.itoa n)),?_,⟨by dsimp only;omega,(λh=>by cases h),by rw[<-heq];simp⟩,by dsimp only;omega⟩⟩
       repeat'(first|exact True.intro|exact rfl|refine And.intro ?_ ?_)
       all_goals exact g6 _ _
   . obtain rfl:i=items.length:=by omega
     rw[List.drop_length] at heq
     have heq:b::xs=f0 items:=by simpa[f0] using heq
     rw[<-heq]
     exact⟨prO (rr r) 90 (b::xs), .d (.tup []),⟨g6 _ _,⟨⟨rfl,L5 _ _⟩,⟨rfl,rfl,rfl,rfl⟩,trivial⟩,rfl⟩,⟨rfl,rfl⟩⟩
theorem l5 (r:Nat->D)(l l':List UInt8)(items:List Item)(hl:l≠[])(he:l'=l++f0 items)(hlen:l'.length<=140737488355328):
 MeetsR Tryz.prog 32 [.loc 1000 0, .d (.sl (items.map λx=>[x.d]))] (prO (rr r) 90 l) λo O'=>o= .ret (.d (.tup []))/\O'=prO (rr r) 90 l':=by
 have:=c1k (ty:=90) r l hl items (by rw[he,List.length_append] at hlen;exact hlen)
 rw[<-he] at this
 exact this
theorem Q4 (t:Int):Meets Tryz.prog 34 [iD t] λd=>d= .str (s7 t):=by
 refine enter tok {} Tryz.func34 rfl (by kernel_rfl) Tryz.ntmps34 (by simp) λB0 W0 V0 lent g0=>?_
 refine Kw ?_
 repeat'((first|(intro hlq;try simp only[SL] at hlq)|refine Meets.k (b5g t) ?_|refine K9 ?_|((refine Kh (λhb=>?_) λhb=>?_)<;>try simp only[BL] at hb)|refine K8 ?_)<;>refine Kw ?_)
 exact⟨rfl⟩
theorem c1a (x:Offence)(hg:x.good=true):Meets Tryz.prog 36 [x.d] λd=>d= .str (a0Q x):=by
 have h:=(b2n x).1 hg
 have hl:0<=x.laps/\x.laps<=64:=by
  rcases h with⟨_,h,_⟩|⟨_,h,_⟩|⟨_,h,_⟩
  . omega
  . simp only[inR,Bool.and_eq_true,decide_eq_true_eq] at h;omega
  . omega
 have f1:=t7 x.laps (by omega) (by omega)
 refine enter tok {} Tryz.func36 rfl (by kernel_rfl) Tryz.ntmps36 (by simp) λB0 W0 V0 lent g0=>?_
 refine Kw ?_
 repeat'((first|(intro hlq;try simp only[SL] at hlq)|refine Meets.k (a0e _) ?_|refine Meets.k (Q4 _) ?_|refine K9 ?_|((refine Kh (λhb=>?_) λhb=>?_)<;>try simp only[BL] at hb)|refine K8 ?_)<;>refine Kw ?_)
 all_goals (refine⟨congrArg D.str ?_⟩;rw[a0Q];simp[*])
noncomputable def cR (c:Course)(i:Nat):D:=c.cells.getD i .junk
theorem a0S (c:Course)(i:Int)(h0:0<=i)(h1:i<=c.m)(l:List UInt8):
 MeetsR Tryz.prog 33 [.loc 1000 0,iB i] (prO (rr (cR c)) 90 l) λo O'=>o= .ret (.d (.str (r8 c.mats i)))/\O'=prO (rr (cR c)) 90 l:=by
 obtain⟨k,hm⟩:=c0a h0 h1
 refine m9 tok {} Tryz.func33 rfl (by kernel_rfl) Tryz.ntmps33 (by simp) λB0 W0 V0 lent g0=>?_
 refine Kw ?_
 refine⟨_,⟨h0,hm,rfl⟩,?_⟩
 refine Kw ?_
 exact⟨prO (rr (cR c)) 90 l, .d (.str (r8 c.mats i)),⟨g6 _ _,⟨⟨rfl,L5 _ _⟩,⟨rfl,rfl,rfl,rfl⟩,trivial⟩,rfl⟩,⟨rfl,rfl⟩⟩
end Go.Proofs.YteillnfhkeebjaaGreatDoor.Dx
/- Steps and parts of routes,in the reference. -/
namespace Go.Proofs.YteillnfhkeebjaaGreatDoor.Dx
open Go Go.RowKit Go.Proofs
set_option maxRecDepth 100000
set_option maxHeartbeats 16000000
end Go.Proofs.YteillnfhkeebjaaGreatDoor.Dx
/- Times and numbers,in the reference. -/
namespace Go.Proofs.YteillnfhkeebjaaGreatDoor.Dx
open Go Go.RowKit Go.Proofs
set_option maxRecDepth 100000
set_option maxHeartbeats 16000000
theorem c3S {n:Int}(h0:0<=n)(h1:n<100):L3 n=Lib.itoa (n/10)++Lib.itoa (n%10):=by
 rw[L3,b1n (by omega:¬100+n<10),b1n (by omega:¬(100+n)/10<10),a6H (by omega:(0:Int)<=(100+n)/10/10) (by omega),a6H (by omega:0<=n/10) (by omega),a6H (by omega:0<=n%10) (by omega),
  show((100+n)/10%10).toNat=(n/10).toNat by omega,show((100+n)%10).toNat=(n%10).toNat by omega]
 rfl
end Go.Proofs.YteillnfhkeebjaaGreatDoor.Dx
/- Lines of a course,in the reference. -/
namespace Go.Proofs.YteillnfhkeebjaaGreatDoor.Dx
open Go Go.RowKit Go.Proofs
set_option maxRecDepth 100000
set_option maxHeartbeats 16000000
theorem T3 {α:Type}(f:α->List UInt8){l:List α}{i:Nat}(h:i<l.length):(l.take (i+1)).flatMap f=(l.take i).flatMap f++f l[i]:=by
 rw[List.take_succ_eq_append_getElem h,List.flatMap_append];simp
theorem J7 {α:Type}(f:α->List UInt8)(n:Nat):∀l:List α,(∀x∈l,(f x).length<=n)->(l.flatMap f).length<=n*l.length
 |[],_=>by simp
 | x::l,h=>by
   have:=J7 f n l λy hy=>h y (List.mem_cons_of_mem _ hy)
   have:=h x (by simp)
   rw[List.flatMap_cons,List.length_append,List.length_cons,Nat.mul_succ]
   omega
theorem T4 {α:Type}(f:α->List UInt8)(l:List α)(i:Nat):((l.take i).flatMap f).length<=(l.flatMap f).length:=by
 conv=>rhs;rw[<-List.take_append_drop i l,List.flatMap_append,List.length_append]
 omega
theorem b9Y (k:Int):(a2m k).length<=5:=by
 unfold a2m
 split;simp
 split<;>simp
theorem b1O {m:Mat}(h:m.name.length<=24):(F9 m).length<=40:=by
 have:=b9Y m.kind
 simp only[F9,List.length_append,List.length_cons,List.length_nil];omega
theorem lens {c:Course}(h:c.fits=true):c.mats.length<=40/\c.legs.length<=512/\c.distances.length<=8/\c.waves.length<=32/\c.offences.length<=32/\c.categories.length<=32/\c.prizes.length<=32/\∀d∈c.distances,d.cutoffs.length<=64/\Part.cntL d.route<=256:=by
 simp only[Course.fits,Bool.and_eq_true,decide_eq_true_eq,List.all_eq_true,Distance.fits] at h
 obtain⟨⟨h1,h2,h3,h4,h5,h6,h7⟩,h8⟩:=h
 exact⟨h1,h2,h3,h4,h5,h6,h7,λd hd=>⟨(h8 d hd).1,(h8 d hd).2.2⟩⟩
end Go.Proofs.YteillnfhkeebjaaGreatDoor.Dx
/- Distances,prizes,all lines,the text of a course,in the reference. -/
namespace Go.Proofs.YteillnfhkeebjaaGreatDoor.Dx
open Go Go.RowKit Go.Proofs
set_option maxRecDepth 100000
set_option maxHeartbeats 16000000
theorem b3I (k:Int):(a1e k).length<=4:=by
 unfold a1e
 split;simp
 split<;>simp
structure DOk (c:Course) (d:Distance):Prop where
 name:d.name.length<=24
 timing:1<=d.timing/\d.timing<=3
 extra: -1<=d.extra/\d.extra<=c.m
 route:∀p∈d.route,p.good c.m=true
 cutoffs:∀x∈d.cutoffs,(0<=x.mat/\x.mat<=c.m)/\(1<=x.lap/\x.lap<=256)/\0<=x.limit/\x.limit<=1099511627776
 ncut:d.cutoffs.length<=64
 cnt:Part.cntL d.route<=256
theorem dok {c:Course}(hg:Good c){d:Distance}(hd:d∈c.distances):DOk c d:=by
 have h:=hg.nums.distances d hd
 have hl:=(lens hg.fits).2.2.2.2.2.2.2 d hd
 simp only[Distance.good,Bool.and_eq_true,List.all_eq_true,inR,decide_eq_true_eq] at h
 obtain⟨h1,h2,h3,h4⟩:=h
 refine⟨hg.distances d hd,h1,h2,h3,λx hx=>?_,hl.1,hl.2⟩
 have:=h4 x hx
 simp only[Cutoff.good,Bool.and_eq_true,inR,decide_eq_true_eq] at this
 have hr:=hg.routes d hd
 simp only[U4,Bool.and_eq_true,decide_eq_true_eq,List.all_eq_true] at hr
 have hc:=hr.2.2.2 x hx
 simp only[a1L,decide_eq_true_eq] at hc
 have hcl:=List.count_le_length (a:=x.mat) (l:=Part.exL d.route [])
 exact⟨this.1,⟨by omega,by omega⟩,this.2.2.1,this.2.2.2⟩
theorem b7q {c:Course}{i:Int}(h0:0<=i)(h1:i<=c.distances.length-1):∃a b e f,(c.distances.map Distance.cells)[i.toNat]?=some [.str (X6 c i),a,b,e,f]:=by
 have hl:i.toNat<c.distances.length:=by omega
 refine⟨.sl ((c.distances[i.toNat]).route.map Part.cells),iD (c.distances[i.toNat]).timing, .sl ((c.distances[i.toNat]).cutoffs.map Cutoff.cells),iD (c.distances[i.toNat]).extra,?_⟩
 rw[List.getElem?_map,List.getElem?_eq_getElem hl]
 simp only[Option.map_some,Distance.cells]
 rw[X6,List.getElem?_eq_getElem hl]
theorem b6g {c:Course}{i:Int}(h0:0<=i)(h1:i<=c.categories.length-1):∃a b,(c.categories.map Category.cells)[i.toNat]?=some [.str (W5 c i),a,b]:=by
 have hl:i.toNat<c.categories.length:=by omega
 refine⟨iD (c.categories[i.toNat]).lo,iD (c.categories[i.toNat]).hi,?_⟩
 rw[List.getElem?_map,List.getElem?_eq_getElem hl]
 simp only[Option.map_some,Category.cells]
 rw[W5,if_pos h0,List.getElem?_eq_getElem hl]
theorem b7p {c:Course}(hg:Good c)(i:Int):(X6 c i).length<=24:=by
 unfold X6
 split
 . rename_i m hm;exact hg.distances m (List.mem_of_getElem? hm)
 . simp
theorem c4S {c:Course}(hg:Good c)(i:Int):(W5 c i).length<=24:=by
 unfold W5
 split
 . split
   . rename_i m hm;exact hg.categories m (List.mem_of_getElem? hm)
   . simp
 . simp
structure PzOk (c:Course) (x:Prize):Prop where
 distance:0<=x.distance/\x.distance<=c.distances.length-1
 category: -1<=x.category/\x.category<=c.categories.length-1
 rank:1<=x.rank/\x.rank<=4000
 amount:1<=x.amount/\x.amount<=1125899906842624
theorem b2E {c:Course}(hg:Good c){x:Prize}(hx:x∈c.prizes):PzOk c x:=by
 have h:=hg.nums.prizes x hx
 simp only[Prize.good,Bool.and_eq_true,inR,decide_eq_true_eq] at h
 exact⟨h.1,h.2.1,h.2.2.1,h.2.2.2⟩
end Go.Proofs.YteillnfhkeebjaaGreatDoor.Dx
/- All lines,the text of a course,in the reference. -/
namespace Go.Proofs.YteillnfhkeebjaaGreatDoor.Dx
open Go Go.RowKit Go.Proofs
set_option maxRecDepth 100000
set_option maxHeartbeats 16000000
structure LgOk (c:Course) (x:Leg):Prop where
 src:0<=x.src/\x.src<=c.m
 dst:0<=x.dst/\x.dst<=c.m
theorem b9E {c:Course}(hg:Good c){x:Leg}(hx:x∈c.legs):LgOk c x:=by
 have h:=hg.nums.legs x hx
 simp only[Leg.good,Bool.and_eq_true,inR,decide_eq_true_eq] at h
 exact⟨h.1.1,h.1.2⟩
theorem b6V {c:Course}(hg:Good c){x:Category}(hx:x∈c.categories):(0<=x.lo/\x.lo<=120)/\0<=x.hi/\x.hi<=120:=by
 have h:=hg.nums.categories x hx
 simp only[Category.good,Bool.and_eq_true,inR,decide_eq_true_eq] at h
 exact h.1
structure FOk (c:Course):Prop where
 misses:0<=c.faults.misses/\c.faults.misses<=16
 strays:0<=c.faults.strays/\c.faults.strays<=16
 window:0<=c.faults.window/\c.faults.window<=4294967296
 residual:0<=c.faults.residual/\c.faults.residual<=4294967296
 drift:0<=c.faults.drift/\c.faults.drift<=100000
 fee:0<=c.fee/\c.fee<=1125899906842624
 deadline:0<=c.deadline/\c.deadline<=1099511627776
theorem fok {c:Course}(hg:Good c):FOk c:=by
 have h:=hg.nums.rest
 simp only[Course.numsB,Bool.and_eq_true,inR,decide_eq_true_eq] at h
 exact⟨h.1.1,h.1.2,h.2.1.1,h.2.1.2,h.2.2.1,h.2.2.2.1,h.2.2.2.2⟩
end Go.Proofs.YteillnfhkeebjaaGreatDoor.Dx
/- The text of a course,in the reference. -/
namespace Go.Proofs.YteillnfhkeebjaaGreatDoor.Dx
open Go Go.RowKit Go.Proofs
set_option maxRecDepth 100000
set_option maxHeartbeats 16000000
theorem b0b {c:Course}(hg:Good c){d:Distance}(hd:DOk c d):∀x∈d.cutoffs,(L8 c x).length<=300:=λx hx=>by
 have h:=hd.cutoffs x hx
 have f1:=a0K hg.mats x.mat
 have f2:=t7 x.lap (by omega) (by omega)
 have f3:=L2 x.limit
 simp only[L8,List.length_append,List.length_cons,List.length_nil];omega
theorem b9H {c:Course}(hg:Good c):∀s∈K2 c,s.length<=40000:=by
 intro s hs
 have hl:=lens hg.fits
 simp only[K2,List.mem_append,List.mem_cons,List.mem_map,List.not_mem_nil,or_false] at hs
 rcases hs with((((((rfl|⟨x,hx,rfl⟩)|⟨x,hx,rfl⟩)|⟨x,hx,rfl⟩)|⟨x,hx,rfl⟩)|⟨x,hx,rfl⟩)|⟨x,hx,rfl⟩)|rfl|rfl|rfl
 . have:=J7 F9 40 c.mats λm hm=>b1O (hg.mats m hm)
   simp only[a2n,List.length_append,List.length_cons,List.length_nil];omega
 . have f1:=a0K hg.mats x.src
   have f2:=a0K hg.mats x.dst
   have f3:=L2 x.lo
   have f4:=L2 x.hi
   simp only[H9,List.length_append,List.length_cons,List.length_nil];omega
 . have hd:=dok hg hx
   have hT:=J7 (L8 c) 300 x.cutoffs (b0b hg hd)
   have hP:=b2t hg.mats hd.route
   have h1:=hd.name
   have h2:=hd.ncut
   have h3:=hd.cnt
   have h4:=b3I x.timing
   have h5:=a0K hg.mats x.extra
   have h6:(a1Q c x.extra).length<=40:=by unfold a1Q;split<;>simp only[List.length_append,List.length_cons,List.length_nil]<;>omega
   simp only[a0A,List.length_append,List.length_cons,List.length_nil];omega
 . have f1:=hg.waves _ hx
   have f2:=L2 x.gun
   simp only[I9,List.length_append,List.length_cons,List.length_nil];omega
 . have f1:=hg.offences _ hx
   have f2:=L2 x.time
   have h:=(b2n x).1 (hg.nums.offences _ hx)
   have hl:0<=x.laps/\x.laps<=64:=by
    rcases h with⟨_,h,_⟩|⟨_,h,_⟩|⟨_,h,_⟩
    . omega
    . simp only[inR,Bool.and_eq_true,decide_eq_true_eq] at h;omega
    . omega
   have f3:=t7 x.laps (by omega) (by omega)
   have h6:(a0Q x).length<=100:=by unfold a0Q;(repeat' split)<;>(try simp only[List.length_append,List.length_cons,List.length_nil])<;>omega
   simp only[I3,List.length_append,List.length_cons,List.length_nil];omega
 . have hc:=b6V hg hx
   have f1:=hg.categories _ hx
   have f2:=t7 x.lo (by omega) (by omega)
   have f3:=t7 x.hi (by omega) (by omega)
   simp only[H0,List.length_append,List.length_cons,List.length_nil];omega
 . have hp:=b2E hg hx
   have h1:=hp.rank
   have h2:=hp.amount
   have f1:=t7 x.rank (by omega) (by omega)
   have f2:=t7 x.amount (by omega) (by omega)
   have f3:=b7p hg x.distance
   have f4:=c4S hg x.category
   simp only[G3,List.length_append,List.length_cons,List.length_nil];omega
 . have hT:=a4R hg.steps
   have hnst:=hg.nst
   have hncd:=hg.ncd
   simp only[a4W,List.length_append,List.length_cons,List.length_nil];omega
 . have hF:=fok hg
   have g1:=hF.misses
   have g2:=hF.strays
   have g3:=hF.drift
   have f1:=t7 c.faults.misses (by omega) (by omega)
   have f2:=t7 c.faults.strays (by omega) (by omega)
   have f3:=t7 c.faults.drift (by omega) (by omega)
   have f5:=L2 c.faults.window
   have f6:=L2 c.faults.residual
   simp only[a3L,List.length_append,List.length_cons,List.length_nil];omega
 . have hF:=fok hg
   have g4:=hF.fee
   have f4:=t7 c.fee (by omega) (by omega)
   have f7:=L2 c.deadline
   simp only[a3M,List.length_append,List.length_cons,List.length_nil];omega
def a1I (c:Course):List UInt8:=if E1 c=0/\(T1 c).length<=65536 then T1 c else[]
def a1J (c:Course):Int:=if E1 c=0 then(if(T1 c).length<=65536 then 0 else 2) else E1 c
end Go.Proofs.YteillnfhkeebjaaGreatDoor.Dx
