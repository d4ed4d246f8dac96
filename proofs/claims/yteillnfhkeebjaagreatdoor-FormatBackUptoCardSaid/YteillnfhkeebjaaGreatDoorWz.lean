/- Conditions. -/
import Derived.Test.YteillnfhkeebjaaGreatDoorWy
set_option linter.all false
namespace Go.Proofs.YteillnfhkeebjaaGreatDoor.Dx
open Go Go.RowKit Go.Proofs
set_option maxRecDepth 100000
set_option maxHeartbeats 8000000
theorem d0K (c:Cond):Mt 70 [c.d] λd=>d=c.core.d:=by
 refine En {} Tryz.func70 Tryz.ntmps70 λ_ _ _ _ _=>?_;refine Kw ?_;refine o4 tok {} [] (X:=Cond) (λ_=>[]) (λx=>[(1, .box [iB x.kind,iB x.var,iB x.n, .d (.sl (x.parts.map Cond.cells))] 47)]) [] (λx=>x.core=c.core) (λx=>SizeOf.sizeOf x) c ?_;refine Kw ?_;refine d8 ?_ ⟨rfl,λx hx=>?_⟩
 . exact Kr
 have hthin:x.kind=2\/x.kind=3->(h:(x.parts.length:Int)=1)->(x.parts[0]'(by omega)).core=c.core/\SizeOf.sizeOf (x.parts[0]'(by omega))<SizeOf.sizeOf x:=λhk h=>by
  obtain⟨p,hp⟩:=a5D.1 (by omega:x.parts.length=1);have hm:p∈x.parts:=by rw[hp];simp
  simp only[hp,List.getElem_cons_zero];rw[<-a5t hk hp];exact⟨hx,Cond.size_part hm⟩
 have hself:x.thin=false->D.agg x.dc=c.core.d:=λh=>by rw[<-hx,a5s h]
 refine Kw ?_;repeat'((first|(intro hlq;try simp only[SL] at hlq)|refine K9 ?_|((refine Kh (λhb=>?_) λhb=>?_)<;>try simp only[BL] at hb)|refine K8 ?_)<;>refine Kw ?_)
 . obtain⟨k1,k2⟩:=hthin (.inl (by assumption)) (by assumption);refine⟨⟨_,?_,k1,k2⟩⟩;repeat'(first|exact d9|exact rfl|refine d8 ?_ ?_)
 . exact⟨hself (by simp only[Cond.thin,U2,W8,L4];omega)⟩
 . obtain⟨k1,k2⟩:=hthin (.inr (by assumption)) (by assumption);refine⟨⟨_,?_,k1,k2⟩⟩;repeat'(first|exact d9|exact rfl|refine d8 ?_ ?_)
 . exact⟨hself (by simp only[Cond.thin,U2,W8,L4];omega)⟩
 . exact⟨hself (by simp only[Cond.thin,U2,W8,L4];omega)⟩
theorem a1w (t:Int):(timeS t).length<=100:=by
 unfold timeS;split
 . rename_i h;simp only[Y0,inR,f0,j0] at h;have key:∀n:Int,0<=n->n<=1099511627776->(a0Z n).length<=90:=by
    intro n h0 h1;have f1:=I7 (n/1000000/60) (by omega) (by omega);have f2:=I7 (n/1000000/3600) (by omega) (by omega);have f3:=b1e (n/1000000%60) (by omega) (by omega);have f4:=b1e (n/1000000/60%60) (by omega) (by omega);have f5:=I7 (1000000+n%1000000) (by omega) (by omega);have f7:=b4w (List.drop 1 (Lib.itoa (1000000+n%1000000))) 48;simp only[K2] at f7;unfold a0Z a4B a4K;split<;>split<;>simp only[j6,i7,j8]<;>omega
   unfold a8M;split
   . have:=key (-t) (by omega) (by omega);simp only[j6,i7,j8];omega
   . have:=key t (by omega) (by omega);omega
 . simp
theorem b3T:∀(b:Bool) (l:List (List UInt8)) (x:List UInt8),t8 b (l++[x])=t8 b l++(if b=true/\l=[] then[] else[32])++x
 |true,[],x=>by simp[t8]
 |false,[],x=>by simp[t8]
 | true,y::l,x=>by
   have:=b3T false l x;simp only[q8,t8,this];simp
 | false,y::l,x=>by
   have:=b3T false l x;simp only[q8,t8,this];simp
theorem b0N {α:Type}(f:α->List UInt8){l:List α}{i:Nat}(h:i<l.length):t8 true ((l.map f).take (i+1))=if i=0 then f l[i] else t8 true ((l.map f).take i)++[32]++f l[i]:=by
 rw[L1 (by simpa using h),b3T,a3i];by_cases e:i=0
 . subst e;simp[t8]
 . rw[c8,c8 e];rintro⟨-,e2⟩;have:=d6 List.length e2;simp only[R5,o9,j8] at this;omega
theorem a6C:∀(b:Bool) (l:List (List UInt8)) (i:Nat),(t8 b (l.take i)).length<=(t8 b l).length
 |b,l,0=>by cases b<;>simp[t8]
 |b,[],i+1=>by simp
 |true,x::l,i+1=>by have:=a6C false l i;simp only[List.take_succ_cons,t8,j6];omega
 |false,x::l,i+1=>by have:=a6C false l i;simp only[List.take_succ_cons,t8,j6];omega
theorem a6B {α:Type}(f:α->List UInt8)(g:α->Nat):∀(b:Bool) (l:List α),(∀x∈l,(f x).length+1<=g x)->(t8 b (l.map f)).length<=(l.map g).sum
 |b,[],_=>by cases b<;>simp[t8]
 | b,x::l,h=>by
   have ih:=a6B f g false l λy hy=>h y (r6 _ hy);have:=h x (by simp);cases b<;>simp only[o5,t8,j6,Q6,i7,j8] at * <;>omega
theorem a8R {c:Cond}(h:c.valid=true):c.num=c.total:=by
 have:c.isZero=false:=by
  have hk:c.kind≠0:=by rcases b4E h with h|⟨h,_⟩|⟨h,_⟩<;>omega
  simp[Cond.isZero,hk]
 rw[Cond.num,this];rfl
theorem b1G:∀l:List Step,(l.map λs=>40*(s.nst+s.ncd)).sum=40*(Step.nstL l+Step.ncdL l):=by
 intro l;induction l with|nil=>rfl|cons s l ih=>simp only[o5,Q6,ih,Step.nstL,Step.ncdL];omega
theorem Step.cases {s:Step}(h:s.valid=true):(s.kind=1/\1<=s.crit/\s.crit<=5)\/(s.kind=2/\s.cond.valid=true/\s.th≠[]/\(∀x∈s.th,x.valid=true)/\∀x∈s.el,x.valid=true):=by
 rw[Step.valid_eq] at h;split at h
 . simp only[f0,inR,j0] at h;exact .inl ⟨by assumption,h.1.1,h.1.2⟩
 . split at h
   . simp only[f0,j0,n7] at h;refine .inr ⟨by assumption,h.2.1,?_,h.2.2.2.1,h.2.2.2.2⟩;intro e;have:=h.2.2.1;rw[e] at this;simp at this
   . cases h
theorem c4U (b:Int):(K4 b).length<=7:=by
 unfold K4;split;simp;split;simp;split;simp;split<;>simp
theorem b4z (s:Step)(hv:s.valid=true):s.tx.length+1<=40*(s.nst+s.ncd):=by
 rw[Step.tx_eq,s.nst_eq,s.ncd_eq];rcases Step.cases hv with⟨hk,_⟩|⟨hk,hc,hne,ht,he⟩
 . rw[d4 hk];have:=c4U s.crit;simp only[j6,i7,j8];omega
 . rw [c8 (by omega)];have h1:(s7 s.th).length<=40*(Step.nstL s.th+Step.ncdL s.th):=by
    rw[<-b1G];exact a6B _ _ _ _ λx hx=>by
     have:=a9o hx;exact b4z x (ht x hx)
   have h2:(s7 s.el).length<=40*(Step.nstL s.el+Step.ncdL s.el):=by
    rw[<-b1G];exact a6B _ _ _ _ λx hx=>by
     have:=a9n hx;exact b4z x (he x hx)
   have h3:=a3Q s.cond hc;rw[a8R hc];unfold ifT;split<;>simp only[j6,i7,j8]<;>omega
termination_by SizeOf.sizeOf s
decreasing_by all_goals assumption
theorem b4n {l:List Step}(hv:∀s∈l,s.valid=true):(s7 l).length<=40*(Step.nstL l+Step.ncdL l):=by
 rw[<-b1G];exact a6B _ _ _ _ λx hx=>b4z x (hv x hx)
theorem b3n:∀{l:List Step} {x:Step},x∈l->x.nst<=Step.nstL l/\x.ncd<=Step.ncdL l:=by
 intro l;induction l with
 |nil=>intro x h;cases h
 | cons c l ih=>
   intro x h;simp only[Step.nstL,Step.ncdL];rcases p8.1 h with rfl|h
   . omega
   . have:=ih h;omega
theorem a6o {ms:List Mat}(h:∀m∈ms,m.name.length<=24)(i:Int):(G1 ms i).length<=24:=by
 unfold G1;split
 . rename_i m hm;exact h m (M6 hm)
 . simp
theorem b5C:∀l:List Part,(l.map λs=>40*s.cnt).sum=40*Part.cntL l:=by
 intro l;induction l with|nil=>rfl|cons s l ih=>simp only[o5,Q6,ih,Part.cntL];omega
theorem Part.cases {m:Int}{p:Part}(h:p.good m=true):(p.laps=0/\0<=p.mat/\p.mat<=m)\/(1<=p.laps/\p.laps<=64/\∀x∈p.parts,x.good m=true):=by
 rw[a4r] at h;split at h
 . simp only[f0,inR,j0] at h;exact .inl ⟨by assumption,h.1⟩
 . simp only[f0,inR,j0,n7] at h;exact .inr ⟨h.1.1,h.1.2,h.2.2.2⟩
theorem b9A {ms:List Mat}(hn:∀m∈ms,m.name.length<=24){m:Int}(p:Part)(hg:p.good m=true):(p.tx ms).length+1<=40*p.cnt:=by
 rw[Part.tx_eq,p.cnt_eq];rcases Part.cases hg with⟨hk,_⟩|⟨h0,h1,hp⟩
 . rw[d4 hk];have:=a6o hn p.mat;simp only[j6,i7,j8];omega
 . rw [c8 (by omega)];have h3:(Q1 ms p.parts).length<=40*Part.cntL p.parts:=by
    rw[<-b5C];exact a6B _ _ _ _ λx hx=>by
     have:=Part.size_part hx;exact b9A hn x (hp x hx)
   have:=I7 p.laps (by omega) (by omega);simp only[j6,i7,j8];omega
termination_by SizeOf.sizeOf p
decreasing_by assumption
theorem b9q {ms:List Mat}(hn:∀m∈ms,m.name.length<=24){m:Int}{l:List Part}(hg:∀p∈l,p.good m=true):(Q1 ms l).length<=40*Part.cntL l:=by
 rw[<-b5C];exact a6B _ _ _ _ λx hx=>b9A hn x (hg x hx)
theorem c4l:∀{l:List Part} {x:Part},x∈l->x.cnt<=Part.cntL l:=by
 intro l;induction l with
 |nil=>intro x h;cases h
 | cons c l ih=>
   intro x h;simp only[Part.cntL];rcases p8.1 h with rfl|h
   . omega
   . have:=ih h;omega
theorem b8c {s:List UInt8}(h:N3 kw s=true):s.length<=24:=by
 simp only[N3,f0,j0] at h;exact h.1
theorem a8g {α:Type}{l:List α}{f:α->List UInt8}(h:nmL (l.map f)=true):∀x∈l,(f x).length<=24:=by
 intro x hx;simp only[nmL,f0,n7] at h;exact b8c (h.1 _ (v6.2 ⟨x,hx,rfl⟩))
structure Good (c:Course):Prop where
 small:c.small
 fits:c.fits=true
 named:c.named=true
 nums:NumsOk c
 ties:K6 c.ties=0
 name:c.name.length<=24
 mats:∀x∈c.mats,x.name.length<=24
 distances:∀x∈c.distances,x.name.length<=24
 waves:∀x∈c.waves,x.name.length<=24
 offences:∀x∈c.offences,x.name.length<=24
 categories:∀x∈c.categories,x.name.length<=24
 steps:∀s∈c.ties,s.valid=true
 nst:Step.nstL c.ties<=64
 ncd:Step.ncdL c.ties<=256
 routes:∀d∈c.distances,a0O c d=true
theorem b7R {c:Course}(hs:c.small)(h:N1 c=0):Good c:=by
 unfold N1 at h;split at h;· cases h
 split at h;· cases h
 split at h;· cases h
 split at h
 case isFalse=>exact absurd h ‹_›
 split at h
 case isFalse=>cases h
 rename_i h1 h2 h3 h4 h5;have hn:c.named=true:=by simpa using h2
 have hn':=hn;simp only[Course.named,f0] at hn';obtain⟨n1,n2,n3,n4,n5,n6⟩:=hn';have ht:=c0K h4;refine⟨hs,by simpa using h1,hn,(b9j c).1 (by simpa using h3),h4,b8c n1,a8g n2,a8g n3,a8g n4,a8g n5,a8g n6,ht.1,ht.2,?_,n7.1 h5⟩;unfold K6 at h4;split at h4
 . rename_i hf;split at h4
   . rename_i hv;obtain⟨_,k2,_⟩:=F_S c.ties;simp only[C2,C0,f0,j0,k2] at hf;rcases hf with hf|hf
     . exact absurd (by simpa[q9] using hf) hv.1
     . omega
   . cases h4
 . cases h4
theorem Step.szl (s:Step):SizeOf.sizeOf s.th<SizeOf.sizeOf s/\SizeOf.sizeOf s.el<SizeOf.sizeOf s:=by
 obtain⟨k,b,c,t,e⟩:=s;simp only[Step.mk.sizeOf_spec];omega
theorem Part.szl (s:Part):SizeOf.sizeOf s.parts<SizeOf.sizeOf s:=by
 obtain⟨k,b,c⟩:=s;simp only[Part.mk.sizeOf_spec];omega
theorem c8P {c:Course}{i:Int}(h0:0<=i)(h1:i<=c.m):∃k,(c.mats.map Mat.cells)[i.toNat]?=some [.str (G1 c.mats i),iD k]:=by
 have hl:i.toNat<c.mats.length:=by simp only[Course.m,o9] at h1;omega
 refine⟨(c.mats[i.toNat]).kind,?_⟩;rw[z7,t6 hl];simp only[G9,Mat.cells];rw[G1,t6 hl]
abbrev prN (rest:List Base)(ty:TypeId):List (Nat×Blk):=[(1000, .box (.d (.v (.pointer none)):: .d (.raw (.slice none 0 0))::rest) ty)]
noncomputable abbrev prF (rest:List Base)(ty:TypeId)(l:List UInt8):List (Nat×Blk):=match l with|[]=>prN rest ty|b::l=>prO rest ty (b::l)
abbrev E8:Cfg:={rs:=[22,31]}
theorem d0t (r:Nat->D)(c:UInt8)(t:List UInt8)(more:List Item)(hlen:(r5 (.s (c::t)::more)).length<=140737488355328):
 MR 32 [.loc 1000 0, .d (.sl ((Item.s (c::t)::more).map λx=>[x.d]))] (prN (rr r) 90) λo O'=>o= .ret (.d (.tup []))/\O'=prO (rr r) 90 (r5 (.s (c::t)::more)):=by
 generalize hI:Item.s (c::t)::more=items at hlen⊢;refine EnR E8 Tryz.func32 Tryz.ntmps32 λ_ _ _ _ _=>?_;refine Kv E8 ?_;repeat'((first|(intro hlq;try simp only[SL] at hlq)|refine K9 ?_|refine K8 ?_)<;>refine Kv E8 ?_)
 refine o4 tok E8 [] (X:=Nat×List UInt8) (λs=>[(10,iB s.1)]) (λs=>prF (rr r) 90 s.2) [] (λs=>s.1<=items.length/\(s.2=[]->s.1=0)/\s.2++r5 (items.drop s.1)=r5 items) (λs=>items.length-s.1) (0,[]) ?_;refine Kv E8 ?_;refine d8 ?_ ⟨⟨by omega,λ_=>rfl,rfl⟩,λs hΦ=>?_⟩
 . repeat'(first|exact d9|exact rfl|refine d8 ?_ ?_)
   all_goals exact s6 _ _
 obtain⟨i,xs⟩:=s;obtain⟨hi,hx0,heq⟩:=hΦ;dsimp only at hi hx0 heq;cases xs with
 | nil=>
   obtain rfl:i=0:=hx0 rfl;subst hI;refine Kv E8 ?_;refine⟨λ_=>?_,λh1=>?_⟩;rotate_left
   . simp at h1
   refine Kv E8 ?_;refine⟨_,⟨by simp,rfl,rfl⟩,?_⟩;refine Kv E8 ?_;refine Kv E8 ?_;refine Kv E8 ?_;refine⟨prN (rr r) 90,_,⟨?_,?_⟩,(c8X 1000 1001 (by decide) (p6 r) (c::t) (by simp) (by simp only[r5,a2n,Item.text,j6] at hlen;omega) (by kernel_rfl)).mono ?_⟩
   . exact Kr
   . repeat'(first|exact d9|exact rfl|refine d8 ?_ ?_)
     all_goals exact s6 _ _
   rintro o O' ⟨rfl,rfl⟩;dsimp only;rw[show a0x (.d (a6Q (c::t))) [(1000,Blk.box (.loc 1000 0:: .own 1001::rr r) 90),(1001, .sl (J0 (c::t)))]=true from p9 (p6 r) _ _];refine Kv E8 ?_;refine⟨λ_=>by simp only[w8] at *;omega,?_⟩;refine Kv E8 ?_;refine⟨⟨(1,c::t),?_,⟨by simp,(λh=>by cases h),rfl⟩,by simp⟩⟩;repeat'(first|exact d9|exact rfl|refine d8 ?_ ?_)
   all_goals exact s6 _ _
 | cons b xs=>
   have hx1:b::xs≠[]:=by simp
   have hlen':(b::xs).length+(r5 (items.drop i)).length<=140737488355328:=by
    have:=d6 List.length heq;rw[j6] at this;omega
   refine Kv E8 ?_;refine⟨λh1=>?_,λh1=>?_⟩<;>(try simp only[BL] at h1)<;>refine Kv E8 ?_
   . have h1':i<items.length:=by omega
     rw[F2 h1',r5,a2n,<-r5] at heq hlen';rw[j6] at hlen';repeat'((first|(intro hlq;try simp only[SL] at hlq)|refine K9 ?_|refine K8 ?_)<;>refine Kv E8 ?_)
     dsimp only;generalize items[i]=w at heq hlen'⊢;cases w with
     | s t=>
       simp only[Item.text] at heq hlen';repeat'((first|(intro hlq;try simp only[SL] at hlq)|refine K9 ?_|refine Ka ?_|refine Kb ?_|refine Kc (hd:=rfl) (e:=?_)|refine Kc (hd:=Item.d _) (e:=?_)|refine Kd (e:=?_)|refine Kl rfl ?_|fail)<;>refine Kv E8 ?_)
       refine Kv E8 ?_;refine Kv E8 ?_;refine Kv E8 ?_;refine⟨prO (rr r) 90 (b::xs),_,⟨?_,?_⟩,(b0q 1000 1001 (by decide) (p6 r) (b::xs) t hx1 (by omega)).mono ?_⟩
       . exact Kr
       . repeat'(first|exact d9|exact rfl|refine d8 ?_ ?_)
         all_goals exact s6 _ _
       rintro o O' ⟨rfl,rfl⟩;dsimp only;rw[p9 (p6 r)];refine Kv E8 ?_;refine⟨λ_=>by simp only[w8] at *;omega,?_⟩;refine Kv E8 ?_;refine⟨⟨(i+1,b::(xs++t)),?_,⟨by dsimp only;omega,(λh=>by cases h),by rw[<-heq];simp⟩,by dsimp only;omega⟩⟩;repeat'(first|exact d9|exact rfl|refine d8 ?_ ?_)
       all_goals exact s6 _ _
     | i n=>
       simp only[Item.text] at heq hlen';repeat'((first|(intro hlq;try simp only[SL] at hlq)|refine K9 ?_|refine Ka ?_|refine Kb ?_|refine Kc (hd:=rfl) (e:=?_)|refine Kc (hd:=Item.d _) (e:=?_)|refine Kd (e:=?_)|refine Kl rfl ?_|fail)<;>refine Kv E8 ?_)
       refine Kv E8 ?_;refine Kv E8 ?_;refine Kv E8 ?_;refine Dr E8 [.p 0, .p 1, .p 2, .p 3, .s 4 [3], .s 5 [2,1,0]] ?_;refine Kv E8 ?_;refine Kv E8 ?_;refine Meets.k (a5x n) ?_;refine Kv E8 ?_;iterate 3 (try refine Kl rfl ?_)
       refine Kv E8 ?_;refine⟨prO (rr r) 90 (b::xs),_,⟨?_,?_⟩,(b0q 1000 1001 (by decide) (p6 r) (b::xs) (Lib.itoa n) hx1 (by omega)).mono ?_⟩
       . exact Kr
       . repeat'(first|exact d9|exact rfl|refine d8 ?_ ?_)
         all_goals exact s6 _ _
       rintro o O' ⟨rfl,rfl⟩;dsimp only;rw[p9 (p6 r)];refine Kv E8 ?_;refine⟨λ_=>by simp only[w8] at *;omega,?_⟩;refine Kv E8 ?_;refine⟨⟨(i+1,b::(xs++Lib.itoa n)),?_,⟨by dsimp only;omega,(λh=>by cases h),by rw[<-heq];simp⟩,by dsimp only;omega⟩⟩;repeat'(first|exact d9|exact rfl|refine d8 ?_ ?_)
       all_goals exact s6 _ _
   . obtain rfl:i=items.length:=by omega
     rw[a5B] at heq;have heq:b::xs=r5 items:=by simpa[r5] using heq
     rw[<-heq];exact⟨prO (rr r) 90 (b::xs), .d (.tup []),⟨s6 _ _,⟨⟨rfl,a1C _ _⟩,⟨rfl,rfl,rfl,rfl⟩,trivial⟩,rfl⟩,⟨rfl,rfl⟩⟩
theorem B6 (r:Nat->D)(l l':List UInt8)(items:List Item)(hl:l≠[])(he:l'=l++r5 items)(hlen:l'.length<=140737488355328):
 MR 32 [.loc 1000 0, .d (.sl (items.map λx=>[x.d]))] (prO (rr r) 90 l) λo O'=>o= .ret (.d (.tup []))/\O'=prO (rr r) 90 l':=by
 have:=d0v (ty:=90) r l hl items (by rw[he,j6] at hlen;exact hlen);rw[<-he] at this;exact this
theorem a2I (t:Int):Mt 34 [iD t] λd=>d= .str (timeS t):=by
 refine En {} Tryz.func34 Tryz.ntmps34 λ_ _ _ _ _=>?_;refine Kw ?_;repeat'((first|(intro hlq;try simp only[SL] at hlq)|refine Meets.k (c2K t) ?_|refine K9 ?_|((refine Kh (λhb=>?_) λhb=>?_)<;>try simp only[BL] at hb)|refine K8 ?_)<;>refine Kw ?_)
 exact⟨rfl⟩
theorem d0f (x:Offence)(hg:x.good=true):Mt 36 [x.d] λd=>d= .str (a4X x):=by
 have h:=(b9k x).1 hg;have hl:0<=x.laps/\x.laps<=64:=by
  rcases h with⟨_,h,_⟩|⟨_,h,_⟩|⟨_,h,_⟩
  . omega
  . simp only[inR,f0,j0] at h;omega
  . omega
 have f1:=I7 x.laps (by omega) (by omega);refine En {} Tryz.func36 Tryz.ntmps36 λ_ _ _ _ _=>?_;refine Kw ?_;repeat'((first|(intro hlq;try simp only[SL] at hlq)|refine Meets.k (a5x _) ?_|refine Meets.k (a2I _) ?_|refine K9 ?_|((refine Kh (λhb=>?_) λhb=>?_)<;>try simp only[BL] at hb)|refine K8 ?_)<;>refine Kw ?_)
 all_goals (refine⟨d6 D.str ?_⟩;rw[a4X];simp[*])
noncomputable def cR (c:Course)(i:Nat):D:=c.cells.getD i .junk
theorem a6x (c:Course)(i:Int)(h0:0<=i)(h1:i<=c.m)(l:List UInt8):
 MR 33 [.loc 1000 0,iB i] (prO (rr (cR c)) 90 l) λo O'=>o= .ret (.d (.str (G1 c.mats i)))/\O'=prO (rr (cR c)) 90 l:=by
 obtain⟨k,hm⟩:=c8P h0 h1;refine EnR {} Tryz.func33 Tryz.ntmps33 λ_ _ _ _ _=>?_;refine Kw ?_;refine⟨_,⟨h0,hm,rfl⟩,?_⟩;refine Kw ?_;exact⟨prO (rr (cR c)) 90 l, .d (.str (G1 c.mats i)),⟨s6 _ _,⟨⟨rfl,a1C _ _⟩,⟨rfl,rfl,rfl,rfl⟩,trivial⟩,rfl⟩,⟨rfl,rfl⟩⟩
set_option maxHeartbeats 16000000
theorem c0Y {n:Int}(h0:0<=n)(h1:n<100):R2 n=Lib.itoa (n/10)++Lib.itoa (n%10):=by
 rw[R2,a3J (by omega:¬100+n<10),a3J (by omega:¬(100+n)/10<10),a6i (by omega:(0:Int)<=(100+n)/10/10) (by omega),a6i (by omega:0<=n/10) (by omega),a6i (by omega:0<=n%10) (by omega),
  show((100+n)/10%10).toNat=(n/10).toNat by omega,show((100+n)%10).toNat=(n%10).toNat by omega]
 rfl
theorem c0n {u:Int}(h0:0<=u)(h1:u<1000000):(Lib.itoa (1000000+u)).drop 1=
 [UInt8.ofNat (48+(u/100000%10).toNat),UInt8.ofNat (48+(u/10000%10).toNat),UInt8.ofNat (48+(u/1000%10).toNat),UInt8.ofNat (48+(u/100%10).toNat),UInt8.ofNat (48+(u/10%10).toNat),UInt8.ofNat (48+(u%10).toNat)]:=by
 rw[a3J (by omega:¬1000000+u<10),a3J (by omega:¬(1000000+u)/10<10),a3J (by omega:¬(1000000+u)/10/10<10),a3J (by omega:¬(1000000+u)/10/10/10<10),
  a3J (by omega:¬(1000000+u)/10/10/10/10<10),a3J (by omega:¬(1000000+u)/10/10/10/10/10<10),a6i (by omega:(0:Int)<=(1000000+u)/10/10/10/10/10/10) (by omega),
  show((1000000+u)/10/10/10/10/10%10).toNat=(u/100000%10).toNat by omega,show((1000000+u)/10/10/10/10%10).toNat=(u/10000%10).toNat by omega,show((1000000+u)/10/10/10%10).toNat=(u/1000%10).toNat by omega,
  show((1000000+u)/10/10%10).toNat=(u/100%10).toNat by omega,show((1000000+u)/10%10).toNat=(u/10%10).toNat by omega,show((1000000+u)%10).toNat=(u%10).toNat by omega]
 rfl
theorem a6t {k:Nat}(hk:k<10)(h:UInt8.ofNat (48+k)=48):k=0:=by
 have:=d6 UInt8.toNat h;simp at this;omega
theorem b7g {p:UInt8->Bool}:∀{l:List UInt8},l.dropWhile p=[]->∀x∈l,p x=true
 |[],_,x,hx=>by cases hx
 | y ::l,h,x,hx=>by
   rw[a5z] at h;split at h
   . rcases p8.1 hx with rfl|hx
     . assumption
     . exact b7g h x hx
   . cases h
theorem d4b {l:List UInt8}(h:Lib.trimRightB l 48=[]):∀x∈l,x=48:=by
 have h:List.dropWhile (λb=>b==48) l.reverse=[]:=by simpa[Lib.trimRightB] using h
 intro x hx;have:=b7g h x (by simpa using hx);simpa using this
theorem d2m {u:Int}(h0:0<u)(h1:u<1000000):Lib.trimRightB ((Lib.itoa (1000000+u)).drop 1) 48≠[]:=by
 intro h;have h:=d4b h;rw[c0n (by omega) h1] at h;simp only[p8,Z1,or_false,forall_eq_or_imp,forall_eq] at h;obtain⟨a,b,c,d,e,f⟩:=h;have:=a6t (by omega) a;have:=a6t (by omega) b;have:=a6t (by omega) c;have:=a6t (by omega) d;have:=a6t (by omega) e;have:=a6t (by omega) f;omega
theorem a3F {α:Type}(f:α->List UInt8){l:List α}{i:Nat}(h:i<l.length):(l.take (i+1)).flatMap f=(l.take i).flatMap f++f l[i]:=by
 rw[L1 h,List.flatMap_append];simp
theorem a1g {α:Type}(f:α->List UInt8)(n:Nat):∀l:List α,(∀x∈l,(f x).length<=n)->(l.flatMap f).length<=n*l.length
 |[],_=>by simp
 | x::l,h=>by
   have:=a1g f n l λy hy=>h y (r6 _ hy);have:=h x (by simp);rw[a2n,j6,i7,Nat.mul_succ];omega
theorem a3G {α:Type}(f:α->List UInt8)(l:List α)(i:Nat):((l.take i).flatMap f).length<=(l.flatMap f).length:=by
 conv=>rhs;rw[<-a7k i l,List.flatMap_append,j6]
 omega
theorem c8M (k:Int):(a6n k).length<=5:=by
 unfold a6n;split;simp;split<;>simp
theorem b8I {m:Mat}(h:m.name.length<=24):(S2 m).length<=40:=by
 have:=c8M m.kind;simp only[S2,j6,i7,j8];omega
theorem lens {c:Course}(h:c.fits=true):c.mats.length<=40/\c.legs.length<=512/\c.distances.length<=8/\c.waves.length<=32/\c.offences.length<=32/\c.categories.length<=32/\c.prizes.length<=32/\∀d∈c.distances,d.cutoffs.length<=64/\Part.cntL d.route<=256:=by
 simp only[Course.fits,f0,j0,n7,Distance.fits] at h;obtain⟨⟨h1,h2,h3,h4,h5,h6,h7⟩,h8⟩:=h;exact⟨h1,h2,h3,h4,h5,h6,h7,λd hd=>⟨(h8 d hd).1,(h8 d hd).2.2⟩⟩
theorem c0N (k:Int):(a5o k).length<=4:=by
 unfold a5o;split;simp;split<;>simp
structure DOk (c:Course) (d:Distance):Prop where
 name:d.name.length<=24
 timing:1<=d.timing/\d.timing<=3
 extra: -1<=d.extra/\d.extra<=c.m
 route:∀p∈d.route,p.good c.m=true
 cutoffs:∀x∈d.cutoffs,(0<=x.mat/\x.mat<=c.m)/\(1<=x.lap/\x.lap<=256)/\0<=x.limit/\x.limit<=1099511627776
 ncut:d.cutoffs.length<=64
 cnt:Part.cntL d.route<=256
theorem dok {c:Course}(hg:Good c){d:Distance}(hd:d∈c.distances):DOk c d:=by
 have h:=hg.nums.distances d hd;have hl:=(lens hg.fits).2.2.2.2.2.2.2 d hd;simp only[Distance.good,f0,n7,inR,j0] at h;obtain⟨h1,h2,h3,h4⟩:=h;refine⟨hg.distances d hd,h1,h2,h3,λx hx=>?_,hl.1,hl.2⟩;have:=h4 x hx;simp only[Cutoff.good,f0,inR,j0] at this;have hr:=hg.routes d hd;simp only[a0O,f0,j0,n7] at hr;have hc:=hr.2.2.2 x hx;simp only[a5V,j0] at hc;have hcl:=List.count_le_length (a:=x.mat) (l:=Part.exL d.route []);exact⟨this.1,⟨by omega,by omega⟩,this.2.2.1,this.2.2.2⟩
theorem c5x {c:Course}{i:Int}(h0:0<=i)(h1:i<=c.distances.length-1):∃a b e f,(c.distances.map Distance.cells)[i.toNat]?=some [.str (a2x c i),a,b,e,f]:=by
 have hl:i.toNat<c.distances.length:=by omega
 refine⟨.sl ((c.distances[i.toNat]).route.map Part.cells),iD (c.distances[i.toNat]).timing, .sl ((c.distances[i.toNat]).cutoffs.map Cutoff.cells),iD (c.distances[i.toNat]).extra,?_⟩;rw[z7,t6 hl];simp only[G9,Distance.cells];rw[a2x,t6 hl]
theorem c3Z {c:Course}{i:Int}(h0:0<=i)(h1:i<=c.categories.length-1):∃a b,(c.categories.map Category.cells)[i.toNat]?=some [.str (a2e c i),a,b]:=by
 have hl:i.toNat<c.categories.length:=by omega
 refine⟨iD (c.categories[i.toNat]).lo,iD (c.categories[i.toNat]).hi,?_⟩;rw[z7,t6 hl];simp only[G9,Category.cells];rw[a2e,d4 h0,t6 hl]
theorem c5w {c:Course}(hg:Good c)(i:Int):(a2x c i).length<=24:=by
 unfold a2x;split
 . rename_i m hm;exact hg.distances m (M6 hm)
 . simp
theorem d5m {c:Course}(hg:Good c)(i:Int):(a2e c i).length<=24:=by
 unfold a2e;split
 . split
   . rename_i m hm;exact hg.categories m (M6 hm)
   . simp
 . simp
structure PzOk (c:Course) (x:Prize):Prop where
 distance:0<=x.distance/\x.distance<=c.distances.length-1
 category: -1<=x.category/\x.category<=c.categories.length-1
 rank:1<=x.rank/\x.rank<=4000
 amount:1<=x.amount/\x.amount<=1125899906842624
theorem b9C {c:Course}(hg:Good c){x:Prize}(hx:x∈c.prizes):PzOk c x:=by
 have h:=hg.nums.prizes x hx;simp only[Prize.good,f0,inR,j0] at h;exact⟨h.1,h.2.1,h.2.2.1,h.2.2.2⟩
structure LgOk (c:Course) (x:Leg):Prop where
 src:0<=x.src/\x.src<=c.m
 dst:0<=x.dst/\x.dst<=c.m
theorem c8o {c:Course}(hg:Good c){x:Leg}(hx:x∈c.legs):LgOk c x:=by
 have h:=hg.nums.legs x hx;simp only[Leg.good,f0,inR,j0] at h;exact⟨h.1.1,h.1.2⟩
theorem c4Z {c:Course}(hg:Good c){x:Category}(hx:x∈c.categories):(0<=x.lo/\x.lo<=120)/\0<=x.hi/\x.hi<=120:=by
 have h:=hg.nums.categories x hx;simp only[Category.good,f0,inR,j0] at h;exact h.1
structure FOk (c:Course):Prop where
 misses:0<=c.faults.misses/\c.faults.misses<=16
 strays:0<=c.faults.strays/\c.faults.strays<=16
 window:0<=c.faults.window/\c.faults.window<=4294967296
 residual:0<=c.faults.residual/\c.faults.residual<=4294967296
 drift:0<=c.faults.drift/\c.faults.drift<=100000
 fee:0<=c.fee/\c.fee<=1125899906842624
 deadline:0<=c.deadline/\c.deadline<=1099511627776
theorem fok {c:Course}(hg:Good c):FOk c:=by
 have h:=hg.nums.rest;simp only[Course.numsB,f0,inR,j0] at h;exact⟨h.1.1,h.1.2,h.2.1.1,h.2.1.2,h.2.2.1,h.2.2.2.1,h.2.2.2.2⟩
theorem b6P {c:Course}(hg:Good c){d:Distance}(hd:DOk c d):∀x∈d.cutoffs,(a0A c x).length<=300:=λx hx=>by
 have h:=hd.cutoffs x hx;have f1:=a6o hg.mats x.mat;have f2:=I7 x.lap (by omega) (by omega);have f3:=a1w x.limit;simp only[a0A,j6,i7,j8];omega
theorem c8r {c:Course}(hg:Good c):∀s∈a0c c,s.length<=40000:=by
 intro s hs;have hl:=lens hg.fits;simp only[a0c,A8,p8,v6,Z1,or_false] at hs;rcases hs with((((((rfl|⟨x,hx,rfl⟩)|⟨x,hx,rfl⟩)|⟨x,hx,rfl⟩)|⟨x,hx,rfl⟩)|⟨x,hx,rfl⟩)|⟨x,hx,rfl⟩)|rfl|rfl|rfl
 . have:=a1g S2 40 c.mats λm hm=>b8I (hg.mats m hm);simp only[a6q,j6,i7,j8];omega
 . have f1:=a6o hg.mats x.src;have f2:=a6o hg.mats x.dst;have f3:=a1w x.lo;have f4:=a1w x.hi;simp only[T5,j6,i7,j8];omega
 . have hd:=dok hg hx;have hT:=a1g (a0A c) 300 x.cutoffs (b6P hg hd);have hP:=b9q hg.mats hd.route;have h1:=hd.name;have h2:=hd.ncut;have h3:=hd.cnt;have h4:=c0N x.timing;have h5:=a6o hg.mats x.extra;have h6:(a4D c x.extra).length<=40:=by unfold a4D;split<;>simp only[j6,i7,j8]<;>omega
   simp only[a1I,j6,i7,j8];omega
 . have f1:=hg.waves _ hx;have f2:=a1w x.gun;simp only[U1,j6,i7,j8];omega
 . have f1:=hg.offences _ hx;have f2:=a1w x.time;have h:=(b9k x).1 (hg.nums.offences _ hx);have hl:0<=x.laps/\x.laps<=64:=by
    rcases h with⟨_,h,_⟩|⟨_,h,_⟩|⟨_,h,_⟩
    . omega
    . simp only[inR,f0,j0] at h;omega
    . omega
   have f3:=I7 x.laps (by omega) (by omega);have h6:(a4X x).length<=100:=by unfold a4X;(repeat' split)<;>(try simp only[j6,i7,j8])<;>omega
   simp only[T7,j6,i7,j8];omega
 . have hc:=c4Z hg hx;have f1:=hg.categories _ hx;have f2:=I7 x.lo (by omega) (by omega);have f3:=I7 x.hi (by omega) (by omega);simp only[T1,j6,i7,j8];omega
 . have hp:=b9C hg hx;have h1:=hp.rank;have h2:=hp.amount;have f1:=I7 x.rank (by omega) (by omega);have f2:=I7 x.amount (by omega) (by omega);have f3:=c5w hg x.distance;have f4:=d5m hg x.category;simp only[S5,j6,i7,j8];omega
 . have hT:=b4n hg.steps;have hnst:=hg.nst;have hncd:=hg.ncd;simp only[a3V,j6,i7,j8];omega
 . have hF:=fok hg;have g1:=hF.misses;have g2:=hF.strays;have g3:=hF.drift;have f1:=I7 c.faults.misses (by omega) (by omega);have f2:=I7 c.faults.strays (by omega) (by omega);have f3:=I7 c.faults.drift (by omega) (by omega);have f5:=a1w c.faults.window;have f6:=a1w c.faults.residual;simp only[a4F,j6,i7,j8];omega
 . have hF:=fok hg;have g4:=hF.fee;have f4:=I7 c.fee (by omega) (by omega);have f7:=a1w c.deadline;simp only[a4G,j6,i7,j8];omega
def U9 (c:Course):List UInt8:=if N1 c=0/\(O5 c).length<=65536 then O5 c else[]
def L3 (c:Course):Int:=if N1 c=0 then(if(O5 c).length<=65536 then 0 else 2) else N1 c
end Go.Proofs.YteillnfhkeebjaaGreatDoor.Dx
