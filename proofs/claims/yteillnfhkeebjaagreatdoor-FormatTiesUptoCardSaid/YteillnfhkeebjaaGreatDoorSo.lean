/- Env; the reference's size,steps,Ties. -/
import Derived.Test.YteillnfhkeebjaaGreatDoorSn
set_option linter.all false
namespace Go.Proofs.YteillnfhkeebjaaGreatDoor.Dx
open Go Go.RowKit
set_option maxRecDepth 100000
set_option maxHeartbeats 8000000
def Env.good (x:Env):Bool:=inR 0 7 x.distance&&(inR 0 4000 x.field&&inR 0 1 x.short)
theorem a8Q (x:Env):Meets Tryz.prog 67 [x.d] λd=>d=iD (if x.good then 0 else 1):=by
 refine enter tok {} Tryz.func67 rfl (by kernel_rfl) Tryz.ntmps67 (by simp) λB0 W0 V0 lent g0=>?_
 refine Kw ?_
 repeat'((first|(intro hlq;try simp only[SL] at hlq)|refine Meets.k (v6 _ _ [_]) ?_|((refine Kh (λhb=>?_) λhb=>?_)<;>try simp only[BL] at hb)|refine K8 ?_)<;>refine Kw ?_)
 all_goals refine⟨congrArg iD ?_⟩
 all_goals simp_all [Env.good]
mutual
def Step.siz:Step->Int->Int×Int
 | ⟨_,_,c,t,e⟩,dp=>(1+(if t≠[]/\dp>15 then(1000,1000) else Step.sizL t (dp+1) 0 0).1+(if e≠[]/\dp>15 then(1000,1000) else Step.sizL e (dp+1) 0 0).1,
    (if t≠[]/\dp>15 then(1000,1000) else Step.sizL t (dp+1) 0 0).2+(if e≠[]/\dp>15 then(1000,1000) else Step.sizL e (dp+1) 0 0).2+(if c.isZero then 0 else c.conds 0))
def Step.sizL:List Step->Int->Int->Int->Int×Int
 |[],_,n,m=>(n,m)
 |s::ss,dp,n,m=>if n<=64/\m<=256 then Step.sizL ss dp (n+(s.siz dp).1) (m+(s.siz dp).2) else(n,m)
end
def R3 (l:List Step)(dp:Int):Int×Int:=if l≠[]/\dp>16 then(1000,1000) else Step.sizL l dp 0 0
theorem Step.siz_eq (s:Step)(dp:Int):s.siz dp=(1+(R3 s.th (dp+1)).1+(R3 s.el (dp+1)).1,(R3 s.th (dp+1)).2+(R3 s.el (dp+1)).2+(if s.cond.isZero then 0 else s.cond.conds 0)):=by
 obtain⟨k,b,c,t,e⟩:=s
 simp only[Step.siz,R3]
 have:(dp+1>16)=(dp>15):=by apply propext;omega
 simp only[this]
def sB:Nat->Int
 |0=>10000
 |k+1=>2*sB k+10000
theorem b2Z:∀k,k<18->10000<=sB k/\sB k<=10000000000:=by decide
theorem b3D {l:List Step}{s:Step}(h:s∈l):1+s.sz<=Step.szL l:=by
 have:=Z9 (l:=e9 l) (f:= .ofS s) (List.mem_map_of_mem h)
 rw[Z8] at this
 exact this
theorem a7K (l:List Step)(dp:Int)(k:Nat)(hd:0<=dp)(hk:dp+k=17):Meets Tryz.prog 60 [.sl (l.map Step.cells),iD dp] λd=>∃n m:Int,d= .tup [iD n,iD m]/\(n,m)=R3 l dp/\(0<=n/\n<=sB k)/\0<=m/\m<=sB k:=by
 have hB:=b2Z k (by omega)
 refine enter tok {} Tryz.func60 rfl (by kernel_rfl) Tryz.ntmps60 (by simp) λB0 W0 V0 lent g0=>?_
 refine Kw ?_
 repeat'((first|(intro hlq;try simp only[SL] at hlq)|((refine Kh (λhb=>?_) λhb=>?_)<;>try simp only[BL] at hb)|refine K8 ?_)<;>refine Kw ?_)
 . refine⟨_,_,rfl,?_,by omega,by omega⟩
   have hne:l≠[]:=by rintro rfl;simp at *
   rw[R3,if_pos ⟨hne,by omega⟩]
 all_goals
  have hno:R3 l dp=Step.sizL l dp 0 0:=by
   rw[R3,if_neg]
   rintro⟨h1,h2⟩
   have:=List.length_pos_iff.2 h1
   omega
  refine d4 tok {} [] (X:=Nat×Int×Int) (λx=>[(8,iB x.1),(6,iB x.2.1),(7,iB x.2.2)]) (λ_=>[]) [] (λx=>x.1<=l.length/\Step.sizL (l.drop x.1) dp x.2.1 x.2.2=Step.sizL l dp 0 0/\(0<=x.2.1/\x.2.1<=sB k)/\0<=x.2.2/\x.2.2<=sB k) (λx=>l.length-x.1) (0,0,0) ?_
  refine Kw ?_
  refine And.intro ?_ ⟨⟨by omega,by simp,⟨by dsimp only;omega,by dsimp only;omega⟩,by dsimp only;omega,by dsimp only;omega⟩,λx hΦ=>?_⟩
  . exact Kr
  obtain⟨i,n,m⟩:=x
  obtain⟨hi,heq,hn,hm⟩:=hΦ
  dsimp only at hi heq hn hm
  refine Kw ?_
  repeat'((first|(intro hlq;try simp only[SL] at hlq)|((refine Kh (λhb=>?_) λhb=>?_)<;>try simp only[BL] at hb)|refine Ka ?_|refine Kb ?_|refine Kc (hd:=rfl) (e:=?_)|refine Kc (hd:=Step.cells_eq _) (e:=?_)|refine Kd (e:=?_)|refine Kl rfl ?_|fail)<;>refine Kw ?_)
  all_goals try(exfalso;omega)
  all_goals try(refine⟨n,m,rfl,?_,hn,hm⟩;rw[hno,<-heq];first|(rw[List.drop_eq_nil_of_le (by omega),Step.sizL];done)|(rw[List.drop_eq_getElem_cons (by omega),Step.sizL,if_neg (by omega)];done))
 have h1':i<l.length:=by omega
 obtain⟨k',rfl⟩:∃k',k=k'+1:=⟨k-1,by omega⟩
 have hsB:sB (k'+1)=2*sB k'+10000:=rfl
 have hB':=b2Z k' (by omega)
 have hstep:=Step.siz_eq l[i] dp
 refine(a7K l[i].th (dp+1) k' (by omega) (by omega)).mono λd hd=>?_
 obtain⟨a,b,rfl,hab,ha,hb'⟩:=hd
 refine Kw ?_
 repeat'((first|(intro hlq;try simp only[SL] at hlq)|refine Ka ?_|refine Kb ?_|refine Kc (hd:=rfl) (e:=?_)|refine Kc (hd:=Step.cells_eq _) (e:=?_)|refine Kd (e:=?_)|refine Kl rfl ?_|fail)<;>refine Kw ?_)
 refine(a7K l[i].el (dp+1) k' (by omega) (by omega)).mono λd hd=>?_
 obtain⟨c,e,rfl,hce,hc,he⟩:=hd
 rw[<-hab,<-hce] at hstep
 refine Kw ?_
 repeat'((first|(intro hlq;try simp only[SL] at hlq)|refine Ka ?_|refine Kb ?_|refine Kc (hd:=rfl) (e:=?_)|refine Kc (hd:=Step.cells_eq _) (e:=?_)|refine Kd (e:=?_)|refine Kl rfl ?_|fail)<;>refine Kw ?_)
 refine Meets.k (c5d l[i].cond) ?_
 refine Kw ?_
 refine⟨λhz=>?_,λhz=>?_⟩<;>(try simp only[BL] at hz)<;>refine Kw ?_
 . repeat'((first|(intro hlq;try simp only[SL] at hlq)|refine Ka ?_|refine Kb ?_|refine Kc (hd:=rfl) (e:=?_)|refine Kc (hd:=Step.cells_eq _) (e:=?_)|refine Kd (e:=?_)|refine Kl rfl ?_|fail)<;>refine Kw ?_)
   refine(a5S l[i].cond 0 (by omega)).mono λd hd=>?_
   obtain⟨rfl,hv0,hv1⟩:=hd
   refine Kw ?_
   repeat'((first|(intro hlq;try simp only[SL] at hlq)|refine Ka ?_|refine Kb ?_|refine Kc (hd:=rfl) (e:=?_)|refine Kc (hd:=Step.cells_eq _) (e:=?_)|refine Kd (e:=?_)|refine Kl rfl ?_|fail)<;>refine Kw ?_)
   refine⟨⟨(i+1,n+1+a+c,m+b+e+l[i].cond.conds 0),?_,⟨by dsimp only;omega,?_,⟨by dsimp only;omega,by dsimp only;omega⟩,by dsimp only;omega,by dsimp only;omega⟩,by dsimp only;omega⟩⟩
   . exact Kr
   dsimp only
   rw[<-heq,List.drop_eq_getElem_cons h1',Step.sizL,if_pos (by omega),hstep]
   simp only[hz,if_false,Bool.false_eq_true]
   congr 1<;>omega
 . repeat'((first|(intro hlq;try simp only[SL] at hlq)|refine Ka ?_|refine Kb ?_|refine Kc (hd:=rfl) (e:=?_)|refine Kc (hd:=Step.cells_eq _) (e:=?_)|refine Kd (e:=?_)|refine Kl rfl ?_|fail)<;>refine Kw ?_)
   refine⟨⟨(i+1,n+1+a+c,m+b+e),?_,⟨by dsimp only;omega,?_,⟨by dsimp only;omega,by dsimp only;omega⟩,by dsimp only;omega,by dsimp only;omega⟩,by dsimp only;omega⟩⟩
   . exact Kr
   dsimp only
   rw[<-heq,List.drop_eq_getElem_cons h1',Step.sizL,if_pos (by omega),hstep]
   simp only[hz,if_true]
   congr 1<;>omega
termination_by Step.szL l
decreasing_by
 all_goals
  have h2:=b3D (List.getElem_mem h1')
  have h3:=l[i].sz_eq
  omega
end Go.Proofs.YteillnfhkeebjaaGreatDoor.Dx
/- The reference's steps,Ties; Few,FewCond. -/
namespace Go.Proofs.YteillnfhkeebjaaGreatDoor.Dx
open Go Go.RowKit
set_option maxRecDepth 100000
set_option maxHeartbeats 8000000
def Cond.rok (c:Cond):Bool:=decide (c.total<=256/\c.deep<=16)&&c.valid
def Cond.errno (c:Cond):Int:=if c.total<=256/\c.deep<=16 then(if c.valid then 0 else 71) else 2
theorem a6j (c:Cond):c.errno=0↔c.rok=true:=by
 unfold Cond.errno Cond.rok
 by_cases h:c.total<=256/\c.deep<=16<;>by_cases h2:c.valid=true<;>simp[h,h2]
theorem a7Y (c:Cond)(hok:c.ok):Meets Tryz.prog 15 [c.d] λd=>d=iD c.errno:=b4x c hok
end Go.Proofs.YteillnfhkeebjaaGreatDoor.Dx
/- a8S,in the code and in the reference; Few,FewCond. -/
namespace Go.Proofs.YteillnfhkeebjaaGreatDoor.Dx
open Go Go.RowKit
set_option maxRecDepth 100000
set_option maxHeartbeats 8000000
theorem b4E (c:Cond):Meets Tryz.prog 12 [c.d] λd=>∃b,d=bD b:=by
 refine enter tok {} Tryz.func12 rfl (by kernel_rfl) Tryz.ntmps12 (by simp) λB0 W0 V0 lent g0=>?_
 refine Kw ?_
 refine(a5S c 0 (by omega)).mono λd hd=>?_
 obtain⟨rfl,hv0,hv1⟩:=hd
 refine Kw ?_
 exact⟨_,rfl⟩
theorem b4F (l:List Step):Meets Tryz.prog 13 [.sl (l.map Step.cells)] λd=>∃b,d=bD b:=by
 refine enter tok {} Tryz.func13 rfl (by kernel_rfl) Tryz.ntmps13 (by simp) λB0 W0 V0 lent g0=>?_
 refine Kw ?_
 refine(a7K l 0 17 (by omega) (by omega)).mono λd hd=>?_
 obtain⟨n,m,rfl,hnm,hn,hm⟩:=hd
 refine Kw ?_
 repeat'((first|(intro hlq;try simp only[SL] at hlq)|((refine Kh (λhb=>?_) λhb=>?_)<;>try simp only[BL] at hb)|refine K8 ?_)<;>refine Kw ?_)
 all_goals exact⟨_,rfl⟩
def Env.value (x:Env)(v:Int):Int:=if v=1 then x.distance else if v=2 then x.field else x.short
theorem c4k (v:Int)(x:Env):Meets Tryz.prog 153 [iD v,x.d] λd=>d=iD (x.value v):=by
 refine enter tok {} Tryz.func153 rfl (by kernel_rfl) Tryz.ntmps153 (by simp) λB0 W0 V0 lent g0=>?_
 refine Kw ?_
 repeat'((first|(intro hlq;try simp only[SL] at hlq)|((refine Kh (λhb=>?_) λhb=>?_)<;>try simp only[BL] at hb)|refine K8 ?_)<;>refine Kw ?_)
 all_goals refine⟨congrArg iD ?_⟩
 all_goals simp_all [Env.value]
mutual
def Cond.holds (x:Env):Cond->Bool
 |⟨k,v,n,ps⟩=>if k=1 then decide (x.value v≥n) else if k=4 then(match ps with|[]=>false|p::_=> !Cond.holds x p) else if k=3 then Cond.anyL x ps else Cond.allL x ps
def Cond.anyL (x:Env):List Cond->Bool
 |[]=>false
 |c::cs=>Cond.holds x c||Cond.anyL x cs
def Cond.allL (x:Env):List Cond->Bool
 |[]=>true
 |c::cs=>Cond.holds x c&&Cond.allL x cs
end
theorem b5D (x:Env):∀l:List Cond,Cond.anyL x l=l.any (Cond.holds x):=by
 intro l;induction l with|nil=>rfl|cons c l ih=>simp[Cond.anyL,ih]
theorem b5s (x:Env):∀l:List Cond,Cond.allL x l=l.all (Cond.holds x):=by
 intro l;induction l with|nil=>rfl|cons c l ih=>simp[Cond.allL,ih]
theorem a3P (x:Env)(c:Cond):c.holds x=if c.kind=1 then decide (x.value c.var≥c.n) else if c.kind=4 then(match c.parts with|[]=>false|p::_=> !Cond.holds x p) else if c.kind=3 then c.parts.any (Cond.holds x) else c.parts.all (Cond.holds x):=by
 obtain⟨k,v,n,ps⟩:=c;cases ps<;>simp only[Cond.holds,b5D,b5s]
theorem a2V {c:Cond}(h:c.valid=true):c.kind=1\/(c.kind=4/\∃p,c.parts=[p]/\p.valid=true)\/((c.kind=2\/c.kind=3)/\∀p∈c.parts,p.valid=true):=by
 rw[Cond.valid_eq] at h
 split at h
 . exact .inl (by assumption)
 . split at h
   . simp only[Bool.and_eq_true,decide_eq_true_eq] at h
     have hl:c.parts.length=1:=by omega
     obtain⟨p,hp⟩:=List.length_eq_one_iff.1 hl
     refine .inr (.inl ⟨by assumption,p,hp,?_⟩)
     have:=h.2.2
     rw[hp] at this
     simpa using this
   . split at h
     . simp only[Bool.and_eq_true,decide_eq_true_eq] at h
       exact .inr (.inr ⟨by assumption,List.all_eq_true.1 h.2.2⟩)
     . cases h
theorem a6w (c:Cond)(x:Env)(hv:c.valid=true):Meets Tryz.prog 68 [c.d,x.d] λd=>d=bD (c.holds x):=by
 have hask:∀p,(p∈c.parts\/c.parts=[p])->p.valid=true->Meets Tryz.prog 152 ([]++([p.d]++[.ptr [iD x.distance,iD x.field,iD x.short] 0])) λr=>r=bD (p.holds x):=by
  intro p hp hpv
  refine enter tok {} Tryz.func152 rfl (by kernel_rfl) Tryz.ntmps152 (by simp) λB0 W0 V0 lent g0=>?_
  refine Kw ?_
  have hp':p∈c.parts:=by
   rcases hp with h|h
   . exact h
   . rw[h];simp
  refine Meets.k (a6w p x hpv) ?_
  refine Kw ?_
  exact⟨rfl⟩
 have hh:=a3P x c
 refine enter tok {} Tryz.func68 rfl (by kernel_rfl) Tryz.ntmps68 (by simp) λB0 W0 V0 lent g0=>?_
 refine Kw ?_
 refine⟨λh1=>?_,λh1=>?_⟩<;>(try simp only[BL] at h1)<;>refine Kw ?_
 . refine k9 tok (cf:={}) (by kernel_rfl) [.p 0, .p 1, .p 2, .p 4, .p 5, .s 3 [1,2,0], .p 6, .p 7] (by kernel_rfl) ?_
   refine Kw ?_
   refine Meets.k (c4k c.var x) ?_
   refine Kw ?_
   repeat'((first|(intro hlq;try simp only[SL] at hlq)|refine K8 ?_)<;>refine Kw ?_)
   refine⟨congrArg bD ?_⟩
   rw[hh,if_pos h1]
 refine⟨λh2=>?_,λh2=>?_⟩<;>(try simp only[BL] at h2)<;>refine Kw ?_
 . obtain⟨p,hp,hpv⟩:∃p,c.parts=[p]/\p.valid=true:=by
    rcases a2V hv with h|⟨_,h⟩|⟨h,_⟩
    . exact absurd h h1
    . exact h
    . omega
   refine k9 tok (cf:={}) (by kernel_rfl) [.p 0, .p 1, .p 2, .p 3, .p 4, .s 5 [0,4,3,2,1], .p 6, .p 7] (by kernel_rfl) ?_
   refine Kw ?_
   refine⟨p.dc,⟨by omega,by rw[hp];exact congrArg some (Cond.cells_eq p),rfl⟩,?_⟩
   refine Kw ?_
   repeat'((first|(intro hlq;try simp only[SL] at hlq)|refine K8 ?_)<;>refine Kw ?_)
   refine Meets.k (hask p (.inr hp) hpv) ?_
   refine Kw ?_
   repeat'((first|(intro hlq;try simp only[SL] at hlq)|refine K8 ?_)<;>refine Kw ?_)
   refine⟨congrArg bD ?_⟩
   rw[hh,if_neg h1,if_pos h2,hp]
 have hall:∀p∈c.parts,p.valid=true:=by
  rcases a2V hv with h|⟨h,_⟩|⟨_,h⟩
  . exact absurd h h1
  . exact absurd h h2
  . exact h
 refine⟨λh3=>?_,λh3=>?_⟩<;>(try simp only[BL] at h3)<;>refine Kw ?_
 . refine Meets.k (a9V c.parts 152 [] [.ptr [iD x.distance,iD x.field,iD x.short] 0] (Cond.holds x) λp hp=>hask p (.inl hp) (hall p hp)) ?_
   refine Kw ?_
   refine⟨congrArg bD ?_⟩
   rw[hh,if_neg h1,if_neg h2,if_pos h3]
 . refine Meets.k (a9V c.parts 155 [] [.ptr [.fn 152 [] [.ptr [iD x.distance,iD x.field,iD x.short] 0]] 0] (λp=> !Cond.holds x p) λp hp=>?_) ?_
   . refine enter tok {} Tryz.func155 rfl (by kernel_rfl) Tryz.ntmps155 (by simp) λB0 W0 V0 lent g0=>?_
     refine Kw ?_
     refine Meets.k (hask p (.inl hp) (hall p hp)) ?_
     refine Kw ?_
     exact⟨rfl⟩
   refine Kw ?_
   refine⟨congrArg bD ?_⟩
   rw[hh,if_neg h1,if_neg h2,if_neg h3,<-List.not_all_eq_any_not,Bool.not_not]
termination_by SizeOf.sizeOf c
decreasing_by all_goals exact Cond.size_part hp'
def M2 (c:Cond)(x:Env):Bool×Int:=if c.errno=0 then(if x.good then(c.holds x,0) else(false,1)) else(false,c.errno)
theorem a7w {c:Cond}(h:c.errno=0):c.valid=true:=by
 have:=(a6j c).1 h
 simp only[Cond.rok,Bool.and_eq_true] at this
 exact this.2
theorem a8T (c:Cond)(x:Env)(hok:c.ok):Meets Tryz.prog 17 [c.d,x.d] λd=>d= .tup [bD (M2 c x).1,iD (M2 c x).2]:=by
 refine enter tok {} Tryz.func17 rfl (by kernel_rfl) Tryz.ntmps17 (by simp) λB0 W0 V0 lent g0=>?_
 refine Kw ?_
 refine Meets.k (a7Y c hok) ?_
 refine Kw ?_
 refine⟨λh1=>?_,λh1=>?_⟩<;>(try simp only[BL] at h1)<;>refine Kw ?_
 . refine⟨?_⟩
   rw[M2,if_neg h1]
 refine Meets.k (a8Q x) ?_
 refine Kw ?_
 refine⟨λh2=>?_,λh2=>?_⟩<;>(try simp only[BL] at h2)<;>refine Kw ?_
 . refine⟨?_⟩
   have hg:x.good=false:=by cases hg:x.good<;>simp_all
   rw[M2,if_pos (by omega),hg]
   rfl
 refine Meets.k (a6w c x (a7w (by omega))) ?_
 refine Kw ?_
 refine⟨?_⟩
 have hg:x.good=true:=by cases hg:x.good<;>simp_all
 rw[M2,if_pos (by omega),if_pos hg]
end Go.Proofs.YteillnfhkeebjaaGreatDoor.Dx
