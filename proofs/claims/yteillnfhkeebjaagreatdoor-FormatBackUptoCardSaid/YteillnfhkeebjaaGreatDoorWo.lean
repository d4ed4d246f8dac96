/- Env. -/
import Derived.Test.YteillnfhkeebjaaGreatDoorWn
set_option linter.all false
namespace Go.Proofs.YteillnfhkeebjaaGreatDoor.Dx
open Go Go.RowKit
set_option maxRecDepth 100000
set_option maxHeartbeats 8000000
def Env.good (x:Env):Bool:=inR 0 7 x.distance&&(inR 0 4000 x.field&&inR 0 1 x.short)
mutual
def Step.siz:Step->Int->Int×Int
 | ⟨_,_,c,t,e⟩,dp=>(1+(if t≠[]/\dp>15 then(1000,1000) else Step.sizL t (dp+1) 0 0).1+(if e≠[]/\dp>15 then(1000,1000) else Step.sizL e (dp+1) 0 0).1,
    (if t≠[]/\dp>15 then(1000,1000) else Step.sizL t (dp+1) 0 0).2+(if e≠[]/\dp>15 then(1000,1000) else Step.sizL e (dp+1) 0 0).2+(if c.isZero then 0 else c.conds 0))
def Step.sizL:List Step->Int->Int->Int->Int×Int
 |[],_,n,m=>(n,m)
 |s::ss,dp,n,m=>if n<=64/\m<=256 then Step.sizL ss dp (n+(s.siz dp).1) (m+(s.siz dp).2) else(n,m)
end
def a2V (l:List Step)(dp:Int):Int×Int:=if l≠[]/\dp>16 then(1000,1000) else Step.sizL l dp 0 0
theorem c2H (s:Step)(dp:Int):s.siz dp=(1+(a2V s.th (dp+1)).1+(a2V s.el (dp+1)).1,(a2V s.th (dp+1)).2+(a2V s.el (dp+1)).2+(if s.cond.isZero then 0 else s.cond.conds 0)):=by
 obtain⟨k,b,c,t,e⟩:=s;simp only[Step.siz,a2V];have:(dp+1>16)=(dp>15):=by apply propext;omega
 simp only[this]
def sB:Nat->Int
 |0=>10000
 |k+1=>2*sB k+10000
theorem b9Y:∀k,k<18->10000<=sB k/\sB k<=10000000000:=by decide
theorem d2Q {l:List Step}{s:Step}(h:s∈l):1+s.sz<=Step.szL l:=by
 have:=a5i (l:=q9 l) (f:= .ofS s) (List.mem_map_of_mem h);rw[a5g] at this;exact this
theorem b3Y (l:List Step)(dp:Int)(k:Nat)(hd:0<=dp)(hk:dp+k=17):Mt 60 [.sl (l.map Step.cells),iD dp] λd=>∃n m:Int,d= .tup [iD n,iD m]/\(n,m)=a2V l dp/\(0<=n/\n<=sB k)/\0<=m/\m<=sB k:=by
 have hB:=b9Y k (by omega);refine En {} Tryz.func60 Tryz.ntmps60 λ_ _ _ _ _=>?_;refine Kw ?_;repeat'((first|(intro hlq;try simp only[SL] at hlq)|((refine Kh (λhb=>?_) λhb=>?_)<;>try simp only[BL] at hb)|refine K8 ?_)<;>refine Kw ?_)
 . refine⟨_,_,rfl,?_,by omega,by omega⟩;have hne:l≠[]:=by rintro rfl;simp at *
   rw[a2V,d4 ⟨hne,by omega⟩]
 all_goals
  have hno:a2V l dp=Step.sizL l dp 0 0:=by
   rw[a2V,c8];rintro⟨h1,h2⟩;have:=a7g.2 h1;omega
  refine o4 tok {} [] (X:=Nat×Int×Int) (λx=>[(8,iB x.1),(6,iB x.2.1),(7,iB x.2.2)]) (λ_=>[]) [] (λx=>x.1<=l.length/\Step.sizL (l.drop x.1) dp x.2.1 x.2.2=Step.sizL l dp 0 0/\(0<=x.2.1/\x.2.1<=sB k)/\0<=x.2.2/\x.2.2<=sB k) (λx=>l.length-x.1) (0,0,0) ?_;refine Kw ?_;refine d8 ?_ ⟨⟨by omega,by simp,⟨by dsimp only;omega,by dsimp only;omega⟩,by dsimp only;omega,by dsimp only;omega⟩,λx hΦ=>?_⟩
  . exact Kr
  obtain⟨i,n,m⟩:=x;obtain⟨hi,heq,hn,hm⟩:=hΦ;dsimp only at hi heq hn hm;refine Kw ?_;repeat'((first|(intro hlq;try simp only[SL] at hlq)|((refine Kh (λhb=>?_) λhb=>?_)<;>try simp only[BL] at hb)|refine Ka ?_|refine Kb ?_|refine Kc (hd:=rfl) (e:=?_)|refine Kc (hd:=Step.cells_eq _) (e:=?_)|refine Kd (e:=?_)|refine Kl rfl ?_|fail)<;>refine Kw ?_)
  all_goals try(exfalso;omega)
  all_goals try(refine⟨n,m,rfl,?_,hn,hm⟩;rw[hno,<-heq];first|(rw[a0U (by omega),Step.sizL];done)|(rw[F2 (by omega),Step.sizL,c8 (by omega)];done))
 have h1':i<l.length:=by omega
 obtain⟨k',rfl⟩:∃k',k=k'+1:=⟨k-1,by omega⟩
 have hsB:sB (k'+1)=2*sB k'+10000:=rfl;have hB':=b9Y k' (by omega);have hstep:=c2H l[i] dp;refine(b3Y l[i].th (dp+1) k' (by omega) (by omega)).mono λd hd=>?_;obtain⟨a,b,rfl,hab,ha,hb'⟩:=hd;refine Kw ?_;repeat'((first|(intro hlq;try simp only[SL] at hlq)|refine Ka ?_|refine Kb ?_|refine Kc (hd:=rfl) (e:=?_)|refine Kc (hd:=Step.cells_eq _) (e:=?_)|refine Kd (e:=?_)|refine Kl rfl ?_|fail)<;>refine Kw ?_)
 refine(b3Y l[i].el (dp+1) k' (by omega) (by omega)).mono λd hd=>?_;obtain⟨c,e,rfl,hce,hc,he⟩:=hd;rw[<-hab,<-hce] at hstep;refine Kw ?_;repeat'((first|(intro hlq;try simp only[SL] at hlq)|refine Ka ?_|refine Kb ?_|refine Kc (hd:=rfl) (e:=?_)|refine Kc (hd:=Step.cells_eq _) (e:=?_)|refine Kd (e:=?_)|refine Kl rfl ?_|fail)<;>refine Kw ?_)
 refine Meets.k (d5B l[i].cond) ?_;refine Kw ?_;refine⟨λhz=>?_,λhz=>?_⟩<;>(try simp only[BL] at hz)<;>refine Kw ?_
 . repeat'((first|(intro hlq;try simp only[SL] at hlq)|refine Ka ?_|refine Kb ?_|refine Kc (hd:=rfl) (e:=?_)|refine Kc (hd:=Step.cells_eq _) (e:=?_)|refine Kd (e:=?_)|refine Kl rfl ?_|fail)<;>refine Kw ?_)
   refine(b6C l[i].cond 0 (by omega)).mono λd hd=>?_;obtain⟨rfl,hv0,hv1⟩:=hd;refine Kw ?_;repeat'((first|(intro hlq;try simp only[SL] at hlq)|refine Ka ?_|refine Kb ?_|refine Kc (hd:=rfl) (e:=?_)|refine Kc (hd:=Step.cells_eq _) (e:=?_)|refine Kd (e:=?_)|refine Kl rfl ?_|fail)<;>refine Kw ?_)
   refine⟨⟨(i+1,n+1+a+c,m+b+e+l[i].cond.conds 0),?_,⟨by dsimp only;omega,?_,⟨by dsimp only;omega,by dsimp only;omega⟩,by dsimp only;omega,by dsimp only;omega⟩,by dsimp only;omega⟩⟩
   . exact Kr
   dsimp only;rw[<-heq,F2 h1',Step.sizL,d4 (by omega),hstep];simp only[hz,if_false,Y8];congr 1<;>omega
 . repeat'((first|(intro hlq;try simp only[SL] at hlq)|refine Ka ?_|refine Kb ?_|refine Kc (hd:=rfl) (e:=?_)|refine Kc (hd:=Step.cells_eq _) (e:=?_)|refine Kd (e:=?_)|refine Kl rfl ?_|fail)<;>refine Kw ?_)
   refine⟨⟨(i+1,n+1+a+c,m+b+e),?_,⟨by dsimp only;omega,?_,⟨by dsimp only;omega,by dsimp only;omega⟩,by dsimp only;omega,by dsimp only;omega⟩,by dsimp only;omega⟩⟩
   . exact Kr
   dsimp only;rw[<-heq,F2 h1',Step.sizL,d4 (by omega),hstep];simp only[hz,if_true];congr 1<;>omega
termination_by Step.szL l
decreasing_by
 all_goals
  have h2:=d2Q (q7 h1');have h3:=l[i].sz_eq;omega
def Cond.errno (c:Cond):Int:=if c.total<=256/\c.deep<=16 then(if c.valid then 0 else 71) else 2
theorem d2T (c:Cond)(hok:c.ok):Mt 15 [c.d] λd=>d=iD c.errno:=c1D c hok
theorem c1Y (l:List Step):Mt 13 [.sl (l.map Step.cells)] λd=>∃b,d=bD b:=by
 refine En {} Tryz.func13 Tryz.ntmps13 λ_ _ _ _ _=>?_;refine Kw ?_;refine(b3Y l 0 17 (by omega) (by omega)).mono λd hd=>?_;obtain⟨n,m,rfl,hnm,hn,hm⟩:=hd;refine Kw ?_;repeat'((first|(intro hlq;try simp only[SL] at hlq)|((refine Kh (λhb=>?_) λhb=>?_)<;>try simp only[BL] at hb)|refine K8 ?_)<;>refine Kw ?_)
 all_goals exact⟨_,rfl⟩
def Env.value (x:Env)(v:Int):Int:=if v=1 then x.distance else if v=2 then x.field else x.short
mutual
def Cond.holds (x:Env):Cond->Bool
 |⟨k,v,n,ps⟩=>if k=1 then decide (x.value v≥n) else if k=4 then(match ps with|[]=>false|p::_=> !Cond.holds x p) else if k=3 then Cond.anyL x ps else Cond.allL x ps
def Cond.anyL (x:Env):List Cond->Bool
 |[]=>false
 |c::cs=>Cond.holds x c||Cond.anyL x cs
def Cond.allL (x:Env):List Cond->Bool
 |[]=>true
 |c::cs=>Cond.holds x c&&Cond.allL x cs
end
theorem c3t (x:Env):∀l:List Cond,Cond.anyL x l=l.any (Cond.holds x):=by
 intro l;induction l with|nil=>rfl|cons c l ih=>simp[Cond.anyL,ih]
theorem c3j (x:Env):∀l:List Cond,Cond.allL x l=l.all (Cond.holds x):=by
 intro l;induction l with|nil=>rfl|cons c l ih=>simp[Cond.allL,ih]
theorem b2I (x:Env)(c:Cond):c.holds x=if c.kind=1 then decide (x.value c.var≥c.n) else if c.kind=4 then(match c.parts with|[]=>false|p::_=> !Cond.holds x p) else if c.kind=3 then c.parts.any (Cond.holds x) else c.parts.all (Cond.holds x):=by
 obtain⟨k,v,n,ps⟩:=c;cases ps<;>simp only[Cond.holds,c3t,c3j]
theorem b4E {c:Cond}(h:c.valid=true):c.kind=1\/(c.kind=4/\∃p,c.parts=[p]/\p.valid=true)\/((c.kind=2\/c.kind=3)/\∀p∈c.parts,p.valid=true):=by
 rw[Cond.valid_eq] at h;split at h
 . exact .inl (by assumption)
 . split at h
   . simp only[f0,j0] at h;have hl:c.parts.length=1:=by omega
     obtain⟨p,hp⟩:=a5D.1 hl;refine .inr (.inl ⟨by assumption,p,hp,?_⟩);have:=h.2.2;rw[hp] at this;simpa using this
   . split at h
     . simp only[f0,j0] at h;exact .inr (.inr ⟨by assumption,n7.1 h.2.2⟩)
     . cases h
end Go.Proofs.YteillnfhkeebjaaGreatDoor.Dx
