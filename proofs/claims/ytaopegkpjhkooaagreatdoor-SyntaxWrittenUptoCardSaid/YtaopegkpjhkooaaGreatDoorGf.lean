/- Chapter 06: conditions and steps that are arguments: typed cells are one of them,and not too long. -/
import Derived.Test.YtaopegkpjhkooaaGreatDoorFm
import Derived.Test.YtaopegkpjhkooaaGreatDoorFk
import Derived.Test.YtaopegkpjhkooaaGreatDoorGe
import Derived.Test.YtaopegkpjhkooaaGreatDoorG8
import Derived.Test.YtaopegkpjhkooaaGreatDoorFn
set_option linter.all false
namespace Go.Proofs.YtaopegkpjhkooaaGreatDoor.Dx
open Go Go.RowKit
set_option maxRecDepth 100000
mutual
def Cond.ok:Cond->Prop
 |⟨_,_,_,ps⟩=>ps.length<=1048576/\Cond.okL ps
def Cond.okL:List Cond->Prop
 |[]=>True
 |c::cs=>c.ok/\Cond.okL cs
end
theorem Cond.okL_iff:∀{cs:List Cond},Cond.okL cs↔∀c∈cs,c.ok:=by
 intro cs
 induction cs with
 |nil=>simp[Cond.okL]
 |cons c cs ih=>simp[Cond.okL,ih]
theorem Cond.ok_iff {c:Cond}:c.ok↔c.parts.length<=1048576/\∀x∈c.parts,x.ok:=by obtain⟨k,v,n,ps⟩:=c;simp only[Cond.ok,Cond.okL_iff]
mutual
def Step.ok:Step->Prop
 |⟨_,_,c,t,e⟩=>c.ok/\(t.length<=1048576/\Step.okL t)/\e.length<=1048576/\Step.okL e
def Step.okL:List Step->Prop
 |[]=>True
 |c::cs=>c.ok/\Step.okL cs
end
theorem Step.okL_iff:∀{cs:List Step},Step.okL cs↔∀c∈cs,c.ok:=by
 intro cs
 induction cs with
 |nil=>simp[Step.okL]
 |cons c cs ih=>simp[Step.okL,ih]
theorem Step.ok_iff {s:Step}:s.ok↔s.cond.ok/\(s.th.length<=1048576/\∀x∈s.th,x.ok)/\s.el.length<=1048576/\∀x∈s.el,x.ok:=by obtain⟨k,b,c,t,e⟩:=s;simp only[Step.ok,Step.okL_iff]
theorem sh3:shp T 3=some (.i .i64):=rfl
theorem c1t:shp T 24=some (.sl 26):=rfl
theorem c1v:shp T 26=some (.st [3,3,3,24]):=rfl
theorem c1w:shp T 73=some (.st [3,3,26,38,38]):=rfl
theorem a8k:shp T 38=some (.sl 73):=rfl
theorem w8 {n:Nat}{ds:List D}{m:Nat}(h:TyD T n 3 ds m):∃i,ds=[iD i]:=h.int_ sh3
def OkB {α:Type}(p:α->Prop)(x:α)(m:Nat):Prop:=m<=1048576->p x
def NoQ {α:Type}(_:α)(_:Nat):Prop:=True
theorem ListOf.ok {α:Type}{p:α->Prop}{l:List α}{m:Nat}(h:ListOf (OkB p) l m)(hm:m<=1048576):l.length<=1048576/\∀x∈l,p x:=
 ⟨by have:=h.len;omega,λx hx=>by obtain⟨m',h1,h2⟩:=h.all x hx;exact h2 (by omega)⟩
theorem c0w:∀(n:Nat) (ds:List D) (m:Nat),TyD T n 26 ds m->∃c:Cond,ds=c.cells/\OkB Cond.ok c m:=by
 intro n
 induction n using Nat.strongRecOn with
 | ind n IH=>
   intro ds m h
   obtain⟨k,rfl,xs,ms,rfl,h,hs⟩:=h.st_ c1v
   obtain⟨x1,xs,m1,ms,rfl,rfl,h1,h⟩:=o3 h
   obtain⟨x2,xs,m2,ms,rfl,rfl,h2,h⟩:=o3 h
   obtain⟨x3,xs,m3,ms,rfl,rfl,h3,h⟩:=o3 h
   obtain⟨x4,xs,m4,ms,rfl,rfl,h4,h⟩:=o3 h
   obtain⟨rfl,rfl⟩:=N8 h
   obtain⟨i1,rfl⟩:=w8 h1
   obtain⟨i2,rfl⟩:=w8 h2
   obtain⟨i3,rfl⟩:=w8 h3
   obtain⟨l,rfl,hl⟩:=h4.sl_ c1t Cond.cells (OkB Cond.ok) (λn' ds m hn h=>IH n' (by omega) ds m h)
   simp only[List.sum_cons,List.sum_nil] at hs
   refine⟨⟨i1,i2,i3,l⟩,by simp[Cond.cells_eq],λhm=>?_⟩
   obtain⟨k1,k2⟩:=hl.ok (by omega)
   exact⟨k1,Cond.okL_iff.2 k2⟩
theorem c0x:∀(n:Nat) (ds:List D) (m:Nat),TyD T n 73 ds m->∃c:Step,ds=c.cells/\OkB Step.ok c m:=by
 intro n
 induction n using Nat.strongRecOn with
 | ind n IH=>
   intro ds m h
   obtain⟨k,rfl,xs,ms,rfl,h,hs⟩:=h.st_ c1w
   obtain⟨x1,xs,m1,ms,rfl,rfl,h1,h⟩:=o3 h
   obtain⟨x2,xs,m2,ms,rfl,rfl,h2,h⟩:=o3 h
   obtain⟨x3,xs,m3,ms,rfl,rfl,h3,h⟩:=o3 h
   obtain⟨x4,xs,m4,ms,rfl,rfl,h4,h⟩:=o3 h
   obtain⟨x5,xs,m5,ms,rfl,rfl,h5,h⟩:=o3 h
   obtain⟨rfl,rfl⟩:=N8 h
   obtain⟨i1,rfl⟩:=w8 h1
   obtain⟨i2,rfl⟩:=w8 h2
   obtain⟨c,rfl,hc⟩:=c0w _ _ _ h3
   obtain⟨l,rfl,hl⟩:=h4.sl_ a8k Step.cells (OkB Step.ok) (λn' ds m hn h=>IH n' (by omega) ds m h)
   obtain⟨l',rfl,hl'⟩:=h5.sl_ a8k Step.cells (OkB Step.ok) (λn' ds m hn h=>IH n' (by omega) ds m h)
   simp only[List.sum_cons,List.sum_nil] at hs
   refine⟨⟨i1,i2,c,l,l'⟩,by simp[Step.cells_eq,Cond.cells_eq],λhm=>?_⟩
   obtain⟨k1,k2⟩:=hl.ok (by omega)
   obtain⟨k3,k4⟩:=hl'.ok (by omega)
   exact⟨hc (by omega),⟨k1,Step.okL_iff.2 k2⟩,k3,Step.okL_iff.2 k4⟩
end Go.Proofs.YtaopegkpjhkooaaGreatDoor.Dx
/- Chapter 06: the law's writer of conditions. -/
namespace Go.Proofs.YtaopegkpjhkooaaGreatDoor.Dx
open Go Go.RowKit Go.Proofs
set_option maxRecDepth 100000
set_option maxHeartbeats 16000000
theorem b3J (v:Int):(O0 v).length<=8:=by unfold O0;split<;>decide
theorem a7A (w:List UInt8)(B:Nat):∀l:List (List UInt8),(∀x∈l,x.length<=B)->(G4 w l).length<=l.length*(B+w.length)
 |[],_=>by simp[G4]
 | x ::xs,h=>by
   have hx:=h x (by simp)
   have key:∀ys:List (List UInt8),(∀y∈ys,y.length<=B)->((ys.map (w++ ·)).flatten).length<=ys.length*(B+w.length):=by
    intro ys
    induction ys with
    |nil=>intro _;simp
    | cons y ys ih=>
      intro h
      have h1:=h y (by simp)
      have h2:=ih λz hz=>h z (List.mem_cons_of_mem _ hz)
      simp only[List.map_cons,List.flatten_cons,List.length_append,List.length_cons,Nat.succ_mul]
      omega
   have:=key xs λy hy=>h y (List.mem_cons_of_mem _ hy)
   simp only[G4,List.length_append,List.length_cons,Nat.succ_mul]
   omega
theorem a9X:∀(k:Nat) (c:Cond),(cTx k c).1.length<=40*16^k-8
 |0,c=>by simp[cTx]
 | k + 1, c=>by
   have ih:=a9X k
   have hp:1<=16^k:=Nat.one_le_pow _ _ (by decide)
   have e:40*16^(k+1)=16*(40*16^k):=by rw[Nat.pow_succ];omega
   rw[e]
   unfold cTx
   split
   . split
     . rename_i h
       have h1:=a7y h.2.1.1 h.2.1.2
       have h2:=b3J c.var
       simp only[List.length_append,List.length_cons,List.length_nil]
       omega
     . simp
   . split
     . split
       . rename_i p _
         split
         . have:=ih p
           simp only[List.length_append,List.length_cons,List.length_nil]
           omega
         . simp
       . simp
     . split
       . rename_i h
         have hB:=a7A (if c.kind=3 then orW else I4) (40*16^k-6) (c.parts.map λp=>par (cTx k p).1) (by
          intro x hx
          obtain⟨p,_,rfl⟩:=List.mem_map.1 hx
          have:=ih p
          simp only[List.length_append,List.length_cons,List.length_nil]
          omega)
         rw[List.length_map] at hB
         have hw:(if c.kind=3 then orW else I4).length<=5:=by split<;>decide
         refine Nat.le_trans hB ?_
         have h16:=h.2.1.2
         have:=Nat.mul_le_mul h16 (show 40*16^k-6+(if c.kind=3 then orW else I4).length<=40*16^k-1 by omega)
         omega
       . simp
theorem b9X {k:Nat}(hk:k<=8):40*16^k<=171798691840:=by
 have:16^k<=16^8:=Nat.pow_le_pow_right (by decide) hk
 omega
theorem a6M {k:Nat}(hk:k<=8)(c:Cond):(cTx k c).1.length<=171798691840:=by
 have:=a9X k c
 have:=b9X hk
 omega
theorem b5X (k:Nat)(c:Cond)(dd:Int)(hd:dd+1=8-(k:Int))(hk1:c.kind=1)(res:List UInt8×Bool)
 (hres:res=if(1<=c.var/\c.var<=3)/\(0<=c.n/\c.n<=1125899906842624)/\c.parts=[] then(O0 c.var++([32,62,61,32]++Lib.itoa c.n),true) else([],false)):Meets Tryz.prog 29 [c.d,iD dd] λr=>r= .tup [.str res.1,bD res.2]:=by
 by_cases hv:(1<=c.var/\c.var<=3)/\(0<=c.n/\c.n<=1125899906842624)/\c.parts=[]
 . rw [if_pos hv] at hres
   have hp0:c.parts.length=0:=by rw[hv.2.2];rfl
   have hi:=a7y hv.2.1.1 hv.2.1.2
   have hw:=b3J c.var
   refine enter tok {} Tryz.func29 rfl (by kernel_rfl) Tryz.ntmps29 (by simp) λB0 W0 V0 lent g0=>?_
   refine Kw ?_
   repeat'((first|(intro hlq;try simp only[SL] at hlq)|refine Meets.k (I2 c.n) ?_|refine K9 ?_|((refine Kh (λhb=>?_) λhb=>?_)<;>try simp only[BL] at hb)|refine K8 ?_|refine Kc (hd:=Cond.cells_eq _) (e:=?_))<;>refine Kw ?_)
   all_goals try(exfalso;omega)
   refine j9 tok (cf:={}) (by kernel_rfl) [.p 0, .p 1, .p 2, .p 3, .p 4, .p 5, .p 6, .p 7, .s 8 [7,6], .p 9, .p 10, .p 11] (by kernel_rfl) ?_
   refine Kw ?_
   repeat'((first|(intro hlq;try simp only[SL] at hlq)|refine K9 ?_|((refine Kh (λhb=>?_) λhb=>?_)<;>try simp only[BL] at hb)|refine K8 ?_|refine Kc (hd:=Cond.cells_eq _) (e:=?_))<;>refine Kw ?_)
   refine⟨[.str (O0 c.var)],⟨by omega,?_,rfl⟩,?_⟩
   . have hv3:c.var=1\/c.var=2\/c.var=3:=by omega
     obtain e|e|e:=hv3<;>rw[e]<;>rfl
   refine Kw ?_
   repeat'((first|(intro hlq;try simp only[SL] at hlq)|refine Meets.k (I2 c.n) ?_|refine K9 ?_|((refine Kh (λhb=>?_) λhb=>?_)<;>try simp only[BL] at hb)|refine K8 ?_|refine Kc (hd:=Cond.cells_eq _) (e:=?_))<;>refine Kw ?_)
   refine⟨?_⟩
   rw[hres,List.append_assoc]
 . rw[if_neg hv] at hres
   rw[show(c.parts=[])=(c.parts.length=0) from propext List.length_eq_zero_iff.symm] at hv
   refine enter tok {} Tryz.func29 rfl (by kernel_rfl) Tryz.ntmps29 (by simp) λB0 W0 V0 lent g0=>?_
   refine Kw ?_
   repeat'((first|(intro hlq;try simp only[SL] at hlq)|refine K9 ?_|((refine Kh (λhb=>?_) λhb=>?_)<;>try simp only[BL] at hb)|refine K8 ?_|refine Kc (hd:=Cond.cells_eq _) (e:=?_))<;>refine Kw ?_)
   all_goals first
    |(exfalso;omega)
    |(refine Done.mk ?_;rw[hres];done)
    |trace_state
theorem b5Y (k:Nat)(c:Cond)(dd:Int)(hd:dd+1=8-(k:Int))(ih:∀c:Cond,Meets Tryz.prog 29 [c.d,iD (dd+1)] λr=>r= .tup [.str (cTx k c).1,bD (cTx k c).2])(hle:∀p:Cond,(cTx k p).1.length<=171798691840)(hk4:c.kind=4)(res:List UInt8×Bool)
 (hres:res=match c.parts with|[p]=>if c.var=0/\c.n=0 then([110,111,116,32,40]++(cTx k p).1++[41],(cTx k p).2) else([],false)|_=>([],false)):Meets Tryz.prog 29 [c.d,iD dd] λr=>r= .tup [.str res.1,bD res.2]:=by
 obtain⟨kd,v,n,ps⟩:=c
 dsimp only at hk4 hres
 match ps,hres with
 | [p],hres=>
   dsimp only at hres
   have hp:=ih p
   have hpl:=hle p
   by_cases hv:v=0/\n=0
   . rw[if_pos hv] at hres
     refine enter tok {} Tryz.func29 rfl (by kernel_rfl) Tryz.ntmps29 (by simp) λB0 W0 V0 lent g0=>?_
     refine Kw ?_
     repeat'((first|(intro hlq;try simp only[SL] at hlq)|refine Meets.k (hp) ?_|refine K9 ?_|((refine Kh (λhb=>?_) λhb=>?_)<;>try simp only[BL] at hb)|refine K8 ?_|refine Kc (hd:=Cond.cells_eq _) (e:=?_))<;>refine Kw ?_)
     all_goals first
      |(exfalso;omega)
      |(exfalso;simp only[List.length_cons,List.length_nil] at *;omega)
      |(refine Done.mk ?_;rw[hres];done)
   . rw[if_neg hv] at hres
     refine enter tok {} Tryz.func29 rfl (by kernel_rfl) Tryz.ntmps29 (by simp) λB0 W0 V0 lent g0=>?_
     refine Kw ?_
     repeat'((first|(intro hlq;try simp only[SL] at hlq)|refine Meets.k (hp) ?_|refine K9 ?_|((refine Kh (λhb=>?_) λhb=>?_)<;>try simp only[BL] at hb)|refine K8 ?_|refine Kc (hd:=Cond.cells_eq _) (e:=?_))<;>refine Kw ?_)
     all_goals first
      |(refine Done.mk ?_;rw[hres];done)
      |(exfalso;omega)
      |(exfalso;simp only[List.length_cons,List.length_nil] at *;omega)
 | [],hres=>
   dsimp only at hres
   refine enter tok {} Tryz.func29 rfl (by kernel_rfl) Tryz.ntmps29 (by simp) λB0 W0 V0 lent g0=>?_
   refine Kw ?_
   repeat'((first|(intro hlq;try simp only[SL] at hlq)|refine K9 ?_|((refine Kh (λhb=>?_) λhb=>?_)<;>try simp only[BL] at hb)|refine K8 ?_|refine Kc (hd:=Cond.cells_eq _) (e:=?_))<;>refine Kw ?_)
   all_goals first
    |(refine Done.mk ?_;rw[hres];done)
    |(exfalso;omega)
    |(exfalso;simp only[List.length_cons,List.length_nil] at *;omega)
 | p1::p2::qs,hres=>
   dsimp only at hres
   refine enter tok {} Tryz.func29 rfl (by kernel_rfl) Tryz.ntmps29 (by simp) λB0 W0 V0 lent g0=>?_
   refine Kw ?_
   repeat'((first|(intro hlq;try simp only[SL] at hlq)|refine K9 ?_|((refine Kh (λhb=>?_) λhb=>?_)<;>try simp only[BL] at hb)|refine K8 ?_|refine Kc (hd:=Cond.cells_eq _) (e:=?_))<;>refine Kw ?_)
   all_goals first
    |(refine Done.mk ?_;rw[hres];done)
    |(exfalso;omega)
    |(exfalso;simp only[List.length_cons,List.length_nil] at *;omega)
theorem b5V (k:Nat)(c:Cond)(dd:Int)(hd:dd+1=8-(k:Int))(hk1:¬c.kind=1)(hk4:¬c.kind=4)(hv:¬((c.kind=2\/c.kind=3)/\(2<=c.parts.length/\c.parts.length<=16)/\c.var=0/\c.n=0)):Meets Tryz.prog 29 [c.d,iD dd] λr=>r= .tup [.str [],bD false]:=by
 refine enter tok {} Tryz.func29 rfl (by kernel_rfl) Tryz.ntmps29 (by simp) λB0 W0 V0 lent g0=>?_
 refine Kw ?_
 repeat'((first|(intro hlq;try simp only[SL] at hlq)|refine K9 ?_|((refine Kh (λhb=>?_) λhb=>?_)<;>try simp only[BL] at hb)|refine K8 ?_|refine Kc (hd:=Cond.cells_eq _) (e:=?_))<;>refine Kw ?_)
 all_goals first
  |exact Done.mk rfl
  |(exfalso;omega)
theorem b1A (w:List UInt8)(T:Cond->List UInt8)(ps:List Cond)(i:Nat)(hi:i<ps.length):
 G4 w ((ps.take (i+1)).map λp=>par (T p))=if i=0 then[]++([40]++T ps[i]++[41]) else G4 w ((ps.take i).map λp=>par (T p))++w++([40]++T ps[i]++[41]):=by
 rw[List.take_succ_eq_append_getElem hi,List.map_append,List.map_singleton]
 split
 . rename_i e
   subst e
   simp[G4]
 . rename_i e
   rw[b8f _ _ _ (by
    intro h
    have:=congrArg List.length h
    simp only[List.length_map,List.length_take,List.length_nil] at this
    omega)]
   simp
theorem b5W (k:Nat)(c:Cond)(dd:Int)(hd:dd+1=8-(k:Int))(ih:∀c:Cond,Meets Tryz.prog 29 [c.d,iD (dd+1)] λr=>r= .tup [.str (cTx k c).1,bD (cTx k c).2])(hle:∀p:Cond,(cTx k p).1.length<=171798691840)(hk23:c.kind=2\/c.kind=3)
 (hv:2<=c.parts.length/\c.parts.length<=16) (hv0:c.var=0) (hn0:c.n=0) (res:List UInt8×Bool)
 (hres:res=if c.parts.all (λp=>(cTx k p).2)=true then(G4 (if c.kind=3 then orW else I4) (c.parts.map λp=>par (cTx k p).1),true) else([],false)):Meets Tryz.prog 29 [c.d,iD dd] λr=>r= .tup [.str res.1,bD res.2]:=by
 obtain hk|hk:=hk23
 . rw [show (if c.kind=3 then orW else I4)=I4 from if_neg (by omega)] at hres
   refine enter tok {} Tryz.func29 rfl (by kernel_rfl) Tryz.ntmps29 (by simp) λB0 W0 V0 lent g0=>?_
   refine Kw ?_
   repeat'((first|(intro hlq;try simp only[SL] at hlq)|refine K9 ?_|((refine Kh (λhb=>?_) λhb=>?_)<;>try simp only[BL] at hb)|refine K8 ?_|refine Kc (hd:=Cond.cells_eq _) (e:=?_))<;>refine Kw ?_)
   all_goals try(exfalso;omega)
   have hL:∀i,i<=c.parts.length->(G4 I4 ((c.parts.take i).map λp=>par (cTx k p).1)).length<=2748779069600:=by
    intro i hi
    have h:=a7A I4 171798691842 ((c.parts.take i).map λp=>par (cTx k p).1) (by
     intro x hx
     obtain⟨p,_,rfl⟩:=List.mem_map.1 hx
     have:=hle p
     simp only[List.length_append,List.length_cons,List.length_nil]
     omega)
    rw[List.length_map,List.length_take,show(I4:List UInt8).length=5 from rfl] at h
    have:=Nat.mul_le_mul_right (171798691842+5) (show min i c.parts.length<=16 by omega)
    omega
   refine j7 tok {} [] (X:=Nat) (λi=>[(122,iB i),(10, .d (.str (G4 I4 ((c.parts.take i).map λp=>par (cTx k p).1))))]) (λ_=>[]) [] (λi=>i<=c.parts.length/\∀p∈c.parts.take i,(cTx k p).2=true) (λi=>c.parts.length-i) 0 ?_
   refine Kw ?_
   refine And.intro ?_ ⟨⟨by omega,by simp⟩,λi hΦ=>?_⟩
   . exact Kr
   obtain⟨hi,hall⟩:=hΦ
   have hLi:=hL i hi
   refine Kw ?_
   refine⟨λh1=>?_,λh1=>?_⟩<;>(try simp only[BL] at h1)<;>refine Kw ?_
   . have h1':i<c.parts.length:=by omega
     have hp:=ih c.parts[i]
     have hpl:=hle c.parts[i]
     have hst:=b1A I4 (λp=>(cTx k p).1) c.parts i h1'
     have hnew:(cTx k c.parts[i]).2=true->∀p∈c.parts.take (i+1),(cTx k p).2=true:=by
      intro ht p hp
      rw[List.take_succ_eq_append_getElem h1'] at hp
      rcases List.mem_append.1 hp with h|h
      . exact hall p h
      . rw[List.mem_singleton.1 h];exact ht
     have hbad:(cTx k c.parts[i]).2=false->res=([],false):=by
      intro hf
      rw[hres,if_neg]
      intro ha
      have:=List.all_eq_true.1 ha c.parts[i] (List.getElem_mem h1')
      rw[hf] at this
      cases this
     repeat'((first|(intro hlq;try simp only[SL] at hlq)|refine Meets.k (hp) ?_|refine K9 ?_|((refine Kh (λhb=>?_) λhb=>?_)<;>try simp only[BL] at hb)|refine K8 ?_|refine Kc (hd:=Cond.cells_eq _) (e:=?_))<;>refine Kw ?_)
     all_goals first
      |(exfalso;omega)
      |(refine Done.mk ?_;rw[hbad (by assumption)];done)
      |(rw[if_neg (by omega)] at hst;refine⟨⟨i+1,?_,⟨by omega,hnew (by assumption)⟩,by omega⟩⟩;(repeat'(first|exact True.intro|exact rfl|refine And.intro ?_ ?_))<;>exact congrArg D.str hst.symm)
      | (have e0:i=0:=by omega
         subst e0
         rw[if_pos rfl] at hst
         refine⟨⟨0+1,?_,⟨by omega,hnew (by assumption)⟩,by omega⟩⟩;(repeat'(first|exact True.intro|exact rfl|refine And.intro ?_ ?_))<;>exact congrArg D.str hst.symm)
      |trace_state
   . refine Done.mk ?_
     rw[List.take_of_length_le (by omega)] at hall⊢
     rw[hres,if_pos (List.all_eq_true.2 hall)]
 . rw [show (if c.kind=3 then orW else I4)=orW from if_pos hk] at hres
   refine enter tok {} Tryz.func29 rfl (by kernel_rfl) Tryz.ntmps29 (by simp) λB0 W0 V0 lent g0=>?_
   refine Kw ?_
   repeat'((first|(intro hlq;try simp only[SL] at hlq)|refine K9 ?_|((refine Kh (λhb=>?_) λhb=>?_)<;>try simp only[BL] at hb)|refine K8 ?_|refine Kc (hd:=Cond.cells_eq _) (e:=?_))<;>refine Kw ?_)
   all_goals try(exfalso;omega)
   have hL:∀i,i<=c.parts.length->(G4 orW ((c.parts.take i).map λp=>par (cTx k p).1)).length<=2748779069600:=by
    intro i hi
    have h:=a7A orW 171798691842 ((c.parts.take i).map λp=>par (cTx k p).1) (by
     intro x hx
     obtain⟨p,_,rfl⟩:=List.mem_map.1 hx
     have:=hle p
     simp only[List.length_append,List.length_cons,List.length_nil]
     omega)
    rw[List.length_map,List.length_take,show(orW:List UInt8).length=4 from rfl] at h
    have:=Nat.mul_le_mul_right (171798691842+4) (show min i c.parts.length<=16 by omega)
    omega
   refine j7 tok {} [] (X:=Nat) (λi=>[(122,iB i),(10, .d (.str (G4 orW ((c.parts.take i).map λp=>par (cTx k p).1))))]) (λ_=>[]) [] (λi=>i<=c.parts.length/\∀p∈c.parts.take i,(cTx k p).2=true) (λi=>c.parts.length-i) 0 ?_
   refine Kw ?_
   refine And.intro ?_ ⟨⟨by omega,by simp⟩,λi hΦ=>?_⟩
   . exact Kr
   obtain⟨hi,hall⟩:=hΦ
   have hLi:=hL i hi
   refine Kw ?_
   refine⟨λh1=>?_,λh1=>?_⟩<;>(try simp only[BL] at h1)<;>refine Kw ?_
   . have h1':i<c.parts.length:=by omega
     have hp:=ih c.parts[i]
     have hpl:=hle c.parts[i]
     have hst:=b1A orW (λp=>(cTx k p).1) c.parts i h1'
     have hnew:(cTx k c.parts[i]).2=true->∀p∈c.parts.take (i+1),(cTx k p).2=true:=by
      intro ht p hp
      rw[List.take_succ_eq_append_getElem h1'] at hp
      rcases List.mem_append.1 hp with h|h
      . exact hall p h
      . rw[List.mem_singleton.1 h];exact ht
     have hbad:(cTx k c.parts[i]).2=false->res=([],false):=by
      intro hf
      rw[hres,if_neg]
      intro ha
      have:=List.all_eq_true.1 ha c.parts[i] (List.getElem_mem h1')
      rw[hf] at this
      cases this
     repeat'((first|(intro hlq;try simp only[SL] at hlq)|refine Meets.k (hp) ?_|refine K9 ?_|((refine Kh (λhb=>?_) λhb=>?_)<;>try simp only[BL] at hb)|refine K8 ?_|refine Kc (hd:=Cond.cells_eq _) (e:=?_))<;>refine Kw ?_)
     all_goals first
      |(exfalso;omega)
      |(refine Done.mk ?_;rw[hbad (by assumption)];done)
      |(rw[if_neg (by omega)] at hst;refine⟨⟨i+1,?_,⟨by omega,hnew (by assumption)⟩,by omega⟩⟩;(repeat'(first|exact True.intro|exact rfl|refine And.intro ?_ ?_))<;>exact congrArg D.str hst.symm)
      | (have e0:i=0:=by omega
         subst e0
         rw[if_pos rfl] at hst
         refine⟨⟨0+1,?_,⟨by omega,hnew (by assumption)⟩,by omega⟩⟩;(repeat'(first|exact True.intro|exact rfl|refine And.intro ?_ ?_))<;>exact congrArg D.str hst.symm)
      |trace_state
   . refine Done.mk ?_
     rw[List.take_of_length_le (by omega)] at hall⊢
     rw[hres,if_pos (List.all_eq_true.2 hall)]
end Go.Proofs.YtaopegkpjhkooaaGreatDoor.Dx
