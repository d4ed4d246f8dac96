/- Is a route possible? In the reference. -/
import Derived.Test.YteillnfhkeebjaaGreatDoorSu
import Derived.Test.YteillnfhkeebjaaGreatDoorSj
set_option linter.all false
namespace Go.Proofs.YteillnfhkeebjaaGreatDoor.Dx
open Go Go.RowKit
set_option maxRecDepth 100000
set_option maxHeartbeats 16000000
end Go.Proofs.YteillnfhkeebjaaGreatDoor.Dx
/- Course,in the code and in the reference. -/
namespace Go.Proofs.YteillnfhkeebjaaGreatDoor.Dx
open Go Go.RowKit
set_option maxRecDepth 100000
set_option maxHeartbeats 16000000
def E1 (c:Course):Int:=if c.fits=false then 2 else if c.named=false then 70 else if c.nums=false then 71 else if p8 c.ties=0 then(if c.distances.all (U4 c) then 0 else 72) else p8 c.ties
theorem b6Q (c:Course)(d:Distance)(hc:c.small)(hn:NumsOk c)(hd:d∈c.distances):Meets Tryz.prog 44 [d.d, .ptr c.cells 0, .ptr [.mp c.legMap] 0] λr=>r=bD (U4 c d):=by
 refine enter tok {} Tryz.func44 rfl (by kernel_rfl) Tryz.ntmps44 (by simp) λB0 W0 V0 lent g0=>?_
 refine Kw ?_
 refine Meets.k (b8Z c d hc hn hd) ?_
 refine Kw ?_
 exact⟨rfl⟩
theorem b4A (c:Course)(hc:c.small):Meets Tryz.prog 8 [c.d] λr=>r=iD (E1 c):=by
 refine enter tok {} Tryz.func8 rfl (by kernel_rfl) Tryz.ntmps8 (by simp) λB0 W0 V0 lent g0=>?_
 refine Kw ?_
 repeat'((first|(intro hlq;try simp only[SL] at hlq)|refine Meets.k (b7Y c hc.route) ?_|refine Meets.k (c0y c hc) ?_|refine Meets.k (c0P c hc) ?_|refine Meets.k (a2K c.ties hc.ties.1 hc.ties.2) ?_|((refine Kh (λhb=>?_) λhb=>?_)<;>try simp only[BL] at hb)|refine K8 ?_)<;>refine Kw ?_)
 . exact⟨congrArg iD (by rw[E1,if_pos (by assumption)])⟩
 . exact⟨congrArg iD (by rw[E1,if_neg (by simp[*]),if_pos (by assumption)])⟩
 . exact⟨congrArg iD (by rw[E1,if_neg (by simp[*]),if_neg (by simp[*]),if_pos (by assumption)])⟩
 . exact⟨congrArg iD (by rw[E1,if_neg (by simp[*]),if_neg (by simp[*]),if_neg (by simp[*]),if_neg (by assumption)])⟩
 have hE:E1 c=if c.distances.all (U4 c) then 0 else 72:=by
  rw[E1,if_neg (by simp[*]),if_neg (by simp[*]),if_neg (by simp[*]),if_pos (by simpa using (by assumption:¬p8 c.ties≠0))]
 have hn:NumsOk c:=(b2m c).1 (by assumption)
 have hll:=hc.legs
 have hkey:∀x∈c.legs.map Leg.key,D4 2 x:=by
  intro k hk
  obtain⟨x,_,rfl⟩:=List.mem_map.1 hk
  exact⟨[x.src,x.dst],rfl,rfl⟩
 refine d4 tok {} [] (X:=Nat) (λi=>[(28,iB i)]) (λi=>[(24, .mp (w5 ((c.legs.map Leg.key).take i)))]) [5] (λi=>i<=c.legs.length) (λi=>c.legs.length-i) 0 ?_
 refine Kw ?_
 refine And.intro ?_ ⟨by omega,λi hi=>?_⟩
 . exact Kr
 refine Kw ?_
 refine⟨λh1=>?_,λh1=>?_⟩<;>(try simp only[BL] at h1)<;>refine Kw ?_
 . have h1':i<c.legs.length:=by omega
   repeat'((first|(intro hlq;try simp only[SL] at hlq)|refine Ka ?_|refine Kb ?_|refine Kc (hd:=rfl) (e:=?_)|refine Kc (hd:=Leg.cells_eq _) (e:=?_)|refine Kd (e:=?_)|refine Kl rfl ?_|fail)<;>refine Kw ?_)
   refine⟨⟨hkey c.legs[i].key (List.mem_map.2 ⟨_,List.getElem_mem h1',rfl⟩),a3Y λk hk=>hkey k (List.mem_of_mem_take hk)⟩,?_⟩
   rw[show q9 (w5 (List.take i (List.map Leg.key c.legs))) c.legs[i].key (bD true)=w5 (List.take (i+1) (List.map Leg.key c.legs)) from by
    rw[List.take_succ_eq_append_getElem (by simpa using h1'),a2c,List.getElem_map]]
   refine Kw ?_
   repeat'((first|(intro hlq;try simp only[SL] at hlq)|refine K8 ?_)<;>refine Kw ?_)
   refine⟨⟨i+1,?_,by omega,by omega⟩⟩
   repeat'(first|exact True.intro|exact rfl|refine And.intro ?_ ?_)
 have e:(c.legs.map Leg.key).take i=c.legs.map Leg.key:=List.take_of_length_le (by simp;omega)
 rw[e]
 refine Meets.k (a9o c.distances 44 [] [.ptr c.cells 0, .ptr [.mp c.legMap] 0] (U4 c) λx hx=>b6Q c x hc hn hx) ?_
 refine Kw ?_
 rw[hE]
 repeat'((first|(intro hlq;try simp only[SL] at hlq)|((refine Kh (λhb=>?_) λhb=>?_)<;>try simp only[BL] at hb)|refine K8 ?_)<;>refine Kw ?_)
 all_goals exact⟨congrArg iD (by simp only[*];simp)⟩
end Go.Proofs.YteillnfhkeebjaaGreatDoor.Dx
/- The examples of the chapter. -/
namespace Go.Proofs.YteillnfhkeebjaaGreatDoor.Dx
open Go Go.RowKit
set_option maxRecDepth 100000
set_option maxHeartbeats 16000000
def c0:Cond:=⟨0,0,0,[]⟩
end Go.Proofs.YteillnfhkeebjaaGreatDoor.Dx
/- The laws TypingCourseSpec,TypingCondSpec,TypingDirectSpec. -/
namespace Go.Proofs.YteillnfhkeebjaaGreatDoor.Dx
open Go Go.RowKit
set_option maxRecDepth 100000
set_option maxHeartbeats 16000000
theorem Meets.bl {P:Program}{f:FuncId}{ds:List D}{b:Bool}(h:Meets P f ds λd=>d=bD b):Meets P f ds λd=>d= .bl b:=by
 refine⟨⟨h.out.fn,λγ V W xs h1 h2 h3 h4=>(h.out.run γ V W xs h1 h2 h3 h4).mono ?_⟩⟩
 rintro e W' ⟨γ',V',o,O',a1,a2,a3,a4,a5,a6,a7,a8,d,rfl,rfl,rfl⟩
 refine⟨γ',V',_,[],?_,a2,a3,a4,a5,a6,a7,a8, .bl b,rfl,rfl,rfl⟩
 cases e with
 | returned v=>
   obtain⟨rfl,_⟩:=Rep.v_inv (show Rep V' v (.v (.bool b)) from a1)
   exact Rep.bl b
 |_=>exact a1
end Go.Proofs.YteillnfhkeebjaaGreatDoor.Dx
/- The arguments of the laws: typed cells are a course,a condition,steps,numbers. -/
namespace Go.Proofs.YteillnfhkeebjaaGreatDoor.Dx
open Go Go.RowKit
set_option maxRecDepth 100000
theorem c2m:shp T 3=some (.i .i64):=rfl
theorem c2o:shp T 47=some (.st [3,3,3,45]):=rfl
theorem c2n:shp T 45=some (.sl 47):=rfl
theorem c2q:shp T 75=some (.st [3,3,47,29,29]):=rfl
theorem a7I:shp T 29=some (.sl 75):=rfl
theorem c2p:shp T 49=some (.st [3,3,3]):=rfl
theorem b6o:a1H T [3,4,9,22,23,24,25,26,27,28,29,31,33,45,47,49,80,79,82,94,96,78,107,102,100,75,150,105]=true:=rfl
theorem V5 {n:Nat}{ds:List D}{m:Nat}(h:TyD T n 3 ds m):∃i,ds=[iD i]:=h.int_ c2m
def OkB {α:Type}(p:α->Prop)(x:α)(m:Nat):Prop:=m<=1048576->p x
theorem ListOf.ok {α:Type}{p:α->Prop}{l:List α}{m:Nat}(h:ListOf (OkB p) l m)(hm:m<=1048576):l.length<=1048576/\∀x∈l,p x:=
 ⟨by have:=h.len;omega,λx hx=>by obtain⟨m',h1,h2⟩:=h.all x hx;exact h2 (by omega)⟩
theorem b2I:∀(n:Nat) (ds:List D) (m:Nat),TyD T n 47 ds m->∃c:Cond,ds=c.cells/\OkB Cond.ok c m:=by
 intro n
 induction n using Nat.strongRecOn with
 | ind n IH=>
   intro ds m h
   obtain⟨k,rfl,xs,ms,rfl,h,hs⟩:=h.st_ c2o
   obtain⟨x1,xs,m1,ms,rfl,rfl,h1,h⟩:=I8 h
   obtain⟨x2,xs,m2,ms,rfl,rfl,h2,h⟩:=I8 h
   obtain⟨x3,xs,m3,ms,rfl,rfl,h3,h⟩:=I8 h
   obtain⟨x4,xs,m4,ms,rfl,rfl,h4,h⟩:=I8 h
   obtain⟨rfl,rfl⟩:=a8j h
   obtain⟨i1,rfl⟩:=V5 h1
   obtain⟨i2,rfl⟩:=V5 h2
   obtain⟨i3,rfl⟩:=V5 h3
   obtain⟨l,rfl,hl⟩:=h4.sl_ c2n Cond.cells (OkB Cond.ok) (λn' ds m hn h=>IH n' (by omega) ds m h)
   simp only[List.sum_cons,List.sum_nil] at hs
   refine⟨⟨i1,i2,i3,l⟩,by simp[Cond.cells_eq],λhm=>?_⟩
   obtain⟨k1,k2⟩:=hl.ok (by omega)
   exact⟨k1,Cond.okL_iff.2 k2⟩
theorem c1B:∀(n:Nat) (ds:List D) (m:Nat),TyD T n 75 ds m->∃c:Step,ds=c.cells/\OkB Step.ok c m:=by
 intro n
 induction n using Nat.strongRecOn with
 | ind n IH=>
   intro ds m h
   obtain⟨k,rfl,xs,ms,rfl,h,hs⟩:=h.st_ c2q
   obtain⟨x1,xs,m1,ms,rfl,rfl,h1,h⟩:=I8 h
   obtain⟨x2,xs,m2,ms,rfl,rfl,h2,h⟩:=I8 h
   obtain⟨x3,xs,m3,ms,rfl,rfl,h3,h⟩:=I8 h
   obtain⟨x4,xs,m4,ms,rfl,rfl,h4,h⟩:=I8 h
   obtain⟨x5,xs,m5,ms,rfl,rfl,h5,h⟩:=I8 h
   obtain⟨rfl,rfl⟩:=a8j h
   obtain⟨i1,rfl⟩:=V5 h1
   obtain⟨i2,rfl⟩:=V5 h2
   obtain⟨c,rfl,hc⟩:=b2I _ _ _ h3
   obtain⟨l,rfl,hl⟩:=h4.sl_ a7I Step.cells (OkB Step.ok) (λn' ds m hn h=>IH n' (by omega) ds m h)
   obtain⟨l',rfl,hl'⟩:=h5.sl_ a7I Step.cells (OkB Step.ok) (λn' ds m hn h=>IH n' (by omega) ds m h)
   simp only[List.sum_cons,List.sum_nil] at hs
   refine⟨⟨i1,i2,c,l,l'⟩,by simp[Step.cells_eq,Cond.cells_eq],λhm=>?_⟩
   obtain⟨k1,k2⟩:=hl.ok (by omega)
   obtain⟨k3,k4⟩:=hl'.ok (by omega)
   exact⟨hc (by omega),⟨k1,Step.okL_iff.2 k2⟩,k3,Step.okL_iff.2 k4⟩
theorem c2Y {n:Nat}{ds:List D}{m:Nat}(h:TyD T n 49 ds m):∃x:Env,D.agg ds=x.d:=by
 obtain⟨k,rfl,xs,ms,rfl,h,hs⟩:=h.st_ c2p
 obtain⟨x1,xs,m1,ms,rfl,rfl,h1,h⟩:=I8 h
 obtain⟨x2,xs,m2,ms,rfl,rfl,h2,h⟩:=I8 h
 obtain⟨x3,xs,m3,ms,rfl,rfl,h3,h⟩:=I8 h
 obtain⟨rfl,rfl⟩:=a8j h
 obtain⟨i1,rfl⟩:=V5 h1
 obtain⟨i2,rfl⟩:=V5 h2
 obtain⟨i3,rfl⟩:=V5 h3
 exact⟨⟨i1,i2,i3⟩,rfl⟩
theorem a8k {ds:List D}{ms:List Nat}(h:N7 T [] ds ms):ds=[]/\ms=[]:=by
 cases ds<;>cases ms<;>first|exact⟨rfl,rfl⟩|exact h.elim
theorem a0a {f:TypeId}{fs:List TypeId}{xs:List D}{ms:List Nat}(h:N7 T (f::fs) xs ms):
 ∃x xs' m ms',xs=x::xs'/\ms=m::ms'/\TyV T f x m/\N7 T fs xs' ms':=by
 cases xs<;>cases ms<;>first|exact⟨_,_,_,_,rfl,rfl,h.1,h.2⟩|exact h.elim
theorem a1 {a:TypeId}{ds:List D}{ms:List Nat}(h:N7 T [a] ds ms)(hm:ms.sum<=1048576):∃x k,ds=[x]/\TyV T a x k/\k<=1048576:=by
 obtain⟨x,xs,k,ms,rfl,rfl,h1,h⟩:=a0a h
 obtain⟨rfl,rfl⟩:=a8k h
 simp only[List.sum_cons,List.sum_nil] at hm
 exact⟨x,k,rfl,h1,by omega⟩
theorem a3 {a b c:TypeId}{ds:List D}{ms:List Nat}(h:N7 T [a,b,c] ds ms)(hm:ms.sum<=1048576):
 ∃x y z k m n,ds=[x,y,z]/\TyV T a x k/\TyV T b y m/\TyV T c z n/\k<=1048576/\m<=1048576/\n<=1048576:=by
 obtain⟨x,xs,k,ms,rfl,rfl,h1,h⟩:=a0a h
 obtain⟨y,xs,m,ms,rfl,rfl,h2,h⟩:=a0a h
 obtain⟨z,xs,n,ms,rfl,rfl,h3,h⟩:=a0a h
 obtain⟨rfl,rfl⟩:=a8k h
 simp only[List.sum_cons,List.sum_nil] at hm
 exact⟨x,y,z,k,m,n,rfl,h1,h2,h3,by omega,by omega,by omega⟩
theorem c4e {d:D}{m:Nat}(h:TyV T 47 d m)(hm:m<=1048576):∃c:Cond,d=c.d/\c.ok:=by
 obtain⟨n,cs,h1,h2⟩:=h
 obtain⟨c,rfl,hc⟩:=b2I n cs m h1
 exact⟨c,by rw[h2,Cond.cells_eq];rfl,hc hm⟩
theorem c4f {d:D}{m:Nat}(h:TyV T 49 d m):∃x:Env,d=x.d:=by
 obtain⟨n,cs,h1,h2⟩:=h
 obtain⟨c,hc⟩:=c2Y h1
 exact⟨c,by rw[h2,<-hc];rfl⟩
theorem c4g {d:D}{m:Nat}(h:TyV T 29 d m)(hm:m<=1048576):∃l:List Step,d= .sl (l.map Step.cells)/\l.length<=1048576/\∀s∈l,s.ok:=by
 obtain⟨n,cs,h1,h2⟩:=h
 obtain⟨l,rfl,hl⟩:=h1.sl_ a7I Step.cells (OkB Step.ok) (λn' ds m hn h=>c1B n' ds m h)
 exact⟨l,by rw[h2];rfl,hl.ok hm⟩
end Go.Proofs.YteillnfhkeebjaaGreatDoor.Dx
