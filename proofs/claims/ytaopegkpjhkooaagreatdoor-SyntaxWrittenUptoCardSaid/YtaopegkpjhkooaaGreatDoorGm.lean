/- Chapter 06: stopwatchlaw06.SyntaxWritten: its walk. -/
import Derived.Test.YtaopegkpjhkooaaGreatDoorGi
import Derived.Test.YtaopegkpjhkooaaGreatDoorGl
import Derived.Test.YtaopegkpjhkooaaGreatDoorGk
import Derived.Test.YtaopegkpjhkooaaGreatDoorG8
import Derived.Test.YtaopegkpjhkooaaGreatDoorGg
import Derived.Test.YtaopegkpjhkooaaGreatDoorGf
set_option linter.all false
namespace Go.Proofs.YtaopegkpjhkooaaGreatDoor.Dx
open Go Go.RowKit
set_option maxRecDepth 100000
set_option maxHeartbeats 16000000
theorem b4H (c:Course)(_:c.ties.length<=1048576)(hok:∀s∈c.ties,s.ok):Meets Tryz.prog 5 [c.d] λr=>r=bD true:=by
 have hs:=c1e
 have kf:=b7q c
 cases hf:K4 c with
 | false=>
   rw[hf] at kf
   refine enter tok {} Tryz.func5 rfl (by kernel_rfl) Tryz.ntmps5 (by simp) λB0 W0 V0 lent g0=>?_
   refine Kw ?_
   refine Meets.k hs ?_
   refine Kw ?_
   refine⟨λh=>absurd h (by decide),λ_=>?_⟩
   refine Kw ?_
   refine Meets.k kf ?_
   refine Kw ?_
   repeat'((first|(intro hlq;try simp only[SL] at hlq)|refine K9 ?_|((refine Kh (λhb=>?_) λhb=>?_)<;>try simp only[BL] at hb)|refine K8 ?_)<;>refine Kw ?_)
   all_goals first
    |exact Done.mk rfl
    |contradiction
    |trace_state
 | true =>
   rw[hf] at kf
   have ht:=b3l 5 (by omega) c.ties hok
   rw[show(5-((5:Nat):Int))=0 from rfl] at ht
   have hlen:=a4e 5 c.ties
   have hg:=gB5 (show 5<=5 by omega)
   cases hq:(sTx 5 c.ties).2 with
   | false=>
     rw[hq] at ht
     refine enter tok {} Tryz.func5 rfl (by kernel_rfl) Tryz.ntmps5 (by simp) λB0 W0 V0 lent g0=>?_
     refine Kw ?_
     refine Meets.k hs ?_
     refine Kw ?_
     refine⟨λh=>absurd h (by decide),λ_=>?_⟩
     refine Kw ?_
     refine Meets.k kf ?_
     refine Kw ?_
     refine⟨λh=>absurd h (by decide),λ_=>?_⟩
     refine Kw ?_
     repeat'((first|(intro hlq;try simp only[SL] at hlq)|refine Meets.k (ht) ?_|refine K9 ?_|((refine Kh (λhb=>?_) λhb=>?_)<;>try simp only[BL] at hb)|refine K8 ?_)<;>refine Kw ?_)
     all_goals first
      |exact Done.mk rfl
      |contradiction
      |trace_state
   | true=>
     rw[hq] at ht
     have kT:=b6f c hf (sTx 5 c.ties).1 (by omega)
     by_cases hl:(a0t c (sTx 5 c.ties).1).length<=65536
     . have hp:=b4g a4Q _ hl
       rw[b6g hf hq hl] at hp
       have hsm:=c1b c c
       rw[a0a rfl] at hsm
       refine enter tok {} Tryz.func5 rfl (by kernel_rfl) Tryz.ntmps5 (by simp) λB0 W0 V0 lent g0=>?_
       refine Kw ?_
       refine Meets.k hs ?_
       refine Kw ?_
       refine⟨λh=>absurd h (by decide),λ_=>?_⟩
       refine Kw ?_
       refine Meets.k kf ?_
       refine Kw ?_
       refine⟨λh=>absurd h (by decide),λ_=>?_⟩
       refine Kw ?_
       repeat'((first|(intro hlq;try simp only[SL] at hlq)|refine Meets.k (ht) ?_|refine Meets.k (kT) ?_|refine Meets.k (hp) ?_|refine Meets.k (hsm) ?_|refine K9 ?_|((refine Kh (λhb=>?_) λhb=>?_)<;>try simp only[BL] at hb)|refine K8 ?_)<;>refine Kw ?_)
       all_goals first
        |exact Done.mk rfl
        |contradiction
        |(exfalso;omega)
        |trace_state
     . refine enter tok {} Tryz.func5 rfl (by kernel_rfl) Tryz.ntmps5 (by simp) λB0 W0 V0 lent g0=>?_
       refine Kw ?_
       refine Meets.k hs ?_
       refine Kw ?_
       refine⟨λh=>absurd h (by decide),λ_=>?_⟩
       refine Kw ?_
       refine Meets.k kf ?_
       refine Kw ?_
       refine⟨λh=>absurd h (by decide),λ_=>?_⟩
       refine Kw ?_
       repeat'((first|(intro hlq;try simp only[SL] at hlq)|refine Meets.k (ht) ?_|refine Meets.k (kT) ?_|refine K9 ?_|((refine Kh (λhb=>?_) λhb=>?_)<;>try simp only[BL] at hb)|refine K8 ?_)<;>refine Kw ?_)
       all_goals first
        |exact Done.mk rfl
        |contradiction
        |(exfalso;omega)
        |trace_state
end Go.Proofs.YtaopegkpjhkooaaGreatDoor.Dx
/- Chapter 06: a course that is an argument: typed cells are one of it,and its steps are not too long. -/
namespace Go.Proofs.YtaopegkpjhkooaaGreatDoor.Dx
open Go Go.RowKit
set_option maxRecDepth 100000
theorem c1B:shp T 4=some .b:=rfl
theorem c1O:shp T 9=some .s:=rfl
theorem c1A:shp T 143=some (.st [3,3,88]):=rfl
theorem b3c:shp T 88=some (.sl 143):=rfl
theorem c1L:shp T 84=some (.st [9,3]):=rfl
theorem c1M:shp T 86=some (.st [3,3,3,3]):=rfl
theorem c1Q:shp T 94=some (.st [3,3,3]):=rfl
theorem c1N:shp T 89=some (.sl 94):=rfl
theorem c1P:shp T 91=some (.st [9,88,3,89,3]):=rfl
theorem c1z:shp T 102=some (.st [3,3,3,3]):=rfl
theorem c1S:shp T 98=some (.st [9,3,3,4]):=rfl
theorem c1R:shp T 96=some (.st [9,3]):=rfl
theorem c1y:shp T 100=some (.st [9,3,3]):=rfl
theorem c1J:shp T 53=some (.st [3,3,3,3,3]):=rfl
theorem c1K:shp T 55=some (.st [9,45,46,47,48,49,50,51,38,53,3,3]):=rfl
theorem c1C:shp T 45=some (.sl 84):=rfl
theorem c1D:shp T 46=some (.sl 86):=rfl
theorem c1E:shp T 47=some (.sl 91):=rfl
theorem c1F:shp T 48=some (.sl 96):=rfl
theorem c1G:shp T 49=some (.sl 98):=rfl
theorem c1H:shp T 50=some (.sl 100):=rfl
theorem c1I:shp T 51=some (.sl 102):=rfl
theorem c2x {n:Nat}{ds:List D}{m:Nat}(h:TyD T n 4 ds m):∃b,ds=[bD b]:=h.bool_ c1B
theorem a2N {n:Nat}{ds:List D}{m:Nat}(h:TyD T n 9 ds m):∃s:List UInt8,ds=[.str s]:=by
 obtain⟨s,hs,_⟩:=h.str_ c1O;exact⟨s,hs⟩
theorem c2F:∀(n:Nat) (ds:List D) (m:Nat),TyD T n 143 ds m->∃c:Part,ds=c.cells/\NoQ c m:=by
 intro n
 induction n using Nat.strongRecOn with
 | ind n IH=>
   intro ds m h
   obtain⟨k,rfl,xs,ms,rfl,h,hs⟩:=h.st_ c1A
   obtain⟨x1,xs,m1,ms,rfl,rfl,h1,h⟩:=o3 h
   obtain⟨x2,xs,m2,ms,rfl,rfl,h2,h⟩:=o3 h
   obtain⟨x3,xs,m3,ms,rfl,rfl,h3,h⟩:=o3 h
   obtain⟨rfl,rfl⟩:=N8 h
   obtain⟨i1,rfl⟩:=w8 h1
   obtain⟨i2,rfl⟩:=w8 h2
   obtain⟨l,rfl,hl⟩:=h3.sl_ b3c Part.cells NoQ (λn' ds m hn h=>IH n' (by omega) ds m h)
   exact⟨⟨i1,i2,l⟩,by simp[Part.cells_eq],trivial⟩
theorem c2D (n:Nat)(ds:List D)(m:Nat)(h:TyD T n 84 ds m):∃x:Mat,ds=x.cells/\NoQ x m:=by
 obtain⟨k,rfl,xs,ms,rfl,h,hs⟩:=h.st_ c1L
 obtain⟨x1,xs,m1,ms,rfl,rfl,h1,h⟩:=o3 h
 obtain⟨x2,xs,m2,ms,rfl,rfl,h2,h⟩:=o3 h
 obtain⟨rfl,rfl⟩:=N8 h
 obtain⟨i1,rfl⟩:=a2N h1
 obtain⟨i2,rfl⟩:=w8 h2
 exact⟨⟨i1,i2⟩,rfl,trivial⟩
theorem c2H (n:Nat)(ds:List D)(m:Nat)(h:TyD T n 96 ds m):∃x:Wave,ds=x.cells/\NoQ x m:=by
 obtain⟨k,rfl,xs,ms,rfl,h,hs⟩:=h.st_ c1R
 obtain⟨x1,xs,m1,ms,rfl,rfl,h1,h⟩:=o3 h
 obtain⟨x2,xs,m2,ms,rfl,rfl,h2,h⟩:=o3 h
 obtain⟨rfl,rfl⟩:=N8 h
 obtain⟨i1,rfl⟩:=a2N h1
 obtain⟨i2,rfl⟩:=w8 h2
 exact⟨⟨i1,i2⟩,rfl,trivial⟩
theorem c2y (n:Nat)(ds:List D)(m:Nat)(h:TyD T n 100 ds m):∃x:Category,ds=x.cells/\NoQ x m:=by
 obtain⟨k,rfl,xs,ms,rfl,h,hs⟩:=h.st_ c1y
 obtain⟨x1,xs,m1,ms,rfl,rfl,h1,h⟩:=o3 h
 obtain⟨x2,xs,m2,ms,rfl,rfl,h2,h⟩:=o3 h
 obtain⟨x3,xs,m3,ms,rfl,rfl,h3,h⟩:=o3 h
 obtain⟨rfl,rfl⟩:=N8 h
 obtain⟨i1,rfl⟩:=a2N h1
 obtain⟨i2,rfl⟩:=w8 h2
 obtain⟨i3,rfl⟩:=w8 h3
 exact⟨⟨i1,i2,i3⟩,rfl,trivial⟩
theorem c2A (n:Nat)(ds:List D)(m:Nat)(h:TyD T n 94 ds m):∃x:Cutoff,ds=x.cells/\NoQ x m:=by
 obtain⟨k,rfl,xs,ms,rfl,h,hs⟩:=h.st_ c1Q
 obtain⟨x1,xs,m1,ms,rfl,rfl,h1,h⟩:=o3 h
 obtain⟨x2,xs,m2,ms,rfl,rfl,h2,h⟩:=o3 h
 obtain⟨x3,xs,m3,ms,rfl,rfl,h3,h⟩:=o3 h
 obtain⟨rfl,rfl⟩:=N8 h
 obtain⟨i1,rfl⟩:=w8 h1
 obtain⟨i2,rfl⟩:=w8 h2
 obtain⟨i3,rfl⟩:=w8 h3
 exact⟨⟨i1,i2,i3⟩,rfl,trivial⟩
theorem c2C (n:Nat)(ds:List D)(m:Nat)(h:TyD T n 86 ds m):∃x:Leg,ds=x.cells/\NoQ x m:=by
 obtain⟨k,rfl,xs,ms,rfl,h,hs⟩:=h.st_ c1M
 obtain⟨x1,xs,m1,ms,rfl,rfl,h1,h⟩:=o3 h
 obtain⟨x2,xs,m2,ms,rfl,rfl,h2,h⟩:=o3 h
 obtain⟨x3,xs,m3,ms,rfl,rfl,h3,h⟩:=o3 h
 obtain⟨x4,xs,m4,ms,rfl,rfl,h4,h⟩:=o3 h
 obtain⟨rfl,rfl⟩:=N8 h
 obtain⟨i1,rfl⟩:=w8 h1
 obtain⟨i2,rfl⟩:=w8 h2
 obtain⟨i3,rfl⟩:=w8 h3
 obtain⟨i4,rfl⟩:=w8 h4
 exact⟨⟨i1,i2,i3,i4⟩,rfl,trivial⟩
theorem c2G (n:Nat)(ds:List D)(m:Nat)(h:TyD T n 102 ds m):∃x:Prize,ds=x.cells/\NoQ x m:=by
 obtain⟨k,rfl,xs,ms,rfl,h,hs⟩:=h.st_ c1z
 obtain⟨x1,xs,m1,ms,rfl,rfl,h1,h⟩:=o3 h
 obtain⟨x2,xs,m2,ms,rfl,rfl,h2,h⟩:=o3 h
 obtain⟨x3,xs,m3,ms,rfl,rfl,h3,h⟩:=o3 h
 obtain⟨x4,xs,m4,ms,rfl,rfl,h4,h⟩:=o3 h
 obtain⟨rfl,rfl⟩:=N8 h
 obtain⟨i1,rfl⟩:=w8 h1
 obtain⟨i2,rfl⟩:=w8 h2
 obtain⟨i3,rfl⟩:=w8 h3
 obtain⟨i4,rfl⟩:=w8 h4
 exact⟨⟨i1,i2,i3,i4⟩,rfl,trivial⟩
theorem c2E (n:Nat)(ds:List D)(m:Nat)(h:TyD T n 98 ds m):∃x:Offence,ds=x.cells/\NoQ x m:=by
 obtain⟨k,rfl,xs,ms,rfl,h,hs⟩:=h.st_ c1S
 obtain⟨x1,xs,m1,ms,rfl,rfl,h1,h⟩:=o3 h
 obtain⟨x2,xs,m2,ms,rfl,rfl,h2,h⟩:=o3 h
 obtain⟨x3,xs,m3,ms,rfl,rfl,h3,h⟩:=o3 h
 obtain⟨x4,xs,m4,ms,rfl,rfl,h4,h⟩:=o3 h
 obtain⟨rfl,rfl⟩:=N8 h
 obtain⟨i1,rfl⟩:=a2N h1
 obtain⟨i2,rfl⟩:=w8 h2
 obtain⟨i3,rfl⟩:=w8 h3
 obtain⟨i4,rfl⟩:=c2x h4
 exact⟨⟨i1,i2,i3,i4⟩,rfl,trivial⟩
theorem c2B (n:Nat)(ds:List D)(m:Nat)(h:TyD T n 91 ds m):∃x:Distance,ds=x.cells/\NoQ x m:=by
 obtain⟨k,rfl,xs,ms,rfl,h,hs⟩:=h.st_ c1P
 obtain⟨x1,xs,m1,ms,rfl,rfl,h1,h⟩:=o3 h
 obtain⟨x2,xs,m2,ms,rfl,rfl,h2,h⟩:=o3 h
 obtain⟨x3,xs,m3,ms,rfl,rfl,h3,h⟩:=o3 h
 obtain⟨x4,xs,m4,ms,rfl,rfl,h4,h⟩:=o3 h
 obtain⟨x5,xs,m5,ms,rfl,rfl,h5,h⟩:=o3 h
 obtain⟨rfl,rfl⟩:=N8 h
 obtain⟨i1,rfl⟩:=a2N h1
 obtain⟨l,rfl,hl⟩:=h2.sl_ b3c Part.cells NoQ (λn' ds m hn h=>c2F n' ds m h)
 obtain⟨i3,rfl⟩:=w8 h3
 obtain⟨l',rfl,hl'⟩:=h4.sl_ c1N Cutoff.cells NoQ (λn' ds m hn h=>c2A n' ds m h)
 obtain⟨i5,rfl⟩:=w8 h5
 exact⟨⟨i1,l,i3,l',i5⟩,rfl,trivial⟩
theorem c2z (n:Nat)(ds:List D)(m:Nat)(h:TyD T n 55 ds m):∃x:Course,ds=x.cells/\OkB (λx:Course=>x.ties.length<=1048576/\∀s∈x.ties,s.ok) x m:=by
 obtain⟨k,rfl,xs,ms,rfl,h,hs⟩:=h.st_ c1K
 obtain⟨x1,xs,m1,ms,rfl,rfl,h1,h⟩:=o3 h
 obtain⟨x2,xs,m2,ms,rfl,rfl,h2,h⟩:=o3 h
 obtain⟨x3,xs,m3,ms,rfl,rfl,h3,h⟩:=o3 h
 obtain⟨x4,xs,m4,ms,rfl,rfl,h4,h⟩:=o3 h
 obtain⟨x5,xs,m5,ms,rfl,rfl,h5,h⟩:=o3 h
 obtain⟨x6,xs,m6,ms,rfl,rfl,h6,h⟩:=o3 h
 obtain⟨x7,xs,m7,ms,rfl,rfl,h7,h⟩:=o3 h
 obtain⟨x8,xs,m8,ms,rfl,rfl,h8,h⟩:=o3 h
 obtain⟨x9,xs,m9,ms,rfl,rfl,h9,h⟩:=o3 h
 obtain⟨x10,xs,m10,ms,rfl,rfl,h10,h⟩:=o3 h
 obtain⟨x11,xs,m11,ms,rfl,rfl,h11,h⟩:=o3 h
 obtain⟨x12,xs,m12,ms,rfl,rfl,h12,h⟩:=o3 h
 obtain⟨rfl,rfl⟩:=N8 h
 obtain⟨i1,rfl⟩:=a2N h1
 obtain⟨l2,rfl,g2⟩:=h2.sl_ c1C Mat.cells NoQ (λn' ds m hn h=>c2D n' ds m h)
 obtain⟨l3,rfl,g3⟩:=h3.sl_ c1D Leg.cells NoQ (λn' ds m hn h=>c2C n' ds m h)
 obtain⟨l4,rfl,g4⟩:=h4.sl_ c1E Distance.cells NoQ (λn' ds m hn h=>c2B n' ds m h)
 obtain⟨l5,rfl,g5⟩:=h5.sl_ c1F Wave.cells NoQ (λn' ds m hn h=>c2H n' ds m h)
 obtain⟨l6,rfl,g6⟩:=h6.sl_ c1G Offence.cells NoQ (λn' ds m hn h=>c2E n' ds m h)
 obtain⟨l7,rfl,g7⟩:=h7.sl_ c1H Category.cells NoQ (λn' ds m hn h=>c2y n' ds m h)
 obtain⟨l8,rfl,g8⟩:=h8.sl_ c1I Prize.cells NoQ (λn' ds m hn h=>c2G n' ds m h)
 obtain⟨l9,rfl,g9⟩:=h9.sl_ a8k Step.cells (OkB Step.ok) (λn' ds m hn h=>c0x n' ds m h)
 obtain⟨_,_,ys,ns,rfl,f,_⟩:=h10.st_ c1J
 obtain⟨y1,ys,n1,ns,rfl,rfl,f1,f⟩:=o3 f
 obtain⟨y2,ys,n2,ns,rfl,rfl,f2,f⟩:=o3 f
 obtain⟨y3,ys,n3,ns,rfl,rfl,f3,f⟩:=o3 f
 obtain⟨y4,ys,n4,ns,rfl,rfl,f4,f⟩:=o3 f
 obtain⟨y5,ys,n5,ns,rfl,rfl,f5,f⟩:=o3 f
 obtain⟨rfl,rfl⟩:=N8 f
 obtain⟨j1,rfl⟩:=w8 f1
 obtain⟨j2,rfl⟩:=w8 f2
 obtain⟨j3,rfl⟩:=w8 f3
 obtain⟨j4,rfl⟩:=w8 f4
 obtain⟨j5,rfl⟩:=w8 f5
 obtain⟨i11,rfl⟩:=w8 h11
 obtain⟨i12,rfl⟩:=w8 h12
 simp only[List.sum_cons,List.sum_nil] at hs
 refine⟨⟨i1,l2,l3,l4,l5,l6,l7,l8,l9,⟨j1,j2,j3,j4,j5⟩,i11,i12⟩,rfl,λhm=>?_⟩
 exact g9.ok (by omega)
theorem c3K {d:D}{m:Nat}(h:TyV T 55 d m)(hm:m<=1048576):∃c:Course,d=c.d/\c.ties.length<=1048576/\∀s∈c.ties,s.ok:=by
 obtain⟨n,cs,h1,h2⟩:=h
 obtain⟨c,rfl,hc⟩:=c2z n cs m h1
 obtain⟨k1,k2⟩:=hc hm
 exact⟨c,by rw[h2];rfl,k1,k2⟩
theorem b5R:a3p T [3,4,9,24,26,38,45,46,47,48,49,50,51,53,55,73,84,86,88,89,91,94,96,98,100,102,143]=true:=rfl
end Go.Proofs.YtaopegkpjhkooaaGreatDoor.Dx
