/- Numbers. -/
import Derived.Test.YteillnfhkeebjaaGreatDoorWs
set_option linter.all false
namespace Go.Proofs.YteillnfhkeebjaaGreatDoor.Dx
open Go Go.RowKit
set_option maxRecDepth 100000
set_option maxHeartbeats 8000000
def Course.m (c:Course):Int:=((c.mats.map Mat.cells).length:Int)-1
def Course.numsA (c:Course):Bool:=c.mats.all Mat.good&&(c.legs.all (Leg.good c.m)&&(decide (c.legs.map λx=>(x.src,x.dst)).Nodup&&(c.distances.all (Distance.good c.m)&&(c.waves.all Wave.good&&(c.offences.all Offence.good&&(c.categories.all Category.good&&(c.prizes.all (Prize.good (c.distances.length-1) (c.categories.length-1))&&decide (c.prizes.map λx=>(x.distance,x.category,x.rank)).Nodup)))))))
def Course.numsB (c:Course):Bool:=(inR 0 16 c.faults.misses&&inR 0 16 c.faults.strays)&&((inR 0 4294967296 c.faults.window&&inR 0 4294967296 c.faults.residual)&&(inR 0 100000 c.faults.drift&&(inR 0 1125899906842624 c.fee&&inR 0 1099511627776 c.deadline)))
def Course.nums (c:Course):Bool:=c.numsA&&c.numsB
theorem c5l (l:List Distance):∃N,∀d∈l,Part.deepL d.route<N+1:=by
 induction l with
 |nil=>exact⟨0,by simp⟩
 | cons d l ih=>
   obtain⟨N,h⟩:=ih;refine⟨N+Part.deepL d.route,λx hx=>?_⟩;rcases p8.1 hx with rfl|hx
   . omega
   . have:=h x hx;omega
theorem c9K (c:Course)(hc:c.small):Mt 42 [c.d] λr=>r=bD c.nums:=by
 obtain⟨N,hN⟩:=c5l c.distances;refine En {} Tryz.func42 Tryz.ntmps42 λ_ _ _ _ _=>?_;conv=>whnf
 repeat'(first
  |(refine c2g [3] ?_;(conv=>whnf);refine c2f 4 (pc c.m) [.junk] N ?_;(conv=>whnf);refine⟨rfl,λx=>rfl,?_⟩;conv=>whnf)
  |(refine Z rfl ?_;conv=>whnf)
  |(intro hlq;(try simp only[SL] at hlq);conv=>whnf)
  |(refine⟨λh1 h2=>i64 (by have:=h1.1;have:=h1.2;have:=h2.1;have:=h2.2;omega) (by have:=h1.1;have:=h1.2;have:=h2.1;have:=h2.2;omega),?_⟩;conv=>whnf)
  |fail)
 repeat'((first|(intro hlq;try simp only[SL] at hlq)|refine Meets.k (c3n c.mats 104 [] [] Mat.good λx _=>c8K x) ?_|refine Meets.k (c3m c.legs 100 [] [mp1 c.m] (Leg.good c.m) λx _=>c8f c.m x) ?_|refine Meets.k (c9S c.legs hc.legs) ?_|refine Meets.k (b5U c.distances 98 [] [mp1 c.m, .ptr (a0E (pc c.m) [.junk] (N+1)) 0, .ptr [.fn 97 [] [mp1 c.m]] 0] (Distance.good c.m) λx hx=>c5C c.m x _ _ (hN x hx)) ?_|refine Meets.k (c3q c.waves 109 [] [] Wave.good λx _=>d5b x) ?_|refine Meets.k (c3o c.offences 101 [] [] Offence.good λx _=>c9O x) ?_|refine Meets.k (c3k c.categories 112 [] [] Category.good λx _=>c4d x) ?_|refine Meets.k (c3p c.prizes 102 [] [.ptr c.cells 0] (Prize.good (c.distances.length-1) (c.categories.length-1)) λx _=>d0j c x) ?_|refine Meets.k (c9T c.prizes hc.prizes) ?_|refine Meets.k (J4 0 16 [c.faults.misses,c.faults.strays]) ?_|refine Meets.k (J4 0 4294967296 [c.faults.window,c.faults.residual]) ?_|refine Meets.k (J4 0 100000 [c.faults.drift]) ?_|refine Meets.k (J4 0 1125899906842624 [c.fee]) ?_|refine Meets.k (J4 0 1099511627776 [c.deadline]) ?_|((refine Kh (λhb=>?_) λhb=>?_)<;>try simp only[BL] at hb)|refine K8 ?_)<;>refine Kw ?_)
 all_goals refine⟨d6 bD ?_⟩
 all_goals try simp only[F8,a2l,U3] at *
 all_goals (simp only[Course.nums,Course.numsA,Course.numsB, *];simp)
set_option maxHeartbeats 16000000
structure NumsOk (c:Course):Prop where
 mats:∀x∈c.mats,x.good=true
 legs:∀x∈c.legs,x.good c.m=true
 legsN:(c.legs.map λx=>(x.src,x.dst)).Nodup
 distances:∀x∈c.distances,x.good c.m=true
 waves:∀x∈c.waves,x.good=true
 offences:∀x∈c.offences,x.good=true
 categories:∀x∈c.categories,x.good=true
 prizes:∀x∈c.prizes,x.good (c.distances.length-1) (c.categories.length-1)=true
 prizesN:(c.prizes.map λx=>(x.distance,x.category,x.rank)).Nodup
 rest:c.numsB=true
theorem b9j (c:Course):c.nums=true↔NumsOk c:=by
 simp only[Course.nums,Course.numsA,f0,n7,j0];constructor
 . rintro⟨⟨h1,h2,h3,h4,h5,h6,h7,h8,h9⟩,h10⟩;exact⟨h1,h2,h3,h4,h5,h6,h7,h8,h9,h10⟩
 . rintro⟨h1,h2,h3,h4,h5,h6,h7,h8,h9,h10⟩;exact⟨⟨h1,h2,h3,h4,h5,h6,h7,h8,h9⟩,h10⟩
theorem b9k (x:Offence):x.good=true↔(inR 0 68719476736 x.time=true/\x.laps=0/\x.out=false)\/(x.time=0/\inR 1 64 x.laps=true/\x.out=false)\/(x.time=0/\x.laps=0/\x.out=true):=by
 have hz:x.laps=0->inR 1 64 x.laps=false:=λe=>by rw[e];rfl
 have hy:x.time=0->inR 0 68719476736 x.time=true:=λe=>by rw[e];rfl
 simp only[Offence.good];cases x.out<;>by_cases hl:x.laps=0<;>by_cases ht:x.time=0<;>simp_all
end Go.Proofs.YteillnfhkeebjaaGreatDoor.Dx
