/- Numbers in the reference: digit,Numeral,number,sixty,fraction. -/
import Derived.Test.YtaopegkpjhkooaaGreatDoorFo
set_option linter.all false
namespace Go.Proofs.YtaopegkpjhkooaaGreatDoor.Dx
open Go Go.RowKit Go.Proofs
set_option maxRecDepth 100000
set_option maxHeartbeats 8000000
theorem c0y (b:UInt8):Meets Tryz.prog 144 [.v (.int .u8 (b.toNat:Int))] λd=>d=bD (d9 b):=by
 refine enter tok {} Tryz.func144 rfl (by kernel_rfl) Tryz.ntmps144 (by simp) λB0 W0 V0 lent g0=>?_
 refine Kw ?_
 repeat'((first|(intro hlq;try simp only[SL] at hlq)|refine K9 ?_|((refine Kh (λhb=>?_) λhb=>?_)<;>try simp only[BL] at hb)|refine K8 ?_)<;>refine Kw ?_)
 all_goals
  refine⟨congrArg bD ?_⟩
  first
   |(simp_all [d9];done)
   |(simp only[d9];rw[decide_eq_false (by omega)];rfl)
def numN (s:List UInt8):Nat:=s.foldl (λa b=>10*a+(b.toNat-48)) 0
theorem a5J (s:List UInt8)(b:UInt8):numN (s++[b])=10*numN s+(b.toNat-48):=by simp[numN,List.foldl_append]
theorem isDg_iff {b:UInt8}:d9 b=true↔48<=b.toNat/\b.toNat<=57:=by
 simp only[d9,Bool.and_eq_true,decide_eq_true_eq];omega
theorem a5I:∀(n:Nat) (s:List UInt8),s.length=n->s.all d9=true->numN s<10^n
 |0,s,h,_=>by rw[List.eq_nil_of_length_eq_zero h];decide
 | n+1,s,h,hd=>by
   rcases List.eq_nil_or_concat s with rfl|⟨s,b,rfl⟩
   . cases h
   rw[List.concat_eq_append] at *
   rw[List.length_append,List.length_singleton] at h
   rw[List.all_append,Bool.and_eq_true] at hd
   have ih:=a5I n s (by omega) hd.1
   have hb:=isDg_iff.1 (by simpa using hd.2:d9 b=true)
   rw[a5J,Nat.pow_succ]
   omega
theorem b2c {s:List UInt8}(hd:s.all d9=true)(hl:s.length<=18):numN s<1000000000000000000:=by
 have h:=a5I _ s rfl hd
 have:10^s.length<=10^18:=Nat.pow_le_pow_right (by omega) hl
 omega
def z7 (s:List UInt8):Int:=match s with
 |[a,b]=>if d9 a&&(d9 b&&decide ((a.toNat:Int)<=53)) then(numN [a,b]:Nat) else-1
 |_=> -1
def K6 (s:List UInt8):Int:=if decide (1<=s.length)&&(decide (s.length<=6)&&s.all d9) then((numN s*10^(6-s.length):Nat):Int) else-1
end Go.Proofs.YtaopegkpjhkooaaGreatDoor.Dx
/- Cuts at a byte: the reference's cut; the shelf's strings.Cut. -/
namespace Go.Proofs.YtaopegkpjhkooaaGreatDoor.Dx
open Go Go.RowKit Go.Proofs
set_option maxRecDepth 100000
set_option maxHeartbeats 8000000
def r7 (c:UInt8)(s:List UInt8):List UInt8×List UInt8×Bool:=(s.takeWhile (· !=c),(s.dropWhile (· !=c)).drop 1,s.any (· ==c))
end Go.Proofs.YtaopegkpjhkooaaGreatDoor.Dx
/- A time's text: the plain function. -/
namespace Go.Proofs.YtaopegkpjhkooaaGreatDoor.Dx
open Go Go.RowKit Go.Proofs
set_option maxRecDepth 100000
set_option maxHeartbeats 8000000
def Z2 (colon:Bool)(rest:List UInt8)(t:Int):Option Int:=
 if colon then
  if z7 (r7 58 rest).1<0 then none
  else if(r7 58 rest).2.2 then
   if z7 (r7 58 rest).2.1<0 then none
   else some (60*(60*t+z7 (r7 58 rest).1)+z7 (r7 58 rest).2.1)
  else some (60*t+z7 (r7 58 rest).1)
 else some t
def J5 (s:List UInt8):Option Int:=
 let p:=r7 46 s
 let f:=if p.2.2 then K6 p.2.1 else 0
 let q:=r7 58 p.1
 if w7 q.1=false\/(q.1.length:Int)>13\/f<0\/(q.2.2=false/\p.2.2=false) then none
 else match Z2 q.2.2 q.2.1 (numN q.1) with
  |none=>none
  |some t=>if t>1099511627776\/1000000*t+f>1099511627776 then none else some (1000000*t+f)
def B9 (s:List UInt8):Option Int:=
 match s with
 | 45::r=>match J5 r with
   |some v=>if v=0 then none else some (-v)
   |none=>none
 |r=>J5 r
def a1J (s:List UInt8):D:=match B9 s with
 |some v=> .tup [iD v, .v (.int .i64 0)]
 |none=> .tup [iD 0, .v (.int .i64 50)]
theorem b3e (s:List UInt8): -1<=z7 s/\z7 s<60:=by
 unfold z7
 split
 . rename_i a b
   split
   . rename_i h
     simp only[Bool.and_eq_true,decide_eq_true_eq] at h
     have h1:=isDg_iff.1 h.1
     have h2:=isDg_iff.1 h.2.1
     have:numN [a,b]=10*(10*0+(a.toNat-48))+(b.toNat-48):=rfl
     omega
   . omega
 . omega
theorem a3T {s:List UInt8}(h:w7 s=true):s.all d9=true/\s.length<=18:=by
 simp only[w7,A0,Bool.and_eq_true,decide_eq_true_eq] at h
 exact⟨by simp_all,by omega⟩
theorem c3e (r:List UInt8):B9 (45::r)=match J5 r with
 |some v=>if v=0 then none else some (-v)
 |none=>none:=rfl
theorem c3f {s:List UInt8}(h:s.head?≠some 45):B9 s=J5 s:=by
 unfold B9
 split
 . simp at h
 . rfl
def a0c (s:List UInt8):Int×List UInt8:=match s with|45::r=>(-1,r)|r=>(1,r)
theorem b3d {s:List UInt8}(h:s.head?≠some 45):a0c s=(1,s):=by
 unfold a0c
 split
 . simp at h
 . rfl
abbrev a7c:D:= .tup [iD 0, .v (.int .i64 50)]
def a0I (sg:Int)(o:Option Int):D:=match o with
 |some v=>if sg<0/\v=0 then a7c else .tup [iD (sg*v), .v (.int .i64 0)]
 |none=>a7c
theorem c3d (s:List UInt8):a1J s=a0I (a0c s).1 (J5 (a0c s).2):=by
 unfold a1J a0I
 rcases s with _|⟨b,s⟩
 . rfl
 by_cases hb:b=45
 . subst hb
   rw[c3e,show a0c (45::s)=(-1,s) from rfl]
   cases J5 s with
   |none=>rfl
   | some v=>
     dsimp only
     by_cases h:v=0
     . rw[if_pos h,if_pos ⟨by omega,h⟩]
     . rw[if_neg h,if_neg (λe=>h e.2),Int.neg_one_mul]
 . have h:(b::s).head?≠some 45:=by simpa using hb
   rw[c3f h,b3d h]
   cases J5 (b::s) with
   |none=>rfl
   | some v=>
     dsimp only
     rw[if_neg (by omega),Int.one_mul]
def a4r (num:Bool)(len f:Int)(p c:Bool)(m:Option Int):Option Int:=
 if num=false\/len>13\/f<0\/(c=false/\p=false) then none
 else match m with
  |none=>none
  |some t=>if t>1099511627776\/1000000*t+f>1099511627776 then none else some (1000000*t+f)
theorem c3j {s w f a r:List UInt8}{p c:Bool}(hp:r7 46 s=(w,f,p))(hq:r7 58 w=(a,r,c)):J5 s=a4r (w7 a) a.length (if p then K6 f else 0) p c (Z2 c r (numN a)):=by
 simp only[J5,hp,hq]
 rfl
theorem b9i {r b r2:List UInt8}{c2:Bool}(hr:r7 58 r=(b,r2,c2))(c:Bool)(t:Int):Z2 c r t=if c then(if z7 b<0 then none else if c2 then if z7 r2<0 then none else some (60*(60*t+z7 b)+z7 r2) else some (60*t+z7 b)) else some t:=by
 simp only[Z2,hr]
end Go.Proofs.YtaopegkpjhkooaaGreatDoor.Dx
/- Small laws: sections that meet again; what is returned reads otherwise. -/
namespace Go.Proofs.YtaopegkpjhkooaaGreatDoor.Dx
open Go Go.RowKit Go.Proofs
set_option maxRecDepth 100000
set_option maxHeartbeats 8000000
theorem q8 {P:Program}{C:Cx}{st:SSt}{Q:y8}(n:Nat){ops:Array Oper}{d:Bool}{y z:Code}(h:J P C (.seq (.seq (.region n ops d) y) z) Q st):J P C (.seq (.seq (.region n ops d) y) z) Q st:=h
theorem a9v {P:Program}{C:Cx}{st:SSt}{x y:Code}{Q:y8}(h:J P C x (λe st=>match e with| .nrm=>J P C y Q st| .ret=>Q .ret st| .exit n=>Q (.exit n) st| .pan d=>Q (.pan d) st) st):J P C (.seq x y) Q st:=by
 refine⟨λγ V a W hr=>wpIn_seq (Go.wpIn_mono (h.run γ V a W hr) λe a W hq=>?_)⟩
 cases e with
 |normal=>obtain⟨γ,st,V,h1,h2⟩:=hq;exact h2.run γ V a W h1
 |ret=>exact hq
 |exit n=>exact hq
 |panic c=>exact hq
 |goto l=>exact hq.elim
 |outgrown=>exact hq.elim
theorem a2L {P:Program}{b:Frame}{a:Act}{k:List Item}{cs:List Frame}{w:World}{c:Code}:step P (lone (b.atR a (.code (.scope c)::k)) cs w)= .next (lone (b.atR a (.code c:: .inScope c::k)) cs w):=
 step_lone_go (by simp[stepG,stepG.exec,Frame.atR])
theorem c2g {P:Program}{b:Frame}{a:Act}{k:List Item}{cs:List Frame}{w:World}{c:Code}:step P (lone (b.atR a (.inScope c::k)) cs w)= .next (lone (b.atR a k) cs w):=
 step_lone_go (by simp[stepG,stepG.exec,Frame.atR])
theorem c4A {F:Fence}{n:Nat}{P:Program}{Q:Exit->Act->World->Prop}{a:Act}{w:World}{c:Code}(h:c.wpIn F n P (Exit.noGoto Q) a w):(Code.scope c).wpIn F n P Q a w:=by
 intro b k cs hro hb hr
 have h0:(lone (b.atR a (.code (.scope c)::k)) cs w).fenced P F:=fenced_calm hb hr rfl
 obtain⟨e,a₁,w₁,hq,harr⟩:=h b (.inScope c::k) cs hro hb hr
 cases e with
 |normal=>exact⟨.normal,a₁,w₁,hq, .head h0 a2L (StepsIn.trans harr (.one (fenced_calm hb hr rfl) c2g))⟩
 | exit id=>
   have hx:exitTo id (.inScope c::k)=exitTo id k:=by simp[exitTo]
   exact⟨.exit id,a₁,w₁,hq,λk' hk=> .head h0 a2L (harr.1 k' (by rw[hx];exact hk)),
    λhr' hk=>let ⟨k₁,h1,h2⟩:=harr.2 hr' (by rw[hx];exact hk);⟨k₁,h1, .head h0 a2L h2⟩⟩
 |goto l=>exact hq.elim
 |ret=>exact⟨_,a₁,w₁,hq, .of_steps (.one h0 a2L) harr⟩
 |panic ch=>exact⟨_,a₁,w₁,hq, .of_steps (.one h0 a2L) harr⟩
 |outgrown=>exact⟨_,a₁,w₁,hq, .of_steps (.one h0 a2L) harr⟩
theorem b4E {P:Program}{C:Cx}{st:SSt}{x:Code}{Q:y8}(h:J P C x Q st):J P C (.scope x) Q st:=by
 refine⟨λγ V a W hr=>c4A (Go.wpIn_mono (h.run γ V a W hr) λe a W hq=>?_)⟩
 cases e with
 |goto l=>exact hq.elim
 |_=>exact hq
theorem b4B {P:Program}{C:Cx}{st:SSt}{l:Nat}{Q:y8}(h:Q .nrm st):J P C (.label l) Q st:=
 ⟨λγ V a W hr=>wpIn_label ⟨γ,st,V,hr,h⟩⟩
end Go.Proofs.YtaopegkpjhkooaaGreatDoor.Dx
