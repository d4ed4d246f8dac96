/- Numbers in the reference: digit,Numeral,number,sixty,fraction. -/
import Derived.Test.YteillnfhkeebjaaGreatDoorTh
set_option linter.all false
namespace Go.Proofs.YteillnfhkeebjaaGreatDoor.Dx
open Go Go.RowKit Go.Proofs
set_option maxRecDepth 100000
set_option maxHeartbeats 8000000
def numN (s:List UInt8):Nat:=s.foldl (λa b=>10*a+(b.toNat-48)) 0
theorem a7a (s:List UInt8)(b:UInt8):numN (s++[b])=10*numN s+(b.toNat-48):=by simp[numN,List.foldl_append]
theorem isDg_iff {b:UInt8}:d9 b=true↔48<=b.toNat/\b.toNat<=57:=by
 simp only[d9,Bool.and_eq_true,decide_eq_true_eq];omega
theorem a4r:∀(n:Nat) (s:List UInt8),s.length=n->s.all d9=true->numN s<10^n
 |0,s,h,_=>by rw[List.eq_nil_of_length_eq_zero h];decide
 | n+1,s,h,hd=>by
   rcases List.eq_nil_or_concat s with rfl|⟨s,b,rfl⟩
   . cases h
   rw[List.concat_eq_append] at *
   rw[List.length_append,List.length_singleton] at h
   rw[List.all_append,Bool.and_eq_true] at hd
   have ih:=a4r n s (by omega) hd.1
   have hb:=isDg_iff.1 (by simpa using hd.2:d9 b=true)
   rw[a7a,Nat.pow_succ]
   omega
theorem b2k {s:List UInt8}(hd:s.all d9=true)(hl:s.length<=18):numN s<1000000000000000000:=by
 have h:=a4r _ s rfl hd
 have:10^s.length<=10^18:=Nat.pow_le_pow_right (by omega) hl
 omega
def r5 (s:List UInt8):Int:=match s with
 |[a,b]=>if d9 a&&(d9 b&&decide ((a.toNat:Int)<=53)) then(numN [a,b]:Nat) else-1
 |_=> -1
def H7 (s:List UInt8):Int:=if decide (1<=s.length)&&(decide (s.length<=6)&&s.all d9) then((numN s*10^(6-s.length):Nat):Int) else-1
end Go.Proofs.YteillnfhkeebjaaGreatDoor.Dx
/- Cuts at a byte: the reference's cut; the shelf's strings.Cut. -/
namespace Go.Proofs.YteillnfhkeebjaaGreatDoor.Dx
open Go Go.RowKit Go.Proofs
set_option maxRecDepth 100000
set_option maxHeartbeats 8000000
def n7 (c:UInt8)(s:List UInt8):List UInt8×List UInt8×Bool:=(s.takeWhile (· !=c),(s.dropWhile (· !=c)).drop 1,s.any (· ==c))
end Go.Proofs.YteillnfhkeebjaaGreatDoor.Dx
/- A time's text: the plain function. -/
namespace Go.Proofs.YteillnfhkeebjaaGreatDoor.Dx
open Go Go.RowKit Go.Proofs
set_option maxRecDepth 100000
set_option maxHeartbeats 8000000
def a0L (colon:Bool)(rest:List UInt8)(t:Int):Option Int:=
 if colon then
  if r5 (n7 58 rest).1<0 then none
  else if(n7 58 rest).2.2 then
   if r5 (n7 58 rest).2.1<0 then none
   else some (60*(60*t+r5 (n7 58 rest).1)+r5 (n7 58 rest).2.1)
  else some (60*t+r5 (n7 58 rest).1)
 else some t
def I7 (s:List UInt8):Option Int:=
 let p:=n7 46 s
 let f:=if p.2.2 then H7 p.2.1 else 0
 let q:=n7 58 p.1
 if p4 q.1=false\/(q.1.length:Int)>13\/f<0\/(q.2.2=false/\p.2.2=false) then none
 else match a0L q.2.2 q.2.1 (numN q.1) with
  |none=>none
  |some t=>if t>1099511627776\/1000000*t+f>1099511627776 then none else some (1000000*t+f)
def D3 (s:List UInt8):Option Int:=
 match s with
 | 45::r=>match I7 r with
   |some v=>if v=0 then none else some (-v)
   |none=>none
 |r=>I7 r
def a2R (s:List UInt8):D:=match D3 s with
 |some v=> .tup [iD v, .v (.int .i64 0)]
 |none=> .tup [iD 0, .v (.int .i64 50)]
theorem b3i (s:List UInt8): -1<=r5 s/\r5 s<60:=by
 unfold r5
 split
 . rename_i a b
   split
   . rename_i h
     simp only[Bool.and_eq_true,decide_eq_true_eq] at h
     have h1:=isDg_iff.1 h.1
     have h2:=isDg_iff.1 h.2.1
     have:numN [a,b]=10*(10*0+(a.toNat-48))+(b.toNat-48):=rfl
     omega
   . omega
 . omega
theorem a2r {s:List UInt8}(h:p4 s=true):s.all d9=true/\s.length<=18:=by
 simp only[p4,q8,Bool.and_eq_true,decide_eq_true_eq] at h
 exact⟨by simp_all,by omega⟩
theorem c3B (r:List UInt8):D3 (45::r)=match I7 r with
 |some v=>if v=0 then none else some (-v)
 |none=>none:=rfl
theorem c3C {s:List UInt8}(h:s.head?≠some 45):D3 s=I7 s:=by
 unfold D3
 split
 . simp at h
 . rfl
def R2 (s:List UInt8):Int×List UInt8:=match s with|45::r=>(-1,r)|r=>(1,r)
theorem b3g {s:List UInt8}(h:s.head?≠some 45):R2 s=(1,s):=by
 unfold R2
 split
 . simp at h
 . rfl
abbrev a6i:D:= .tup [iD 0, .v (.int .i64 50)]
def V6 (sg:Int)(o:Option Int):D:=match o with
 |some v=>if sg<0/\v=0 then a6i else .tup [iD (sg*v), .v (.int .i64 0)]
 |none=>a6i
theorem c3z (s:List UInt8):a2R s=V6 (R2 s).1 (I7 (R2 s).2):=by
 unfold a2R V6
 rcases s with _|⟨b,s⟩
 . rfl
 by_cases hb:b=45
 . subst hb
   rw[c3B,show R2 (45::s)=(-1,s) from rfl]
   cases I7 s with
   |none=>rfl
   | some v=>
     dsimp only
     by_cases h:v=0
     . rw[if_pos h,if_pos ⟨by omega,h⟩]
     . rw[if_neg h,if_neg (λe=>h e.2),Int.neg_one_mul]
 . have h:(b::s).head?≠some 45:=by simpa using hb
   rw[c3C h,b3g h]
   cases I7 (b::s) with
   |none=>rfl
   | some v=>
     dsimp only
     rw[if_neg (by omega),Int.one_mul]
def a2T (num:Bool)(len f:Int)(p c:Bool)(m:Option Int):Option Int:=
 if num=false\/len>13\/f<0\/(c=false/\p=false) then none
 else match m with
  |none=>none
  |some t=>if t>1099511627776\/1000000*t+f>1099511627776 then none else some (1000000*t+f)
theorem c3F {s w f a r:List UInt8}{p c:Bool}(hp:n7 46 s=(w,f,p))(hq:n7 58 w=(a,r,c)):I7 s=a2T (p4 a) a.length (if p then H7 f else 0) p c (a0L c r (numN a)):=by
 simp only[I7,hp,hq]
 rfl
theorem c0k {r b r2:List UInt8}{c2:Bool}(hr:n7 58 r=(b,r2,c2))(c:Bool)(t:Int):a0L c r t=if c then(if r5 b<0 then none else if c2 then if r5 r2<0 then none else some (60*(60*t+r5 b)+r5 r2) else some (60*t+r5 b)) else some t:=by
 simp only[a0L,hr]
end Go.Proofs.YteillnfhkeebjaaGreatDoor.Dx
/- Small laws: sections that meet again; what is returned reads otherwise. -/
namespace Go.Proofs.YteillnfhkeebjaaGreatDoor.Dx
open Go Go.RowKit Go.Proofs
set_option maxRecDepth 100000
set_option maxHeartbeats 8000000
theorem a0f {P:Program}{C:Cx}{st:SSt}{Q:p5}(n:Nat){ops:Array Oper}{d:Bool}{y z:Code}(h:J P C (.seq (.seq (.region n ops d) y) z) Q st):J P C (.seq (.seq (.region n ops d) y) z) Q st:=h
theorem a9a {P:Program}{C:Cx}{st:SSt}{x y:Code}{Q:p5}(h:J P C x (λe st=>match e with| .nrm=>J P C y Q st| .ret=>Q .ret st| .exit n=>Q (.exit n) st| .pan d=>Q (.pan d) st) st):J P C (.seq x y) Q st:=by
 refine⟨λγ V a W hr=>wpIn_seq (Go.wpIn_mono (h.run γ V a W hr) λe a W hq=>?_)⟩
 cases e with
 |normal=>obtain⟨γ,st,V,h1,h2⟩:=hq;exact h2.run γ V a W h1
 |ret=>exact hq
 |exit n=>exact hq
 |panic c=>exact hq
 |goto l=>exact hq.elim
 |outgrown=>exact hq.elim
theorem a1a {P:Program}{b:Frame}{a:Act}{k:List Go.Item}{cs:List Frame}{w:World}{c:Code}:step P (lone (b.atR a (.code (.scope c)::k)) cs w)= .next (lone (b.atR a (.code c:: .inScope c::k)) cs w):=
 step_lone_go (by simp[stepG,stepG.exec,Frame.atR])
theorem c2L {P:Program}{b:Frame}{a:Act}{k:List Go.Item}{cs:List Frame}{w:World}{c:Code}:step P (lone (b.atR a (.inScope c::k)) cs w)= .next (lone (b.atR a k) cs w):=
 step_lone_go (by simp[stepG,stepG.exec,Frame.atR])
theorem c4V {F:Fence}{n:Nat}{P:Program}{Q:Exit->Act->World->Prop}{a:Act}{w:World}{c:Code}(h:c.wpIn F n P (Exit.noGoto Q) a w):(Code.scope c).wpIn F n P Q a w:=by
 intro b k cs hro hb hr
 have h0:(lone (b.atR a (.code (.scope c)::k)) cs w).fenced P F:=fenced_calm hb hr rfl
 obtain⟨e,a₁,w₁,hq,harr⟩:=h b (.inScope c::k) cs hro hb hr
 cases e with
 |normal=>exact⟨.normal,a₁,w₁,hq, .head h0 a1a (StepsIn.trans harr (.one (fenced_calm hb hr rfl) c2L))⟩
 | exit id=>
   have hx:exitTo id (.inScope c::k)=exitTo id k:=by simp[exitTo]
   exact⟨.exit id,a₁,w₁,hq,λk' hk=> .head h0 a1a (harr.1 k' (by rw[hx];exact hk)),
    λhr' hk=>let ⟨k₁,h1,h2⟩:=harr.2 hr' (by rw[hx];exact hk);⟨k₁,h1, .head h0 a1a h2⟩⟩
 |goto l=>exact hq.elim
 |ret=>exact⟨_,a₁,w₁,hq, .of_steps (.one h0 a1a) harr⟩
 |panic ch=>exact⟨_,a₁,w₁,hq, .of_steps (.one h0 a1a) harr⟩
 |outgrown=>exact⟨_,a₁,w₁,hq, .of_steps (.one h0 a1a) harr⟩
theorem b4Q {P:Program}{C:Cx}{st:SSt}{x:Code}{Q:p5}(h:J P C x Q st):J P C (.scope x) Q st:=by
 refine⟨λγ V a W hr=>c4V (Go.wpIn_mono (h.run γ V a W hr) λe a W hq=>?_)⟩
 cases e with
 |goto l=>exact hq.elim
 |_=>exact hq
theorem b4O {P:Program}{C:Cx}{st:SSt}{l:Nat}{Q:p5}(h:Q .nrm st):J P C (.label l) Q st:=
 ⟨λγ V a W hr=>wpIn_label ⟨γ,st,V,hr,h⟩⟩
end Go.Proofs.YteillnfhkeebjaaGreatDoor.Dx
