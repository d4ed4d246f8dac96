/- Numbers in the reference: digit,Numeral,number,sixty,fraction. -/
import Derived.Test.YtaopegkpjhkooaaGreatDoorDo
set_option linter.all false
namespace Go.Proofs.YtaopegkpjhkooaaGreatDoor.Dx
open Go Go.RowKit Go.Proofs
set_option maxRecDepth 100000
set_option maxHeartbeats 8000000
def numN (s : List UInt8) : Nat:=s.foldl (λ a b=>10 * a + (b.toNat - 48)) 0
theorem a5A (s : List UInt8) (b : UInt8) : numN (s ++ [b]) = 10 * numN s + (b.toNat - 48):=by simp [numN,List.foldl_append]
theorem isDg_iff {b : UInt8} : g7 b = true ↔ 48 <= b.toNat /\ b.toNat <= 57:=by
 simp only [g7,Bool.and_eq_true,decide_eq_true_eq]; omega
theorem a3m : ∀ (n : Nat) (s : List UInt8),s.length = n -> s.all g7 = true -> numN s < 10 ^ n
 | 0,s,h,_=>by rw [List.eq_nil_of_length_eq_zero h]; decide
 | n + 1,s,h,hd=>by
   rcases List.eq_nil_or_concat s with rfl | ⟨s,b,rfl⟩
   . cases h
   rw [List.concat_eq_append] at *
   rw [List.length_append,List.length_singleton] at h
   rw [List.all_append,Bool.and_eq_true] at hd
   have ih:=a3m n s (by omega) hd.1
   have hb:=isDg_iff.1 (by simpa using hd.2 : g7 b = true)
   rw [a5A,Nat.pow_succ]
   omega
theorem a9Q {s : List UInt8} (hd : s.all g7 = true) (hl : s.length <= 18) : numN s < 1000000000000000000:=by
 have h:=a3m _ s rfl hd
 have : 10 ^ s.length <= 10 ^ 18:=Nat.pow_le_pow_right (by omega) hl
 omega
def r8 (s : List UInt8) : Int:=match s with
 | [a,b]=>if g7 a && (g7 b && decide ((a.toNat : Int) <= 53)) then (numN [a,b] : Nat) else -1
 | _=>-1
def H9 (s : List UInt8) : Int:=if decide (1 <= s.length) && (decide (s.length <= 6) && s.all g7) then ((numN s * 10 ^ (6 - s.length) : Nat) : Int) else -1
end Go.Proofs.YtaopegkpjhkooaaGreatDoor.Dx
/- Cuts at a byte: the reference's cut; the shelf's strings.Cut. -/
namespace Go.Proofs.YtaopegkpjhkooaaGreatDoor.Dx
open Go Go.RowKit Go.Proofs
set_option maxRecDepth 100000
set_option maxHeartbeats 8000000
def n8 (c : UInt8) (s : List UInt8) : List UInt8 × List UInt8 × Bool:=(s.takeWhile (· != c),(s.dropWhile (· != c)).drop 1,s.any (· == c))
end Go.Proofs.YtaopegkpjhkooaaGreatDoor.Dx
/- A time's text: the plain function. -/
namespace Go.Proofs.YtaopegkpjhkooaaGreatDoor.Dx
open Go Go.RowKit Go.Proofs
set_option maxRecDepth 100000
set_option maxHeartbeats 8000000
def a0B (colon : Bool) (rest : List UInt8) (t : Int) : Option Int :=
 if colon then
  if r8 (n8 58 rest).1 < 0 then none
  else if (n8 58 rest).2.2 then
   if r8 (n8 58 rest).2.1 < 0 then none
   else some (60 * (60 * t + r8 (n8 58 rest).1) + r8 (n8 58 rest).2.1)
  else some (60 * t + r8 (n8 58 rest).1)
 else some t
def I7 (s : List UInt8) : Option Int :=
 let p:=n8 46 s
 let f:=if p.2.2 then H9 p.2.1 else 0
 let q:=n8 58 p.1
 if o7 q.1 = false \/ (q.1.length : Int) > 13 \/ f < 0 \/ (q.2.2 = false /\ p.2.2 = false) then none
 else match a0B q.2.2 q.2.1 (numN q.1) with
  | none=>none
  | some t=>if t > 1099511627776 \/ 1000000 * t + f > 1099511627776 then none else some (1000000 * t + f)
def x9 (s : List UInt8) : Option Int :=
 match s with
 | 45 :: r=>match I7 r with
   | some v=>if v = 0 then none else some (-v)
   | none=>none
 | r=>I7 r
def Y6 (s : List UInt8) : D:=match x9 s with
 | some v=>.tup [iD v,.v (.int .i64 0)]
 | none=>.tup [iD 0,.v (.int .i64 50)]
theorem b0U (s : List UInt8) : -1 <= r8 s /\ r8 s < 60:=by
 unfold r8
 split
 . rename_i a b
   split
   . rename_i h
     simp only [Bool.and_eq_true,decide_eq_true_eq] at h
     have h1:=isDg_iff.1 h.1
     have h2:=isDg_iff.1 h.2.1
     have : numN [a,b] = 10 * (10 * 0 + (a.toNat - 48)) + (b.toNat - 48):=rfl
     omega
   . omega
 . omega
theorem a1H {s : List UInt8} (h : o7 s = true) : s.all g7 = true /\ s.length <= 18:=by
 simp only [o7,r5,Bool.and_eq_true,decide_eq_true_eq] at h
 exact ⟨by simp_all,by omega⟩
theorem b9K (r : List UInt8) : x9 (45 :: r) = match I7 r with
 | some v=>if v = 0 then none else some (-v)
 | none=>none:=rfl
theorem b9L {s : List UInt8} (h : s.head? ≠ some 45) : x9 s = I7 s:=by
 unfold x9
 split
 . simp at h
 . rfl
def P5 (s : List UInt8) : Int × List UInt8:=match s with | 45 :: r=>(-1,r) | r=>(1,r)
theorem b0T {s : List UInt8} (h : s.head? ≠ some 45) : P5 s = (1,s):=by
 unfold P5
 split
 . simp at h
 . rfl
abbrev a4K : D:=.tup [iD 0,.v (.int .i64 50)]
def T3 (sg : Int) (o : Option Int) : D:=match o with
 | some v=>if sg < 0 /\ v = 0 then a4K else .tup [iD (sg * v),.v (.int .i64 0)]
 | none=>a4K
theorem b9J (s : List UInt8) : Y6 s = T3 (P5 s).1 (I7 (P5 s).2):=by
 unfold Y6 T3
 rcases s with _ | ⟨b,s⟩
 . rfl
 by_cases hb : b = 45
 . subst hb
   rw [b9K,show P5 (45 :: s) = (-1,s) from rfl]
   cases I7 s with
   | none=>rfl
   | some v =>
     dsimp only
     by_cases h : v = 0
     . rw [if_pos h,if_pos ⟨by omega,h⟩]
     . rw [if_neg h,if_neg (λ e=>h e.2),Int.neg_one_mul]
 . have h : (b :: s).head? ≠ some 45:=by simpa using hb
   rw [b9L h,b0T h]
   cases I7 (b :: s) with
   | none=>rfl
   | some v =>
     dsimp only
     rw [if_neg (by omega),Int.one_mul]
def a2d (num : Bool) (len f : Int) (p c : Bool) (m : Option Int) : Option Int :=
 if num = false \/ len > 13 \/ f < 0 \/ (c = false /\ p = false) then none
 else match m with
  | none=>none
  | some t=>if t > 1099511627776 \/ 1000000 * t + f > 1099511627776 then none else some (1000000 * t + f)
theorem b9N {s w f a r : List UInt8} {p c : Bool} (hp : n8 46 s = (w,f,p)) (hq : n8 58 w = (a,r,c)) : I7 s = a2d (o7 a) a.length (if p then H9 f else 0) p c (a0B c r (numN a)):=by
 simp only [I7,hp,hq]
 rfl
theorem b6y {r b r2 : List UInt8} {c2 : Bool} (hr : n8 58 r = (b,r2,c2)) (c : Bool) (t : Int) : a0B c r t = if c then (if r8 b < 0 then none else if c2 then if r8 r2 < 0 then none else some (60 * (60 * t + r8 b) + r8 r2) else some (60 * t + r8 b)) else some t:=by
 simp only [a0B,hr]
end Go.Proofs.YtaopegkpjhkooaaGreatDoor.Dx
/- Small laws: sections that meet again; what is returned reads otherwise. -/
namespace Go.Proofs.YtaopegkpjhkooaaGreatDoor.Dx
open Go Go.RowKit Go.Proofs
set_option maxRecDepth 100000
set_option maxHeartbeats 8000000
theorem M9 {P : Program} {C : Cx} {st : SSt} {Q : o6} (n : Nat) {ops : Array Oper} {d : Bool} {y z : Code} (h : J P C (.seq (.seq (.region n ops d) y) z) Q st) : J P C (.seq (.seq (.region n ops d) y) z) Q st:=h
theorem a4f {P : Program} {C : Cx} {st : SSt} {x y : Code} {Q : o6} (h : J P C x (λ e st=>match e with | .nrm=>J P C y Q st | .ret=>Q .ret st | .exit n=>Q (.exit n) st | .pan d=>Q (.pan d) st) st) : J P C (.seq x y) Q st:=by
 refine ⟨λ γ V a W hr=>wpIn_seq (Go.wpIn_mono (h.run γ V a W hr) λ e a W hq=>?_)⟩
 cases e with
 | normal=>obtain ⟨γ,st,V,h1,h2⟩:=hq; exact h2.run γ V a W h1
 | ret=>exact hq
 | exit n=>exact hq
 | panic c=>exact hq
 | goto l=>exact hq.elim
 | outgrown=>exact hq.elim
theorem a0J {P : Program} {b : Frame} {a : Act} {k : List Item} {cs : List Frame} {w : World} {c : Code} : step P (lone (b.atR a (.code (.scope c) :: k)) cs w) = .next (lone (b.atR a (.code c :: .inScope c :: k)) cs w) :=
 step_lone_go (by simp [stepG,stepG.exec,Frame.atR])
theorem b9b {P : Program} {b : Frame} {a : Act} {k : List Item} {cs : List Frame} {w : World} {c : Code} : step P (lone (b.atR a (.inScope c :: k)) cs w) = .next (lone (b.atR a k) cs w) :=
 step_lone_go (by simp [stepG,stepG.exec,Frame.atR])
theorem c1b {F : Fence} {n : Nat} {P : Program} {Q : Exit -> Act -> World -> Prop} {a : Act} {w : World} {c : Code} (h : c.wpIn F n P (Exit.noGoto Q) a w) : (Code.scope c).wpIn F n P Q a w:=by
 intro b k cs hro hb hr
 have h0 : (lone (b.atR a (.code (.scope c) :: k)) cs w).fenced P F:=fenced_calm hb hr rfl
 obtain ⟨e,a₁,w₁,hq,harr⟩:=h b (.inScope c :: k) cs hro hb hr
 cases e with
 | normal=>exact ⟨.normal,a₁,w₁,hq,.head h0 a0J (StepsIn.trans harr (.one (fenced_calm hb hr rfl) b9b))⟩
 | exit id =>
   have hx : exitTo id (.inScope c :: k) = exitTo id k:=by simp [exitTo]
   exact ⟨.exit id,a₁,w₁,hq,λ k' hk=>.head h0 a0J (harr.1 k' (by rw [hx]; exact hk)),
    λ hr' hk=>let ⟨k₁,h1,h2⟩:=harr.2 hr' (by rw [hx]; exact hk); ⟨k₁,h1,.head h0 a0J h2⟩⟩
 | goto l=>exact hq.elim
 | ret=>exact ⟨_,a₁,w₁,hq,.of_steps (.one h0 a0J) harr⟩
 | panic ch=>exact ⟨_,a₁,w₁,hq,.of_steps (.one h0 a0J) harr⟩
 | outgrown=>exact ⟨_,a₁,w₁,hq,.of_steps (.one h0 a0J) harr⟩
theorem b2j {P : Program} {C : Cx} {st : SSt} {x : Code} {Q : o6} (h : J P C x Q st) : J P C (.scope x) Q st:=by
 refine ⟨λ γ V a W hr=>c1b (Go.wpIn_mono (h.run γ V a W hr) λ e a W hq=>?_)⟩
 cases e with
 | goto l=>exact hq.elim
 | _=>exact hq
theorem b2f {P : Program} {C : Cx} {st : SSt} {l : Nat} {Q : o6} (h : Q .nrm st) : J P C (.label l) Q st :=
 ⟨λ γ V a W hr=>wpIn_label ⟨γ,st,V,hr,h⟩⟩
end Go.Proofs.YtaopegkpjhkooaaGreatDoor.Dx
