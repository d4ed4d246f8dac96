/- Numbers in the reference: digit, Numeral, number, sixty, fraction. -/
import Derived.Test.YtaopegkpjhkooaaGreatDoorBo
set_option linter.all false
namespace Go.Proofs.YtaopegkpjhkooaaGreatDoor.Dx
open Go Go.RowKit Go.Proofs
set_option maxRecDepth 100000
set_option maxHeartbeats 8000000
def numN (s : List UInt8) : Nat := s.foldl (fun a b => 10 * a + (b.toNat - 48)) 0
theorem numN_snoc (s : List UInt8) (b : UInt8) : numN (s ++ [b]) = 10 * numN s + (b.toNat - 48) := by simp [numN, List.foldl_append]
theorem isDg_iff {b : UInt8} : isDg b = true ↔ 48 ≤ b.toNat ∧ b.toNat ≤ 57 := by
 simp only [isDg, Bool.and_eq_true, decide_eq_true_eq]; omega
theorem numN_lt : ∀ (n : Nat) (s : List UInt8), s.length = n → s.all isDg = true → numN s < 10 ^ n
 | 0, s, h, _ => by rw [List.eq_nil_of_length_eq_zero h]; decide
 | n + 1, s, h, hd => by
   rcases List.eq_nil_or_concat s with rfl | ⟨s, b, rfl⟩
   · cases h
   rw [List.concat_eq_append] at *
   rw [List.length_append, List.length_singleton] at h
   rw [List.all_append, Bool.and_eq_true] at hd
   have ih := numN_lt n s (by omega) hd.1
   have hb := isDg_iff.1 (by simpa using hd.2 : isDg b = true)
   rw [numN_snoc, Nat.pow_succ]
   omega
theorem numN_le {s : List UInt8} (hd : s.all isDg = true) (hl : s.length ≤ 18) : numN s < 1000000000000000000 := by
 have h := numN_lt _ s rfl hd
 have : 10 ^ s.length ≤ 10 ^ 18 := Nat.pow_le_pow_right (by omega) hl
 omega
/-- two digits below sixty: their number; else -1 -/
def sixN (s : List UInt8) : Int := match s with
 | [a, b] => if isDg a && (isDg b && decide ((a.toNat : Int) ≤ 53)) then (numN [a, b] : Nat) else -1
 | _ => -1
/-- the millionths that a text of at most six digits names; else -1 -/
def fracN (s : List UInt8) : Int := if decide (1 ≤ s.length) && (decide (s.length ≤ 6) && s.all isDg) then ((numN s * 10 ^ (6 - s.length) : Nat) : Int) else -1
end Go.Proofs.YtaopegkpjhkooaaGreatDoor.Dx
/- Cuts at a byte: the reference's cut; the shelf's strings.Cut. -/
namespace Go.Proofs.YtaopegkpjhkooaaGreatDoor.Dx
open Go Go.RowKit Go.Proofs
set_option maxRecDepth 100000
set_option maxHeartbeats 8000000
/-- what lies ahead of the first c, what lies behind it, whether there is one -/
def cutB (c : UInt8) (s : List UInt8) : List UInt8 × List UInt8 × Bool := (s.takeWhile (· != c), (s.dropWhile (· != c)).drop 1, s.any (· == c))
end Go.Proofs.YtaopegkpjhkooaaGreatDoor.Dx
/- A time's text: the plain function. -/
namespace Go.Proofs.YtaopegkpjhkooaaGreatDoor.Dx
open Go Go.RowKit Go.Proofs
set_option maxRecDepth 100000
set_option maxHeartbeats 8000000
/-- the seconds that the parts behind the first colon add -/
def moreN (colon : Bool) (rest : List UInt8) (t : Int) : Option Int :=
 if colon then
  if sixN (cutB 58 rest).1 < 0 then none
  else if (cutB 58 rest).2.2 then
   if sixN (cutB 58 rest).2.1 < 0 then none
   else some (60 * (60 * t + sixN (cutB 58 rest).1) + sixN (cutB 58 rest).2.1)
  else some (60 * t + sixN (cutB 58 rest).1)
 else some t
/-- a time without its sign, in millionths -/
def timeU (s : List UInt8) : Option Int :=
 let p := cutB 46 s
 let f := if p.2.2 then fracN p.2.1 else 0
 let q := cutB 58 p.1
 if numB q.1 = false ∨ (q.1.length : Int) > 13 ∨ f < 0 ∨ (q.2.2 = false ∧ p.2.2 = false) then none
 else match moreN q.2.2 q.2.1 (numN q.1) with
  | none => none
  | some t => if t > 1099511627776 ∨ 1000000 * t + f > 1099511627776 then none else some (1000000 * t + f)
/-- a time, in millionths -/
def timeN (s : List UInt8) : Option Int :=
 match s with
 | 45 :: r => match timeU r with
   | some v => if v = 0 then none else some (-v)
   | none => none
 | r => timeU r
def timeD (s : List UInt8) : D := match timeN s with
 | some v => .tup [iD v, .v (.int .i64 0)]
 | none => .tup [iD 0, .v (.int .i64 50)]
theorem sixN_lt (s : List UInt8) : -1 ≤ sixN s ∧ sixN s < 60 := by
 unfold sixN
 split
 · rename_i a b
   split
   · rename_i h
     simp only [Bool.and_eq_true, decide_eq_true_eq] at h
     have h1 := isDg_iff.1 h.1
     have h2 := isDg_iff.1 h.2.1
     have : numN [a, b] = 10 * (10 * 0 + (a.toNat - 48)) + (b.toNat - 48) := rfl
     omega
   · omega
 · omega
theorem numB_digits {s : List UInt8} (h : numB s = true) : s.all isDg = true ∧ s.length ≤ 18 := by
 simp only [numB, digitsB, Bool.and_eq_true, decide_eq_true_eq] at h
 exact ⟨by simp_all, by omega⟩
theorem timeN_neg (r : List UInt8) : timeN (45 :: r) = match timeU r with
 | some v => if v = 0 then none else some (-v)
 | none => none := rfl
theorem timeN_pos {s : List UInt8} (h : s.head? ≠ some 45) : timeN s = timeU s := by
 unfold timeN
 split
 · simp at h
 · rfl
/-- a time's sign, and the rest -/
def signS (s : List UInt8) : Int × List UInt8 := match s with | 45 :: r => (-1, r) | r => (1, r)
theorem signS_pos {s : List UInt8} (h : s.head? ≠ some 45) : signS s = (1, s) := by
 unfold signS
 split
 · simp at h
 · rfl
abbrev errD : D := .tup [iD 0, .v (.int .i64 50)]
def timeO (sg : Int) (o : Option Int) : D := match o with
 | some v => if sg < 0 ∧ v = 0 then errD else .tup [iD (sg * v), .v (.int .i64 0)]
 | none => errD
theorem timeD_sign (s : List UInt8) : timeD s = timeO (signS s).1 (timeU (signS s).2) := by
 unfold timeD timeO
 rcases s with _ | ⟨b, s⟩
 · rfl
 by_cases hb : b = 45
 · subst hb
   rw [timeN_neg, show signS (45 :: s) = (-1, s) from rfl]
   cases timeU s with
   | none => rfl
   | some v =>
     dsimp only
     by_cases h : v = 0
     · rw [if_pos h, if_pos ⟨by omega, h⟩]
     · rw [if_neg h, if_neg (fun e => h e.2), Int.neg_one_mul]
 · have h : (b :: s).head? ≠ some 45 := by simpa using hb
   rw [timeN_pos h, signS_pos h]
   cases timeU (b :: s) with
   | none => rfl
   | some v =>
     dsimp only
     rw [if_neg (by omega), Int.one_mul]
/-- a time from its parts -/
def timeV (num : Bool) (len f : Int) (p c : Bool) (m : Option Int) : Option Int :=
 if num = false ∨ len > 13 ∨ f < 0 ∨ (c = false ∧ p = false) then none
 else match m with
  | none => none
  | some t => if t > 1099511627776 ∨ 1000000 * t + f > 1099511627776 then none else some (1000000 * t + f)
theorem timeU_of {s w f a r : List UInt8} {p c : Bool} (hp : cutB 46 s = (w, f, p)) (hq : cutB 58 w = (a, r, c)) : timeU s = timeV (numB a) a.length (if p then fracN f else 0) p c (moreN c r (numN a)) := by
 simp only [timeU, hp, hq]
 rfl
theorem moreN_of {r b r2 : List UInt8} {c2 : Bool} (hr : cutB 58 r = (b, r2, c2)) (c : Bool) (t : Int) : moreN c r t = if c then (if sixN b < 0 then none else if c2 then if sixN r2 < 0 then none else some (60 * (60 * t + sixN b) + sixN r2) else some (60 * t + sixN b)) else some t := by
 simp only [moreN, hr]
end Go.Proofs.YtaopegkpjhkooaaGreatDoor.Dx
/- Small laws: sections that meet again; what is returned reads otherwise. -/
namespace Go.Proofs.YtaopegkpjhkooaaGreatDoor.Dx
open Go Go.RowKit Go.Proofs
set_option maxRecDepth 100000
set_option maxHeartbeats 8000000
theorem J_at2 {P : Program} {C : Cx} {st : SSt} {Q : Post} (n : Nat) {ops : Array Oper} {d : Bool} {y z : Code} (h : J P C (.seq (.seq (.region n ops d) y) z) Q st) : J P C (.seq (.seq (.region n ops d) y) z) Q st := h
theorem J_seq {P : Program} {C : Cx} {st : SSt} {x y : Code} {Q : Post} (h : J P C x (fun e st => match e with | .nrm => J P C y Q st | .ret => Q .ret st | .exit n => Q (.exit n) st | .pan d => Q (.pan d) st) st) : J P C (.seq x y) Q st := by
 refine ⟨fun γ V a W hr => wpIn_seq (Go.wpIn_mono (h.run γ V a W hr) fun e a W hq => ?_)⟩
 cases e with
 | normal => obtain ⟨γ, st, V, h1, h2⟩ := hq; exact h2.run γ V a W h1
 | ret => exact hq
 | exit n => exact hq
 | panic c => exact hq
 | goto l => exact hq.elim
 | outgrown => exact hq.elim
/-! scopes and labels -/
theorem stepR_scope {P : Program} {b : Frame} {a : Act} {k : List Item} {cs : List Frame} {w : World} {c : Code} : step P (lone (b.atR a (.code (.scope c) :: k)) cs w) = .next (lone (b.atR a (.code c :: .inScope c :: k)) cs w) :=
 step_lone_go (by simp [stepG, stepG.exec, Frame.atR])
theorem stepR_inScope {P : Program} {b : Frame} {a : Act} {k : List Item} {cs : List Frame} {w : World} {c : Code} : step P (lone (b.atR a (.inScope c :: k)) cs w) = .next (lone (b.atR a k) cs w) :=
 step_lone_go (by simp [stepG, stepG.exec, Frame.atR])
theorem wpIn_scope_straight {F : Fence} {n : Nat} {P : Program} {Q : Exit → Act → World → Prop} {a : Act} {w : World} {c : Code} (h : c.wpIn F n P (Exit.noGoto Q) a w) : (Code.scope c).wpIn F n P Q a w := by
 intro b k cs hro hb hr
 have h0 : (lone (b.atR a (.code (.scope c) :: k)) cs w).fenced P F := fenced_calm hb hr rfl
 obtain ⟨e, a₁, w₁, hq, harr⟩ := h b (.inScope c :: k) cs hro hb hr
 cases e with
 | normal => exact ⟨.normal, a₁, w₁, hq, .head h0 stepR_scope (StepsIn.trans harr (.one (fenced_calm hb hr rfl) stepR_inScope))⟩
 | exit id =>
   have hx : exitTo id (.inScope c :: k) = exitTo id k := by simp [exitTo]
   exact ⟨.exit id, a₁, w₁, hq, fun k' hk => .head h0 stepR_scope (harr.1 k' (by rw [hx]; exact hk)),
    fun hr' hk => let ⟨k₁, h1, h2⟩ := harr.2 hr' (by rw [hx]; exact hk); ⟨k₁, h1, .head h0 stepR_scope h2⟩⟩
 | goto l => exact hq.elim
 | ret => exact ⟨_, a₁, w₁, hq, .of_steps (.one h0 stepR_scope) harr⟩
 | panic ch => exact ⟨_, a₁, w₁, hq, .of_steps (.one h0 stepR_scope) harr⟩
 | outgrown => exact ⟨_, a₁, w₁, hq, .of_steps (.one h0 stepR_scope) harr⟩
theorem J_scope {P : Program} {C : Cx} {st : SSt} {x : Code} {Q : Post} (h : J P C x Q st) : J P C (.scope x) Q st := by
 refine ⟨fun γ V a W hr => wpIn_scope_straight (Go.wpIn_mono (h.run γ V a W hr) fun e a W hq => ?_)⟩
 cases e with
 | goto l => exact hq.elim
 | _ => exact hq
theorem J_label {P : Program} {C : Cx} {st : SSt} {l : Nat} {Q : Post} (h : Q .nrm st) : J P C (.label l) Q st :=
 ⟨fun γ V a W hr => wpIn_label ⟨γ, st, V, hr, h⟩⟩
end Go.Proofs.YtaopegkpjhkooaaGreatDoor.Dx
