/- Tokens as plain functions; a comment ahead of a token; offsets. -/
import Derived.Test.YtedjnaggkakphaaGreatDoorDp
set_option linter.all false
namespace Go.Proofs.YtedjnaggkakphaaGreatDoor.Dx
open Go Go.RowKit Go.Proofs
set_option maxRecDepth 100000
set_option maxHeartbeats 8000000
/-! tokens -/
def isLt (b : UInt8) : Bool := (decide (97 ≤ (b.toNat : Int)) && decide ((b.toNat : Int) ≤ 122)) || (decide (65 ≤ (b.toNat : Int)) && decide ((b.toNat : Int) ≤ 90))
/-- a byte within a word -/
def inB (b : UInt8) : Bool := isLt b || (isDg b || b == 95)
def hdDg : List UInt8 → Bool | [] => false | b :: _ => isDg b
def ptB (b : UInt8) (t : List UInt8) : Bool := (b == 58 || b == 46) && hdDg t
/-- the bytes of a run -/
def runN (p : Bool) : List UInt8 → Nat
 | [] => 0
 | b :: t => if inB b || (p && ptB b t) then runN p t + 1 else 0
def escB (b : UInt8) : Option UInt8 := if b = 34 then some 34 else if b = 92 then some 92 else if b = 110 then some 10 else none
/-- the contents of a quoted text whose first quote is gone, and its bytes -/
def quoN : List UInt8 → Option (List UInt8 × Nat)
 | [] => none
 | c :: t =>
   if c = 34 then some ([], 1)
   else if c < 32 ∨ c > 126 then none
   else if c = 92 then match t with
    | [] => none
    | d :: t => match escB d with
      | some x => match quoN t with
        | some (s, n) => some (x :: s, n + 2)
        | none => none
      | none => none
   else match quoN t with
    | some (s, n) => some (c :: s, n + 1)
    | none => none
def sgB (b : UInt8) : Bool := [123, 125, 40, 41, 91, 93, 59, 44, 61, 60, 62].contains b
def blB (b : UInt8) : Bool := [32, 9, 10, 13].contains b
def dblB (c : UInt8) (t : List UInt8) : Bool := match t with | [] => false | d :: _ => ((c == 60 || c == 62) && d == 61) || (c == 46 && d == 46)
def numT (s : List UInt8) (n : Nat) : Nat × List UInt8 × Nat := if intgB s then (2, s, n) else if (timeN s).isSome then (3, s, n) else (0, [], n)
/-- the token at the beginning of bytes: kind, text, bytes -/
def readT : List UInt8 → Nat × List UInt8 × Nat
 | [] => (0, [], 1)
 | c :: t =>
   if isLt c then (1, (c :: t).take (runN false t + 1), runN false t + 1)
   else if isDg c || (c == 45 && hdDg t) then numT ((c :: t).take (runN true t + 1)) (runN true t + 1)
   else if c = 34 then match quoN t with
    | some (s, n) => (4, s, n + 1)
    | none => (0, [], 1)
   else if dblB c t then (5, (c :: t).take 2, 2)
   else if sgB c then (5, [c], 1)
   else (0, [], 1)
/-- the bytes up to a line's end -/
def skipC : List UInt8 → Nat
 | [] => 0
 | b :: t => if b = 10 then 0 else skipC t + 1
/-- a step of the scanner: 7 stands for blanks and comments -/
def stepT : List UInt8 → Nat × List UInt8 × Nat
 | [] => (7, [], 0)
 | c :: t => if blB c then (7, [], 1) else if c = 35 then (7, [], skipC t + 1) else readT (c :: t)
structure Tk where
 kind : Nat
 text : List UInt8
 at_ : Nat
deriving DecidableEq
def isTk (k : Nat) : Bool := decide (1 ≤ k ∧ k ≤ 5)
def toksF : Nat → List UInt8 → Nat → List Tk
 | 0, _, _ => []
 | _ + 1, [], a => [⟨6, [], a⟩]
 | k + 1, c :: t, a =>
   let x := stepT (c :: t)
   let r := toksF k ((c :: t).drop x.2.2) (a + x.2.2)
   if isTk x.1 then ⟨x.1, x.2.1, a⟩ :: r else r
def badsF : Nat → List UInt8 → Nat → Int → Nat → List Nat
 | 0, _, _, _, _ => []
 | _ + 1, [], _, _, _ => []
 | k + 1, c :: t, a, en, nb =>
   let x := stepT (c :: t)
   if x.1 = 0 then
    if (a : Int) ≠ en ∧ nb < 64 then a :: badsF k ((c :: t).drop x.2.2) (a + x.2.2) (a + x.2.2 : Nat) (nb + 1)
    else badsF k ((c :: t).drop x.2.2) (a + x.2.2) (a + x.2.2 : Nat) nb
   else badsF k ((c :: t).drop x.2.2) (a + x.2.2) en nb
def toks (r : List UInt8) (a : Nat) : List Tk := toksF (r.length + 1) r a
def bads (r : List UInt8) (a : Nat) (en : Int) (nb : Nat) : List Nat := badsF (r.length + 1) r a en nb
theorem runN_le (p : Bool) : ∀ t : List UInt8, runN p t ≤ t.length
 | [] => Nat.le_refl _
 | b :: t => by
   have := runN_le p t
   unfold runN
   split <;> simp only [List.length_cons] <;> omega
theorem skipC_le : ∀ t : List UInt8, skipC t ≤ t.length
 | [] => Nat.le_refl _
 | b :: t => by
   have := skipC_le t
   unfold skipC
   split <;> simp only [List.length_cons] <;> omega
theorem quoN_le : ∀ (k : Nat) (t : List UInt8), t.length ≤ k → ∀ s n, quoN t = some (s, n) → 1 ≤ n ∧ n ≤ t.length
 | k, [], _, s, n, h => by cases h
 | 0, c :: t, hk, _, _, _ => by simp at hk
 | k + 1, c :: t, hk, s, n, h => by
   unfold quoN at h
   simp only [List.length_cons] at hk ⊢
   split at h
   · cases h; omega
   split at h
   · cases h
   split at h
   · match t, h, hk with
     | [], h, _ => cases h
     | d :: t, h, hk =>
       simp only [List.length_cons] at hk ⊢
       simp only at h
       split at h
       · split at h
         · rename_i s' n' hq
           cases h
           have := quoN_le k t (by omega) _ _ hq
           omega
         · cases h
       · cases h
   · split at h
     · rename_i s' n' hq
       cases h
       have := quoN_le k t (by omega) _ _ hq
       omega
     · cases h
theorem numT_n (s : List UInt8) (n : Nat) : (numT s n).2.2 = n := by
 unfold numT; split <;> (try split) <;> rfl
theorem readT_le (c : UInt8) (t : List UInt8) : 1 ≤ (readT (c :: t)).2.2 ∧ (readT (c :: t)).2.2 ≤ t.length + 1 := by
 have h1 := runN_le false t
 have h2 := runN_le true t
 simp only [readT]
 split
 · exact ⟨by simp, by simp; omega⟩
 split
 · rw [numT_n]; omega
 split
 · split
   · rename_i s n hq
     have := quoN_le _ t (Nat.le_refl _) _ _ hq
     dsimp only; omega
   · dsimp only; omega
 split
 · rename_i hd
   cases t with
   | nil => cases hd
   | cons d t => simp only [List.length_cons]; omega
 split <;> (dsimp only; omega)
theorem stepT_le (c : UInt8) (t : List UInt8) : 1 ≤ (stepT (c :: t)).2.2 ∧ (stepT (c :: t)).2.2 ≤ t.length + 1 := by
 have h1 := skipC_le t
 simp only [stepT]
 split
 · dsimp only; omega
 split
 · dsimp only; omega
 · exact readT_le c t
theorem toksF_fuel : ∀ (k j : Nat) (r : List UInt8) (a : Nat), r.length < k → r.length < j → toksF k r a = toksF j r a
 | 0, _, _, _, h, _ => by omega
 | _, 0, _, _, _, h => by omega
 | _ + 1, _ + 1, [], _, _, _ => rfl
 | k + 1, j + 1, c :: t, a, hk, hj => by
   have := stepT_le c t
   simp only [List.length_cons] at hk hj
   simp only [toksF]
   rw [toksF_fuel k j _ _ (by rw [List.length_drop, List.length_cons]; omega) (by rw [List.length_drop, List.length_cons]; omega)]
theorem badsF_fuel : ∀ (k j : Nat) (r : List UInt8) (a : Nat) (en : Int) (nb : Nat), r.length < k → r.length < j → badsF k r a en nb = badsF j r a en nb
 | 0, _, _, _, _, _, h, _ => by omega
 | _, 0, _, _, _, _, _, h => by omega
 | _ + 1, _ + 1, [], _, _, _, _, _ => rfl
 | k + 1, j + 1, c :: t, a, en, nb, hk, hj => by
   have := stepT_le c t
   simp only [List.length_cons] at hk hj
   have ih := fun a en nb => badsF_fuel k j ((c :: t).drop (stepT (c :: t)).2.2) a en nb (by rw [List.length_drop, List.length_cons]; omega) (by rw [List.length_drop, List.length_cons]; omega)
   simp only [badsF, ih]
theorem toks_nil (a : Nat) : toks [] a = [⟨6, [], a⟩] := rfl
theorem bads_nil (a : Nat) (en : Int) (nb : Nat) : bads [] a en nb = [] := rfl
theorem toks_cons (c : UInt8) (t : List UInt8) (a : Nat) : toks (c :: t) a = if isTk (stepT (c :: t)).1 then ⟨(stepT (c :: t)).1, (stepT (c :: t)).2.1, a⟩ :: toks ((c :: t).drop (stepT (c :: t)).2.2) (a + (stepT (c :: t)).2.2) else toks ((c :: t).drop (stepT (c :: t)).2.2) (a + (stepT (c :: t)).2.2) := by
 have := stepT_le c t
 unfold toks
 conv => lhs; unfold toksF
 dsimp only
 rw [toksF_fuel (c :: t).length _ _ _ (by rw [List.length_drop, List.length_cons]; omega) (Nat.lt_succ_self _)]
theorem bads_cons (c : UInt8) (t : List UInt8) (a : Nat) (en : Int) (nb : Nat) : bads (c :: t) a en nb =
 if (stepT (c :: t)).1 = 0 then
  if (a : Int) ≠ en ∧ nb < 64 then a :: bads ((c :: t).drop (stepT (c :: t)).2.2) (a + (stepT (c :: t)).2.2) (a + (stepT (c :: t)).2.2 : Nat) (nb + 1)
  else bads ((c :: t).drop (stepT (c :: t)).2.2) (a + (stepT (c :: t)).2.2) (a + (stepT (c :: t)).2.2 : Nat) nb
 else bads ((c :: t).drop (stepT (c :: t)).2.2) (a + (stepT (c :: t)).2.2) en nb := by
 have := stepT_le c t
 have ih := fun a en nb => badsF_fuel (c :: t).length (((c :: t).drop (stepT (c :: t)).2.2).length + 1) ((c :: t).drop (stepT (c :: t)).2.2) a en nb (by rw [List.length_drop, List.length_cons]; omega) (Nat.lt_succ_self _)
 unfold bads
 conv => lhs; unfold badsF
 simp only [ih]
/-! a comment ahead of a token -/
/-- kinds and texts alone -/
def Tk.bare (x : Tk) : Nat × List UInt8 := (x.kind, x.text)
/-! offsets -/
end Go.Proofs.YtedjnaggkakphaaGreatDoor.Dx
/- Times as tokens; the text of a time denotes it. -/
namespace Go.Proofs.YtedjnaggkakphaaGreatDoor.Dx
open Go Go.RowKit Go.Proofs
set_option maxRecDepth 100000
set_option maxHeartbeats 8000000
/-! times as tokens -/
theorem cutB_true {c : UInt8} : ∀ {s w r : List UInt8}, cutB c s = (w, r, true) → s = w ++ c :: r ∧ c ∉ w
 | [], w, r, h => by simp [cutB] at h
 | b :: s, w, r, h => by
   by_cases hb : b = c
   · subst hb
     simp [cutB] at h
     obtain ⟨rfl, rfl⟩ := h
     simp
   · have hb' : (b != c) = true := by simpa using hb
     have hb2 : (b == c) = false := by simpa using hb
     have ih := @cutB_true c s (s.takeWhile (· != c)) r
     simp only [cutB, List.takeWhile_cons, List.dropWhile_cons, hb', if_true, List.any_cons, hb2, Bool.false_or, Prod.mk.injEq] at h ih
     obtain ⟨rfl, h2, h3⟩ := h
     have := ih ⟨trivial, h2, h3⟩
     exact ⟨by rw [List.cons_append, ← this.1], by simp only [List.mem_cons, not_or]; exact ⟨Ne.symm hb, this.2⟩⟩
theorem cutB_false {c : UInt8} : ∀ {s w r : List UInt8}, cutB c s = (w, r, false) → s = w ∧ r = [] ∧ c ∉ w
 | [], w, r, h => by simp [cutB] at h; simp [h]
 | b :: s, w, r, h => by
   by_cases hb : b = c
   · subst hb
     simp [cutB] at h
   · have hb' : (b != c) = true := by simpa using hb
     have hb2 : (b == c) = false := by simpa using hb
     have ih := @cutB_false c s (s.takeWhile (· != c)) r
     simp only [cutB, List.takeWhile_cons, List.dropWhile_cons, hb', if_true, List.any_cons, hb2, Bool.false_or, Prod.mk.injEq] at h ih
     obtain ⟨rfl, h2, h3⟩ := h
     have := ih ⟨trivial, h2, h3⟩
     exact ⟨by rw [← this.1], this.2.1, by simp only [List.mem_cons, not_or]; exact ⟨Ne.symm hb, this.2.2⟩⟩
theorem dg_in {b : UInt8} (h : isDg b = true) : inB b = true := by simp [inB, h]
theorem run_dg (y : List UInt8) : ∀ {x : List UInt8}, x.all isDg = true → runN true (x ++ y) = x.length + runN true y
 | [], _ => by simp
 | b :: x, h => by
   simp only [List.all_cons, Bool.and_eq_true] at h
   rw [List.cons_append, runN, dg_in h.1, Bool.true_or, if_pos rfl, run_dg y h.2, List.length_cons]; omega
theorem run_col {y : List UInt8} (h : hdDg y = true) : runN true (58 :: y) = 1 + runN true y := by
 rw [runN, ptB, h]; simp; omega
theorem run_pt {y : List UInt8} (h : hdDg y = true) : runN true (46 :: y) = 1 + runN true y := by
 rw [runN, ptB, h]; simp; omega
theorem hd_app {x : List UInt8} (y : List UInt8) (h : x.all isDg = true) (hx : x ≠ []) : hdDg (x ++ y) = true := by
 cases x with
 | nil => exact absurd rfl hx
 | cons b x => simp only [List.all_cons, Bool.and_eq_true] at h; exact h.1
theorem numB_dg {s : List UInt8} (h : numB s = true) : s.all isDg = true ∧ s ≠ [] := by
 simp only [numB, digitsB, Bool.and_eq_true, decide_eq_true_eq] at h
 refine ⟨h.1.2.2, ?_⟩
 rintro rfl
 have := h.1.1; simp at this
theorem fracN_dg {s : List UInt8} (h : ¬ fracN s < 0) : s.all isDg = true ∧ s ≠ [] := by
 unfold fracN at h
 split at h
 · rename_i h1
   simp only [Bool.and_eq_true, decide_eq_true_eq] at h1
   refine ⟨h1.2.2, ?_⟩
   rintro rfl
   have := h1.1; simp at this
 · exact absurd (by decide) h
theorem sixN_dg {s : List UInt8} (h : ¬ sixN s < 0) : s.all isDg = true ∧ s ≠ [] := by
 unfold sixN at h
 split at h
 · split at h
   · rename_i h1
     simp only [Bool.and_eq_true] at h1
     simp [h1.1, h1.2.1]
   · exact absurd (by decide) h
 · exact absurd (by decide) h
/-- the shape of a time without its sign -/
structure Shape (u : List UInt8) where
 a : List UInt8
 y : List UInt8
 eq : u = a ++ y
 dg : a.all isDg = true
 ne : a ≠ []
 more : y ≠ []
 run : ∀ z, runN true z = 0 → runN true (y ++ z) = y.length
 bad : ∃ b ∈ u, isDg b = false
theorem timeU_shape {u : List UInt8} {v : Int} (h : timeU u = some v) : Nonempty (Shape u) := by
 rcases hp : cutB 46 u with ⟨w, f, p⟩
 rcases hq : cutB 58 w with ⟨a, r, c⟩
 rcases hr : cutB 58 r with ⟨b, r2, c2⟩
 simp only [timeU, hp, hq, moreN, hr] at h
 by_cases h1 : numB a = false ∨ (a.length : Int) > 13 ∨ (if p = true then fracN f else 0) < 0 ∨ (c = false ∧ p = false)
 · rw [if_pos h1] at h; cases h
 rw [if_neg h1] at h
 simp only [not_or, Bool.not_eq_false] at h1
 obtain ⟨hA, _, hF, hC⟩ := h1
 have ha := numB_dg hA
 -- the part behind the point
 obtain ⟨F, hu, hFr⟩ : ∃ F, u = w ++ F ∧ ((p = true ∧ ∃ f, F = 46 :: f ∧ f.all isDg = true ∧ f ≠ []) ∨ (p = false ∧ F = [])) := by
  cases p with
  | true =>
    have := fracN_dg (s := f) (by simpa using hF)
    exact ⟨46 :: f, (cutB_true hp).1, .inl ⟨rfl, f, rfl, this.1, this.2⟩⟩
  | false => exact ⟨[], by rw [List.append_nil]; exact (cutB_false hp).1, .inr ⟨rfl, rfl⟩⟩
 have runF : ∀ z, runN true z = 0 → runN true (F ++ z) = F.length := by
  intro z hz
  rcases hFr with ⟨_, f, rfl, h1, h2⟩ | ⟨_, rfl⟩
  · rw [List.cons_append, run_pt (hd_app z h1 h2), run_dg z h1, hz, List.length_cons]; omega
  · simpa using hz
 cases c with
 | false =>
   obtain ⟨rfl, rfl, _⟩ := cutB_false hq
   rcases hFr with ⟨_, f, rfl, h1, h2⟩ | ⟨rfl, _⟩
   · exact ⟨⟨w, 46 :: f, hu, ha.1, ha.2, by simp, runF, 46, by rw [hu]; simp, by decide⟩⟩
   · simp at hC
 | true =>
   obtain ⟨rfl, hnw⟩ := cutB_true hq
   simp only [if_true] at h
   split at h
   · cases h
   rename_i tt ht
   split at ht
   · cases ht
   rename_i hb
   have hb := sixN_dg hb
   obtain ⟨R, hR, runR, hdR⟩ : ∃ R, r = R ∧ (∀ z, runN true z = 0 → runN true (R ++ (F ++ z)) = R.length + F.length) ∧ ∀ z, hdDg (R ++ z) = true := by
    refine ⟨r, rfl, fun z hz => ?_, fun z => ?_⟩
    · cases c2 with
      | false =>
        obtain ⟨rfl, rfl, _⟩ := cutB_false hr
        rw [run_dg _ hb.1, runF z hz]
      | true =>
        obtain ⟨rfl, _⟩ := cutB_true hr
        simp only [if_true] at ht
        split at ht
        · cases ht
        rename_i hc
        have hc := sixN_dg hc
        rw [List.append_assoc, run_dg _ hb.1, List.cons_append, run_col (hd_app _ hc.1 hc.2), run_dg _ hc.1, runF z hz, List.length_append, List.length_cons]; omega
    · cases c2 with
      | false =>
        obtain ⟨rfl, rfl, _⟩ := cutB_false hr
        exact hd_app _ hb.1 hb.2
      | true =>
        obtain ⟨rfl, _⟩ := cutB_true hr
        rw [List.append_assoc]
        exact hd_app _ hb.1 hb.2
   subst hR
   refine ⟨⟨a, 58 :: (r ++ F), by rw [hu]; simp, ha.1, ha.2, by simp, fun z hz => ?_, 58, by rw [hu]; simp, by decide⟩⟩
   rw [List.cons_append, List.append_assoc, run_col (hdR _), runR z hz, List.length_cons, List.length_append]; omega
theorem not_num {u : List UInt8} (h : ∃ b ∈ u, isDg b = false) : numB u = false := by
 cases hn : numB u with
 | false => rfl
 | true =>
   obtain ⟨b, hb, h2⟩ := h
   have := List.all_eq_true.1 (numB_dg hn).1 b hb
   rw [this] at h2; cases h2
theorem lt_dg : ∀ b : UInt8, isDg b = true → isLt b = false := by
 intro b h
 have := isDg_iff.1 h
 simp only [isLt, Bool.or_eq_false_iff, Bool.and_eq_false_iff, decide_eq_false_iff_not]; omega
/-- a time is a token by itself -/
theorem readT_time {s : List UInt8} {v : Int} (h : timeN s = some v) {z : List UInt8} (hz : runN true z = 0) : readT (s ++ z) = (3, s, s.length) := by
 have main : ∀ u, ∀ S : Shape u, runN true (u ++ z) = u.length ∧ hdDg (u ++ z) = true := by
  intro u S
  rw [S.eq, List.append_assoc]
  exact ⟨by rw [run_dg _ S.dg, S.run z hz, List.length_append], hd_app _ S.dg S.ne⟩
 unfold timeN at h
 split at h
 · rename_i u
   split at h
   · rename_i v' hv
     obtain ⟨S⟩ := timeU_shape hv
     obtain ⟨h1, h2⟩ := main u S
     have hN : timeN (45 :: u) = some v := by rw [timeN, hv]; exact h
     have hI : intgB (45 :: u) = false := by rw [intgB, not_num S.bad]; rfl
     rw [List.cons_append, readT, if_neg (by decide), h2, h1, show ((45 : UInt8) == 45) = true from rfl, Bool.true_and, Bool.or_true, if_pos rfl]
     rw [show (45 :: (u ++ z)).take (u.length + 1) = 45 :: u by simp, numT, hI, hN]
     rfl
   · cases h
 · obtain ⟨S⟩ := timeU_shape h
   obtain ⟨h1, h2⟩ := main s S
   have hN : timeN s = some v := by
    unfold timeN
    split
    · simp_all
    · exact h
   have hI : intgB s = false := by
    unfold intgB
    split
    · simp_all
    · exact not_num S.bad
   cases s with
   | nil =>
     exfalso
     have h3 := S.eq
     have h4 := S.ne
     exact h4 (List.append_eq_nil_iff.1 h3.symm).1
   | cons b s =>
     have hb : isDg b = true := h2
     rw [List.cons_append] at h1 ⊢
     rw [runN, dg_in hb, Bool.true_or, if_pos rfl, List.length_cons] at h1
     rw [readT, if_neg (by rw [lt_dg b hb]; decide), hb, Bool.true_or, if_pos rfl, h1]
     rw [show (b :: (s ++ z)).take (s.length + 1) = b :: s by simp, numT, hI, hN]
     rfl
theorem hd_ne {s : List UInt8} {v : Int} (h : timeN s = some v) : ∃ b t, s = b :: t ∧ blB b = false ∧ b ≠ 35 := by
 have main : ∀ u, ∀ _ : Shape u, ∃ b t, u = b :: t ∧ isDg b = true := by
  intro u S
  have := S.eq
  have h2 := S.ne
  have h3 := S.dg
  match ha : S.a with
  | [] => exact absurd ha h2
  | b :: a =>
    rw [ha] at this h3
    simp only [List.all_cons, Bool.and_eq_true] at h3
    exact ⟨b, a ++ S.y, this, h3.1⟩
 have dgs : ∀ b, isDg b = true → blB b = false ∧ b ≠ 35 := by
  intro b hb
  have := isDg_iff.1 hb
  constructor
  · simp only [blB, List.contains_eq_mem, List.mem_cons, List.not_mem_nil, or_false, decide_eq_false_iff_not, not_or]
    refine ⟨?_, ?_, ?_, ?_⟩ <;> (rintro rfl; revert hb; decide)
  · rintro rfl; revert hb; decide
 unfold timeN at h
 split at h
 · exact ⟨_, _, rfl, by decide, by decide⟩
 · obtain ⟨S⟩ := timeU_shape h
   obtain ⟨b, t, rfl, hb⟩ := main s S
   exact ⟨b, t, rfl, dgs b hb⟩
/-! the text of a time denotes it -/
theorem num_zeros (w : List UInt8) : ∀ k, numN (w ++ List.replicate k 48) = numN w * 10 ^ k
 | 0 => by simp
 | k + 1 => by
   rw [List.replicate_succ', ← List.append_assoc, numN_snoc, num_zeros w k, Nat.pow_succ, ← Nat.mul_assoc (numN w)]
   have : (48 : UInt8).toNat = 48 := rfl
   omega
end Go.Proofs.YtedjnaggkakphaaGreatDoor.Dx
