/- Tokens as plain functions; a comment ahead of a token; offsets. -/
import Derived.Test.YtedjnaggkakphaaGreatDoorLb
set_option linter.all false
namespace Go.Proofs.YtedjnaggkakphaaGreatDoor.Dx
open Go Go.RowKit Go.Proofs
set_option linter.all false
set_option maxRecDepth 100000
set_option maxHeartbeats 8000000

/-! tokens -/
def isLt (b : UInt8) : Bool := (decide (97 ≤ (b.toNat : Int)) && decide ((b.toNat : Int) ≤ 122)) || (decide (65 ≤ (b.toNat : Int)) && decide ((b.toNat : Int) ≤ 90))
/-- a byte within a word -/
def inB (b : UInt8) : Bool := isLt b || (isDg b || b == 95)
def hdDg : List UInt8 → Bool | [] => false | b :: _ => isDg b
def ptB (b : UInt8) (t : List UInt8) : Bool := (b == 58 || b == 46) && hdDg t
/-- the bytes of a run -/
def runN (p : Bool) : List UInt8 → Nat
  | [] => 0
  | b :: t => if inB b || (p && ptB b t) then runN p t + 1 else 0
def escB (b : UInt8) : Option UInt8 := if b = 34 then some 34 else if b = 92 then some 92 else if b = 110 then some 10 else none
/-- the contents of a quoted text whose first quote is gone, and its bytes -/
def quoN : List UInt8 → Option (List UInt8 × Nat)
  | [] => none
  | c :: t =>
    if c = 34 then some ([], 1)
    else if c < 32 ∨ c > 126 then none
    else if c = 92 then match t with
      | [] => none
      | d :: t => match escB d with
        | some x => match quoN t with
          | some (s, n) => some (x :: s, n + 2)
          | none => none
        | none => none
    else match quoN t with
      | some (s, n) => some (c :: s, n + 1)
      | none => none
def sgB (b : UInt8) : Bool := [123, 125, 40, 41, 91, 93, 59, 44, 61, 60, 62].contains b
def blB (b : UInt8) : Bool := [32, 9, 10, 13].contains b
def dblB (c : UInt8) (t : List UInt8) : Bool := match t with | [] => false | d :: _ => ((c == 60 || c == 62) && d == 61) || (c == 46 && d == 46)
def numT (s : List UInt8) (n : Nat) : Nat × List UInt8 × Nat := if intgB s then (2, s, n) else if (timeN s).isSome then (3, s, n) else (0, [], n)
/-- the token at the beginning of bytes: kind, text, bytes -/
def readT : List UInt8 → Nat × List UInt8 × Nat
  | [] => (0, [], 1)
  | c :: t =>
    if isLt c then (1, (c :: t).take (runN false t + 1), runN false t + 1)
    else if isDg c || (c == 45 && hdDg t) then numT ((c :: t).take (runN true t + 1)) (runN true t + 1)
    else if c = 34 then match quoN t with
      | some (s, n) => (4, s, n + 1)
      | none => (0, [], 1)
    else if dblB c t then (5, (c :: t).take 2, 2)
    else if sgB c then (5, [c], 1)
    else (0, [], 1)
/-- the bytes up to a line's end -/
def skipC : List UInt8 → Nat
  | [] => 0
  | b :: t => if b = 10 then 0 else skipC t + 1
/-- a step of the scanner: 7 stands for blanks and comments -/
def stepT : List UInt8 → Nat × List UInt8 × Nat
  | [] => (7, [], 0)
  | c :: t => if blB c then (7, [], 1) else if c = 35 then (7, [], skipC t + 1) else readT (c :: t)
structure Tk where
  kind : Nat
  text : List UInt8
  at_ : Nat
deriving DecidableEq
def isTk (k : Nat) : Bool := decide (1 ≤ k ∧ k ≤ 5)
def toksF : Nat → List UInt8 → Nat → List Tk
  | 0, _, _ => []
  | _ + 1, [], a => [⟨6, [], a⟩]
  | k + 1, c :: t, a =>
    let x := stepT (c :: t)
    let r := toksF k ((c :: t).drop x.2.2) (a + x.2.2)
    if isTk x.1 then ⟨x.1, x.2.1, a⟩ :: r else r
def badsF : Nat → List UInt8 → Nat → Int → Nat → List Nat
  | 0, _, _, _, _ => []
  | _ + 1, [], _, _, _ => []
  | k + 1, c :: t, a, en, nb =>
    let x := stepT (c :: t)
    if x.1 = 0 then
      if (a : Int) ≠ en ∧ nb < 64 then a :: badsF k ((c :: t).drop x.2.2) (a + x.2.2) (a + x.2.2 : Nat) (nb + 1)
      else badsF k ((c :: t).drop x.2.2) (a + x.2.2) (a + x.2.2 : Nat) nb
    else badsF k ((c :: t).drop x.2.2) (a + x.2.2) en nb
def toks (r : List UInt8) (a : Nat) : List Tk := toksF (r.length + 1) r a
def bads (r : List UInt8) (a : Nat) (en : Int) (nb : Nat) : List Nat := badsF (r.length + 1) r a en nb

theorem runN_le (p : Bool) : ∀ t : List UInt8, runN p t ≤ t.length
  | [] => Nat.le_refl _
  | b :: t => by
    have := runN_le p t
    unfold runN
    split <;> simp only [List.length_cons] <;> omega
theorem skipC_le : ∀ t : List UInt8, skipC t ≤ t.length
  | [] => Nat.le_refl _
  | b :: t => by
    have := skipC_le t
    unfold skipC
    split <;> simp only [List.length_cons] <;> omega
theorem quoN_le : ∀ (k : Nat) (t : List UInt8), t.length ≤ k → ∀ s n, quoN t = some (s, n) → 1 ≤ n ∧ n ≤ t.length
  | k, [], _, s, n, h => by cases h
  | 0, c :: t, hk, _, _, _ => by simp at hk
  | k + 1, c :: t, hk, s, n, h => by
    unfold quoN at h
    simp only [List.length_cons] at hk ⊢
    split at h
    · cases h; omega
    split at h
    · cases h
    split at h
    · match t, h, hk with
      | [], h, _ => cases h
      | d :: t, h, hk =>
        simp only [List.length_cons] at hk ⊢
        simp only at h
        split at h
        · split at h
          · rename_i s' n' hq
            cases h
            have := quoN_le k t (by omega) _ _ hq
            omega
          · cases h
        · cases h
    · split at h
      · rename_i s' n' hq
        cases h
        have := quoN_le k t (by omega) _ _ hq
        omega
      · cases h
theorem numT_n (s : List UInt8) (n : Nat) : (numT s n).2.2 = n := by
  unfold numT; split <;> (try split) <;> rfl
theorem readT_le (c : UInt8) (t : List UInt8) : 1 ≤ (readT (c :: t)).2.2 ∧ (readT (c :: t)).2.2 ≤ t.length + 1 := by
  have h1 := runN_le false t
  have h2 := runN_le true t
  simp only [readT]
  split
  · exact ⟨by simp, by simp; omega⟩
  split
  · rw [numT_n]; omega
  split
  · split
    · rename_i s n hq
      have := quoN_le _ t (Nat.le_refl _) _ _ hq
      dsimp only; omega
    · dsimp only; omega
  split
  · rename_i hd
    cases t with
    | nil => cases hd
    | cons d t => simp only [List.length_cons]; omega
  split <;> (dsimp only; omega)
theorem stepT_le (c : UInt8) (t : List UInt8) : 1 ≤ (stepT (c :: t)).2.2 ∧ (stepT (c :: t)).2.2 ≤ t.length + 1 := by
  have h1 := skipC_le t
  simp only [stepT]
  split
  · dsimp only; omega
  split
  · dsimp only; omega
  · exact readT_le c t

theorem toksF_fuel : ∀ (k j : Nat) (r : List UInt8) (a : Nat), r.length < k → r.length < j → toksF k r a = toksF j r a
  | 0, _, _, _, h, _ => by omega
  | _, 0, _, _, _, h => by omega
  | _ + 1, _ + 1, [], _, _, _ => rfl
  | k + 1, j + 1, c :: t, a, hk, hj => by
    have := stepT_le c t
    simp only [List.length_cons] at hk hj
    simp only [toksF]
    rw [toksF_fuel k j _ _ (by rw [List.length_drop, List.length_cons]; omega) (by rw [List.length_drop, List.length_cons]; omega)]
theorem badsF_fuel : ∀ (k j : Nat) (r : List UInt8) (a : Nat) (en : Int) (nb : Nat), r.length < k → r.length < j → badsF k r a en nb = badsF j r a en nb
  | 0, _, _, _, _, _, h, _ => by omega
  | _, 0, _, _, _, _, _, h => by omega
  | _ + 1, _ + 1, [], _, _, _, _, _ => rfl
  | k + 1, j + 1, c :: t, a, en, nb, hk, hj => by
    have := stepT_le c t
    simp only [List.length_cons] at hk hj
    have ih := fun a en nb => badsF_fuel k j ((c :: t).drop (stepT (c :: t)).2.2) a en nb (by rw [List.length_drop, List.length_cons]; omega) (by rw [List.length_drop, List.length_cons]; omega)
    simp only [badsF, ih]
theorem toks_nil (a : Nat) : toks [] a = [⟨6, [], a⟩] := rfl
theorem bads_nil (a : Nat) (en : Int) (nb : Nat) : bads [] a en nb = [] := rfl
theorem toks_cons (c : UInt8) (t : List UInt8) (a : Nat) : toks (c :: t) a = if isTk (stepT (c :: t)).1 then ⟨(stepT (c :: t)).1, (stepT (c :: t)).2.1, a⟩ :: toks ((c :: t).drop (stepT (c :: t)).2.2) (a + (stepT (c :: t)).2.2) else toks ((c :: t).drop (stepT (c :: t)).2.2) (a + (stepT (c :: t)).2.2) := by
  have := stepT_le c t
  unfold toks
  conv => lhs; unfold toksF
  dsimp only
  rw [toksF_fuel (c :: t).length _ _ _ (by rw [List.length_drop, List.length_cons]; omega) (Nat.lt_succ_self _)]
theorem bads_cons (c : UInt8) (t : List UInt8) (a : Nat) (en : Int) (nb : Nat) : bads (c :: t) a en nb =
    if (stepT (c :: t)).1 = 0 then
      if (a : Int) ≠ en ∧ nb < 64 then a :: bads ((c :: t).drop (stepT (c :: t)).2.2) (a + (stepT (c :: t)).2.2) (a + (stepT (c :: t)).2.2 : Nat) (nb + 1)
      else bads ((c :: t).drop (stepT (c :: t)).2.2) (a + (stepT (c :: t)).2.2) (a + (stepT (c :: t)).2.2 : Nat) nb
    else bads ((c :: t).drop (stepT (c :: t)).2.2) (a + (stepT (c :: t)).2.2) en nb := by
  have := stepT_le c t
  have ih := fun a en nb => badsF_fuel (c :: t).length (((c :: t).drop (stepT (c :: t)).2.2).length + 1) ((c :: t).drop (stepT (c :: t)).2.2) a en nb (by rw [List.length_drop, List.length_cons]; omega) (Nat.lt_succ_self _)
  unfold bads
  conv => lhs; unfold badsF
  simp only [ih]
/-! a comment ahead of a token -/
/-- nothing that could go on with what stands before -/
def calm (w : List UInt8) : Prop := ∃ t, w = 35 :: t ∧ ∃ u v, t = u ++ 10 :: v ∧ 34 ∉ u ∧ 10 ∉ u
theorem runN_cut (p : Bool) (v : List UInt8) {w : List UInt8} (hw : calm w) : ∀ u : List UInt8, runN p (u ++ v) ≤ u.length → runN p (u ++ w) = runN p (u ++ v)
  | [], h => by
    obtain ⟨t, rfl, _⟩ := hw
    have : runN p v = 0 := by simpa using h
    simp only [List.nil_append, this]
    cases p <;> rfl
  | b :: u, h => by
    simp only [List.cons_append, runN] at h ⊢
    have ht : inB b = false → p = true → runN p (b :: (u ++ v)) ≤ u.length + 1 → ptB b (u ++ w) = ptB b (u ++ v) := by
      intro hb hp h
      cases u with
      | cons d u => rfl
      | nil =>
        obtain ⟨t, rfl, _⟩ := hw
        unfold ptB
        by_cases hc : (b == 58 || b == 46) = true
        · simp only [hc, Bool.true_and, List.nil_append]
          show false = hdDg v
          cases v with
          | nil => rfl
          | cons d v =>
            cases hd : isDg d
            · exact hd.symm
            · exfalso
              simp only [runN, hb, hp, ptB, hc, hdDg, hd, List.nil_append, Bool.and_self, Bool.or_true, if_true, inB, Bool.true_or, List.length_nil, Bool.and_true, Bool.true_and] at h
              omega
        · simp only [Bool.not_eq_true] at hc
          simp only [hc, Bool.false_and]
    by_cases hb : inB b = true
    · simp only [hb, Bool.true_or, if_true] at h ⊢
      rw [runN_cut p v hw u (by simp only [List.length_cons] at h; omega)]
    · simp only [Bool.not_eq_true] at hb
      cases p with
      | false => simp only [hb, Bool.false_and, Bool.or_self]; rfl
      | true =>
        rw [ht hb rfl (by simpa only [runN, List.length_cons] using h)]
        by_cases hc : (inB b || (true && ptB b (u ++ v))) = true
        · rw [if_pos hc, if_pos hc]
          rw [if_pos hc] at h
          rw [runN_cut true v hw u (by simp only [List.length_cons] at h; omega)]
        · rw [if_neg hc, if_neg hc]
/-- a quoted text that reaches the comment is none -/
theorem quoN_no : ∀ (k : Nat) (u v : List UInt8), u.length ≤ k → 34 ∉ u → quoN (u ++ 10 :: v) = none
  | _, [], v, _, _ => by unfold quoN; rfl
  | 0, c :: u, v, h, _ => by simp at h
  | k + 1, c :: u, v, hk, h => by
    simp only [List.length_cons] at hk
    simp only [List.mem_cons, not_or] at h
    rw [List.cons_append]
    unfold quoN
    rw [if_neg (Ne.symm h.1)]
    split
    · rfl
    split
    · cases u with
      | nil => rfl
      | cons d u =>
        simp only [List.mem_cons, not_or, List.length_cons] at h hk
        simp only [List.cons_append]
        rw [quoN_no k u v (by omega) h.2.2]
        split <;> rfl
    · rw [quoN_no k u v (by omega) h.2]
theorem quoN_cut (v : List UInt8) {w : List UInt8} (hw : calm w) : ∀ (k : Nat) (u : List UInt8), u.length ≤ k → (∀ s n, quoN (u ++ v) = some (s, n) → n ≤ u.length) → quoN (u ++ w) = quoN (u ++ v)
  | _, [], _, h => by
    obtain ⟨t, rfl, a, b, rfl, ha, _⟩ := hw
    have h1 : quoN ([] ++ v) = none := by
      cases hq : quoN ([] ++ v) with
      | none => rfl
      | some x =>
        have := h x.1 x.2 hq
        have := quoN_le _ _ (Nat.le_refl _) _ _ hq
        simp only [List.length_nil] at *
        omega
    rw [h1]
    have := quoN_no _ (35 :: a) b (Nat.le_refl _) (by simp only [List.mem_cons, not_or]; exact ⟨by decide, ha⟩)
    simpa using this
  | 0, c :: u, h, _ => by simp at h
  | k + 1, c :: u, hk, h => by
    simp only [List.length_cons] at hk
    simp only [List.cons_append] at h ⊢
    unfold quoN at h ⊢
    split at h
    · rename_i h1; simp only [h1, if_true]
    rename_i h1
    split at h
    · rename_i h2; simp only [h1, h2, if_true, if_false]
    rename_i h2
    simp only [h1, h2, if_false]
    split at h
    · rename_i h3
      simp only [h3, if_true]
      cases u with
      | nil =>
        obtain ⟨t, rfl, _⟩ := hw
        simp only [List.nil_append] at h ⊢
        cases v with
        | nil => rfl
        | cons d v =>
          simp only at h ⊢
          have e35 : escB 35 = none := rfl
          simp only [e35]
          cases hd : escB d with
          | none => rfl
          | some x =>
            cases hq : quoN v with
            | none => rfl
            | some y =>
              have := h (x :: y.1) (y.2 + 2) (by rw [hd, hq])
              simp only [List.length_cons, List.length_nil] at this; omega
      | cons d u =>
        simp only [List.cons_append, List.length_cons] at h hk ⊢
        cases hd : escB d with
        | none => rfl
        | some x =>
          simp only [hd] at h ⊢
          rw [quoN_cut v hw k u (by omega) fun s n hq => ?_]
          have := h (x :: s) (n + 2) (by rw [hq])
          omega
    · rename_i h3
      simp only [h3, if_false]
      rw [quoN_cut v hw k u (by omega) fun s n hq => ?_]
      have := h (c :: s) (n + 1) (by rw [hq])
      simp only [List.length_cons] at this
      omega
theorem take_app {α : Type} {u v w : List α} {n : Nat} (h : n ≤ u.length) : (u ++ w).take n = (u ++ v).take n := by
  rw [List.take_append_of_le_length h, List.take_append_of_le_length h]
theorem readT_cut (v : List UInt8) {w : List UInt8} (hw : calm w) (c : UInt8) (u : List UInt8) (h : (readT (c :: (u ++ v))).2.2 ≤ u.length + 1) : readT (c :: (u ++ w)) = readT (c :: (u ++ v)) := by
  have hdE : (isDg c || (c == 45 && hdDg (u ++ v))) = true ∨ u ≠ [] ∨ (isDg c || (c == 45 && hdDg (u ++ v))) = false := by
    cases (isDg c || (c == 45 && hdDg (u ++ v))) <;> simp
  have take : ∀ n, n ≤ u.length + 1 → (c :: (u ++ w)).take n = (c :: (u ++ v)).take n := fun n hn => take_app (u := c :: u) (by simpa using hn)
  simp only [readT] at h ⊢
  by_cases h1 : isLt c = true
  · simp only [h1, if_true] at h ⊢
    rw [runN_cut false v hw u (by omega), take _ h]
  simp only [h1, Bool.false_eq_true, if_false] at h ⊢
  have hN : (isDg c || (c == 45 && hdDg (u ++ w))) = (isDg c || (c == 45 && hdDg (u ++ v))) := by
    cases u with
    | cons d u => rfl
    | nil =>
      obtain ⟨t, rfl, _⟩ := hw
      cases hc : isDg c
      · by_cases h2 : (c == 45 && hdDg v) = true
        · exfalso
          simp only [List.nil_append, hc, h2, Bool.false_or, if_true] at h
          cases v with
          | nil => simp [hdDg] at h2
          | cons d v =>
            simp only [hdDg, Bool.and_eq_true] at h2
            rw [numT_n] at h
            simp only [runN, inB, h2.2, Bool.true_or, Bool.or_true, if_true, List.length_nil] at h
            omega
        · simp only [Bool.not_eq_true] at h2
          simp only [List.nil_append, Bool.false_or, h2]
          show (c == 45 && false) = false
          simp
      · rfl
  rw [hN]
  split at h
  · rename_i h2
    simp only [h2, if_true]
    rw [numT_n] at h
    rw [runN_cut true v hw u (by omega), take _ h]
  rename_i h2
  split at h
  · rename_i h3
    rw [if_neg h2, if_neg h2]
    simp only [h3, if_true]
    rw [quoN_cut v hw _ u (Nat.le_refl _) fun s n hq => by rw [hq] at h; dsimp only at h; omega]
  rename_i h3
  simp only [h2, h3, Bool.false_eq_true, if_false]
  have hD : dblB c (u ++ w) = dblB c (u ++ v) := by
    cases u with
    | cons d u => rfl
    | nil =>
      obtain ⟨t, rfl, _⟩ := hw
      cases hd : dblB c v
      · show (((c == 60 || c == 62) && ((35 : UInt8) == 61)) || (c == 46 && ((35 : UInt8) == 46))) = dblB c ([] ++ v)
        rw [List.nil_append, hd, show ((35 : UInt8) == 61) = false from rfl, show ((35 : UInt8) == 46) = false from rfl]; simp
      · simp only [List.nil_append, hd, if_true, List.length_nil] at h
        omega
  rw [hD]
  split
  · rename_i h4
    rw [take _ (by simp only [h4, if_true] at h; omega)]
  · rfl
theorem skipC_cut {u v w : List UInt8} (h : skipC (u ++ v) < u.length) : skipC (u ++ w) = skipC (u ++ v) := by
  induction u with
  | nil => simp at h
  | cons b u ih =>
    simp only [List.cons_append, skipC, List.length_cons] at h ⊢
    split
    · rfl
    · rename_i hb
      rw [if_neg hb] at h
      rw [ih (by omega)]
theorem skipC_app : ∀ {u v : List UInt8}, 10 ∉ u → skipC (u ++ v) = u.length + skipC v
  | [], v, _ => by simp
  | b :: u, v, h => by
    simp only [List.mem_cons, not_or] at h
    rw [List.cons_append, skipC, if_neg (Ne.symm h.1), skipC_app h.2, List.length_cons]; omega
/-- kinds and texts alone -/
def Tk.bare (x : Tk) : Nat × List UInt8 := (x.kind, x.text)
theorem toks_bare : ∀ (k : Nat) (r : List UInt8) (a b : Nat), r.length ≤ k → (toks r a).map Tk.bare = (toks r b).map Tk.bare
  | _, [], _, _, _ => rfl
  | 0, c :: t, _, _, h => by simp at h
  | k + 1, c :: t, a, b, h => by
    have := stepT_le c t
    simp only [List.length_cons] at h
    have ih := fun x y => toks_bare k ((c :: t).drop (stepT (c :: t)).2.2) x y (by rw [List.length_drop, List.length_cons]; omega)
    rw [toks_cons, toks_cons]
    split
    · simp only [List.map_cons, Tk.bare]
      rw [ih _ (b + (stepT (c :: t)).2.2)]
    · exact ih _ _
theorem toks_nl (v : List UInt8) (a b : Nat) : (toks (10 :: v) a).map Tk.bare = (toks v b).map Tk.bare := by
  rw [toks_cons]
  exact toks_bare _ v _ _ (Nat.le_refl _)
theorem toks_calm (u v : List UInt8) (h : 10 ∉ u) (a b : Nat) : (toks (35 :: (u ++ 10 :: v)) a).map Tk.bare = (toks v b).map Tk.bare := by
  have hs : stepT (35 :: (u ++ 10 :: v)) = (7, [], u.length + 1) := by
    simp only [stepT]
    rw [skipC_app h]
    rfl
  rw [toks_cons, hs]
  have e : (35 :: (u ++ 10 :: v)).drop (u.length + 1) = 10 :: v := by simp
  simp only [isTk, e]
  exact toks_nl v _ _
theorem starts_ge : ∀ (k : Nat) (r : List UInt8) (a : Nat), r.length ≤ k → ∀ x ∈ toks r a, a ≤ x.at_ ∧ x.at_ ≤ a + r.length
  | _, [], a, _, x, hx => by rw [toks_nil, List.mem_singleton] at hx; subst hx; simp
  | 0, c :: t, _, h, _, _ => by simp at h
  | k + 1, c :: t, a, h, x, hx => by
    have h1 := stepT_le c t
    simp only [List.length_cons] at h ⊢
    have ih := starts_ge k ((c :: t).drop (stepT (c :: t)).2.2) (a + (stepT (c :: t)).2.2) (by rw [List.length_drop, List.length_cons]; omega) x
    rw [List.length_drop, List.length_cons] at ih
    rw [toks_cons] at hx
    split at hx
    · rcases List.mem_cons.1 hx with rfl | hx
      · dsimp only; omega
      · have := ih hx; omega
    · have := ih hx; omega
/-- the law: a comment ahead of a token changes nothing -/
theorem comment_law (v : List UInt8) (u' : List UInt8) (h34 : 34 ∉ u') (h10 : 10 ∉ u') : ∀ (k : Nat) (u : List UInt8) (a b : Nat), u.length ≤ k → (∃ x ∈ toks (u ++ v) a, x.at_ = a + u.length) →
    (toks (u ++ 35 :: (u' ++ 10 :: v)) b).map Tk.bare = (toks (u ++ v) a).map Tk.bare
  | _, [], a, b, _, _ => toks_calm u' v h10 b a
  | 0, c :: u, _, _, h, _ => by simp at h
  | k + 1, c :: u, a, b, h, ⟨x, hx, hxa⟩ => by
    have h1 := stepT_le c (u ++ v)
    have hw : calm (35 :: (u' ++ 10 :: v)) := ⟨_, rfl, u', v, rfl, h34, h10⟩
    simp only [List.length_cons] at h hxa
    rw [List.cons_append] at hx
    -- the step ends within the text ahead
    have key : (stepT (c :: (u ++ v))).2.2 ≤ u.length + 1 ∧ ∃ x ∈ toks ((c :: (u ++ v)).drop (stepT (c :: (u ++ v))).2.2) (a + (stepT (c :: (u ++ v))).2.2), x.at_ = a + (u.length + 1) := by
      rw [toks_cons] at hx
      have go : x ∈ toks ((c :: (u ++ v)).drop (stepT (c :: (u ++ v))).2.2) (a + (stepT (c :: (u ++ v))).2.2) → (stepT (c :: (u ++ v))).2.2 ≤ u.length + 1 ∧ ∃ x ∈ toks ((c :: (u ++ v)).drop (stepT (c :: (u ++ v))).2.2) (a + (stepT (c :: (u ++ v))).2.2), x.at_ = a + (u.length + 1) := by
        intro hx
        have := (starts_ge _ _ _ (Nat.le_refl _) x hx).1
        exact ⟨by omega, x, hx, hxa⟩
      split at hx
      · rcases List.mem_cons.1 hx with rfl | hx
        · dsimp only at hxa; omega
        · exact go hx
      · exact go hx
    obtain ⟨hn, hex⟩ := key
    have dropE : ∀ (n : Nat) (z : List UInt8), n ≤ u.length + 1 → (c :: (u ++ z)).drop n = (c :: u).drop n ++ z := by
      intro n z hn
      rw [← List.cons_append, List.drop_append_of_le_length (by simpa using hn)]
    rw [List.cons_append, List.cons_append, toks_cons, toks_cons c (u ++ v)]
    have hlen : ((c :: u).drop (stepT (c :: (u ++ v))).2.2).length = u.length + 1 - (stepT (c :: (u ++ v))).2.2 := by rw [List.length_drop, List.length_cons]
    -- the same step, or a comment that swallows all
    have same : stepT (c :: (u ++ 35 :: (u' ++ 10 :: v))) = stepT (c :: (u ++ v)) → (if isTk (stepT (c :: (u ++ 35 :: (u' ++ 10 :: v)))).1 = true then (⟨(stepT (c :: (u ++ 35 :: (u' ++ 10 :: v)))).1, (stepT (c :: (u ++ 35 :: (u' ++ 10 :: v)))).2.1, b⟩ : Tk) :: toks ((c :: (u ++ 35 :: (u' ++ 10 :: v))).drop (stepT (c :: (u ++ 35 :: (u' ++ 10 :: v)))).2.2) (b + (stepT (c :: (u ++ 35 :: (u' ++ 10 :: v)))).2.2) else toks ((c :: (u ++ 35 :: (u' ++ 10 :: v))).drop (stepT (c :: (u ++ 35 :: (u' ++ 10 :: v)))).2.2) (b + (stepT (c :: (u ++ 35 :: (u' ++ 10 :: v)))).2.2)).map Tk.bare =
        (if isTk (stepT (c :: (u ++ v))).1 = true then (⟨(stepT (c :: (u ++ v))).1, (stepT (c :: (u ++ v))).2.1, a⟩ : Tk) :: toks ((c :: (u ++ v)).drop (stepT (c :: (u ++ v))).2.2) (a + (stepT (c :: (u ++ v))).2.2) else toks ((c :: (u ++ v)).drop (stepT (c :: (u ++ v))).2.2) (a + (stepT (c :: (u ++ v))).2.2)).map Tk.bare := by
      intro e
      rw [e]
      rw [dropE _ v hn, dropE _ (35 :: (u' ++ 10 :: v)) hn]
      rw [dropE _ v hn] at hex
      have ih := comment_law v u' h34 h10 k ((c :: u).drop (stepT (c :: (u ++ v))).2.2) (a + (stepT (c :: (u ++ v))).2.2) (b + (stepT (c :: (u ++ v))).2.2) (by omega) (by
        obtain ⟨y, hy, hya⟩ := hex
        exact ⟨y, hy, by omega⟩)
      split
      · simp only [List.map_cons, ih, Tk.bare]
      · exact ih
    by_cases hbl : blB c = true
    · exact same (by simp only [stepT, hbl, if_true])
    by_cases hc : c = 35
    · by_cases hs : skipC (u ++ v) < u.length
      · exact same (by simp only [stepT, hbl, hc, if_true, if_false, skipC_cut hs])
      · -- the comment runs up to v
        subst hc
        have hst : stepT (35 :: (u ++ v)) = (7, [], skipC (u ++ v) + 1) := by simp only [stepT]; rfl
        rw [hst] at hn hex
        dsimp only at hn hex
        have hs' : skipC (u ++ v) = u.length := by omega
        have hno : ∀ {u : List UInt8}, ¬ skipC (u ++ v) < u.length → 10 ∉ u := by
          intro u
          induction u with
          | nil => intro _; simp
          | cons b u ih =>
            intro h
            simp only [List.cons_append, skipC, List.length_cons] at h
            split at h
            · omega
            · rename_i hb
              simp only [List.mem_cons, not_or]
              exact ⟨Ne.symm hb, ih (by omega)⟩
        have hu := hno hs
        have hst2 : stepT (35 :: (u ++ 35 :: (u' ++ 10 :: v))) = (7, [], u.length + (u'.length + 1) + 1) := by
          simp only [stepT]
          rw [show u ++ 35 :: (u' ++ 10 :: v) = (u ++ 35 :: u') ++ 10 :: v by simp, skipC_app (by simp [hu, h10])]
          simp [skipC, blB]
        rw [hst, hst2, hs']
        have e1 : (35 :: (u ++ 35 :: (u' ++ 10 :: v))).drop (u.length + (u'.length + 1) + 1) = 10 :: v := by
          rw [show (35 : UInt8) :: (u ++ 35 :: (u' ++ 10 :: v)) = (35 :: (u ++ 35 :: u')) ++ 10 :: v by simp, List.drop_left' (by simp)]
        have e2 : (35 :: (u ++ v)).drop (u.length + 1) = v := by
          rw [show (35 : UInt8) :: (u ++ v) = (35 :: u) ++ v by simp, List.drop_left' (by simp)]
        simp only [isTk, e1, e2]
        exact toks_nl v _ _
    · refine same ?_
      simp only [stepT, hbl, hc, if_false]
      refine readT_cut v hw c u ?_
      simpa only [stepT, hbl, hc, Bool.false_eq_true, if_false] using hn
termination_by k => k
/-! offsets -/
/-- what stands where a token begins -/
def good (s : List UInt8) (x : Tk) : Prop := (x.kind = 4 → s.head? = some 34) ∧ (x.kind ≠ 4 → x.text ≠ [] ∧ x.text <+: s)
theorem readT_good (c : UInt8) (t : List UInt8) (a : Nat) (h : isTk (readT (c :: t)).1 = true) : good (c :: t) ⟨(readT (c :: t)).1, (readT (c :: t)).2.1, a⟩ := by
  have tk : ∀ n, (c :: t).take (n + 1) ≠ [] ∧ (c :: t).take (n + 1) <+: c :: t := fun n => ⟨by simp, List.take_prefix _ _⟩
  simp only [readT] at h ⊢
  split
  · exact ⟨fun h => absurd (show (_ : Nat) = 4 from h) (by dsimp only; omega), fun _ => tk _⟩
  rename_i h1
  rw [if_neg h1] at h
  split
  · rename_i h2
    rw [if_pos h2] at h
    simp only [numT] at h ⊢
    split
    · exact ⟨fun h => absurd (show (_ : Nat) = 4 from h) (by dsimp only; omega), fun _ => tk _⟩
    rename_i h3
    rw [if_neg h3] at h
    split
    · exact ⟨fun h => absurd (show (_ : Nat) = 4 from h) (by dsimp only; omega), fun _ => tk _⟩
    · rename_i h4
      rw [if_neg h4] at h
      cases h
  rename_i h2
  rw [if_neg h2] at h
  split
  · rename_i h3
    rw [if_pos h3] at h
    cases hq : quoN t with
    | none => rw [hq] at h; cases h
    | some x => exact ⟨fun _ => by rw [h3]; rfl, fun h => absurd rfl h⟩
  rename_i h3
  rw [if_neg h3] at h
  split
  · exact ⟨fun h => absurd (show (_ : Nat) = 4 from h) (by dsimp only; omega), fun _ => tk 1⟩
  rename_i h4
  rw [if_neg h4] at h
  split
  · exact ⟨fun h => absurd (show (_ : Nat) = 4 from h) (by dsimp only; omega), fun _ => tk 0⟩
  · rename_i h5
    rw [if_neg h5] at h
    cases h
theorem stepT_good (c : UInt8) (t : List UInt8) (a : Nat) (h : isTk (stepT (c :: t)).1 = true) : good (c :: t) ⟨(stepT (c :: t)).1, (stepT (c :: t)).2.1, a⟩ := by
  simp only [stepT] at h ⊢
  split
  · rename_i h1; rw [if_pos h1] at h; cases h
  rename_i h1
  rw [if_neg h1] at h
  split
  · rename_i h2; rw [if_pos h2] at h; cases h
  rename_i h2
  rw [if_neg h2] at h
  exact readT_good c t a h
theorem toks_init : ∀ (k : Nat) (r : List UInt8) (a : Nat), r.length ≤ k → ∃ i, toks r a = i ++ [⟨6, [], a + r.length⟩] ∧ ∀ x ∈ i, a ≤ x.at_ ∧ x.at_ < a + r.length ∧ isTk x.kind = true ∧ good (r.drop (x.at_ - a)) x
  | _, [], a, _ => ⟨[], rfl, by simp⟩
  | 0, c :: t, _, h => by simp at h
  | k + 1, c :: t, a, h => by
    have h1 := stepT_le c t
    simp only [List.length_cons] at h ⊢
    obtain ⟨i, hi, hx⟩ := toks_init k ((c :: t).drop (stepT (c :: t)).2.2) (a + (stepT (c :: t)).2.2) (by rw [List.length_drop, List.length_cons]; omega)
    rw [List.length_drop, List.length_cons] at hi hx
    have e : a + (stepT (c :: t)).2.2 + (t.length + 1 - (stepT (c :: t)).2.2) = a + (t.length + 1) := by omega
    rw [e] at hi hx
    have hx' : ∀ x ∈ i, a ≤ x.at_ ∧ x.at_ < a + (t.length + 1) ∧ isTk x.kind = true ∧ good ((c :: t).drop (x.at_ - a)) x := by
      intro x hm
      obtain ⟨h3, h4, h5, h6⟩ := hx x hm
      rw [List.drop_drop, show (stepT (c :: t)).2.2 + (x.at_ - (a + (stepT (c :: t)).2.2)) = x.at_ - a by omega] at h6
      exact ⟨by omega, h4, h5, h6⟩
    rw [toks_cons, hi]
    split
    · rename_i hk
      refine ⟨_ :: i, rfl, fun x hm => ?_⟩
      rcases List.mem_cons.1 hm with rfl | hm
      · refine ⟨Nat.le_refl _, by dsimp only; omega, hk, ?_⟩
        rw [Nat.sub_self]
        exact stepT_good c t a hk
      · exact hx' x hm
    · exact ⟨i, rfl, hx'⟩
theorem bads_all : ∀ (k : Nat) (r : List UInt8) (a : Nat) (en : Int) (nb : Nat), r.length ≤ k → nb ≤ 64 →
    (∀ y ∈ bads r a en nb, a ≤ y ∧ y < a + r.length ∧ ∀ x ∈ toks r a, x.at_ ≠ y) ∧ (bads r a en nb).Pairwise (· < ·) ∧ (bads r a en nb).length + nb ≤ 64
  | _, [], a, en, nb, _, h => by simp [bads_nil, h]
  | 0, c :: t, _, _, _, h, _ => by simp at h
  | k + 1, c :: t, a, en, nb, h, hnb => by
    have h1 := stepT_le c t
    simp only [List.length_cons] at h ⊢
    have ih := fun en nb h => bads_all k ((c :: t).drop (stepT (c :: t)).2.2) (a + (stepT (c :: t)).2.2) en nb (by rw [List.length_drop, List.length_cons]; omega) h
    rw [List.length_drop, List.length_cons] at ih
    have up : ∀ {en nb}, nb ≤ 64 → ∀ y ∈ bads ((c :: t).drop (stepT (c :: t)).2.2) (a + (stepT (c :: t)).2.2) en nb, a < y ∧ a ≤ y ∧ y < a + (t.length + 1) ∧ ∀ x ∈ toks (c :: t) a, x.at_ ≠ y := by
      intro en nb hnb y hy
      obtain ⟨h2, h3, h4⟩ := (ih en nb hnb).1 y hy
      refine ⟨by omega, by omega, by omega, fun x hx => ?_⟩
      rw [toks_cons] at hx
      split at hx
      · rcases List.mem_cons.1 hx with rfl | hx
        · dsimp only; omega
        · exact h4 x hx
      · exact h4 x hx
    rw [bads_cons]
    split
    · rename_i h0
      split
      · rename_i hc
        refine ⟨fun y hy => ?_, List.pairwise_cons.2 ⟨fun y hy => (up (by omega) y hy).1, (ih _ _ (by omega)).2.1⟩, ?_⟩
        · rcases List.mem_cons.1 hy with rfl | hy
          · refine ⟨Nat.le_refl _, by omega, fun x hx => ?_⟩
            rw [toks_cons, h0] at hx
            have := (starts_ge _ _ _ (Nat.le_refl _) x hx).1
            omega
          · exact (up (by omega) y hy).2
        · have := (ih ((a + (stepT (c :: t)).2.2 : Nat) : Int) (nb + 1) (by omega)).2.2
          rw [List.length_cons]; omega
      · exact ⟨fun y hy => (up hnb y hy).2, (ih _ _ hnb).2⟩
    · exact ⟨fun y hy => (up hnb y hy).2, (ih _ _ hnb).2⟩
end Go.Proofs.YtedjnaggkakphaaGreatDoor.Dx

/- Times as tokens; the text of a time denotes it. -/
namespace Go.Proofs.YtedjnaggkakphaaGreatDoor.Dx
open Go Go.RowKit Go.Proofs
set_option linter.all false
set_option maxRecDepth 100000
set_option maxHeartbeats 8000000

/-! times as tokens -/
theorem cutB_true {c : UInt8} : ∀ {s w r : List UInt8}, cutB c s = (w, r, true) → s = w ++ c :: r ∧ c ∉ w
  | [], w, r, h => by simp [cutB] at h
  | b :: s, w, r, h => by
    by_cases hb : b = c
    · subst hb
      simp [cutB] at h
      obtain ⟨rfl, rfl⟩ := h
      simp
    · have hb' : (b != c) = true := by simpa using hb
      have hb2 : (b == c) = false := by simpa using hb
      have ih := @cutB_true c s (s.takeWhile (· != c)) r
      simp only [cutB, List.takeWhile_cons, List.dropWhile_cons, hb', if_true, List.any_cons, hb2, Bool.false_or, Prod.mk.injEq] at h ih
      obtain ⟨rfl, h2, h3⟩ := h
      have := ih ⟨trivial, h2, h3⟩
      exact ⟨by rw [List.cons_append, ← this.1], by simp only [List.mem_cons, not_or]; exact ⟨Ne.symm hb, this.2⟩⟩
theorem cutB_false {c : UInt8} : ∀ {s w r : List UInt8}, cutB c s = (w, r, false) → s = w ∧ r = [] ∧ c ∉ w
  | [], w, r, h => by simp [cutB] at h; simp [h]
  | b :: s, w, r, h => by
    by_cases hb : b = c
    · subst hb
      simp [cutB] at h
    · have hb' : (b != c) = true := by simpa using hb
      have hb2 : (b == c) = false := by simpa using hb
      have ih := @cutB_false c s (s.takeWhile (· != c)) r
      simp only [cutB, List.takeWhile_cons, List.dropWhile_cons, hb', if_true, List.any_cons, hb2, Bool.false_or, Prod.mk.injEq] at h ih
      obtain ⟨rfl, h2, h3⟩ := h
      have := ih ⟨trivial, h2, h3⟩
      exact ⟨by rw [← this.1], this.2.1, by simp only [List.mem_cons, not_or]; exact ⟨Ne.symm hb, this.2.2⟩⟩
theorem cutB_of {c : UInt8} : ∀ {w : List UInt8} (r : List UInt8), c ∉ w → cutB c (w ++ c :: r) = (w, r, true)
  | [], r, _ => by simp [cutB]
  | b :: w, r, h => by
    simp only [List.mem_cons, not_or] at h
    have hb' : (b != c) = true := by simpa using Ne.symm h.1
    have ih := cutB_of r h.2
    simp only [cutB, Prod.mk.injEq, List.cons_append, List.takeWhile_cons, List.dropWhile_cons, hb', if_true, List.any_cons] at ih ⊢
    obtain ⟨h1, h2, h3⟩ := ih
    exact ⟨by rw [h1], h2, by rw [h3]; simp⟩
theorem cutB_no {c : UInt8} : ∀ {w : List UInt8}, c ∉ w → cutB c w = (w, [], false)
  | [], _ => rfl
  | b :: w, h => by
    simp only [List.mem_cons, not_or] at h
    have hb' : (b != c) = true := by simpa using Ne.symm h.1
    have ih := cutB_no h.2
    simp only [cutB, Prod.mk.injEq, List.takeWhile_cons, List.dropWhile_cons, hb', if_true, List.any_cons] at ih ⊢
    obtain ⟨h1, h2, h3⟩ := ih
    have hb2 : (b == c) = false := by simpa using Ne.symm h.1
    exact ⟨by rw [h1], h2, by rw [h3, hb2]; rfl⟩
theorem dg_in {b : UInt8} (h : isDg b = true) : inB b = true := by simp [inB, h]
theorem run_dg (y : List UInt8) : ∀ {x : List UInt8}, x.all isDg = true → runN true (x ++ y) = x.length + runN true y
  | [], _ => by simp
  | b :: x, h => by
    simp only [List.all_cons, Bool.and_eq_true] at h
    rw [List.cons_append, runN, dg_in h.1, Bool.true_or, if_pos rfl, run_dg y h.2, List.length_cons]; omega
theorem run_col {y : List UInt8} (h : hdDg y = true) : runN true (58 :: y) = 1 + runN true y := by
  rw [runN, ptB, h]; simp; omega
theorem run_pt {y : List UInt8} (h : hdDg y = true) : runN true (46 :: y) = 1 + runN true y := by
  rw [runN, ptB, h]; simp; omega
theorem hd_app {x : List UInt8} (y : List UInt8) (h : x.all isDg = true) (hx : x ≠ []) : hdDg (x ++ y) = true := by
  cases x with
  | nil => exact absurd rfl hx
  | cons b x => simp only [List.all_cons, Bool.and_eq_true] at h; exact h.1
theorem numB_dg {s : List UInt8} (h : numB s = true) : s.all isDg = true ∧ s ≠ [] := by
  simp only [numB, digitsB, Bool.and_eq_true, decide_eq_true_eq] at h
  refine ⟨h.1.2.2, ?_⟩
  rintro rfl
  have := h.1.1; simp at this
theorem fracN_dg {s : List UInt8} (h : ¬ fracN s < 0) : s.all isDg = true ∧ s ≠ [] := by
  unfold fracN at h
  split at h
  · rename_i h1
    simp only [Bool.and_eq_true, decide_eq_true_eq] at h1
    refine ⟨h1.2.2, ?_⟩
    rintro rfl
    have := h1.1; simp at this
  · exact absurd (by decide) h
theorem sixN_dg {s : List UInt8} (h : ¬ sixN s < 0) : s.all isDg = true ∧ s ≠ [] := by
  unfold sixN at h
  split at h
  · split at h
    · rename_i h1
      simp only [Bool.and_eq_true] at h1
      simp [h1.1, h1.2.1]
    · exact absurd (by decide) h
  · exact absurd (by decide) h
/-- the shape of a time without its sign -/
structure Shape (u : List UInt8) where
  a : List UInt8
  y : List UInt8
  eq : u = a ++ y
  dg : a.all isDg = true
  ne : a ≠ []
  more : y ≠ []
  run : ∀ z, runN true z = 0 → runN true (y ++ z) = y.length
  bad : ∃ b ∈ u, isDg b = false
theorem timeU_shape {u : List UInt8} {v : Int} (h : timeU u = some v) : Nonempty (Shape u) := by
  rcases hp : cutB 46 u with ⟨w, f, p⟩
  rcases hq : cutB 58 w with ⟨a, r, c⟩
  rcases hr : cutB 58 r with ⟨b, r2, c2⟩
  simp only [timeU, hp, hq, moreN, hr] at h
  by_cases h1 : numB a = false ∨ (a.length : Int) > 13 ∨ (if p = true then fracN f else 0) < 0 ∨ (c = false ∧ p = false)
  · rw [if_pos h1] at h; cases h
  rw [if_neg h1] at h
  simp only [not_or, Bool.not_eq_false] at h1
  obtain ⟨hA, _, hF, hC⟩ := h1
  have ha := numB_dg hA
  -- the part behind the point
  obtain ⟨F, hu, hFr⟩ : ∃ F, u = w ++ F ∧ ((p = true ∧ ∃ f, F = 46 :: f ∧ f.all isDg = true ∧ f ≠ []) ∨ (p = false ∧ F = [])) := by
    cases p with
    | true =>
      have := fracN_dg (s := f) (by simpa using hF)
      exact ⟨46 :: f, (cutB_true hp).1, .inl ⟨rfl, f, rfl, this.1, this.2⟩⟩
    | false => exact ⟨[], by rw [List.append_nil]; exact (cutB_false hp).1, .inr ⟨rfl, rfl⟩⟩
  have runF : ∀ z, runN true z = 0 → runN true (F ++ z) = F.length := by
    intro z hz
    rcases hFr with ⟨_, f, rfl, h1, h2⟩ | ⟨_, rfl⟩
    · rw [List.cons_append, run_pt (hd_app z h1 h2), run_dg z h1, hz, List.length_cons]; omega
    · simpa using hz
  cases c with
  | false =>
    obtain ⟨rfl, rfl, _⟩ := cutB_false hq
    rcases hFr with ⟨_, f, rfl, h1, h2⟩ | ⟨rfl, _⟩
    · exact ⟨⟨w, 46 :: f, hu, ha.1, ha.2, by simp, runF, 46, by rw [hu]; simp, by decide⟩⟩
    · simp at hC
  | true =>
    obtain ⟨rfl, hnw⟩ := cutB_true hq
    simp only [if_true] at h
    split at h
    · cases h
    rename_i tt ht
    split at ht
    · cases ht
    rename_i hb
    have hb := sixN_dg hb
    obtain ⟨R, hR, runR, hdR⟩ : ∃ R, r = R ∧ (∀ z, runN true z = 0 → runN true (R ++ (F ++ z)) = R.length + F.length) ∧ ∀ z, hdDg (R ++ z) = true := by
      refine ⟨r, rfl, fun z hz => ?_, fun z => ?_⟩
      · cases c2 with
        | false =>
          obtain ⟨rfl, rfl, _⟩ := cutB_false hr
          rw [run_dg _ hb.1, runF z hz]
        | true =>
          obtain ⟨rfl, _⟩ := cutB_true hr
          simp only [if_true] at ht
          split at ht
          · cases ht
          rename_i hc
          have hc := sixN_dg hc
          rw [List.append_assoc, run_dg _ hb.1, List.cons_append, run_col (hd_app _ hc.1 hc.2), run_dg _ hc.1, runF z hz, List.length_append, List.length_cons]; omega
      · cases c2 with
        | false =>
          obtain ⟨rfl, rfl, _⟩ := cutB_false hr
          exact hd_app _ hb.1 hb.2
        | true =>
          obtain ⟨rfl, _⟩ := cutB_true hr
          rw [List.append_assoc]
          exact hd_app _ hb.1 hb.2
    subst hR
    refine ⟨⟨a, 58 :: (r ++ F), by rw [hu]; simp, ha.1, ha.2, by simp, fun z hz => ?_, 58, by rw [hu]; simp, by decide⟩⟩
    rw [List.cons_append, List.append_assoc, run_col (hdR _), runR z hz, List.length_cons, List.length_append]; omega
theorem not_num {u : List UInt8} (h : ∃ b ∈ u, isDg b = false) : numB u = false := by
  cases hn : numB u with
  | false => rfl
  | true =>
    obtain ⟨b, hb, h2⟩ := h
    have := List.all_eq_true.1 (numB_dg hn).1 b hb
    rw [this] at h2; cases h2
theorem lt_dg : ∀ b : UInt8, isDg b = true → isLt b = false := by
  intro b h
  have := isDg_iff.1 h
  simp only [isLt, Bool.or_eq_false_iff, Bool.and_eq_false_iff, decide_eq_false_iff_not]; omega
/-- a time is a token by itself -/
theorem readT_time {s : List UInt8} {v : Int} (h : timeN s = some v) {z : List UInt8} (hz : runN true z = 0) : readT (s ++ z) = (3, s, s.length) := by
  have main : ∀ u, ∀ S : Shape u, runN true (u ++ z) = u.length ∧ hdDg (u ++ z) = true := by
    intro u S
    rw [S.eq, List.append_assoc]
    exact ⟨by rw [run_dg _ S.dg, S.run z hz, List.length_append], hd_app _ S.dg S.ne⟩
  unfold timeN at h
  split at h
  · rename_i u
    split at h
    · rename_i v' hv
      obtain ⟨S⟩ := timeU_shape hv
      obtain ⟨h1, h2⟩ := main u S
      have hN : timeN (45 :: u) = some v := by rw [timeN, hv]; exact h
      have hI : intgB (45 :: u) = false := by rw [intgB, not_num S.bad]; rfl
      rw [List.cons_append, readT, if_neg (by decide), h2, h1, show ((45 : UInt8) == 45) = true from rfl, Bool.true_and, Bool.or_true, if_pos rfl]
      rw [show (45 :: (u ++ z)).take (u.length + 1) = 45 :: u by simp, numT, hI, hN]
      rfl
    · cases h
  · obtain ⟨S⟩ := timeU_shape h
    obtain ⟨h1, h2⟩ := main s S
    have hN : timeN s = some v := by
      unfold timeN
      split
      · simp_all
      · exact h
    have hI : intgB s = false := by
      unfold intgB
      split
      · simp_all
      · exact not_num S.bad
    cases s with
    | nil =>
      exfalso
      have h3 := S.eq
      have h4 := S.ne
      exact h4 (List.append_eq_nil_iff.1 h3.symm).1
    | cons b s =>
      have hb : isDg b = true := h2
      rw [List.cons_append] at h1 ⊢
      rw [runN, dg_in hb, Bool.true_or, if_pos rfl, List.length_cons] at h1
      rw [readT, if_neg (by rw [lt_dg b hb]; decide), hb, Bool.true_or, if_pos rfl, h1]
      rw [show (b :: (s ++ z)).take (s.length + 1) = b :: s by simp, numT, hI, hN]
      rfl
theorem hd_ne {s : List UInt8} {v : Int} (h : timeN s = some v) : ∃ b t, s = b :: t ∧ blB b = false ∧ b ≠ 35 := by
  have main : ∀ u, ∀ _ : Shape u, ∃ b t, u = b :: t ∧ isDg b = true := by
    intro u S
    have := S.eq
    have h2 := S.ne
    have h3 := S.dg
    match ha : S.a with
    | [] => exact absurd ha h2
    | b :: a =>
      rw [ha] at this h3
      simp only [List.all_cons, Bool.and_eq_true] at h3
      exact ⟨b, a ++ S.y, this, h3.1⟩
  have dgs : ∀ b, isDg b = true → blB b = false ∧ b ≠ 35 := by
    intro b hb
    have := isDg_iff.1 hb
    constructor
    · simp only [blB, List.contains_eq_mem, List.mem_cons, List.not_mem_nil, or_false, decide_eq_false_iff_not, not_or]
      refine ⟨?_, ?_, ?_, ?_⟩ <;> (rintro rfl; revert hb; decide)
    · rintro rfl; revert hb; decide
  unfold timeN at h
  split at h
  · exact ⟨_, _, rfl, by decide, by decide⟩
  · obtain ⟨S⟩ := timeU_shape h
    obtain ⟨b, t, rfl, hb⟩ := main s S
    exact ⟨b, t, rfl, dgs b hb⟩
theorem toks_time {s : List UInt8} {v : Int} (h : timeN s = some v) : toks s 0 = [⟨3, s, 0⟩, ⟨6, [], s.length⟩] ∧ bads s 0 (-1) 0 = [] := by
  have hr := readT_time h (z := []) rfl
  rw [List.append_nil] at hr
  obtain ⟨b, t, rfl, h1, h2⟩ := hd_ne h
  have hs : stepT (b :: t) = (3, b :: t, (b :: t).length) := by rw [stepT, h1, if_neg (by decide), if_neg h2, hr]
  have e : (b :: t).drop (b :: t).length = [] := List.drop_length
  constructor
  · rw [toks_cons, hs]
    dsimp only
    rw [e, toks_nil, Nat.zero_add]
    rfl
  · rw [bads_cons, hs]
    dsimp only
    rw [e, bads_nil]
    rfl
/-! the text of a time denotes it -/
theorem chr {k : Nat} (h : k < 10) : (UInt8.ofNat (48 + k)).toNat = 48 + k := by
  rw [UInt8.toNat_ofNat']; omega
theorem chr_dg {k : Nat} (h : k < 10) : isDg (UInt8.ofNat (48 + k)) = true := by
  rw [isDg_iff, chr h]; omega
theorem dec_all (u : Nat) : (Lib.decDigits u).all isDg = true ∧ numN (Lib.decDigits u) = u ∧ Lib.decDigits u ≠ [] ∧ (u ≠ 0 → (Lib.decDigits u).head? ≠ some 48) ∧ ∀ k, u < 10 ^ (k + 1) → (Lib.decDigits u).length ≤ k + 1 := by
  induction u using Nat.strongRecOn with
  | _ u ih =>
    rw [Lib.decDigits]
    split
    · rename_i h
      refine ⟨by simp only [List.all_cons, List.all_nil, Bool.and_true, chr_dg h], by simp only [numN, List.foldl_cons, List.foldl_nil, chr h]; omega, by simp, fun h0 => ?_, fun k _ => by simp⟩
      intro e
      have e : UInt8.ofNat (48 + u) = 48 := by simpa using e
      have := congrArg UInt8.toNat e
      rw [chr h] at this
      have h48 : (48 : UInt8).toNat = 48 := rfl
      omega
    · rename_i h
      obtain ⟨h1, h2, h3, h4, h5⟩ := ih (u / 10) (by omega)
      refine ⟨by rw [List.all_append, h1]; simp only [List.all_cons, List.all_nil, Bool.and_true, chr_dg (Nat.mod_lt u (by decide : 0 < 10))], ?_, by simp, fun _ => ?_, fun k hk => ?_⟩
      · rw [numN_snoc, h2, chr (Nat.mod_lt u (by decide))]; omega
      · rw [List.head?_append]
        have := h4 (by omega)
        cases hd : (Lib.decDigits (u / 10)).head? with
        | none => rw [List.head?_eq_none_iff] at hd; exact absurd hd h3
        | some x => rw [hd] at this; simpa using this
      · cases k with
        | zero => simp at hk; omega
        | succ k =>
          have := h5 k (by rw [Nat.pow_succ] at hk; omega)
          rw [List.length_append, List.length_singleton]; omega
theorem itoa_pos' {n : Int} (h : 0 ≤ n) : Lib.itoa n = Lib.decDigits n.toNat := by rw [Lib.itoa, if_neg (by omega)]
theorem itoa_dg {n : Int} (h : 0 ≤ n) : (Lib.itoa n).all isDg = true := by rw [itoa_pos' h]; exact (dec_all _).1
theorem itoa_num {n : Int} (h : 0 ≤ n) : (numN (Lib.itoa n) : Int) = n := by rw [itoa_pos' h, (dec_all _).2.1]; omega
theorem itoa_numB {n : Int} (h0 : 0 ≤ n) (h : n < 10000000000000) : numB (Lib.itoa n) = true ∧ (Lib.itoa n).length ≤ 13 := by
  rw [itoa_pos' h0]
  obtain ⟨h1, h2, h3, h4, h5⟩ := dec_all n.toNat
  have hl := h5 12 (by omega)
  refine ⟨?_, hl⟩
  have hp : 1 ≤ (Lib.decDigits n.toNat).length := by
    cases hd : Lib.decDigits n.toNat with
    | nil => exact absurd hd h3
    | cons => simp
  simp only [numB, digitsB, h1, Bool.and_true, Bool.and_eq_true, decide_eq_true_eq, Bool.or_eq_true]
  refine ⟨⟨by omega, by omega⟩, ?_⟩
  by_cases e : n.toNat = 0
  · left; rw [e, Lib.decDigits, dif_pos (by omega)]; rfl
  · exact .inr (h4 e)
theorem two_dg {n : Int} (h0 : 0 ≤ n) (h1 : n < 100) : twoT n = [UInt8.ofNat (48 + (n / 10).toNat), UInt8.ofNat (48 + (n % 10).toNat)] := by
  rw [twoT_eq h0 h1, itoa_small (by omega) (by omega), itoa_small (by omega) (by omega)]; rfl
theorem two_six {n : Int} (h0 : 0 ≤ n) (h1 : n < 60) : sixN (twoT n) = n := by
  rw [two_dg h0 (by omega)]
  have a := chr_dg (k := (n / 10).toNat) (by omega)
  have b := chr_dg (k := (n % 10).toNat) (by omega)
  have a' := chr (k := (n / 10).toNat) (by omega)
  have b' := chr (k := (n % 10).toNat) (by omega)
  simp only [sixN, a, b, Bool.true_and, decide_eq_true_eq]
  rw [if_pos (by omega)]
  simp only [numN, List.foldl_cons, List.foldl_nil, a', b']
  omega
theorem no_colon {s : List UInt8} (h : s.all isDg = true) {c : UInt8} (hc : isDg c = false) : c ∉ s := by
  intro hm
  have := List.all_eq_true.1 h c hm
  rw [hc] at this; cases this
theorem two_all {n : Int} (h0 : 0 ≤ n) (h1 : n < 100) : (twoT n).all isDg = true := by
  rw [two_dg h0 h1]; simp only [List.all_cons, List.all_nil, Bool.and_true, chr_dg (k := (n / 10).toNat) (by omega), chr_dg (k := (n % 10).toNat) (by omega)]
/-- a text without its zeros at the end -/
theorem trim_zeros (l : List UInt8) : ∃ k, l = Lib.trimRightB l 48 ++ List.replicate k 48 := by
  have := List.takeWhile_append_dropWhile (p := (· == (48 : UInt8))) (l := l.reverse)
  have h2 := congrArg List.reverse this
  rw [List.reverse_append, List.reverse_reverse] at h2
  refine ⟨(l.reverse.takeWhile (· == (48 : UInt8))).length, ?_⟩
  have h3 : (l.reverse.takeWhile (· == (48 : UInt8))).reverse = List.replicate (l.reverse.takeWhile (· == (48 : UInt8))).length 48 := by
    rw [List.eq_replicate_iff]
    refine ⟨by simp, fun b hb => ?_⟩
    rw [List.mem_reverse] at hb
    have := List.all_eq_true.1 (List.all_takeWhile (p := (· == (48 : UInt8))) (l := l.reverse)) b hb
    simpa using this
  rw [h3] at h2
  exact h2.symm
theorem num_zeros (w : List UInt8) : ∀ k, numN (w ++ List.replicate k 48) = numN w * 10 ^ k
  | 0 => by simp
  | k + 1 => by
    rw [List.replicate_succ', ← List.append_assoc, numN_snoc, num_zeros w k, Nat.pow_succ, ← Nat.mul_assoc (numN w)]
    have : (48 : UInt8).toNat = 48 := rfl
    omega
theorem six_num {u : Int} (h0 : 0 ≤ u) (h1 : u < 1000000) : (numN ((Lib.itoa (1000000 + u)).drop 1) : Int) = u ∧ ((Lib.itoa (1000000 + u)).drop 1).all isDg = true ∧ ((Lib.itoa (1000000 + u)).drop 1).length = 6 := by
  rw [six_eq h0 h1]
  have c := fun (k : Nat) (hk : k < 10) => chr hk
  refine ⟨?_, ?_, rfl⟩
  · have st : ∀ (l : List UInt8) (a b : Int), (numN l : Int) = a → 0 ≤ b → b / 10 = a → (numN (l ++ [UInt8.ofNat (48 + (b % 10).toNat)]) : Int) = b := by
      intro l a b h2 h3 h4
      rw [numN_snoc, chr (by omega)]
      omega
    have e1 := st [] 0 (u / 100000) rfl (by omega) (by omega)
    have e2 := st _ _ (u / 10000) e1 (by omega) (by omega)
    have e3 := st _ _ (u / 1000) e2 (by omega) (by omega)
    have e4 := st _ _ (u / 100) e3 (by omega) (by omega)
    have e5 := st _ _ (u / 10) e4 (by omega) (by omega)
    exact st _ _ u e5 (by omega) (by omega)
  · simp only [List.all_cons, List.all_nil, Bool.and_true]
    rw [chr_dg (k := (u / 100000 % 10).toNat) (by omega), chr_dg (k := (u / 10000 % 10).toNat) (by omega), chr_dg (k := (u / 1000 % 10).toNat) (by omega), chr_dg (k := (u / 100 % 10).toNat) (by omega), chr_dg (k := (u / 10 % 10).toNat) (by omega), chr_dg (k := (u % 10).toNat) (by omega)]
    rfl
theorem frac_num {u : Int} (h0 : 0 < u) (h1 : u < 1000000) : fracN (Lib.trimRightB ((Lib.itoa (1000000 + u)).drop 1) 48) = u := by
  obtain ⟨h2, h3, h4⟩ := six_num (by omega : 0 ≤ u) h1
  have hne := six_trim h0 h1
  generalize (Lib.itoa (1000000 + u)).drop 1 = d at *
  obtain ⟨k, hk⟩ := trim_zeros d
  generalize Lib.trimRightB d 48 = w at *
  have hl : w.length + k = 6 := by rw [← h4, hk]; simp
  have hw : 1 ≤ w.length := by cases w with | nil => exact absurd rfl hne | cons => simp
  rw [hk, List.all_append, Bool.and_eq_true] at h3
  rw [hk, num_zeros] at h2
  rw [fracN, decide_eq_true (by omega), decide_eq_true (by omega), h3.1, show 6 - w.length = k by omega]
  simpa using h2
theorem sum_bound {n : Int} (h0 : 0 ≤ n) (h1 : n ≤ 1099511627776) : timeU (absT n) = some n := by
  have hs0 : 0 ≤ n / 1000000 := by omega
  have hs1 : n / 1000000 ≤ 1099511 := by omega
  have hu0 : 0 ≤ n % 1000000 := by omega
  have hu1 : n % 1000000 < 1000000 := by omega
  have hn : 1000000 * (n / 1000000) + n % 1000000 = n := by omega
  unfold absT
  generalize n / 1000000 = s at *
  generalize n % 1000000 = u at *
  -- the clock
  obtain ⟨a, r, t, hc, ha, har, han, hm, hno⟩ : ∃ (a r : List UInt8) (t : Int), clockT s = a ++ 58 :: r ∧ (numB a = true ∧ a.length ≤ 13) ∧ 58 ∉ a ∧ (numN a : Int) = t ∧ moreN true r t = some s ∧ 46 ∉ a ++ 58 :: r := by
    unfold clockT
    split
    · rename_i h
      refine ⟨Lib.itoa (s / 3600), twoT (s / 60 % 60) ++ 58 :: twoT (s % 60), s / 3600, by simp, itoa_numB (by omega) (by omega), no_colon (itoa_dg (by omega)) (by decide), itoa_num (by omega), ?_, ?_⟩
      · have hcut := cutB_of (c := 58) (twoT (s % 60)) (no_colon (two_all (n := s / 60 % 60) (by omega) (by omega)) (by decide))
        simp only [moreN, hcut, if_true]
        rw [two_six (by omega) (by omega), two_six (by omega) (by omega), if_neg (by omega), if_neg (by omega)]
        congr 1; omega
      · simp only [List.mem_append, List.mem_cons, not_or]
        exact ⟨no_colon (itoa_dg (by omega)) (by decide), by decide, no_colon (two_all (by omega) (by omega)) (by decide), by decide, no_colon (two_all (by omega) (by omega)) (by decide)⟩
    · rename_i h
      refine ⟨Lib.itoa (s / 60), twoT (s % 60), s / 60, by simp, itoa_numB (by omega) (by omega), no_colon (itoa_dg (by omega)) (by decide), itoa_num (by omega), ?_, ?_⟩
      · have hcut := cutB_no (c := 58) (no_colon (two_all (n := s % 60) (by omega) (by omega)) (by decide))
        simp only [moreN, hcut, if_true]
        rw [two_six (by omega) (by omega), if_neg (by omega)]
        simp only [Bool.false_eq_true, if_false]
        congr 1; omega
      · simp only [List.mem_append, List.mem_cons, not_or]
        exact ⟨no_colon (itoa_dg (by omega)) (by decide), by decide, no_colon (two_all (by omega) (by omega)) (by decide)⟩
  rw [hc]
  have hq := cutB_of r har
  have hb : ¬ (s > 1099511627776 ∨ 1000000 * s + u > 1099511627776) := by omega
  have h13 : ¬ ((a.length : Int) > 13) := by omega
  unfold fracT
  split
  · rename_i hu
    have hp := cutB_of (c := 46) (Lib.trimRightB ((Lib.itoa (1000000 + u)).drop 1) 48) hno
    have hf := frac_num hu hu1
    simp only [timeU, List.singleton_append, hp, hq, hf, if_true, ha.1, h13, han, hm]
    rw [if_neg (by simp; omega), if_neg hb, hn]
  · rename_i hu
    have hp := cutB_no hno
    have h00 : u = 0 := by omega
    subst h00
    simp only [timeU, List.append_nil, hp, hq, ha.1, h13, han, hm]
    rw [if_neg (by simp)]
    simp only [Bool.false_eq_true, if_false]
    rw [if_neg hb, hn]
theorem timeN_timeS {t : Int} (h : inTime t = true) : timeN (timeS t) = some t := by
  rw [timeS, if_pos h, timeT]
  simp only [inTime, inR, Bool.and_eq_true, decide_eq_true_eq] at h
  split
  · rename_i hneg
    rw [List.singleton_append, timeN, sum_bound (n := -t) (by omega) (by omega)]
    simp only
    rw [if_neg (by omega), Int.neg_neg]
  · rename_i hpos
    have hb := sum_bound (n := t) (by omega) (by omega)
    obtain ⟨S⟩ := timeU_shape hb
    unfold timeN
    split
    · rename_i r hr
      exfalso
      have h1 : hdDg (absT t) = true := by
        have := hd_app S.y S.dg S.ne
        rwa [← S.eq] at this
      rw [hr] at h1
      exact absurd h1 (by show ¬ isDg 45 = true; decide)
    · exact hb
theorem timeN_in {s : List UInt8} {v : Int} (h : timeN s = some v) : inTime v = true := by
  have key : ∀ u w, timeU u = some w → 0 ≤ w ∧ w ≤ 1099511627776 := by
    intro u w h
    simp only [timeU] at h
    generalize (if (cutB 46 u).2.2 = true then fracN (cutB 46 u).2.1 else 0) = f at h
    split at h
    · cases h
    rename_i h1
    simp only [not_or] at h1
    split at h
    · cases h
    rename_i t ht
    split at h
    · cases h
    rename_i h2
    have h3 : 0 ≤ t := by
      unfold moreN at ht
      split at ht
      · split at ht
        · cases ht
        · split at ht
          · split at ht
            · cases ht
            · cases ht; omega
          · cases ht; omega
      · cases ht; omega
    cases h
    omega
  simp only [inTime, inR, Bool.and_eq_true, decide_eq_true_eq]
  unfold timeN at h
  split at h
  · split at h
    · rename_i w hw
      have := key _ _ hw
      split at h
      · cases h
      · cases h; omega
    · cases h
  · have := key _ _ h
    omega
end Go.Proofs.YtedjnaggkakphaaGreatDoor.Dx

