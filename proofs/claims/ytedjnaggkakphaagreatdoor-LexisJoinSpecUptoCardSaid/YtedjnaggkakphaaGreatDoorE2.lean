/- Chapter 06: how a written text is split into tokens (plain). -/
import Derived.Test.YtedjnaggkakphaaGreatDoorDq
set_option linter.all false
namespace Go.Proofs.YtedjnaggkakphaaGreatDoor.Dx
open Go Go.RowKit
set_option maxRecDepth 100000
/-- a text that has no problems and these tokens (their kinds and texts; the end among them) -/
structure Lx (r : List UInt8) (l : List (Nat × List UInt8)) : Prop where
 toks : ∀ a, (Dx.toks r a).map Tk.bare = l
 bads : ∀ a en nb, Dx.bads r a en nb = []
theorem Lx.nil : Lx [] [(6, [])] := ⟨fun a => rfl, fun a en nb => rfl⟩
/-- one step of the scanner -/
theorem Lx.step {c : UInt8} {t r : List UInt8} {l : List (Nat × List UInt8)} {k : Nat} {s : List UInt8} {n : Nat} (hs : stepT (c :: t) = (k, s, n)) (hd : (c :: t).drop n = r) (h : Lx r l) (hk : isTk k = true) : Lx (c :: t) ((k, s) :: l) := by
 refine ⟨fun a => ?_, fun a en nb => ?_⟩
 · rw [toks_cons, hs]
   simp only [hk, if_true, List.map_cons]
   rw [hd, h.toks]; rfl
 · rw [bads_cons, hs]
   have : ¬ k = 0 := by intro e; subst e; simp [isTk] at hk
   simp only [this, if_false]
   rw [hd, h.bads]
theorem Lx.skip {c : UInt8} {t r : List UInt8} {l : List (Nat × List UInt8)} {s : List UInt8} {n : Nat} (hs : stepT (c :: t) = (7, s, n)) (hd : (c :: t).drop n = r) (h : Lx r l) : Lx (c :: t) l := by
 refine ⟨fun a => ?_, fun a en nb => ?_⟩
 · rw [toks_cons, hs]
   simp only [isTk]
   rw [hd]
   exact h.toks _
 · rw [bads_cons, hs]
   simp only
   rw [hd]
   exact h.bads _ _ _
theorem Lx.blank {c : UInt8} {r : List UInt8} {l : List (Nat × List UInt8)} (hc : blB c = true) (h : Lx r l) : Lx (c :: r) l :=
 Lx.skip (s := []) (n := 1) (by rw [stepT, if_pos hc]) rfl h
/-- what may follow a word or a number -/
def Brk (r : List UInt8) : Prop := runN true r = 0
theorem runN_zero {r : List UInt8} (h : Brk r) : runN false r = 0 := by
 cases r with
 | nil => rfl
 | cons b t =>
   unfold Brk at h
   unfold runN at h ⊢
   split at h
   · cases h
   · rename_i q
     rw [if_neg]
     intro h2
     simp only [Bool.false_and, Bool.or_false] at h2
     exact q (by rw [h2]; rfl)
theorem Brk.cons {c : UInt8} {t : List UInt8} (h1 : inB c = false) (h2 : c ≠ 58 ∧ c ≠ 46) : Brk (c :: t) := by
 unfold Brk runN
 rw [if_neg]
 rw [h1]
 have : ptB c t = false := by
  unfold ptB
  have e1 : (c == 58) = false := by simpa using h2.1
  have e2 : (c == 46) = false := by simpa using h2.2
  rw [e1, e2]; rfl
 rw [this]; decide
theorem Brk.nil : Brk [] := rfl
theorem run_word (y : List UInt8) : ∀ {x : List UInt8}, x.all inB = true → runN false (x ++ y) = x.length + runN false y
 | [], _ => by simp
 | b :: x, h => by
   rw [List.all_cons, Bool.and_eq_true] at h
   rw [List.cons_append, runN, if_pos (by rw [h.1]; rfl), run_word y h.2, List.length_cons]; omega
/-- a word: a letter, then letters, digits, underlines -/
def wordB (w : List UInt8) : Bool := match w with | [] => false | c :: t => isLt c && t.all inB
theorem all_u8 {p : UInt8 → Prop} (h : ∀ n : Fin 256, p (UInt8.ofNat n.1)) (b : UInt8) : p b := by
 have := h ⟨b.toNat, b.toNat_lt⟩
 simpa using this
theorem lt_bl (c : UInt8) : isLt c = true → blB c = false ∧ c ≠ 35 := all_u8 (p := fun c => isLt c = true → blB c = false ∧ c ≠ 35) (by decide +kernel) c
theorem Lx.word {w r : List UInt8} {l : List (Nat × List UInt8)} (hw : wordB w = true) (hr : Brk r) (h : Lx r l) : Lx (w ++ r) ((1, w) :: l) := by
 cases w with
 | nil => cases hw
 | cons c t =>
   simp only [wordB, Bool.and_eq_true] at hw
   have hb := lt_bl c hw.1
   have hrun : runN false (t ++ r) = t.length := by rw [run_word r hw.2, runN_zero hr]; rfl
   rw [List.cons_append]
   refine Lx.step (k := 1) (s := c :: t) (n := t.length + 1) ?_ ?_ h (by decide)
   · rw [stepT, if_neg (by rw [hb.1]; decide), if_neg hb.2, readT, if_pos hw.1, hrun]
     simp
   · simp
theorem dg_bl (c : UInt8) : isDg c = true → blB c = false ∧ c ≠ 35 ∧ isLt c = false := all_u8 (p := fun c => isDg c = true → blB c = false ∧ c ≠ 35 ∧ isLt c = false) (by decide +kernel) c
/-- an integer that is not negative -/
theorem Lx.num {s r : List UInt8} {l : List (Nat × List UInt8)} (hs : numB s = true) (hr : Brk r) (h : Lx r l) : Lx (s ++ r) ((2, s) :: l) := by
 obtain ⟨hd, hne⟩ := numB_dg hs
 cases s with
 | nil => exact absurd rfl hne
 | cons c t =>
   rw [List.all_cons, Bool.and_eq_true] at hd
   have hb := dg_bl c hd.1
   have hrun : runN true (t ++ r) = t.length := by rw [run_dg r hd.2, hr]; rfl
   have hint : intgB (c :: t) = true := by
    rw [intgB_plus]
    · exact hs
    · intro q e
      cases e
      exact absurd hd.1 (by decide)
   rw [List.cons_append]
   refine Lx.step (k := 2) (s := c :: t) (n := t.length + 1) ?_ ?_ h (by decide)
   · rw [stepT, if_neg (by rw [hb.1]; decide), if_neg hb.2.1, readT, if_neg (by rw [hb.2.2]; decide), if_pos (by rw [hd.1]; rfl), hrun]
     have : (c :: (t ++ r)).take (t.length + 1) = c :: t := by simp
     rw [this, numT, if_pos hint]
   · simp
/-- a sign of one byte -/
theorem sg_bl (c : UInt8) : sgB c = true → blB c = false ∧ c ≠ 35 ∧ isLt c = false ∧ isDg c = false ∧ c ≠ 45 ∧ c ≠ 34 := all_u8 (p := fun c => sgB c = true → blB c = false ∧ c ≠ 35 ∧ isLt c = false ∧ isDg c = false ∧ c ≠ 45 ∧ c ≠ 34) (by decide +kernel) c
theorem Lx.sign {c : UInt8} {r : List UInt8} {l : List (Nat × List UInt8)} (hc : sgB c = true) (hd : dblB c r = false) (h : Lx r l) : Lx (c :: r) ((5, [c]) :: l) := by
 have hb := sg_bl c hc
 refine Lx.step (k := 5) (s := [c]) (n := 1) ?_ rfl h (by decide)
 have e45 : (c == 45) = false := by simpa using hb.2.2.2.2.1
 rw [stepT, if_neg (by rw [hb.1]; decide), if_neg hb.2.1, readT, if_neg (by rw [hb.2.2.1]; decide), if_neg (by rw [hb.2.2.2.1, e45]; simp), if_neg hb.2.2.2.2.2, if_neg (by rw [hd]; decide), if_pos hc]
/-- '<=', '>=', '..' -/
theorem Lx.dbl {c d : UInt8} {r : List UInt8} {l : List (Nat × List UInt8)} (hc : dblB c (d :: r) = true) (h : Lx r l) : Lx (c :: d :: r) ((5, [c, d]) :: l) := by
 have hcd : (c = 60 ∨ c = 62 ∨ c = 46) := by
  simp only [dblB, Bool.or_eq_true, Bool.and_eq_true, beq_iff_eq] at hc
  rcases hc with ⟨h | h, _⟩ | ⟨h, _⟩
  · exact .inl h
  · exact .inr (.inl h)
  · exact .inr (.inr h)
 have hb : blB c = false ∧ c ≠ 35 ∧ isLt c = false ∧ isDg c = false ∧ (c == 45) = false ∧ c ≠ 34 := by
  rcases hcd with rfl | rfl | rfl <;> decide
 refine Lx.step (k := 5) (s := [c, d]) (n := 2) ?_ rfl h (by decide)
 rw [stepT, if_neg (by rw [hb.1]; decide), if_neg hb.2.1, readT, if_neg (by rw [hb.2.2.1]; decide), if_neg (by rw [hb.2.2.2.1, hb.2.2.2.2.1]; simp), if_neg hb.2.2.2.2.2, if_pos hc]
 rfl
/-- a time -/
theorem Lx.time {s r : List UInt8} {l : List (Nat × List UInt8)} {v : Int} (hs : timeN s = some v) (hr : Brk r) (h : Lx r l) : Lx (s ++ r) ((3, s) :: l) := by
 obtain ⟨b, t, rfl, h1, h2⟩ := hd_ne hs
 have hrd := readT_time hs hr
 rw [List.cons_append] at hrd ⊢
 refine Lx.step (k := 3) (s := b :: t) (n := (b :: t).length) ?_ ?_ h (by decide)
 · rw [stepT, if_neg (by rw [h1]; decide), if_neg h2, hrd]
 · simp
end Go.Proofs.YtedjnaggkakphaaGreatDoor.Dx
