/- Chapter 06: the parser of conditions and steps as plain functions over tokens. -/
import Derived.Test.YtaopegkpjhkooaaGreatDoorBq
import Derived.Test.YtaopegkpjhkooaaGreatDoorBl
set_option linter.all false
namespace Go.Proofs.YtaopegkpjhkooaaGreatDoor.Dx
open Go Go.RowKit
set_option maxRecDepth 100000
/-- what reading comes to: a value and the tokens behind it; an error at an offset; the fuel is gone -/
inductive Rs (α : Type) where
 | ok (a : α) (ts : List Tk)
 | er (at_ : Nat) (e : Int)
 | out
def Rs.bind {α β : Type} (r : Rs α) (f : α → List Tk → Rs β) : Rs β := match r with | .ok a ts => f a ts | .er a e => .er a e | .out => .out
theorem Rs.bind_ok {α β : Type} {a : α} {ts : List Tk} {f : α → List Tk → Rs β} : (Rs.ok a ts).bind f = f a ts := rfl
theorem Rs.bind_er {α β : Type} {a : Nat} {e : Int} {f : α → List Tk → Rs β} : (Rs.er a e : Rs α).bind f = .er a e := rfl
def hdT (ts : List Tk) : Tk := ts.headD ⟨6, [], 0⟩
def failT {α : Type} (e : Int) (ts : List Tk) : Rs α := .er (hdT ts).at_ e
/-- is the next token this word or sign? -/
def isW (w : List UInt8) (ts : List Tk) : Bool := (decide ((hdT ts).kind = 1) || decide ((hdT ts).kind = 5)) && decide ((hdT ts).text = w)
def needP (w : List UInt8) (ts : List Tk) : Rs Unit := if isW w ts then .ok () ts.tail else failT 60 ts
/-- the number that a token is -/
def numK (t : Tk) : Option Int := if t.kind = 2 ∧ t.text.head? ≠ some 45 ∧ (numN t.text : Int) ≤ 1125899906842624 then some (numN t.text) else none
def numP (ts : List Tk) : Rs Int := match numK (hdT ts) with | some n => .ok n ts.tail | none => failT 60 ts
def varK (ts : List Tk) : Option Int := if isW [100, 105, 115, 116, 97, 110, 99, 101] ts then some 1 else if isW [102, 105, 101, 108, 100] ts then some 2 else if isW [115, 104, 111, 114, 116] ts then some 3 else none
abbrev notC (c : Cond) : Cond := ⟨4, 0, 0, [c]⟩
abbrev leC (v n : Int) : Cond := ⟨1, v, n, []⟩
def relP (v : Int) (ts : List Tk) : Rs Cond :=
 if isW [62, 61] ts then (numP ts.tail).bind fun n ts => .ok (leC v n) ts
 else if isW [62] ts then (numP ts.tail).bind fun n ts => .ok (leC v (n + 1)) ts
 else if isW [60, 61] ts then (numP ts.tail).bind fun n ts => .ok (notC (leC v (n + 1))) ts
 else if isW [60] ts then (numP ts.tail).bind fun n ts => .ok (notC (leC v n)) ts
 else if isW [61] ts then (numP ts.tail).bind fun n ts => .ok ⟨2, 0, 0, [leC v n, notC (leC v (n + 1))]⟩ ts
 else failT 60 ts
def mkC (k : Int) : List Cond → Cond
 | [c] => c
 | l => ⟨k, 0, 0, l⟩
mutual
def unitP : Nat → Nat → List Tk → Rs Cond
 | 0, _, _ => .out
 | k + 1, d, ts =>
   if (isW [110, 111, 116] ts || isW [40] ts) && decide (16 ≤ d) then failT 2 ts
   else if isW [110, 111, 116] ts then (unitP k (d + 1) ts.tail).bind fun c ts => .ok (notC c) ts
   else if isW [40] ts then (condP k (d + 1) ts.tail).bind fun c ts => (needP [41] ts).bind fun _ ts => .ok c ts
   else match varK ts with
    | none => failT 60 ts
    | some v => relP v ts.tail
def conjP : Nat → Nat → List Tk → Rs Cond
 | 0, _, _ => .out
 | k + 1, d, ts => (unitP k d ts).bind fun c ts => conjL k d [c] ts
def conjL : Nat → Nat → List Cond → List Tk → Rs Cond
 | 0, _, _, _ => .out
 | k + 1, d, l, ts => if isW [97, 110, 100] ts then (unitP k d ts.tail).bind fun c ts => conjL k d (l ++ [c]) ts else .ok (mkC 2 l) ts
def condP : Nat → Nat → List Tk → Rs Cond
 | 0, _, _ => .out
 | k + 1, d, ts => (conjP k d ts).bind fun c ts => condL k d [c] ts
def condL : Nat → Nat → List Cond → List Tk → Rs Cond
 | 0, _, _, _ => .out
 | k + 1, d, l, ts => if isW [111, 114] ts then (conjP k d ts.tail).bind fun c ts => condL k d (l ++ [c]) ts else .ok (mkC 3 l) ts
end
def critW : List (List UInt8 × Int) := [([111, 108, 100, 101, 114], 1), ([121, 111, 117, 110, 103, 101, 114], 2), ([119, 97, 118, 101], 3), ([98, 105, 98], 4), ([100, 114, 97, 119], 5)]
def critK (ts : List Tk) : Option Int := if (hdT ts).kind = 1 then (critW.find? fun p => p.1 == (hdT ts).text).map (·.2) else none
mutual
def stepsP : Nat → Nat → List Step → List Tk → Rs (List Step)
 | 0, _, _, _ => .out
 | k + 1, d, l, ts => match critK ts with
   | some b => (needP [59] ts.tail).bind fun _ ts => stepsP k d (l ++ [⟨1, b, ⟨0, 0, 0, []⟩, [], []⟩]) ts
   | none =>
     if isW [105, 102] ts then
      if 16 ≤ d then failT 2 ts
      else (condP k 0 ts.tail).bind fun c ts => (blockP k (d + 1) ts).bind fun t ts =>
       if isW [101, 108, 115, 101] ts then (blockP k (d + 1) ts.tail).bind fun e ts => stepsP k d (l ++ [⟨2, 0, c, t, e⟩]) ts
       else stepsP k d (l ++ [⟨2, 0, c, t, []⟩]) ts
     else if l = [] then failT 60 ts else .ok l ts
def blockP : Nat → Nat → List Tk → Rs (List Step)
 | 0, _, _ => .out
 | k + 1, d, ts => (needP [123] ts).bind fun _ ts => (stepsP k d [] ts).bind fun l ts => (needP [125] ts).bind fun _ ts => .ok l ts
end
/-! ### More fuel does no harm -/
theorem bind_more {α β : Type} {r r' : Rs α} {f f' : α → List Tk → Rs β} (h : r ≠ .out → r' = r) (hf : ∀ a ts, f a ts ≠ .out → f' a ts = f a ts) (hn : r.bind f ≠ .out) : r'.bind f' = r.bind f := by
 cases r with
 | ok a ts => rw [h (by simp)]; exact hf a ts hn
 | er a e => rw [h (by simp)]; rfl
 | out => exact absurd rfl hn
theorem cond_more : ∀ k : Nat, (∀ d ts, unitP k d ts ≠ .out → unitP (k + 1) d ts = unitP k d ts) ∧ (∀ d ts, conjP k d ts ≠ .out → conjP (k + 1) d ts = conjP k d ts) ∧ (∀ d l ts, conjL k d l ts ≠ .out → conjL (k + 1) d l ts = conjL k d l ts) ∧
 (∀ d ts, condP k d ts ≠ .out → condP (k + 1) d ts = condP k d ts) ∧ (∀ d l ts, condL k d l ts ≠ .out → condL (k + 1) d l ts = condL k d l ts)
 | 0 => ⟨fun d ts h => absurd (by rw [unitP]) h, fun d ts h => absurd (by rw [conjP]) h, fun d l ts h => absurd (by rw [conjL]) h, fun d ts h => absurd (by rw [condP]) h, fun d l ts h => absurd (by rw [condL]) h⟩
 | k + 1 => by
   obtain ⟨h1, h2, h3, h4, h5⟩ := cond_more k
   refine ⟨fun d ts h => ?_, fun d ts h => ?_, fun d l ts h => ?_, fun d ts h => ?_, fun d l ts h => ?_⟩
   · rw [unitP] at h
     conv => lhs; rw [unitP]
     conv => rhs; rw [unitP]
     split
     · rfl
     · rename_i q1
       rw [if_neg q1] at h
       split
       · rename_i q2
         rw [if_pos q2] at h
         exact bind_more (h1 _ _) (fun _ _ _ => rfl) h
       · rename_i q2
         rw [if_neg q2] at h
         split
         · rename_i q3
           rw [if_pos q3] at h
           exact bind_more (h4 _ _) (fun _ _ _ => rfl) h
         · rfl
   · rw [conjP] at h
     conv => lhs; rw [conjP]
     conv => rhs; rw [conjP]
     exact bind_more (h1 _ _) (fun _ _ => h3 _ _ _) h
   · rw [conjL] at h
     conv => lhs; rw [conjL]
     conv => rhs; rw [conjL]
     split
     · rename_i q
       rw [if_pos q] at h
       exact bind_more (h1 _ _) (fun _ _ => h3 _ _ _) h
     · rfl
   · rw [condP] at h
     conv => lhs; rw [condP]
     conv => rhs; rw [condP]
     exact bind_more (h2 _ _) (fun _ _ => h5 _ _ _) h
   · rw [condL] at h
     conv => lhs; rw [condL]
     conv => rhs; rw [condL]
     split
     · rename_i q
       rw [if_pos q] at h
       exact bind_more (h2 _ _) (fun _ _ => h5 _ _ _) h
     · rfl
theorem steps_more : ∀ k : Nat, (∀ d l ts, stepsP k d l ts ≠ .out → stepsP (k + 1) d l ts = stepsP k d l ts) ∧ (∀ d ts, blockP k d ts ≠ .out → blockP (k + 1) d ts = blockP k d ts)
 | 0 => ⟨fun d l ts h => absurd (by rw [stepsP]) h, fun d ts h => absurd (by rw [blockP]) h⟩
 | k + 1 => by
   obtain ⟨h1, h2⟩ := steps_more k
   have h4 := (cond_more k).2.2.2.1
   refine ⟨fun d l ts h => ?_, fun d ts h => ?_⟩
   · rw [stepsP] at h
     conv => lhs; rw [stepsP]
     conv => rhs; rw [stepsP]
     split
     · rename_i b hb
       rw [hb] at h
       exact bind_more (fun _ => rfl) (fun _ _ => h1 _ _ _) h
     · rename_i hb
       rw [hb] at h
       split
       · rename_i q
         simp only [if_pos q] at h
         split
         · rfl
         · rename_i q2
           rw [if_neg q2] at h
           refine bind_more (h4 _ _) (fun c ts hh => ?_) h
           refine bind_more (h2 _ _) (fun t ts hh => ?_) hh
           split
           · rename_i q3
             rw [if_pos q3] at hh
             exact bind_more (h2 _ _) (fun _ _ => h1 _ _ _) hh
           · rename_i q3
             rw [if_neg q3] at hh
             exact h1 _ _ _ hh
       · rfl
   · rw [blockP] at h
     conv => lhs; rw [blockP]
     conv => rhs; rw [blockP]
     exact bind_more (fun _ => rfl) (fun _ _ hh => bind_more (h1 _ _ _) (fun _ _ _ => rfl) hh) h
theorem more_le {α : Type} {f : Nat → Rs α} (h : ∀ k, f k ≠ .out → f (k + 1) = f k) {k j : Nat} (hk : f k ≠ .out) (hj : k ≤ j) : f j = f k := by
 obtain ⟨i, rfl⟩ : ∃ i, j = k + i := ⟨j - k, by omega⟩
 clear hj
 induction i with
 | zero => rfl
 | succ i ih => rw [← ih]; exact h (k + i) (by rw [ih]; exact hk)
/-! ### Enough fuel -/
def Rs.short {α : Type} (r : Rs α) (n : Nat) : Prop := r ≠ .out ∧ ∀ a ts, r = .ok a ts → ts.length ≤ n
theorem short_fail {α : Type} {e : Int} {ts : List Tk} {n : Nat} : (failT e ts : Rs α).short n := ⟨by simp [failT], fun a ts h => by simp [failT] at h⟩
theorem Rs.short.bind {α β : Type} {r : Rs α} {f : α → List Tk → Rs β} {n m : Nat} (h : r.short n) (hf : ∀ a ts, ts.length ≤ n → (f a ts).short m) : (r.bind f).short m := by
 cases r with
 | ok a ts => exact hf a ts (h.2 a ts rfl)
 | er a e => exact ⟨by simp [Rs.bind], fun a ts h => by simp [Rs.bind] at h⟩
 | out => exact absurd rfl h.1
theorem isW_ne {w : List UInt8} {ts : List Tk} (h : isW w ts = true) : ∃ t r, ts = t :: r := by
 cases ts with
 | nil => simp [isW, hdT] at h
 | cons t r => exact ⟨t, r, rfl⟩
theorem isW_len {w : List UInt8} {ts : List Tk} (h : isW w ts = true) : ts.tail.length + 1 = ts.length := by
 obtain ⟨t, r, rfl⟩ := isW_ne h; rfl
theorem needP_short {w : List UInt8} {ts : List Tk} {n : Nat} (h : ts.length ≤ n + 1) : (needP w ts).short n := by
 rw [needP]
 split
 · rename_i q
   exact ⟨by simp, fun a r e => by cases e; rw [List.length_tail]; omega⟩
 · exact short_fail
theorem numP_short {ts : List Tk} {n : Nat} (h : ts.length ≤ n + 1) : (numP ts).short n := by
 rw [numP]
 split
 · exact ⟨by simp, fun a r e => by cases e; rw [List.length_tail]; omega⟩
 · exact short_fail
theorem Rs.short.ok {α : Type} {a : α} {ts : List Tk} {n : Nat} (h : ts.length ≤ n) : (Rs.ok a ts).short n := ⟨by simp, fun _ _ e => by cases e; exact h⟩
theorem relP_short {v : Int} {ts : List Tk} {n : Nat} (h : ts.length ≤ n) : (relP v ts).short n := by
 have ht : ts.tail.length ≤ n + 1 := by rw [List.length_tail]; omega
 rw [relP]
 repeat' split
 all_goals first
  | exact short_fail
  | exact (numP_short ht).bind fun _ _ h => .ok h
/-- for n tokens fuel 5 n + 5 is enough -/
theorem cond_enough (n : Nat) : (∀ k d ts, ts.length ≤ n → 5 * n + 1 ≤ k → (unitP k d ts).short n) ∧ (∀ k d ts, ts.length ≤ n → 5 * n + 3 ≤ k → (conjP k d ts).short n) ∧ (∀ k d l ts, ts.length ≤ n → 5 * n + 2 ≤ k → (conjL k d l ts).short n) ∧
 (∀ k d ts, ts.length ≤ n → 5 * n + 5 ≤ k → (condP k d ts).short n) ∧ (∀ k d l ts, ts.length ≤ n → 5 * n + 4 ≤ k → (condL k d l ts).short n) := by
 have ih : ∀ m, m + 1 = n → (∀ k d ts, ts.length ≤ m → 5 * m + 1 ≤ k → (unitP k d ts).short m) ∧ (∀ k d ts, ts.length ≤ m → 5 * m + 3 ≤ k → (conjP k d ts).short m) ∧ (∀ k d l ts, ts.length ≤ m → 5 * m + 2 ≤ k → (conjL k d l ts).short m) ∧
  (∀ k d ts, ts.length ≤ m → 5 * m + 5 ≤ k → (condP k d ts).short m) ∧ (∀ k d l ts, ts.length ≤ m → 5 * m + 4 ≤ k → (condL k d l ts).short m) := fun m hm => cond_enough m
 have up : ∀ {α : Type} {r : Rs α} {m : Nat}, m + 1 = n → r.short m → r.short n := fun hm h => ⟨h.1, fun a ts e => by have := h.2 a ts e; omega⟩
 have h1 : ∀ k d ts, ts.length ≤ n → 5 * n + 1 ≤ k → (unitP k d ts).short n := by
  intro k d ts hts hk
  obtain ⟨k, rfl⟩ : ∃ j, k = j + 1 := ⟨k - 1, by omega⟩
  rw [unitP]
  split
  · exact short_fail
  split
  · rename_i q
    have := isW_len q
    obtain ⟨m, hm⟩ : ∃ m, m + 1 = n := ⟨n - 1, by omega⟩
    exact up hm (((ih m hm).1 k (d + 1) ts.tail (by omega) (by omega)).bind fun _ _ h => .ok h)
  split
  · rename_i q
    have := isW_len q
    obtain ⟨m, hm⟩ : ∃ m, m + 1 = n := ⟨n - 1, by omega⟩
    exact up hm (((ih m hm).2.2.2.1 k (d + 1) ts.tail (by omega) (by omega)).bind fun _ _ h => (needP_short (by omega)).bind fun _ _ h => .ok h)
  · split
    · exact short_fail
    · exact relP_short (by rw [List.length_tail]; omega)
 have h3 : ∀ k d l ts, ts.length ≤ n → 5 * n + 2 ≤ k → (conjL k d l ts).short n := by
  intro k d l ts hts hk
  obtain ⟨k, rfl⟩ : ∃ j, k = j + 1 := ⟨k - 1, by omega⟩
  rw [conjL]
  split
  · rename_i q
    have := isW_len q
    obtain ⟨m, hm⟩ : ∃ m, m + 1 = n := ⟨n - 1, by omega⟩
    exact up hm (((ih m hm).1 k d ts.tail (by omega) (by omega)).bind fun _ _ h => (ih m hm).2.2.1 k d _ _ h (by omega))
  · exact .ok hts
 have h2 : ∀ k d ts, ts.length ≤ n → 5 * n + 3 ≤ k → (conjP k d ts).short n := by
  intro k d ts hts hk
  obtain ⟨k, rfl⟩ : ∃ j, k = j + 1 := ⟨k - 1, by omega⟩
  rw [conjP]
  exact (h1 k d ts hts (by omega)).bind fun _ _ h => h3 k d _ _ h (by omega)
 have h5 : ∀ k d l ts, ts.length ≤ n → 5 * n + 4 ≤ k → (condL k d l ts).short n := by
  intro k d l ts hts hk
  obtain ⟨k, rfl⟩ : ∃ j, k = j + 1 := ⟨k - 1, by omega⟩
  rw [condL]
  split
  · rename_i q
    have := isW_len q
    obtain ⟨m, hm⟩ : ∃ m, m + 1 = n := ⟨n - 1, by omega⟩
    exact up hm (((ih m hm).2.1 k d ts.tail (by omega) (by omega)).bind fun _ _ h => (ih m hm).2.2.2.2 k d _ _ h (by omega))
  · exact .ok hts
 refine ⟨h1, h2, h3, fun k d ts hts hk => ?_, h5⟩
 obtain ⟨k, rfl⟩ : ∃ j, k = j + 1 := ⟨k - 1, by omega⟩
 rw [condP]
 exact (h2 k d ts hts (by omega)).bind fun _ _ h => h5 k d _ _ h (by omega)
termination_by n
decreasing_by omega
end Go.Proofs.YtaopegkpjhkooaaGreatDoor.Dx
/- Chapter 06: how a written text is split into tokens (plain). -/
namespace Go.Proofs.YtaopegkpjhkooaaGreatDoor.Dx
open Go Go.RowKit
set_option maxRecDepth 100000
/-- a text that has no problems and these tokens (their kinds and texts; the end among them) -/
structure Lx (r : List UInt8) (l : List (Nat × List UInt8)) : Prop where
 toks : ∀ a, (Dx.toks r a).map Tk.bare = l
 bads : ∀ a en nb, Dx.bads r a en nb = []
theorem Lx.nil : Lx [] [(6, [])] := ⟨fun a => rfl, fun a en nb => rfl⟩
/-- one step of the scanner -/
theorem Lx.step {c : UInt8} {t r : List UInt8} {l : List (Nat × List UInt8)} {k : Nat} {s : List UInt8} {n : Nat} (hs : stepT (c :: t) = (k, s, n)) (hd : (c :: t).drop n = r) (h : Lx r l) (hk : isTk k = true) : Lx (c :: t) ((k, s) :: l) := by
 refine ⟨fun a => ?_, fun a en nb => ?_⟩
 · rw [toks_cons, hs]
   simp only [hk, if_true, List.map_cons]
   rw [hd, h.toks]; rfl
 · rw [bads_cons, hs]
   have : ¬ k = 0 := by intro e; subst e; simp [isTk] at hk
   simp only [this, if_false]
   rw [hd, h.bads]
theorem Lx.skip {c : UInt8} {t r : List UInt8} {l : List (Nat × List UInt8)} {s : List UInt8} {n : Nat} (hs : stepT (c :: t) = (7, s, n)) (hd : (c :: t).drop n = r) (h : Lx r l) : Lx (c :: t) l := by
 refine ⟨fun a => ?_, fun a en nb => ?_⟩
 · rw [toks_cons, hs]
   simp only [isTk]
   rw [hd]
   exact h.toks _
 · rw [bads_cons, hs]
   simp only
   rw [hd]
   exact h.bads _ _ _
theorem Lx.blank {c : UInt8} {r : List UInt8} {l : List (Nat × List UInt8)} (hc : blB c = true) (h : Lx r l) : Lx (c :: r) l :=
 Lx.skip (s := []) (n := 1) (by rw [stepT, if_pos hc]) rfl h
/-- what may follow a word or a number -/
def Brk (r : List UInt8) : Prop := runN true r = 0
theorem runN_zero {r : List UInt8} (h : Brk r) : runN false r = 0 := by
 cases r with
 | nil => rfl
 | cons b t =>
   unfold Brk at h
   unfold runN at h ⊢
   split at h
   · cases h
   · rename_i q
     rw [if_neg]
     intro h2
     simp only [Bool.false_and, Bool.or_false] at h2
     exact q (by rw [h2]; rfl)
theorem Brk.cons {c : UInt8} {t : List UInt8} (h1 : inB c = false) (h2 : c ≠ 58 ∧ c ≠ 46) : Brk (c :: t) := by
 unfold Brk runN
 rw [if_neg]
 rw [h1]
 have : ptB c t = false := by
  unfold ptB
  have e1 : (c == 58) = false := by simpa using h2.1
  have e2 : (c == 46) = false := by simpa using h2.2
  rw [e1, e2]; rfl
 rw [this]; decide
theorem Brk.nil : Brk [] := rfl
theorem run_word (y : List UInt8) : ∀ {x : List UInt8}, x.all inB = true → runN false (x ++ y) = x.length + runN false y
 | [], _ => by simp
 | b :: x, h => by
   rw [List.all_cons, Bool.and_eq_true] at h
   rw [List.cons_append, runN, if_pos (by rw [h.1]; rfl), run_word y h.2, List.length_cons]; omega
/-- a word: a letter, then letters, digits, underlines -/
def wordB (w : List UInt8) : Bool := match w with | [] => false | c :: t => isLt c && t.all inB
theorem all_u8 {p : UInt8 → Prop} (h : ∀ n : Fin 256, p (UInt8.ofNat n.1)) (b : UInt8) : p b := by
 have := h ⟨b.toNat, b.toNat_lt⟩
 simpa using this
theorem lt_bl (c : UInt8) : isLt c = true → blB c = false ∧ c ≠ 35 := all_u8 (p := fun c => isLt c = true → blB c = false ∧ c ≠ 35) (by decide +kernel) c
theorem Lx.word {w r : List UInt8} {l : List (Nat × List UInt8)} (hw : wordB w = true) (hr : Brk r) (h : Lx r l) : Lx (w ++ r) ((1, w) :: l) := by
 cases w with
 | nil => cases hw
 | cons c t =>
   simp only [wordB, Bool.and_eq_true] at hw
   have hb := lt_bl c hw.1
   have hrun : runN false (t ++ r) = t.length := by rw [run_word r hw.2, runN_zero hr]; rfl
   rw [List.cons_append]
   refine Lx.step (k := 1) (s := c :: t) (n := t.length + 1) ?_ ?_ h (by decide)
   · rw [stepT, if_neg (by rw [hb.1]; decide), if_neg hb.2, readT, if_pos hw.1, hrun]
     simp
   · simp
theorem dg_bl (c : UInt8) : isDg c = true → blB c = false ∧ c ≠ 35 ∧ isLt c = false := all_u8 (p := fun c => isDg c = true → blB c = false ∧ c ≠ 35 ∧ isLt c = false) (by decide +kernel) c
/-- an integer that is not negative -/
theorem Lx.num {s r : List UInt8} {l : List (Nat × List UInt8)} (hs : numB s = true) (hr : Brk r) (h : Lx r l) : Lx (s ++ r) ((2, s) :: l) := by
 obtain ⟨hd, hne⟩ := numB_dg hs
 cases s with
 | nil => exact absurd rfl hne
 | cons c t =>
   rw [List.all_cons, Bool.and_eq_true] at hd
   have hb := dg_bl c hd.1
   have hrun : runN true (t ++ r) = t.length := by rw [run_dg r hd.2, hr]; rfl
   have hint : intgB (c :: t) = true := by
    rw [intgB_plus]
    · exact hs
    · intro q e
      cases e
      exact absurd hd.1 (by decide)
   rw [List.cons_append]
   refine Lx.step (k := 2) (s := c :: t) (n := t.length + 1) ?_ ?_ h (by decide)
   · rw [stepT, if_neg (by rw [hb.1]; decide), if_neg hb.2.1, readT, if_neg (by rw [hb.2.2]; decide), if_pos (by rw [hd.1]; rfl), hrun]
     have : (c :: (t ++ r)).take (t.length + 1) = c :: t := by simp
     rw [this, numT, if_pos hint]
   · simp
/-- a sign of one byte -/
theorem sg_bl (c : UInt8) : sgB c = true → blB c = false ∧ c ≠ 35 ∧ isLt c = false ∧ isDg c = false ∧ c ≠ 45 ∧ c ≠ 34 := all_u8 (p := fun c => sgB c = true → blB c = false ∧ c ≠ 35 ∧ isLt c = false ∧ isDg c = false ∧ c ≠ 45 ∧ c ≠ 34) (by decide +kernel) c
theorem Lx.sign {c : UInt8} {r : List UInt8} {l : List (Nat × List UInt8)} (hc : sgB c = true) (hd : dblB c r = false) (h : Lx r l) : Lx (c :: r) ((5, [c]) :: l) := by
 have hb := sg_bl c hc
 refine Lx.step (k := 5) (s := [c]) (n := 1) ?_ rfl h (by decide)
 have e45 : (c == 45) = false := by simpa using hb.2.2.2.2.1
 rw [stepT, if_neg (by rw [hb.1]; decide), if_neg hb.2.1, readT, if_neg (by rw [hb.2.2.1]; decide), if_neg (by rw [hb.2.2.2.1, e45]; simp), if_neg hb.2.2.2.2.2, if_neg (by rw [hd]; decide), if_pos hc]
/-- '<=', '>=', '..' -/
theorem Lx.dbl {c d : UInt8} {r : List UInt8} {l : List (Nat × List UInt8)} (hc : dblB c (d :: r) = true) (h : Lx r l) : Lx (c :: d :: r) ((5, [c, d]) :: l) := by
 have hcd : (c = 60 ∨ c = 62 ∨ c = 46) := by
  simp only [dblB, Bool.or_eq_true, Bool.and_eq_true, beq_iff_eq] at hc
  rcases hc with ⟨h | h, _⟩ | ⟨h, _⟩
  · exact .inl h
  · exact .inr (.inl h)
  · exact .inr (.inr h)
 have hb : blB c = false ∧ c ≠ 35 ∧ isLt c = false ∧ isDg c = false ∧ (c == 45) = false ∧ c ≠ 34 := by
  rcases hcd with rfl | rfl | rfl <;> decide
 refine Lx.step (k := 5) (s := [c, d]) (n := 2) ?_ rfl h (by decide)
 rw [stepT, if_neg (by rw [hb.1]; decide), if_neg hb.2.1, readT, if_neg (by rw [hb.2.2.1]; decide), if_neg (by rw [hb.2.2.2.1, hb.2.2.2.2.1]; simp), if_neg hb.2.2.2.2.2, if_pos hc]
 rfl
/-- a time -/
theorem Lx.time {s r : List UInt8} {l : List (Nat × List UInt8)} {v : Int} (hs : timeN s = some v) (hr : Brk r) (h : Lx r l) : Lx (s ++ r) ((3, s) :: l) := by
 obtain ⟨b, t, rfl, h1, h2⟩ := hd_ne hs
 have hrd := readT_time hs hr
 rw [List.cons_append] at hrd ⊢
 refine Lx.step (k := 3) (s := b :: t) (n := (b :: t).length) ?_ ?_ h (by decide)
 · rw [stepT, if_neg (by rw [h1]; decide), if_neg h2, hrd]
 · simp
end Go.Proofs.YtaopegkpjhkooaaGreatDoor.Dx
