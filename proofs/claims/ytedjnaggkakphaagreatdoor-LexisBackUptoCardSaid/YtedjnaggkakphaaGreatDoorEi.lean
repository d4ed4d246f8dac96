/- Chapter 06: a joined text is split into the same tokens; tokens of a text can be joined (plain). -/
import Derived.Test.YtedjnaggkakphaaGreatDoorEh
import Derived.Test.YtedjnaggkakphaaGreatDoorE2
set_option linter.all false
namespace Go.Proofs.YtedjnaggkakphaaGreatDoor.Dx
open Go Go.RowKit
set_option maxRecDepth 100000
/-- a blank, or the end, is next -/
def Sep (r : List UInt8) : Prop := r = [] ∨ ∃ t, r = 32 :: t
theorem Sep.brk {r : List UInt8} (h : Sep r) : Brk r := by
 rcases h with rfl | ⟨t, rfl⟩
 · exact Brk.nil
 · exact Brk.cons (by decide) (by decide)
theorem Sep.dbl {r : List UInt8} (h : Sep r) (c : UInt8) : dblB c r = false := by
 rcases h with rfl | ⟨t, rfl⟩
 · rfl
 · simp [dblB]
theorem cls2 (b : UInt8) : decide (cls b.toNat = 2) = isLt b := all_u8 (p := fun b => decide (cls b.toNat = 2) = isLt b) (by decide +kernel) b
theorem chIn (b : UInt8) : wordCh b = inB b := all_u8 (p := fun b => wordCh b = inB b) (by decide +kernel) b
theorem lt_in {c : UInt8} (h : isLt c = true) : inB c = true := by simp [inB, h]
theorem isWd_word (s : List UInt8) : isWd s = wordB s := by
 cases s with
 | nil => rfl
 | cons c t =>
   have e : t.all wordCh = t.all inB := by congr 1; funext b; exact chIn b
   show (decide (cls c.toNat = 2) && (c :: t).all wordCh) = (isLt c && t.all inB)
   rw [List.all_cons, cls2, chIn, e]
   cases h : isLt c with
   | false => rfl
   | true => rw [lt_in h]; rfl
/-- an integer -/
theorem Lx.int {s r : List UInt8} {l : List (Nat × List UInt8)} (hs : intgB s = true) (hr : Brk r) (h : Lx r l) : Lx (s ++ r) ((2, s) :: l) := by
 by_cases e : ∃ q, s = 45 :: q
 · obtain ⟨q, rfl⟩ := e
   have hq : numB q = true := by
    simp only [intgB, Bool.and_eq_true] at hs
    exact hs.1
   obtain ⟨hd, hne⟩ := numB_dg hq
   have hrun : runN true (q ++ r) = q.length := by rw [run_dg r hd, hr]; rfl
   have hh := hd_app r hd hne
   rw [List.cons_append]
   refine Lx.step (k := 2) (s := 45 :: q) (n := q.length + 1) ?_ ?_ h (by decide)
   · rw [stepT, if_neg (by decide), if_neg (by decide), readT, if_neg (by decide), if_pos (by rw [hh]; rfl), hrun]
     have : (45 :: (q ++ r)).take (q.length + 1) = 45 :: q := by simp
     rw [this, numT, if_pos hs]
   · simp
 · exact Lx.num (by rw [← intgB_plus fun q hq => e ⟨q, hq⟩]; exact hs) hr h
theorem qt_cons (b : UInt8) (s : List UInt8) : qtT (b :: s) = qtB b ++ qtT s := by rw [qtT, List.flatMap_cons]; rfl
theorem quo_q {t : List UInt8} : quoN (34 :: t) = some ([], 1) := by
 unfold quoN
 rw [if_pos rfl]
theorem quo_e {d x : UInt8} {t s : List UInt8} {n : Nat} (hd : escB d = some x) (h : quoN t = some (s, n)) : quoN (92 :: d :: t) = some (x :: s, n + 2) := by
 rw [quoN, if_neg (by decide), if_neg (by decide), if_pos rfl]
 simp only [hd, h]
theorem quo_c {c : UInt8} {t s : List UInt8} {n : Nat} (h1 : c ≠ 34) (h2 : ¬ (c < 32 ∨ c > 126)) (h3 : c ≠ 92) (h : quoN t = some (s, n)) : quoN (c :: t) = some (c :: s, n + 1) := by
 unfold quoN
 rw [if_neg h1, if_neg h2, if_neg h3]
 simp only [h]
theorem txt_byte (b : UInt8) (h : badR b.toNat = false) (h10 : b ≠ 10) : ¬ (b < 32 ∨ b > 126) := by
 have := all_u8 (p := fun b => badR b.toNat = false → b ≠ 10 → ¬ (b < 32 ∨ b > 126)) (by decide +kernel) b
 exact this h h10
/-- what is quoted is read again -/
theorem quo_back (r : List UInt8) : ∀ {s : List UInt8}, txtB s = true → quoN (qtT s ++ 34 :: r) = some (s, (qtT s).length + 1)
 | [], _ => quo_q
 | b :: s, h => by
   unfold txtB at h
   rw [List.all_cons, Bool.and_eq_true] at h
   have ih := quo_back r (s := s) h.2
   have hb : badR b.toNat = false := by simpa using h.1
   rw [qt_cons, List.append_assoc, List.length_append]
   unfold qtB
   by_cases h1 : b = 34
   · subst h1
     rw [if_pos rfl]
     refine (quo_e (d := 34) (x := 34) (by rfl) ih).trans ?_
     simp only [List.length_cons, List.length_nil]
     rw [show (qtT s).length + 1 + 2 = 0 + 1 + 1 + (qtT s).length + 1 by omega]
   rw [if_neg h1]
   by_cases h2 : b = 92
   · subst h2
     rw [if_pos rfl]
     refine (quo_e (d := 92) (x := 92) (by rfl) ih).trans ?_
     simp only [List.length_cons, List.length_nil]
     rw [show (qtT s).length + 1 + 2 = 0 + 1 + 1 + (qtT s).length + 1 by omega]
   rw [if_neg h2]
   by_cases h3 : b = 10
   · subst h3
     rw [if_pos rfl]
     refine (quo_e (d := 110) (x := 10) (by rfl) ih).trans ?_
     simp only [List.length_cons, List.length_nil]
     rw [show (qtT s).length + 1 + 2 = 0 + 1 + 1 + (qtT s).length + 1 by omega]
   rw [if_neg h3]
   refine (quo_c h1 (txt_byte b hb h3) h2 ih).trans ?_
   simp only [List.length_cons, List.length_nil]
   rw [show (qtT s).length + 1 + 1 = 0 + 1 + (qtT s).length + 1 by omega]
/-- a quoted text -/
theorem Lx.quo {s r : List UInt8} {l : List (Nat × List UInt8)} (hs : txtB s = true) (h : Lx r l) : Lx (34 :: (qtT s ++ [34]) ++ r) ((4, s) :: l) := by
 have hq := quo_back r hs
 rw [List.cons_append, List.append_assoc, List.singleton_append]
 refine Lx.step (k := 4) (s := s) (n := (qtT s).length + 1 + 1) ?_ ?_ h (by decide)
 · rw [stepT, if_neg (by decide), if_neg (by decide), readT, if_neg (by decide), if_neg (show ¬ (isDg 34 || ((34 : UInt8) == 45 && hdDg (qtT s ++ 34 :: r))) = true from fun h => Bool.noConfusion (show false = true from h)), if_pos rfl, hq]
 · rw [List.drop_succ_cons, ← List.drop_drop, List.drop_left]; rfl
/-- a sign -/
theorem Lx.sgn {s r : List UInt8} {l : List (Nat × List UInt8)} (hs : sgnB s = true) (hr : Sep r) (h : Lx r l) : Lx (s ++ r) ((5, s) :: l) := by
 unfold sgnB at hs
 simp only [Bool.or_eq_true, Bool.and_eq_true, decide_eq_true_eq] at hs
 rcases hs with ((⟨h1, h2⟩ | rfl) | rfl) | rfl
 · match s, h1, h2 with
   | [c], _, h2 =>
     have hc : sgB c = true := (all_u8 (p := fun c => Lib.contains signL [c] = true → sgB c = true) (by decide +kernel) c) h2
     exact Lx.sign hc (hr.dbl c) h
 · exact Lx.dbl rfl h
 · exact Lx.dbl rfl h
 · exact Lx.dbl rfl h
abbrev TkZ.bz (t : TkZ) : Nat × List UInt8 := (t.kind.toNat, t.text)
theorem tk_cases {t : TkZ} (h : tkB t = true) : (t.kind = 1 ∧ isWd t.text = true) ∨ (t.kind = 2 ∧ intgB t.text = true) ∨ (t.kind = 3 ∧ (timeN t.text).isSome = true) ∨ (t.kind = 5 ∧ sgnB t.text = true) ∨ (t.kind = 4 ∧ txtB t.text = true) := by
 unfold tkB at h
 repeat' split at h
 all_goals first | cases h | simp_all
theorem lx_tk {t : TkZ} {r : List UInt8} {l : List (Nat × List UInt8)} (ht : tkB t = true) (hr : Sep r) (h : Lx r l) : Lx (tkT t ++ r) (t.bz :: l) := by
 unfold tkT
 rcases tk_cases ht with ⟨e, h1⟩ | ⟨e, h1⟩ | ⟨e, h1⟩ | ⟨e, h1⟩ | ⟨e, h1⟩ <;> (unfold TkZ.bz; rw [e])
 · exact Lx.word (by rw [← isWd_word]; exact h1) hr.brk h
 · exact Lx.int h1 hr.brk h
 · obtain ⟨v, hv⟩ := Option.isSome_iff_exists.1 h1
   exact Lx.time hv hr.brk h
 · exact Lx.sgn h1 hr h
 · exact Lx.quo h1 h
theorem lx_tail : ∀ {l : List TkZ}, (∀ t ∈ l, tkB t = true) → Lx ((l.map tkT).map (32 :: ·)).flatten (l.map TkZ.bz ++ [(6, [])]) ∧ Sep ((l.map tkT).map (32 :: ·)).flatten
 | [], _ => ⟨Lx.nil, .inl rfl⟩
 | t :: l, h => by
   have ih := lx_tail (l := l) fun x hx => h x (List.mem_cons_of_mem _ hx)
   simp only [List.map_cons, List.flatten_cons, List.cons_append]
   exact ⟨Lx.blank (by decide) (lx_tk (h t (List.mem_cons_self ..)) ih.2 ih.1), .inr ⟨_, rfl⟩⟩
/-- a joined text is split into the same kinds and texts -/
theorem lx_join {l : List TkZ} (h : ∀ t ∈ l, tkB t = true) : Lx (jn (l.map tkT)) (l.map TkZ.bz ++ [(6, [])]) := by
 cases l with
 | nil => exact Lx.nil
 | cons t l =>
   have ih := lx_tail (l := l) fun x hx => h x (List.mem_cons_of_mem _ hx)
   exact lx_tk (h t (List.mem_cons_self ..)) ih.2 ih.1
theorem joinR_ok {l : List TkZ} {b : List UInt8} (h : joinR l = (b, 0)) : ∃ i e, l = i ++ [e] ∧ e.kind = 6 ∧ e.text = [] ∧ (∀ t ∈ i, tkB t = true) ∧ b = jn (i.map tkT) ∧ b.length ≤ 65536 := by
 unfold joinR at h
 split at h
 · cases h
 rename_i e hg
 split at h
 · cases h
 rename_i he
 split at h
 · cases h
 rename_i hall
 split at h
 · cases h
 rename_i hle
 have hb : jn (l.dropLast.map tkT) = b := congrArg Prod.fst h
 refine ⟨l.dropLast, e, snocL hg, by omega, ?_, ?_, hb.symm, by rw [← hb]; omega⟩
 · exact Decidable.not_not.1 fun hh => he (.inr hh)
 · have : l.dropLast.all tkB = true := by simpa using hall
   exact List.all_eq_true.1 this
theorem joinR_snoc (i : List TkZ) {e : TkZ} (h1 : e.kind = 6) (h2 : e.text = []) : joinR (i ++ [e]) = if i.all tkB = false then ([], 1) else if 65536 < (jn (i.map tkT)).length then ([], 2) else (jn (i.map tkT), 0) := by
 unfold joinR
 rw [List.getLast?_concat, List.dropLast_concat]
 show (if e.kind ≠ 6 ∨ e.text ≠ [] then _ else _) = _
 rw [if_neg (by rw [h1, h2]; simp)]
/-! ### The tokens of a text can be joined -/
def Tk.z (t : Tk) : TkZ := ⟨t.kind, t.text, t.at_⟩
theorem quoN_txt : ∀ (k : Nat) (t : List UInt8), t.length ≤ k → ∀ s n, quoN t = some (s, n) → txtB s = true ∧ s.length + 1 ≤ n
 | k, [], _, s, n, h => by cases h
 | 0, c :: t, hk, _, _, _ => by simp at hk
 | k + 1, c :: t, hk, s, n, h => by
   unfold quoN at h
   simp only [List.length_cons] at hk
   split at h
   · cases h; exact ⟨rfl, by simp⟩
   split at h
   · cases h
   rename_i hc
   split at h
   · match t, h, hk with
     | [], h, _ => cases h
     | d :: t, h, hk =>
       simp only [List.length_cons] at hk
       simp only at h
       split at h
       · rename_i x hx
         split at h
         · rename_i s' n' hq
           cases h
           have ih := quoN_txt k t (by omega) _ _ hq
           refine ⟨?_, by simp only [List.length_cons]; omega⟩
           unfold txtB at ih ⊢
           rw [List.all_cons, ih.1, Bool.and_true]
           unfold escB at hx
           repeat' split at hx
           all_goals first | (cases hx; decide) | cases hx
         · cases h
       · cases h
   · split at h
     · rename_i s' n' hq
       cases h
       have ih := quoN_txt k t (by omega) _ _ hq
       refine ⟨?_, by simp only [List.length_cons]; omega⟩
       unfold txtB at ih ⊢
       rw [List.all_cons, ih.1, Bool.and_true]
       exact all_u8 (p := fun c => ¬ (c < 32 ∨ c > 126) → (!badR c.toNat) = true) (by decide +kernel) c hc
     · cases h
theorem run_take (c : UInt8) : ∀ t : List UInt8, (t.take (runN false t)).all inB = true
 | [] => rfl
 | b :: t => by
   unfold runN
   split
   · rename_i h
     rw [List.take_succ_cons, List.all_cons, run_take c t, Bool.and_true]
     simpa using h
   · rfl
theorem readT_join (c : UInt8) (t : List UInt8) (a : Int) (h : isTk (readT (c :: t)).1 = true) : tkB ⟨(readT (c :: t)).1, (readT (c :: t)).2.1, a⟩ = true ∧ (readT (c :: t)).2.1.length ≤ (readT (c :: t)).2.2 := by
 have h1 := runN_le false t
 have h2 := runN_le true t
 simp only [readT] at h ⊢
 split
 · rename_i hc
   refine ⟨?_, List.length_take_le _ _⟩
   show isWd _ = true
   rw [isWd_word, List.take_succ_cons]
   show (isLt c && _) = true
   rw [hc, run_take c t]; rfl
 rename_i hc
 rw [if_neg hc] at h
 split
 · rename_i hd
   rw [if_pos hd] at h
   unfold numT at h ⊢
   split
   · rename_i hi
     exact ⟨hi, List.length_take_le _ _⟩
   rename_i hi
   rw [if_neg hi] at h
   split
   · rename_i ht
     exact ⟨ht, List.length_take_le _ _⟩
   · rename_i ht
     rw [if_neg ht] at h
     cases h
 rename_i hd
 rw [if_neg hd] at h
 split
 · rename_i hq
   rw [if_pos hq] at h
   split
   · rename_i s n hs
     have := quoN_txt _ t (Nat.le_refl _) _ _ hs
     exact ⟨this.1, by dsimp only; omega⟩
   · rename_i hs
     rw [hs] at h
     cases h
 rename_i hq
 rw [if_neg hq] at h
 split
 · rename_i hb
   cases t with
   | nil => cases hb
   | cons d t =>
     refine ⟨?_, by simp⟩
     show sgnB [c, d] = true
     simp only [dblB, Bool.or_eq_true, Bool.and_eq_true, beq_iff_eq] at hb
     rcases hb with ⟨rfl | rfl, rfl⟩ | ⟨rfl, rfl⟩ <;> decide +kernel
 rename_i hb
 rw [if_neg hb] at h
 split
 · rename_i hs
   refine ⟨?_, by simp⟩
   show sgnB [c] = true
   exact all_u8 (p := fun c => sgB c = true → sgnB [c] = true) (by decide +kernel) c hs
 · rename_i hs
   rw [if_neg hs] at h
   cases h
theorem stepT_join (c : UInt8) (t : List UInt8) (a : Int) (h : isTk (stepT (c :: t)).1 = true) : tkB ⟨(stepT (c :: t)).1, (stepT (c :: t)).2.1, a⟩ = true ∧ (stepT (c :: t)).2.1.length ≤ (stepT (c :: t)).2.2 := by
 simp only [stepT] at h ⊢
 split
 · rename_i q
   rw [if_pos q] at h
   cases h
 rename_i q
 rw [if_neg q] at h
 split
 · rename_i q
   rw [if_pos q] at h
   cases h
 rename_i q
 rw [if_neg q] at h
 exact readT_join c t a h
/-- the tokens ahead of the end can be joined; how many bytes they take at most -/
theorem toks_join : ∀ (k : Nat) (r : List UInt8) (a : Nat), r.length ≤ k → ∃ i, toks r a = i ++ [⟨6, [], a + r.length⟩] ∧ (∀ t ∈ i, tkB t.z = true) ∧ (((i.map fun t => tkT t.z).map (32 :: ·)).flatten).length ≤ 5 * r.length
 | _, [], a, _ => ⟨[], rfl, by simp, by simp⟩
 | 0, c :: t, _, h => by simp at h
 | k + 1, c :: t, a, h => by
   have h1 := stepT_le c t
   simp only [List.length_cons] at h
   obtain ⟨i, e1, e2, e3⟩ := toks_join k ((c :: t).drop (stepT (c :: t)).2.2) (a + (stepT (c :: t)).2.2) (by rw [List.length_drop, List.length_cons]; omega)
   rw [List.length_drop, List.length_cons] at e1 e3
   rw [toks_cons, e1, List.length_cons]
   have ea : a + (stepT (c :: t)).2.2 + (t.length + 1 - (stepT (c :: t)).2.2) = a + (t.length + 1) := by omega
   rw [ea]
   split
   · rename_i hk
     have h2 := stepT_join c t a hk
     refine ⟨⟨(stepT (c :: t)).1, (stepT (c :: t)).2.1, a⟩ :: i, rfl, fun x hx => ?_, ?_⟩
     · rcases List.mem_cons.1 hx with rfl | hx
       · exact h2.1
       · exact e2 x hx
     · have h3 := tkT_len (Tk.z ⟨(stepT (c :: t)).1, (stepT (c :: t)).2.1, a⟩)
       have h4 := h2.2
       simp only [List.map_cons, List.flatten_cons, List.length_append, List.length_cons]
       have e5 : (Tk.z ⟨(stepT (c :: t)).1, (stepT (c :: t)).2.1, a⟩).text.length = (stepT (c :: t)).2.1.length := rfl
       rw [e5] at h3
       omega
   · exact ⟨i, rfl, e2, by omega⟩
theorem jn_flat : ∀ l : List (List UInt8), (jn l).length ≤ ((l.map (32 :: ·)).flatten).length
 | [] => by simp [jn]
 | x :: xs => by simp [jn]
end Go.Proofs.YtedjnaggkakphaaGreatDoor.Dx
/- Joining and splitting are inverse to each other (plain). -/
namespace Go.Proofs.YtedjnaggkakphaaGreatDoor.Dx
open Go Go.RowKit
set_option maxRecDepth 100000
theorem tkT_bz {a b : TkZ} (ha : 0 ≤ a.kind) (hb : 0 ≤ b.kind) (h : a.bz = b.bz) : tkT a = tkT b ∧ a.kind = b.kind ∧ a.text = b.text := by
 have h1 : a.kind.toNat = b.kind.toNat := congrArg Prod.fst h
 have h2 : a.text = b.text := congrArg Prod.snd h
 have h3 : a.kind = b.kind := by omega
 exact ⟨by unfold tkT; rw [h2, h3], h3, h2⟩
theorem tk_nat {t : TkZ} (h : tkB t = true) : 1 ≤ t.kind ∧ t.kind ≤ 5 := by
 rcases tk_cases h with ⟨e, _⟩ | ⟨e, _⟩ | ⟨e, _⟩ | ⟨e, _⟩ | ⟨e, _⟩ <;> omega
/-- the same kinds and texts -/
def alikeB : List TkZ → List TkZ → Bool
 | [], [] => true
 | a :: l, b :: m => decide (a.kind = b.kind) && (decide (a.text = b.text) && alikeB l m)
 | _, _ => false
theorem alike_bz : ∀ {i j : List TkZ}, (∀ t ∈ i, 1 ≤ t.kind) → (∀ t ∈ j, 0 ≤ t.kind) → i.map TkZ.bz = j.map TkZ.bz → alikeB i j = true ∧ i.map tkT = j.map tkT ∧ ∀ l m, alikeB l m = true → alikeB (i ++ l) (j ++ m) = true
 | [], [], _, _, _ => ⟨rfl, rfl, fun _ _ h => h⟩
 | [], b :: j, _, _, h => by cases h
 | a :: i, [], _, _, h => by cases h
 | a :: i, b :: j, hi, hj, h => by
   have h1 := List.cons.inj h
   have ha := hi a (List.mem_cons_self ..)
   have hb := hj b (List.mem_cons_self ..)
   obtain ⟨e1, e2, e3⟩ := tkT_bz (by omega) hb h1.1
   obtain ⟨g1, g2, g3⟩ := alike_bz (i := i) (j := j) (fun t ht => hi t (List.mem_cons_of_mem _ ht)) (fun t ht => hj t (List.mem_cons_of_mem _ ht)) h1.2
   refine ⟨?_, by rw [List.map_cons, List.map_cons, e1, g2], fun l m hlm => ?_⟩
   · rw [alikeB, decide_eq_true e2, decide_eq_true e3, g1]; rfl
   · rw [List.cons_append, List.cons_append, alikeB, decide_eq_true e2, decide_eq_true e3, g3 l m hlm]; rfl
/-- a joined text is split into tokens that are alike, and these are joined to the same text -/
theorem lexis_back {l : List TkZ} {b : List UInt8} (h : joinR l = (b, 0)) : b.length ≤ 65536 ∧ bads b 0 (-1) 0 = [] ∧ alikeB l ((toks b 0).map Tk.z) = true ∧ joinR ((toks b 0).map Tk.z) = (b, 0) := by
 obtain ⟨i, e, rfl, h6, ht, hB, rfl, hl⟩ := joinR_ok h
 have hx := lx_join hB
 obtain ⟨j, hj, hjB, _⟩ := toks_join _ (jn (i.map tkT)) 0 (Nat.le_refl _)
 have hb : (j.map Tk.z).map TkZ.bz = i.map TkZ.bz := by
  have := hx.toks 0
  rw [hj, List.map_append] at this
  have := List.append_inj_left' this rfl
  rw [List.map_map]
  exact this
 have hjB' : ∀ t ∈ j.map Tk.z, tkB t = true := fun t ht => by obtain ⟨y, hy, rfl⟩ := List.mem_map.1 ht; exact hjB y hy
 obtain ⟨g1, g2, g3⟩ := alike_bz (i := i) (j := j.map Tk.z) (fun t ht => (tk_nat (hB t ht)).1) (fun t ht => by have := (tk_nat (hjB' t ht)).1; omega) hb.symm
 refine ⟨hl, hx.bads _ _ _, ?_, ?_⟩
 · rw [hj, List.map_append]
   refine g3 _ _ ?_
   show (decide (e.kind = 6) && (decide (e.text = []) && alikeB [] [])) = true
   rw [decide_eq_true h6, decide_eq_true ht]; rfl
 · rw [hj, List.map_append, List.map_singleton, joinR_snoc _ rfl rfl, if_neg (by rw [List.all_eq_true.2 hjB']; decide), ← g2, if_neg (by omega)]
/-- the tokens of any text that is not too long can be joined, and the joined text is split into tokens that are alike -/
theorem lexis_again {src : List UInt8} (hl : src.length ≤ 13000) : ∃ b, joinR ((toks src 0).map Tk.z) = (b, 0) ∧ b.length ≤ 65536 ∧ bads b 0 (-1) 0 = [] ∧ alikeB ((toks src 0).map Tk.z) ((toks b 0).map Tk.z) = true := by
 obtain ⟨j, hj, hjB, hlen⟩ := toks_join _ src 0 (Nat.le_refl _)
 have hjB' : ∀ t ∈ j.map Tk.z, tkB t = true := fun t ht => by obtain ⟨y, hy, rfl⟩ := List.mem_map.1 ht; exact hjB y hy
 have h1 : joinR ((toks src 0).map Tk.z) = (jn ((j.map Tk.z).map tkT), 0) := by
  rw [hj, List.map_append, List.map_singleton, joinR_snoc _ rfl rfl, if_neg (by rw [List.all_eq_true.2 hjB']; decide), if_neg]
  have := jn_flat ((j.map Tk.z).map tkT)
  rw [List.map_map] at this ⊢
  have e : (fun t => tkT (Tk.z t)) = tkT ∘ Tk.z := rfl
  rw [e] at hlen
  omega
 obtain ⟨h2, h3, h4, _⟩ := lexis_back h1
 exact ⟨_, h1, h2, h3, h4⟩
end Go.Proofs.YtedjnaggkakphaaGreatDoor.Dx
