/- Chapter 06: how conditions and steps are written, and that they are read again (plain). -/
import Derived.Test.YtaopegkpjhkooaaGreatDoorC9
set_option linter.all false
namespace Go.Proofs.YtaopegkpjhkooaaGreatDoor.Dx
open Go Go.RowKit
set_option maxRecDepth 100000
def joinW (w : List UInt8) : List (List UInt8) → List UInt8
 | [] => []
 | x :: xs => x ++ (xs.map (w ++ ·)).flatten
theorem joinW_snoc (w x : List UInt8) (l : List (List UInt8)) (h : l ≠ []) : joinW w (l ++ [x]) = joinW w l ++ w ++ x := by
 cases l with
 | nil => exact absurd rfl h
 | cons y ys => simp [joinW]
abbrev orW : List UInt8 := [32, 111, 114, 32]
abbrev andW : List UInt8 := [32, 97, 110, 100, 32]
abbrev par (s : List UInt8) : List UInt8 := 40 :: (s ++ [41])
/-- a condition's text with so many levels left, and whether it can be written -/
def cTx : Nat → Cond → List UInt8 × Bool
 | 0, _ => ([], false)
 | k + 1, c =>
   if c.kind = 1 then
    if (1 ≤ c.var ∧ c.var ≤ 3) ∧ (0 ≤ c.n ∧ c.n ≤ 1125899906842624) ∧ c.parts = [] then (varW c.var ++ ([32, 62, 61, 32] ++ Lib.itoa c.n), true) else ([], false)
   else if c.kind = 4 then match c.parts with
    | [p] => if c.var = 0 ∧ c.n = 0 then ([110, 111, 116, 32, 40] ++ (cTx k p).1 ++ [41], (cTx k p).2) else ([], false)
    | _ => ([], false)
   else if (c.kind = 2 ∨ c.kind = 3) ∧ (2 ≤ c.parts.length ∧ c.parts.length ≤ 16) ∧ c.var = 0 ∧ c.n = 0 ∧ c.parts.all (fun p => (cTx k p).2) = true then
    (joinW (if c.kind = 3 then orW else andW) (c.parts.map fun p => par (cTx k p).1), true)
   else ([], false)
/-- what is said of a written condition -/
def CLaw (k : Nat) (s : List UInt8) (c : Cond) (l0 : List BT) : Prop :=
 (∀ r l, Brk r → Lx r l → Lx (s ++ r) (l0 ++ l)) ∧ ∀ d l, d + 2 * k ≤ 16 → isWB [97, 110, 100] l = false → isWB [111, 114] l = false → EvC d (l0 ++ l) c l
section
variable {k : Nat}
theorem and_parts (T : Cond → List UInt8) : ∀ ps : List Cond, (∀ p ∈ ps, ∃ l0, CLaw k (T p) p l0) → ∃ L : List BT, (∀ r l, Brk r → Lx r l → Brk ((ps.map fun p => andW ++ par (T p)).flatten ++ r) ∧ Lx ((ps.map fun p => andW ++ par (T p)).flatten ++ r) (L ++ l)) ∧
 (∀ d l cs, d + 1 + 2 * k ≤ 16 → isWB [97, 110, 100] l = false → EvJL d cs (L ++ l) (mkC 2 (cs ++ ps)) l) ∧ ∀ l, isWB [111, 114] l = false → isWB [111, 114] (L ++ l) = false
 | [], _ => ⟨[], fun r l hb h => ⟨hb, h⟩, fun d l cs _ ha => by rw [List.append_nil]; exact JL_end ha, fun l h => h⟩
 | p :: ps, hp => by
   obtain ⟨L, h1, h2, h3⟩ := and_parts T ps fun x hx => hp x (List.mem_cons_of_mem _ hx)
   obtain ⟨l0, c1, c2⟩ := hp p (List.mem_cons_self ..)
   refine ⟨(1, [97, 110, 100]) :: (5, [40]) :: (l0 ++ (5, [41]) :: L), fun r l hb h => ⟨brk_sp, ?_⟩, fun d l cs hd ha => ?_, fun l _ => rfl⟩
   · obtain ⟨hb2, hx⟩ := h1 r l hb h
     have := Lx.and_ (Lx.lp (c1 _ _ brk_rp (Lx.rp hx)))
     simpa using this
   · have hc := c2 (d + 1) ((5, [41]) :: (L ++ l)) hd rfl rfl
     have hj := h2 d l (cs ++ [p]) hd ha
     rw [List.append_assoc] at hj
     have := JL_and (U_par (by omega) hc) hj
     simpa using this
theorem or_parts (T : Cond → List UInt8) : ∀ ps : List Cond, (∀ p ∈ ps, ∃ l0, CLaw k (T p) p l0) → ∃ L : List BT, (∀ r l, Brk r → Lx r l → Brk ((ps.map fun p => orW ++ par (T p)).flatten ++ r) ∧ Lx ((ps.map fun p => orW ++ par (T p)).flatten ++ r) (L ++ l)) ∧
 (∀ d l cs, d + 1 + 2 * k ≤ 16 → isWB [97, 110, 100] l = false → isWB [111, 114] l = false → EvCL d cs (L ++ l) (mkC 3 (cs ++ ps)) l) ∧ ∀ l, isWB [97, 110, 100] l = false → isWB [97, 110, 100] (L ++ l) = false
 | [], _ => ⟨[], fun r l hb h => ⟨hb, h⟩, fun d l cs _ _ ho => by rw [List.append_nil]; exact CL_end ho, fun l h => h⟩
 | p :: ps, hp => by
   obtain ⟨L, h1, h2, h3⟩ := or_parts T ps fun x hx => hp x (List.mem_cons_of_mem _ hx)
   obtain ⟨l0, c1, c2⟩ := hp p (List.mem_cons_self ..)
   refine ⟨(1, [111, 114]) :: (5, [40]) :: (l0 ++ (5, [41]) :: L), fun r l hb h => ⟨brk_sp, ?_⟩, fun d l cs hd ha ho => ?_, fun l _ => rfl⟩
   · obtain ⟨hb2, hx⟩ := h1 r l hb h
     have := Lx.or_ (Lx.lp (c1 _ _ brk_rp (Lx.rp hx)))
     simpa using this
   · have hc := c2 (d + 1) ((5, [41]) :: (L ++ l)) hd rfl rfl
     have hj := h2 d l (cs ++ [p]) hd ha ho
     rw [List.append_assoc] at hj
     have := CL_or (J_of (U_par (by omega) hc) (JL_end (h3 l ha))) hj
     simpa using this
end
theorem cTx_law : ∀ (k : Nat) (c : Cond), (cTx k c).2 = true → ∃ l0, CLaw k (cTx k c).1 c l0
 | 0, c, h => by cases h
 | k + 1, c, h => by
   have ih := cTx_law k
   obtain ⟨kd, v, n, ps⟩ := c
   unfold cTx at h ⊢
   dsimp only at h ⊢
   split at h
   · rename_i hk
     split at h
     case isFalse => cases h
     rename_i hv
     obtain ⟨⟨v1, v2⟩, ⟨n1, n2⟩, rfl⟩ := hv
     subst hk
     rw [if_pos rfl, if_pos ⟨⟨v1, v2⟩, ⟨n1, n2⟩, rfl⟩]
     have hv3 : v = 1 ∨ v = 2 ∨ v = 3 := by omega
     exact ⟨[(1, varW v), (5, [62, 61]), (2, Lib.itoa n)], fun r l hb hl => Lx.cmp hv3 n1 n2 hb hl, fun d l hd ha ho => C_of (J_of (EvU.cmp hv3 n1 n2) (JL_end ha)) (CL_end ho)⟩
   · rename_i hk1
     rw [if_neg hk1]
     split at h
     · rename_i hk
       subst hk
       rw [if_pos rfl]
       split at h
       case h_2 => cases h
       rename_i p
       split at h
       case isFalse => cases h
       rename_i hv
       obtain ⟨rfl, rfl⟩ := hv
       dsimp only at h ⊢
       rw [if_pos ⟨rfl, rfl⟩]
       obtain ⟨l0, c1, c2⟩ := ih p h
       refine ⟨(1, [110, 111, 116]) :: (5, [40]) :: (l0 ++ [(5, [41])]), fun r l hb hl => ?_, fun d l hd ha ho => ?_⟩
       · have := Lx.notp (c1 _ _ brk_rp (Lx.rp hl))
         simpa using this
       · have hk : 1 ≤ k := by
          cases k with
          | zero => cases h
          | succ k => omega
         have hc := c2 (d + 2) ((5, [41]) :: l) (by omega) rfl rfl
         have := C_of (J_of (U_not (by omega) (U_par (by omega) hc)) (JL_end ha)) (CL_end ho)
         simpa [mkC] using this
     · rename_i hk4
       rw [if_neg hk4]
       split at h
       case isFalse => cases h
       rename_i hv
       rw [if_pos hv]
       obtain ⟨hkd, ⟨h2, h16⟩, rfl, rfl, hall⟩ := hv
       obtain ⟨p1, p2, ps, rfl⟩ : ∃ p1 p2 qs, ps = p1 :: p2 :: qs := by
        match ps, h2 with
        | p1 :: p2 :: qs, _ => exact ⟨p1, p2, qs, rfl⟩
       have hP : ∀ p ∈ p1 :: p2 :: ps, ∃ l0, CLaw k (cTx k p).1 p l0 := fun p hp => ih p (List.all_eq_true.1 hall p hp)
       obtain ⟨l0, c1, c2⟩ := hP p1 (List.mem_cons_self ..)
       rcases hkd with rfl | rfl
       · rw [if_neg (by decide)]
         obtain ⟨L, h3, h4, h5⟩ := and_parts (fun p => (cTx k p).1) (p2 :: ps) fun p hp => hP p (List.mem_cons_of_mem _ hp)
         refine ⟨(5, [40]) :: (l0 ++ (5, [41]) :: L), fun r l hb hl => ?_, fun d l hd ha ho => ?_⟩
         · obtain ⟨hb2, hx⟩ := h3 r l hb hl
           have := Lx.lp (c1 _ _ brk_rp (Lx.rp hx))
           simpa [joinW, Function.comp_def] using this
         · have hc := c2 (d + 1) ((5, [41]) :: (L ++ l)) (by omega) rfl rfl
           have := C_of (J_of (U_par (by omega) hc) (h4 d l [p1] (by omega) ha)) (CL_end ho)
           simpa [mkC] using this
       · rw [if_pos rfl]
         obtain ⟨L, h3, h4, h5⟩ := or_parts (fun p => (cTx k p).1) (p2 :: ps) fun p hp => hP p (List.mem_cons_of_mem _ hp)
         refine ⟨(5, [40]) :: (l0 ++ (5, [41]) :: L), fun r l hb hl => ?_, fun d l hd ha ho => ?_⟩
         · obtain ⟨hb2, hx⟩ := h3 r l hb hl
           have := Lx.lp (c1 _ _ brk_rp (Lx.rp hx))
           simpa [joinW, Function.comp_def] using this
         · have hc := c2 (d + 1) ((5, [41]) :: (L ++ l)) (by omega) rfl rfl
           have := C_of (J_of (U_par (by omega) hc) (JL_end (h5 l ha))) (h4 d l [p1] (by omega) ha ho)
           simpa [mkC] using this
/-! ### Steps -/
def critN : Int → List UInt8
 | 1 => [111, 108, 100, 101, 114]
 | 2 => [121, 111, 117, 110, 103, 101, 114]
 | 3 => [119, 97, 118, 101]
 | 4 => [98, 105, 98]
 | _ => [100, 114, 97, 119]
open Classical in
/-- a step's text; F writes steps one level deeper -/
noncomputable def oneT (F : List Step → List UInt8 × Bool) (s : Step) : List UInt8 × Bool :=
 if s.kind = 1 then
  if (1 ≤ s.crit ∧ s.crit ≤ 5) ∧ s.cond = cz ∧ s.th = [] ∧ s.el = [] then (critN s.crit ++ [59, 10], true) else ([], false)
 else if s.kind = 2 ∧ s.crit = 0 ∧ (cTx 8 s.cond).2 = true ∧ (F s.th).2 = true ∧ (s.el = [] ∨ (F s.el).2 = true) then
  ([105, 102, 32] ++ (cTx 8 s.cond).1 ++ [32, 123] ++ (F s.th).1 ++ [125] ++ (if s.el = [] then [] else [32, 101, 108, 115, 101, 32, 123] ++ (F s.el).1 ++ [125]), true)
 else ([], false)
open Classical in
noncomputable def sTx : Nat → List Step → List UInt8 × Bool
 | 0, _ => ([], false)
 | k + 1, l => if (1 ≤ l.length ∧ l.length ≤ 12) ∧ l.all (fun s => (oneT (sTx k) s).2) = true then ((l.map fun s => (oneT (sTx k) s).1).flatten, true) else ([], false)
def critB (l : List BT) : Option Int := if (hdB l).1 = 1 then (critW.find? fun p => p.1 == (hdB l).2).map (·.2) else none
theorem crit_bare {ts : List Tk} {l : List BT} (h : ts.map Tk.bare = l) : critK ts = critB l := by
 have := hdT_bare h
 unfold critK critB
 rw [← this]; rfl
section
variable {d : Nat} {l l1 l2 : List BT} {acc x : List Step} {c : Cond} {th el : List Step}
theorem S_end (ha : acc ≠ []) (h : critB l = none) (h2 : isWB [105, 102] l = false) : EvS d acc l acc l :=
 EvR.succ (Q := fun _ ts => .ok acc ts) .ok fun k ts hts => by
  rw [stepsP, crit_bare hts, h]
  dsimp only
  rw [if_neg (by rw [isW_bare hts, h2]; decide), if_neg ha]
theorem S_by {w : List UInt8} {b : Int} (hc : critB ((1, w) :: (5, [59]) :: l) = some b) (h : EvS d (acc ++ [⟨1, b, ⟨0, 0, 0, []⟩, [], []⟩]) l x l1) : EvS d acc ((1, w) :: (5, [59]) :: l) x l1 :=
 EvR.succ (Q := fun k ts => (needP [59] ts.tail).bind fun _ ts => stepsP k d (acc ++ [⟨1, b, ⟨0, 0, 0, []⟩, [], []⟩]) ts)
  (EvR.step (P := fun _ ts => needP [59] ts.tail) (Q := fun k _ ts => stepsP k d (acc ++ [⟨1, b, ⟨0, 0, 0, []⟩, [], []⟩]) ts) (EvR.tail (P := fun _ ts => needP [59] ts) (EvR.need rfl)) h) fun k ts hts => by
  rw [stepsP, crit_bare hts, hc]
theorem S_if (hd : d < 16) (h1 : EvC 0 l c l1) (h2 : EvB (d + 1) l1 th l2) (he : isWB [101, 108, 115, 101] l2 = false) {l3 : List BT} (h3 : EvS d (acc ++ [⟨2, 0, c, th, []⟩]) l2 x l3) : EvS d acc ((1, [105, 102]) :: l) x l3 := by
 refine EvR.succ (Q := fun k ts => (condP k 0 ts.tail).bind fun c ts => (blockP k (d + 1) ts).bind fun t ts => if isW [101, 108, 115, 101] ts then (blockP k (d + 1) ts.tail).bind fun e ts => stepsP k d (acc ++ [⟨2, 0, c, t, e⟩]) ts else stepsP k d (acc ++ [⟨2, 0, c, t, []⟩]) ts) ?_ fun k ts hts => ?_
 · refine EvR.step (P := fun k ts => condP k 0 ts.tail) (Q := fun k c ts => (blockP k (d + 1) ts).bind fun t ts => if isW [101, 108, 115, 101] ts then (blockP k (d + 1) ts.tail).bind fun e ts => stepsP k d (acc ++ [⟨2, 0, c, t, e⟩]) ts else stepsP k d (acc ++ [⟨2, 0, c, t, []⟩]) ts) (EvR.tail (P := fun k ts => condP k 0 ts) h1) ?_
   refine EvR.step (P := fun k ts => blockP k (d + 1) ts) (Q := fun k t ts => if isW [101, 108, 115, 101] ts then (blockP k (d + 1) ts.tail).bind fun e ts => stepsP k d (acc ++ [⟨2, 0, c, t, e⟩]) ts else stepsP k d (acc ++ [⟨2, 0, c, t, []⟩]) ts) h2 ?_
   exact EvR.congr h3 fun k ts hts => by rw [if_neg (by rw [isW_bare hts, he]; decide)]
 · have hw : isW [105, 102] ts = true := (isW_bare hts).trans rfl
   have hc : critK ts = none := (crit_bare hts).trans rfl
   rw [stepsP, hc]
   dsimp only
   rw [if_pos hw, if_neg (by omega)]
theorem S_ife (hd : d < 16) (h1 : EvC 0 l c l1) (h2 : EvB (d + 1) l1 th ((1, [101, 108, 115, 101]) :: l2)) {l3 l4 : List BT} (h3 : EvB (d + 1) l2 el l3) (h4 : EvS d (acc ++ [⟨2, 0, c, th, el⟩]) l3 x l4) : EvS d acc ((1, [105, 102]) :: l) x l4 := by
 refine EvR.succ (Q := fun k ts => (condP k 0 ts.tail).bind fun c ts => (blockP k (d + 1) ts).bind fun t ts => if isW [101, 108, 115, 101] ts then (blockP k (d + 1) ts.tail).bind fun e ts => stepsP k d (acc ++ [⟨2, 0, c, t, e⟩]) ts else stepsP k d (acc ++ [⟨2, 0, c, t, []⟩]) ts) ?_ fun k ts hts => ?_
 · refine EvR.step (P := fun k ts => condP k 0 ts.tail) (Q := fun k c ts => (blockP k (d + 1) ts).bind fun t ts => if isW [101, 108, 115, 101] ts then (blockP k (d + 1) ts.tail).bind fun e ts => stepsP k d (acc ++ [⟨2, 0, c, t, e⟩]) ts else stepsP k d (acc ++ [⟨2, 0, c, t, []⟩]) ts) (EvR.tail (P := fun k ts => condP k 0 ts) h1) ?_
   refine EvR.step (P := fun k ts => blockP k (d + 1) ts) (Q := fun k t ts => if isW [101, 108, 115, 101] ts then (blockP k (d + 1) ts.tail).bind fun e ts => stepsP k d (acc ++ [⟨2, 0, c, t, e⟩]) ts else stepsP k d (acc ++ [⟨2, 0, c, t, []⟩]) ts) h2 ?_
   refine EvR.congr (Q := fun k ts => (blockP k (d + 1) ts.tail).bind fun e ts => stepsP k d (acc ++ [⟨2, 0, c, th, e⟩]) ts) ?_ fun k ts hts => by
    have hw : isW [101, 108, 115, 101] ts = true := (isW_bare hts).trans rfl
    rw [if_pos hw]
   exact EvR.step (P := fun k ts => blockP k (d + 1) ts.tail) (Q := fun k e ts => stepsP k d (acc ++ [⟨2, 0, c, th, e⟩]) ts) (EvR.tail (P := fun k ts => blockP k (d + 1) ts) h3) h4
 · have hw : isW [105, 102] ts = true := (isW_bare hts).trans rfl
   have hc : critK ts = none := (crit_bare hts).trans rfl
   rw [stepsP, hc]
   dsimp only
   rw [if_pos hw, if_neg (by omega)]
theorem B_of (h : EvS d [] l x ((5, [125]) :: l1)) : EvB d ((5, [123]) :: l) x l1 :=
 EvR.succ (Q := fun k ts => (needP [123] ts).bind fun _ ts => (stepsP k d [] ts).bind fun l ts => (needP [125] ts).bind fun _ ts => .ok l ts)
  (EvR.step (P := fun _ ts => needP [123] ts) (Q := fun k _ ts => (stepsP k d [] ts).bind fun l ts => (needP [125] ts).bind fun _ ts => .ok l ts) (EvR.need rfl)
    (EvR.step (P := fun k ts => stepsP k d [] ts) (Q := fun _ l ts => (needP [125] ts).bind fun _ ts => .ok l ts) h
      (EvR.step (P := fun _ ts => needP [125] ts) (Q := fun _ _ ts => .ok x ts) (EvR.need rfl) .ok))) fun k ts _ => by rw [blockP]
end
/-- what may follow steps: a brace, or the end -/
def EndB (l : List BT) : Prop := (∃ r, l = (5, [125]) :: r) ∨ l = [(6, [])]
def SLaw (k : Nat) (s : List UInt8) (x : List Step) (L : List BT) : Prop :=
 (∀ r l, Lx r l → Lx (s ++ r) (L ++ l)) ∧ ∀ d l acc, d + k ≤ 16 → EndB l → EvS d acc (L ++ l) (acc ++ x) l
theorem critN_ok {b : Int} (h : 1 ≤ b ∧ b ≤ 5) (l : List BT) : wordB (critN b) = true ∧ critB ((1, critN b) :: l) = some b ∧ isWB [101, 108, 115, 101] ((1, critN b) :: l) = false := by
 have : b = 1 ∨ b = 2 ∨ b = 3 ∨ b = 4 ∨ b = 5 := by omega
 rcases this with rfl | rfl | rfl | rfl | rfl <;> exact ⟨by decide, rfl, rfl⟩
theorem brk_sc {r : List UInt8} : Brk (59 :: r) := Brk.cons (by decide) (by decide)
theorem sTx_law : ∀ (k : Nat) (x : List Step), (sTx k x).2 = true → x ≠ [] ∧ ∃ L, SLaw k (sTx k x).1 x L
 | 0, x, h => by cases h
 | k + 1, x, h => by
   have ih := sTx_law k
   unfold sTx at h ⊢
   split at h
   case isFalse => cases h
   rename_i hv
   rw [if_pos hv]
   obtain ⟨⟨h1, _⟩, hall⟩ := hv
   refine ⟨by rintro rfl; simp at h1, ?_⟩
   -- one after the other; the steps that are read are never none at their end
   have key : ∀ x : List Step, x.all (fun s => (oneT (sTx k) s).2) = true → ∃ L : List BT, (∀ r l, Lx r l → Lx ((x.map fun s => (oneT (sTx k) s).1).flatten ++ r) (L ++ l)) ∧
    (∀ d l acc, d + (k + 1) ≤ 16 → EndB l → acc ++ x ≠ [] → EvS d acc (L ++ l) (acc ++ x) l) ∧ ∀ l, EndB l → isWB [101, 108, 115, 101] (L ++ l) = false := by
    intro x
    induction x with
    | nil =>
      intro _
      refine ⟨[], fun r l h => h, fun d l acc _ he hne => ?_, fun l he => ?_⟩
      · rw [List.append_nil] at hne ⊢
        rcases he with ⟨r, rfl⟩ | rfl
        · exact S_end hne rfl rfl
        · exact S_end hne rfl rfl
      · rcases he with ⟨r, rfl⟩ | rfl <;> rfl
    | cons s x ihx =>
      intro hall
      rw [List.all_cons, Bool.and_eq_true] at hall
      obtain ⟨hs, hx⟩ := hall
      obtain ⟨L, h1, h2, h3⟩ := ihx hx
      obtain ⟨kd, b, c, th, el⟩ := s
      unfold oneT at hs
      dsimp only at hs
      split at hs
      · rename_i hk
        subst hk
        split at hs
        case isFalse => cases hs
        rename_i hv
        obtain ⟨hb, rfl, rfl, rfl⟩ := hv
        have hw := fun l => critN_ok hb l
        refine ⟨(1, critN b) :: (5, [59]) :: L, fun r l hl => ?_, fun d l acc hd he hne => ?_, fun l _ => (hw _).2.2⟩
        · have := Lx.word (hw []).1 brk_sc (Lx.sc (Lx.nl (h1 r l hl)))
          have e : (oneT (sTx k) ⟨1, b, cz, [], []⟩).1 = critN b ++ [59, 10] := by
           unfold oneT
           dsimp only
           rw [if_pos rfl, if_pos ⟨hb, rfl, rfl, rfl⟩]
          rw [List.map_cons, List.flatten_cons, e]
          simpa using this
        · have := h2 d l (acc ++ [⟨1, b, ⟨0, 0, 0, []⟩, [], []⟩]) hd he (by simp)
          rw [List.append_assoc] at this
          exact S_by (hw _).2.1 this
      · rename_i hk1
        split at hs
        case isFalse => cases hs
        rename_i hv
        have hv' := hv
        obtain ⟨rfl, rfl, hc, hth, hel⟩ := hv
        obtain ⟨lc, c1, c2⟩ := cTx_law 8 c hc
        obtain ⟨hthne, Lt, t1, t2⟩ := ih th hth
        have hB : ∀ (y : List Step) (Ly : List BT) d (l : List BT), (∀ d l acc, d + k ≤ 16 → EndB l → EvS d acc (Ly ++ l) (acc ++ y) l) → d + (k + 1) ≤ 16 → EvB (d + 1) ((5, [123]) :: (Ly ++ (5, [125]) :: l)) y l := by
         intro y Ly d l hy hd
         have := hy (d + 1) ((5, [125]) :: l) [] (by omega) (.inl ⟨_, rfl⟩)
         exact B_of this
        by_cases he0 : el = []
        · subst he0
          refine ⟨(1, [105, 102]) :: (lc ++ (5, [123]) :: (Lt ++ (5, [125]) :: L)), fun r l hl => ?_, fun d l acc hd he hne => ?_, fun l _ => rfl⟩
          · have := Lx.ws (w := [105, 102]) (by decide) (c1 _ _ brk_sp (Lx.sp (Lx.lb (t1 _ _ (Lx.rb (h1 r l hl))))))
            have e : (oneT (sTx k) ⟨2, 0, c, th, []⟩).1 = [105, 102, 32] ++ (cTx 8 c).1 ++ [32, 123] ++ (sTx k th).1 ++ [125] ++ [] := by
             unfold oneT
             dsimp only
             rw [if_neg (by decide), if_pos hv', if_pos rfl]
            rw [List.map_cons, List.flatten_cons, e]
            simpa using this
          · have hs := h2 d l (acc ++ [⟨2, 0, c, th, []⟩]) hd he (by simp)
            rw [List.append_assoc] at hs
            have := S_if (by omega) (c2 0 ((5, [123]) :: (Lt ++ (5, [125]) :: (L ++ l))) (by omega) rfl rfl) (hB th Lt d (L ++ l) t2 hd) (h3 l he) hs
            simpa using this
        · have hel' : (sTx k el).2 = true := hel.resolve_left he0
          obtain ⟨_, Le, e1, e2⟩ := ih el hel'
          refine ⟨(1, [105, 102]) :: (lc ++ (5, [123]) :: (Lt ++ (5, [125]) :: (1, [101, 108, 115, 101]) :: (5, [123]) :: (Le ++ (5, [125]) :: L))), fun r l hl => ?_, fun d l acc hd he hne => ?_, fun l _ => rfl⟩
          · have := Lx.ws (w := [105, 102]) (by decide) (c1 _ _ brk_sp (Lx.sp (Lx.lb (t1 _ _ (Lx.rb (Lx.sp (Lx.ws (w := [101, 108, 115, 101]) (by decide) (Lx.lb (e1 _ _ (Lx.rb (h1 r l hl)))))))))))
            have e : (oneT (sTx k) ⟨2, 0, c, th, el⟩).1 = [105, 102, 32] ++ (cTx 8 c).1 ++ [32, 123] ++ (sTx k th).1 ++ [125] ++ ([32, 101, 108, 115, 101, 32, 123] ++ (sTx k el).1 ++ [125]) := by
             unfold oneT
             dsimp only
             rw [if_neg (by decide), if_pos hv', if_neg he0]
            rw [List.map_cons, List.flatten_cons, e]
            simpa using this
          · have hs := h2 d l (acc ++ [⟨2, 0, c, th, el⟩]) hd he (by simp)
            rw [List.append_assoc] at hs
            have := S_ife (by omega) (c2 0 ((5, [123]) :: (Lt ++ (5, [125]) :: (1, [101, 108, 115, 101]) :: (5, [123]) :: (Le ++ (5, [125]) :: (L ++ l)))) (by omega) rfl rfl) (hB th Lt d _ t2 hd) (hB el Le d (L ++ l) e2 hd) hs
            simpa using this
   obtain ⟨L, k1, k2, k3⟩ := key x hall
   exact ⟨L, k1, fun d l acc hd he => k2 d l acc hd he (by
    intro e
    have := congrArg List.length e
    simp only [List.length_append, List.length_nil] at this
    omega)⟩
theorem steps_back {x : List Step} (h : (sTx 5 x).2 = true) (hl : (sTx 5 x).1.length ≤ 65536) : stepsR (sTx 5 x).1 = (x, 0, 0) := by
 obtain ⟨_, L, h1, h2⟩ := sTx_law 5 x h
 have hx := h1 [] [(6, [])] Lx.nil
 rw [List.append_nil] at hx
 exact stepsR_lx hl hx (by have := h2 0 [(6, [])] [] (by omega) (.inr rfl); simpa using this)
end Go.Proofs.YtaopegkpjhkooaaGreatDoor.Dx
