/- Chapter 06: how token lists are read, as laws over kinds and texts alone (plain). -/
import Derived.Test.YtaopegkpjhkooaaGreatDoorBy
import Derived.Test.YtaopegkpjhkooaaGreatDoorC4
set_option linter.all false
namespace Go.Proofs.YtaopegkpjhkooaaGreatDoor.Dx
open Go Go.RowKit
set_option maxRecDepth 100000
abbrev BT := Nat × List UInt8
/-- for all tokens with these kinds and texts, and all fuel from somewhere on -/
def EvR {α : Type} (P : Nat → List Tk → Rs α) (l : List BT) (x : α) (l' : List BT) : Prop := ∀ ts : List Tk, ts.map Tk.bare = l → ∃ ts', ts'.map Tk.bare = l' ∧ ∃ k0, ∀ k, k0 ≤ k → P k ts = .ok x ts'
theorem bare_cons {ts : List Tk} {p : BT} {l : List BT} (h : ts.map Tk.bare = p :: l) : ∃ a r, ts = ⟨p.1, p.2, a⟩ :: r ∧ r.map Tk.bare = l := by
 cases ts with
 | nil => cases h
 | cons t r =>
   simp only [List.map_cons, List.cons.injEq] at h
   obtain ⟨h1, h2⟩ := h
   refine ⟨t.at_, r, ?_, h2⟩
   subst h1
   rfl
def hdB (l : List BT) : BT := l.headD (6, [])
def isWB (w : List UInt8) (l : List BT) : Bool := (decide ((hdB l).1 = 1) || decide ((hdB l).1 = 5)) && decide ((hdB l).2 = w)
theorem hdT_bare {ts : List Tk} {l : List BT} (h : ts.map Tk.bare = l) : (hdT ts).bare = hdB l := by
 cases ts with
 | nil => subst h; rfl
 | cons t r => subst h; rfl
theorem isW_bare {w : List UInt8} {ts : List Tk} {l : List BT} (h : ts.map Tk.bare = l) : isW w ts = isWB w l := by
 have := hdT_bare h
 unfold isW isWB
 rw [← this]; rfl
/-- one call with the same fuel, then another -/
theorem EvR.step {α β : Type} {P : Nat → List Tk → Rs α} {Q : Nat → α → List Tk → Rs β} {l l1 l2 : List BT} {x : α} {y : β} (h : EvR P l x l1) (hq : EvR (fun k ts => Q k x ts) l1 y l2) : EvR (fun k ts => (P k ts).bind fun a ts => Q k a ts) l y l2 := by
 intro ts hts
 obtain ⟨ts1, h1, k1, hk1⟩ := h ts hts
 obtain ⟨ts2, h2, k2, hk2⟩ := hq ts1 h1
 refine ⟨ts2, h2, max k1 k2, fun k hk => ?_⟩
 show (P k ts).bind _ = _
 rw [hk1 k (by omega), Rs.bind_ok]
 exact hk2 k (by omega)
/-- a function that spends one unit of fuel -/
theorem EvR.succ {α : Type} {P Q : Nat → List Tk → Rs α} {l l' : List BT} {x : α} (h : EvR Q l x l') (he : ∀ k ts, ts.map Tk.bare = l → P (k + 1) ts = Q k ts) : EvR P l x l' := by
 intro ts hts
 obtain ⟨ts', h1, k0, hk⟩ := h ts hts
 refine ⟨ts', h1, k0 + 1, fun k hk' => ?_⟩
 obtain ⟨j, rfl⟩ : ∃ j, k = j + 1 := ⟨k - 1, by omega⟩
 rw [he j ts hts]
 exact hk j (by omega)
theorem EvR.ok {α : Type} {x : α} {l : List BT} : EvR (fun _ ts => .ok x ts) l x l := fun ts h => ⟨ts, h, 0, fun _ _ => rfl⟩
/-- behind a token -/
theorem EvR.tail {α : Type} {P : Nat → List Tk → Rs α} {p : BT} {l l' : List BT} {x : α} (h : EvR P l x l') : EvR (fun k ts => P k ts.tail) (p :: l) x l' := by
 intro ts hts
 obtain ⟨a, r, rfl, hr⟩ := bare_cons hts
 exact h r hr
theorem EvR.congr {α : Type} {P Q : Nat → List Tk → Rs α} {l l' : List BT} {x : α} (h : EvR Q l x l') (he : ∀ k ts, ts.map Tk.bare = l → P k ts = Q k ts) : EvR P l x l' := by
 intro ts hts
 obtain ⟨ts', h1, k0, hk⟩ := h ts hts
 exact ⟨ts', h1, k0, fun k hk' => by rw [he k ts hts]; exact hk k hk'⟩
theorem EvR.need {w : List UInt8} {p : BT} {l : List BT} (h : isWB w (p :: l) = true) : EvR (fun _ ts => needP w ts) (p :: l) () l := by
 intro ts hts
 have hw : isW w ts = true := (isW_bare hts).trans h
 obtain ⟨a, r, rfl, hr⟩ := bare_cons hts
 exact ⟨r, hr, 0, fun _ _ => by show needP w _ = _; rw [needP, if_pos hw]; rfl⟩
/-- the number that a text is -/
def numOf (s : List UInt8) : Option Int := numK ⟨2, s, 0⟩
theorem EvR.num {s : List UInt8} {n : Int} {l : List BT} (h : numOf s = some n) : EvR (fun _ ts => numP ts) ((2, s) :: l) n l := by
 intro ts hts
 obtain ⟨a, r, rfl, hr⟩ := bare_cons hts
 refine ⟨r, hr, 0, fun _ _ => ?_⟩
 have : numK (hdT (⟨2, s, a⟩ :: r)) = some n := h
 show numP _ = _
 unfold numP
 show (match numK (hdT (⟨2, s, a⟩ :: r)) with | some n => Rs.ok n _ | none => _) = _
 rw [this]
 rfl
theorem numOf_itoa {n : Int} (h0 : 0 ≤ n) (h1 : n ≤ 1125899906842624) : numOf (Lib.itoa n) = some n := by
 unfold numOf numK
 have hd := itoa_dg h0
 have hn := itoa_num h0
 have hne : (Lib.itoa n).head? ≠ some 45 := by
  intro e
  cases h : Lib.itoa n with
  | nil => rw [h] at e; cases e
  | cons c r =>
    rw [h] at e hd
    cases e
    rw [List.all_cons, Bool.and_eq_true] at hd
    exact absurd hd.1 (by decide)
 rw [if_pos ⟨rfl, hne, by rw [hn]; exact h1⟩, hn]
abbrev EvU (d : Nat) := EvR fun k ts => unitP k d ts
abbrev EvJ (d : Nat) := EvR fun k ts => conjP k d ts
abbrev EvJL (d : Nat) (l : List Cond) := EvR fun k ts => conjL k d l ts
abbrev EvC (d : Nat) := EvR fun k ts => condP k d ts
abbrev EvCL (d : Nat) (l : List Cond) := EvR fun k ts => condL k d l ts
abbrev EvS (d : Nat) (l : List Step) := EvR fun k ts => stepsP k d l ts
abbrev EvB (d : Nat) := EvR fun k ts => blockP k d ts
section
variable {d : Nat} {l l1 l2 : List BT} {c c2 : Cond} {cs : List Cond}
theorem U_not (hd : d < 16) (h : EvU (d + 1) l c l1) : EvU d ((1, [110, 111, 116]) :: l) (notC c) l1 := by
 refine EvR.succ (Q := fun k ts => (unitP k (d + 1) ts.tail).bind fun c ts => .ok (notC c) ts) (EvR.step (P := fun k ts => unitP k (d + 1) ts.tail) (Q := fun _ c ts => .ok (notC c) ts) (EvR.tail (P := fun k ts => unitP k (d + 1) ts) h) .ok) fun k ts hts => ?_
 have hw : isW [110, 111, 116] ts = true := (isW_bare hts).trans rfl
 rw [unitP, if_neg (by simp only [Bool.and_eq_true, decide_eq_true_eq]; omega), if_pos hw]
theorem U_par (hd : d < 16) (h : EvC (d + 1) l c ((5, [41]) :: l1)) : EvU d ((5, [40]) :: l) c l1 := by
 refine EvR.succ (Q := fun k ts => (condP k (d + 1) ts.tail).bind fun c ts => (needP [41] ts).bind fun _ ts => .ok c ts) ?_ fun k ts hts => ?_
 · exact EvR.step (P := fun k ts => condP k (d + 1) ts.tail) (Q := fun _ c ts => (needP [41] ts).bind fun _ ts => .ok c ts) (EvR.tail (P := fun k ts => condP k (d + 1) ts) h) (EvR.step (P := fun _ ts => needP [41] ts) (Q := fun _ _ ts => .ok c ts) (EvR.need rfl) .ok)
 · have hw : isW [40] ts = true := (isW_bare hts).trans rfl
   have hw1 : isW [110, 111, 116] ts = false := (isW_bare hts).trans rfl
   rw [unitP, if_neg (by simp only [Bool.and_eq_true, decide_eq_true_eq]; omega), if_neg (by rw [hw1]; decide), if_pos hw]
theorem J_of (h : EvU d l c l1) (h2 : EvJL d [c] l1 c2 l2) : EvJ d l c2 l2 :=
 EvR.succ (Q := fun k ts => (unitP k d ts).bind fun c ts => conjL k d [c] ts) (EvR.step (P := fun k ts => unitP k d ts) (Q := fun k c ts => conjL k d [c] ts) h h2) fun k ts _ => by rw [conjP]
theorem JL_end (h : isWB [97, 110, 100] l = false) : EvJL d cs l (mkC 2 cs) l :=
 EvR.succ (Q := fun _ ts => .ok (mkC 2 cs) ts) .ok fun k ts hts => by rw [conjL, if_neg (by rw [isW_bare hts, h]; decide)]
theorem JL_and (h : EvU d l c l1) (h2 : EvJL d (cs ++ [c]) l1 c2 l2) : EvJL d cs ((1, [97, 110, 100]) :: l) c2 l2 :=
 EvR.succ (Q := fun k ts => (unitP k d ts.tail).bind fun c ts => conjL k d (cs ++ [c]) ts) (EvR.step (P := fun k ts => unitP k d ts.tail) (Q := fun k c ts => conjL k d (cs ++ [c]) ts) (EvR.tail (P := fun k ts => unitP k d ts) h) h2) fun k ts hts => by
  have hw : isW [97, 110, 100] ts = true := (isW_bare hts).trans rfl
  rw [conjL, if_pos hw]
theorem C_of (h : EvJ d l c l1) (h2 : EvCL d [c] l1 c2 l2) : EvC d l c2 l2 :=
 EvR.succ (Q := fun k ts => (conjP k d ts).bind fun c ts => condL k d [c] ts) (EvR.step (P := fun k ts => conjP k d ts) (Q := fun k c ts => condL k d [c] ts) h h2) fun k ts _ => by rw [condP]
theorem CL_end (h : isWB [111, 114] l = false) : EvCL d cs l (mkC 3 cs) l :=
 EvR.succ (Q := fun _ ts => .ok (mkC 3 cs) ts) .ok fun k ts hts => by rw [condL, if_neg (by rw [isW_bare hts, h]; decide)]
theorem CL_or (h : EvJ d l c l1) (h2 : EvCL d (cs ++ [c]) l1 c2 l2) : EvCL d cs ((1, [111, 114]) :: l) c2 l2 :=
 EvR.succ (Q := fun k ts => (conjP k d ts.tail).bind fun c ts => condL k d (cs ++ [c]) ts) (EvR.step (P := fun k ts => conjP k d ts.tail) (Q := fun k c ts => condL k d (cs ++ [c]) ts) (EvR.tail (P := fun k ts => conjP k d ts) h) h2) fun k ts hts => by
  have hw : isW [111, 114] ts = true := (isW_bare hts).trans rfl
  rw [condL, if_pos hw]
/-- words of variables -/
def varW : Int → List UInt8
 | 1 => [100, 105, 115, 116, 97, 110, 99, 101]
 | 2 => [102, 105, 101, 108, 100]
 | _ => [115, 104, 111, 114, 116]
theorem U_var {v : Int} (hv : v = 1 ∨ v = 2 ∨ v = 3) (h : EvR (fun _ ts => relP v ts) l c l1) : EvU d ((1, varW v) :: l) c l1 := by
 refine EvR.succ (Q := fun k ts => relP v ts.tail) (EvR.tail (P := fun _ ts => relP v ts) h) fun k ts hts => ?_
 have hw1 : isW [110, 111, 116] ts = false := (isW_bare hts).trans (by rcases hv with rfl | rfl | rfl <;> rfl)
 have hw2 : isW [40] ts = false := (isW_bare hts).trans (by rcases hv with rfl | rfl | rfl <;> rfl)
 have hk : varK ts = some v := by
  unfold varK
  rw [isW_bare hts, isW_bare hts, isW_bare hts]
  rcases hv with rfl | rfl | rfl <;> rfl
 rw [unitP, if_neg (by rw [hw1, hw2, Bool.or_false, Bool.false_and]; decide), if_neg (by rw [hw1]; decide), if_neg (by rw [hw2]; decide), hk]
theorem R_of {w s : List UInt8} {n v : Int} {f : Int → Cond} (hn : numOf s = some n) (he : ∀ ts : List Tk, ts.map Tk.bare = (5, w) :: (2, s) :: l → relP v ts = (numP ts.tail).bind fun n ts => .ok (f n) ts) : EvR (fun _ ts => relP v ts) ((5, w) :: (2, s) :: l) (f n) l := by
 refine EvR.congr (Q := fun _ ts => (numP ts.tail).bind fun n ts => .ok (f n) ts) ?_ fun k ts hts => he ts hts
 exact EvR.step (P := fun _ ts => numP ts.tail) (Q := fun _ n ts => .ok (f n) ts) (EvR.tail (P := fun _ ts => numP ts) (EvR.num hn)) .ok
theorem R_ge {s : List UInt8} {n v : Int} (hn : numOf s = some n) : EvR (fun _ ts => relP v ts) ((5, [62, 61]) :: (2, s) :: l) (leC v n) l :=
 R_of (f := fun n => leC v n) hn fun ts hts => by unfold relP; rw [isW_bare hts]; rfl
theorem R_gt {s : List UInt8} {n v : Int} (hn : numOf s = some n) : EvR (fun _ ts => relP v ts) ((5, [62]) :: (2, s) :: l) (leC v (n + 1)) l :=
 R_of (f := fun n => leC v (n + 1)) hn fun ts hts => by unfold relP; rw [isW_bare hts, isW_bare hts]; rfl
theorem R_le {s : List UInt8} {n v : Int} (hn : numOf s = some n) : EvR (fun _ ts => relP v ts) ((5, [60, 61]) :: (2, s) :: l) (notC (leC v (n + 1))) l :=
 R_of (f := fun n => notC (leC v (n + 1))) hn fun ts hts => by unfold relP; rw [isW_bare hts, isW_bare hts, isW_bare hts]; rfl
theorem R_lt {s : List UInt8} {n v : Int} (hn : numOf s = some n) : EvR (fun _ ts => relP v ts) ((5, [60]) :: (2, s) :: l) (notC (leC v n)) l :=
 R_of (f := fun n => notC (leC v n)) hn fun ts hts => by unfold relP; rw [isW_bare hts, isW_bare hts, isW_bare hts, isW_bare hts]; rfl
theorem R_eq {s : List UInt8} {n v : Int} (hn : numOf s = some n) : EvR (fun _ ts => relP v ts) ((5, [61]) :: (2, s) :: l) ⟨2, 0, 0, [leC v n, notC (leC v (n + 1))]⟩ l :=
 R_of (f := fun n => ⟨2, 0, 0, [leC v n, notC (leC v (n + 1))]⟩) hn fun ts hts => by unfold relP; rw [isW_bare hts, isW_bare hts, isW_bare hts, isW_bare hts, isW_bare hts]; rfl
end
end Go.Proofs.YtaopegkpjhkooaaGreatDoor.Dx
/- Chapter 06: texts of conditions, their tokens, and what parsing them comes to (plain). -/
namespace Go.Proofs.YtaopegkpjhkooaaGreatDoor.Dx
open Go Go.RowKit
set_option maxRecDepth 100000
theorem ev_fu {α : Type} {P : Nat → List Tk → Rs α} (hm : ∀ ts k, P k ts ≠ .out → P (k + 1) ts = P k ts) {l l' : List BT} {x : α} (h : EvR P l x l') {ts : List Tk} (hts : ts.map Tk.bare = l) (hn : P FU ts ≠ .out) : ∃ ts', ts'.map Tk.bare = l' ∧ P FU ts = .ok x ts' := by
 obtain ⟨ts', h1, k0, hk⟩ := h ts hts
 refine ⟨ts', h1, ?_⟩
 have e1 := more_le (f := fun k => P k ts) (hm ts) hn (Nat.le_max_right k0 FU)
 rw [← e1]
 exact hk _ (Nat.le_max_left ..)
theorem condR_lx {src : List UInt8} {l : List BT} {c : Cond} (hl : src.length ≤ 65536) (h : Lx src l) (he : EvC 0 l c [(6, [])]) : condR src = (c, 0, 0) := by
 obtain ⟨ts', h1, h2⟩ := ev_fu (P := fun k ts => condP k 0 ts) (fun ts k => (cond_more k).2.2.2.1 0 ts) he (h.toks 0) (cond_fu src hl)
 obtain ⟨a, r, rfl, _⟩ := bare_cons h1
 unfold condR prsR
 rw [h.bads]
 show allR cz (condP FU 0 (toks src 0)) = _
 rw [h2]
 rfl
theorem stepsR_lx {src : List UInt8} {l : List BT} {c : List Step} (hl : src.length ≤ 65536) (h : Lx src l) (he : EvS 0 [] l c [(6, [])]) : stepsR src = (c, 0, 0) := by
 obtain ⟨ts', h1, h2⟩ := ev_fu (P := fun k ts => stepsP k 0 [] ts) (fun ts k => (steps_more k).1 0 [] ts) he (h.toks 0) (steps_fu src hl)
 obtain ⟨a, r, rfl, _⟩ := bare_cons h1
 unfold stepsR prsR
 rw [h.bads]
 show allR [] (stepsP FU 0 [] (toks src 0)) = _
 rw [h2]
 rfl
/-! ### Pieces of texts -/
theorem brk_sp {r : List UInt8} : Brk (32 :: r) := Brk.cons (by decide) (by decide)
theorem brk_rp {r : List UInt8} : Brk (41 :: r) := Brk.cons (by decide) (by decide)
section
variable {r : List UInt8} {l : List BT}
theorem Lx.sp (h : Lx r l) : Lx (32 :: r) l := Lx.blank (by decide) h
theorem Lx.nl (h : Lx r l) : Lx (10 :: r) l := Lx.blank (by decide) h
theorem Lx.lp (h : Lx r l) : Lx (40 :: r) ((5, [40]) :: l) := Lx.sign (by decide) (by cases r <;> rfl) h
theorem Lx.rp (h : Lx r l) : Lx (41 :: r) ((5, [41]) :: l) := Lx.sign (by decide) (by cases r <;> rfl) h
theorem Lx.lb (h : Lx r l) : Lx (123 :: r) ((5, [123]) :: l) := Lx.sign (by decide) (by cases r <;> rfl) h
theorem Lx.rb (h : Lx r l) : Lx (125 :: r) ((5, [125]) :: l) := Lx.sign (by decide) (by cases r <;> rfl) h
theorem Lx.sc (h : Lx r l) : Lx (59 :: r) ((5, [59]) :: l) := Lx.sign (by decide) (by cases r <;> rfl) h
/-- a word and a blank -/
theorem Lx.ws {w : List UInt8} (hw : wordB w = true) (h : Lx r l) : Lx (w ++ 32 :: r) ((1, w) :: l) := Lx.word hw brk_sp h.sp
theorem Lx.or_ (h : Lx r l) : Lx ([32, 111, 114, 32] ++ r) ((1, [111, 114]) :: l) := Lx.sp (Lx.ws (w := [111, 114]) (by decide) h)
theorem Lx.and_ (h : Lx r l) : Lx ([32, 97, 110, 100, 32] ++ r) ((1, [97, 110, 100]) :: l) := Lx.sp (Lx.ws (w := [97, 110, 100]) (by decide) h)
theorem Lx.not_ (h : Lx r l) : Lx ([110, 111, 116, 32] ++ r) ((1, [110, 111, 116]) :: l) := Lx.ws (w := [110, 111, 116]) (by decide) h
theorem Lx.notp (h : Lx r l) : Lx ([110, 111, 116, 32, 40] ++ r) ((1, [110, 111, 116]) :: (5, [40]) :: l) := Lx.ws (w := [110, 111, 116]) (by decide) h.lp
theorem itoaN {n : Int} (h0 : 0 ≤ n) (h1 : n ≤ 1125899906842624) : numB (Lib.itoa n) = true := by
 rw [itoa_pos' h0]
 obtain ⟨h1', h2, h3, h4, h5⟩ := dec_all n.toNat
 have hl := h5 15 (by omega)
 have hp : 1 ≤ (Lib.decDigits n.toNat).length := by
  cases hd : Lib.decDigits n.toNat with
  | nil => exact absurd hd h3
  | cons => simp
 simp only [numB, digitsB, h1', Bool.and_true, Bool.and_eq_true, decide_eq_true_eq, Bool.or_eq_true]
 refine ⟨⟨by omega, by omega⟩, ?_⟩
 by_cases e : n.toNat = 0
 · left; rw [e, Lib.decDigits, dif_pos (by omega)]; rfl
 · exact .inr (h4 e)
theorem itoa_len {n : Int} (h0 : 0 ≤ n) (h1 : n ≤ 1125899906842624) : (Lib.itoa n).length ≤ 16 := by
 rw [itoa_pos' h0]
 exact (dec_all n.toNat).2.2.2.2 15 (by omega)
theorem Lx.cmp {v n : Int} (hv : v = 1 ∨ v = 2 ∨ v = 3) (h0 : 0 ≤ n) (h1 : n ≤ 1125899906842624) (hr : Brk r) (h : Lx r l) : Lx ((varW v ++ ([32, 62, 61, 32] ++ Lib.itoa n)) ++ r) ((1, varW v) :: (5, [62, 61]) :: (2, Lib.itoa n) :: l) := by
 rw [List.append_assoc, List.append_assoc]
 have h2 : Lx (Lib.itoa n ++ r) ((2, Lib.itoa n) :: l) := Lx.num (itoaN h0 h1) hr h
 have h3 : Lx ([62, 61, 32] ++ (Lib.itoa n ++ r)) ((5, [62, 61]) :: (2, Lib.itoa n) :: l) := Lx.dbl rfl h2.sp
 exact Lx.ws (by rcases hv with rfl | rfl | rfl <;> decide) h3
theorem EvU.cmp {d : Nat} {v n : Int} (hv : v = 1 ∨ v = 2 ∨ v = 3) (h0 : 0 ≤ n) (h1 : n ≤ 1125899906842624) : EvU d ((1, varW v) :: (5, [62, 61]) :: (2, Lib.itoa n) :: l) (leC v n) l := U_var hv (R_ge (numOf_itoa h0 h1))
end
/-! ### The ten texts -/
abbrev fS (a : Int) : List UInt8 := [102, 105, 101, 108, 100, 32, 62, 61, 32] ++ Lib.itoa a
abbrev dS (b : Int) : List UInt8 := [100, 105, 115, 116, 97, 110, 99, 101, 32, 62, 61, 32] ++ Lib.itoa b
abbrev sS (c : Int) : List UInt8 := [115, 104, 111, 114, 116, 32, 62, 61, 32] ++ Lib.itoa c
section
variable {a b c : Int} (ha : 0 ≤ a ∧ a ≤ 1023) (hb : 0 ≤ b ∧ b ≤ 1023) (hc : 0 ≤ c ∧ c ≤ 1023)
include ha in
theorem Lx.f {r : List UInt8} {l : List BT} (hr : Brk r) (h : Lx r l) : Lx (fS a ++ r) ((1, varW 2) :: (5, [62, 61]) :: (2, Lib.itoa a) :: l) := Lx.cmp (v := 2) (by decide) ha.1 (by omega) hr h
include hb in
theorem Lx.d {r : List UInt8} {l : List BT} (hr : Brk r) (h : Lx r l) : Lx (dS b ++ r) ((1, varW 1) :: (5, [62, 61]) :: (2, Lib.itoa b) :: l) := Lx.cmp (v := 1) (by decide) hb.1 (by omega) hr h
include hc in
theorem Lx.s {r : List UInt8} {l : List BT} (hr : Brk r) (h : Lx r l) : Lx (sS c ++ r) ((1, varW 3) :: (5, [62, 61]) :: (2, Lib.itoa c) :: l) := Lx.cmp (v := 3) (by decide) hc.1 (by omega) hr h
include ha in
theorem evf {d : Nat} {l : List BT} : EvU d ((1, varW 2) :: (5, [62, 61]) :: (2, Lib.itoa a) :: l) (leC 2 a) l := EvU.cmp (by decide) ha.1 (by omega)
include hb in
theorem evd {d : Nat} {l : List BT} : EvU d ((1, varW 1) :: (5, [62, 61]) :: (2, Lib.itoa b) :: l) (leC 1 b) l := EvU.cmp (by decide) hb.1 (by omega)
include hc in
theorem evs {d : Nat} {l : List BT} : EvU d ((1, varW 3) :: (5, [62, 61]) :: (2, Lib.itoa c) :: l) (leC 3 c) l := EvU.cmp (by decide) hc.1 (by omega)
theorem lenL {s : List UInt8} (h : s.length ≤ 200) : s.length ≤ 65536 := by omega
include ha hb hc in
theorem tx1 : condR (fS a ++ [32, 111, 114, 32] ++ dS b ++ [32, 97, 110, 100, 32] ++ sS c) = (⟨3, 0, 0, [leC 2 a, ⟨2, 0, 0, [leC 1 b, leC 3 c]⟩]⟩, 0, 0) := by
 have l1 := itoa_len ha.1 (by omega)
 have l2 := itoa_len hb.1 (by omega)
 have l3 := itoa_len hc.1 (by omega)
 refine condR_lx (lenL (by simp only [List.length_append, List.length_cons, List.length_nil]; omega)) (l := _) (by
  rw [List.append_assoc, List.append_assoc, List.append_assoc, ← List.append_nil (sS c)]
  exact Lx.f ha brk_sp (Lx.or_ (Lx.d hb brk_sp (Lx.and_ (Lx.s hc Brk.nil Lx.nil))))) ?_
 exact C_of (J_of (evf ha) (JL_end rfl)) (CL_or (J_of (evd hb) (JL_and (evs hc) (JL_end rfl))) (CL_end rfl))
include ha hb hc in
theorem tx2 : condR (fS a ++ [32, 97, 110, 100, 32] ++ dS b ++ [32, 111, 114, 32] ++ sS c) = (⟨3, 0, 0, [⟨2, 0, 0, [leC 2 a, leC 1 b]⟩, leC 3 c]⟩, 0, 0) := by
 have l1 := itoa_len ha.1 (by omega)
 have l2 := itoa_len hb.1 (by omega)
 have l3 := itoa_len hc.1 (by omega)
 refine condR_lx (lenL (by simp only [List.length_append, List.length_cons, List.length_nil]; omega)) (l := _) (by
  rw [List.append_assoc, List.append_assoc, List.append_assoc, ← List.append_nil (sS c)]
  exact Lx.f ha brk_sp (Lx.and_ (Lx.d hb brk_sp (Lx.or_ (Lx.s hc Brk.nil Lx.nil))))) ?_
 exact C_of (J_of (evf ha) (JL_and (evd hb) (JL_end rfl))) (CL_or (J_of (evs hc) (JL_end rfl)) (CL_end rfl))
include ha hb hc in
theorem tx3 : condR ([40] ++ fS a ++ [32, 111, 114, 32] ++ dS b ++ [41, 32, 97, 110, 100, 32] ++ sS c) = (⟨2, 0, 0, [⟨3, 0, 0, [leC 2 a, leC 1 b]⟩, leC 3 c]⟩, 0, 0) := by
 have l1 := itoa_len ha.1 (by omega)
 have l2 := itoa_len hb.1 (by omega)
 have l3 := itoa_len hc.1 (by omega)
 refine condR_lx (lenL (by simp only [List.length_append, List.length_cons, List.length_nil]; omega)) (l := _) (by
  rw [List.append_assoc, List.append_assoc, List.append_assoc, List.append_assoc, ← List.append_nil (sS c)]
  exact Lx.lp (Lx.f ha brk_sp (Lx.or_ (Lx.d hb brk_rp (Lx.rp (Lx.and_ (Lx.s hc Brk.nil Lx.nil))))))) ?_
 exact C_of (J_of (U_par (by omega) (C_of (J_of (evf ha) (JL_end rfl)) (CL_or (J_of (evd hb) (JL_end rfl)) (CL_end rfl)))) (JL_and (evs hc) (JL_end rfl))) (CL_end rfl)
include ha hb in
theorem tx4 : condR ([110, 111, 116, 32] ++ fS a ++ [32, 97, 110, 100, 32] ++ dS b) = (⟨2, 0, 0, [notC (leC 2 a), leC 1 b]⟩, 0, 0) := by
 have l1 := itoa_len ha.1 (by omega)
 have l2 := itoa_len hb.1 (by omega)
 refine condR_lx (lenL (by simp only [List.length_append, List.length_cons, List.length_nil]; omega)) (l := _) (by
  rw [List.append_assoc, List.append_assoc, ← List.append_nil (dS b)]
  exact Lx.not_ (Lx.f ha brk_sp (Lx.and_ (Lx.d hb Brk.nil Lx.nil)))) ?_
 exact C_of (J_of (U_not (by omega) (evf ha)) (JL_and (evd hb) (JL_end rfl))) (CL_end rfl)
include ha hb in
theorem tx5 : condR ([110, 111, 116, 32, 40] ++ fS a ++ [32, 97, 110, 100, 32] ++ dS b ++ [41]) = (notC ⟨2, 0, 0, [leC 2 a, leC 1 b]⟩, 0, 0) := by
 have l1 := itoa_len ha.1 (by omega)
 have l2 := itoa_len hb.1 (by omega)
 refine condR_lx (lenL (by simp only [List.length_append, List.length_cons, List.length_nil]; omega)) (l := _) (by
  rw [List.append_assoc, List.append_assoc, List.append_assoc]
  exact Lx.notp (Lx.f ha brk_sp (Lx.and_ (Lx.d hb brk_rp (Lx.rp Lx.nil))))) ?_
 exact C_of (J_of (U_not (by omega) (U_par (by omega) (C_of (J_of (evf ha) (JL_and (evd hb) (JL_end rfl))) (CL_end rfl)))) (JL_end rfl)) (CL_end rfl)
include ha hb hc in
theorem tx6 : condR (fS a ++ [32, 111, 114, 32] ++ dS b ++ [32, 111, 114, 32] ++ sS c) = (⟨3, 0, 0, [leC 2 a, leC 1 b, leC 3 c]⟩, 0, 0) := by
 have l1 := itoa_len ha.1 (by omega)
 have l2 := itoa_len hb.1 (by omega)
 have l3 := itoa_len hc.1 (by omega)
 refine condR_lx (lenL (by simp only [List.length_append, List.length_cons, List.length_nil]; omega)) (l := _) (by
  rw [List.append_assoc, List.append_assoc, List.append_assoc, ← List.append_nil (sS c)]
  exact Lx.f ha brk_sp (Lx.or_ (Lx.d hb brk_sp (Lx.or_ (Lx.s hc Brk.nil Lx.nil))))) ?_
 exact C_of (J_of (evf ha) (JL_end rfl)) (CL_or (J_of (evd hb) (JL_end rfl)) (CL_or (J_of (evs hc) (JL_end rfl)) (CL_end rfl)))
include ha in
theorem txr {w : List UInt8} {x : Cond} (hw : ∀ {r : List UInt8} {l : List BT}, Lx r l → Lx (w ++ 32 :: r) ((5, w) :: l)) (hl : w.length ≤ 2)
 (h : ∀ l : List BT, EvR (fun _ ts => relP 2 ts) ((5, w) :: (2, Lib.itoa a) :: l) x l) : condR ([102, 105, 101, 108, 100, 32] ++ (w ++ 32 :: Lib.itoa a)) = (x, 0, 0) := by
 have l1 := itoa_len ha.1 (by omega)
 refine condR_lx (lenL (by simp only [List.length_append, List.length_cons, List.length_nil]; omega)) (l := _) (by
  rw [← List.append_nil (Lib.itoa a)]
  exact Lx.ws (w := [102, 105, 101, 108, 100]) (by decide) (hw (Lx.num (itoaN ha.1 (by omega)) Brk.nil Lx.nil))) ?_
 exact C_of (J_of (U_var (v := 2) (by decide) (h [(6, [])])) (JL_end rfl)) (CL_end rfl)
include ha in
theorem tx7 : condR ([102, 105, 101, 108, 100, 32, 60, 32] ++ Lib.itoa a) = (notC (leC 2 a), 0, 0) :=
 txr ha (w := [60]) (fun h => Lx.sign (by decide) (by rfl) h.sp) (by decide) fun l => R_lt (numOf_itoa ha.1 (by omega))
include ha in
theorem tx8 : condR ([102, 105, 101, 108, 100, 32, 62, 32] ++ Lib.itoa a) = (leC 2 (a + 1), 0, 0) :=
 txr ha (w := [62]) (fun h => Lx.sign (by decide) (by rfl) h.sp) (by decide) fun l => R_gt (numOf_itoa ha.1 (by omega))
include ha in
theorem tx9 : condR ([102, 105, 101, 108, 100, 32, 60, 61, 32] ++ Lib.itoa a) = (notC (leC 2 (a + 1)), 0, 0) :=
 txr ha (w := [60, 61]) (fun h => Lx.dbl rfl h.sp) (by decide) fun l => R_le (numOf_itoa ha.1 (by omega))
include ha in
theorem tx10 : condR ([40, 40, 102, 105, 101, 108, 100, 32, 61, 32] ++ Lib.itoa a ++ [41, 41]) = (⟨2, 0, 0, [leC 2 a, notC (leC 2 (a + 1))]⟩, 0, 0) := by
 have l1 := itoa_len ha.1 (by omega)
 refine condR_lx (lenL (by simp only [List.length_append, List.length_cons, List.length_nil]; omega)) (l := _) (by
  rw [List.append_assoc]
  exact Lx.lp (Lx.lp (Lx.ws (w := [102, 105, 101, 108, 100]) (by decide) (Lx.sign (c := 61) (by decide) (by rfl) (Lx.sp (Lx.num (s := Lib.itoa a) (itoaN ha.1 (by omega)) brk_rp (Lx.rp (Lx.rp Lx.nil)))))))) ?_
 exact C_of (J_of (U_par (by omega) (C_of (J_of (U_par (by omega) (C_of (J_of (U_var (v := 2) (by decide) (R_eq (numOf_itoa ha.1 (by omega)))) (JL_end rfl)) (CL_end rfl))) (JL_end rfl)) (CL_end rfl))) (JL_end rfl)) (CL_end rfl)
end
end Go.Proofs.YtaopegkpjhkooaaGreatDoor.Dx
