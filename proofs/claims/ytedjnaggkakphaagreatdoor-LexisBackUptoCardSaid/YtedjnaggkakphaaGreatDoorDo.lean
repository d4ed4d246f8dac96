/- Digits: strings.Trim at the ten digits, lexis.digits, isNumeral. -/
import Derived.Test.YtedjnaggkakphaaGreatDoorDm
import Derived.Test.YtedjnaggkakphaaGreatDoorDn
import Derived.Lib.SplitLaws
set_option linter.all false
namespace Go.Proofs.YtedjnaggkakphaaGreatDoor.Dx
open Go Go.RowKit Go.Proofs
set_option maxRecDepth 100000
set_option maxHeartbeats 8000000
abbrev qB (b : Bool) : Base := .d (.bl b)
def tabQ (f : Nat → Bool) : List Base := (List.range 256).map fun b => qB (f b)
def tabP (f : Nat → Bool) : List D := (List.range 256).map fun b => bD (f b)
theorem tabQ_len (f : Nat → Bool) : (tabQ f).length = 256 := by simp [tabQ]
theorem tabP_len (f : Nat → Bool) : (tabP f).length = 256 := by simp [tabP]
theorem tabQ_set {f g : Nat → Bool} {i : Nat} {v : Bool} (hi : i < 256) (h : ∀ b, b < 256 → g b = if b = i then v else f b) : (tabQ f).set i (qB v) = tabQ g := by
 apply List.ext_getElem?
 intro b
 simp only [tabQ, List.getElem?_set, List.length_map, List.length_range, List.getElem?_map]
 by_cases hb : b < 256
 · rw [List.getElem?_range hb]
   simp only [Option.map_some]
   rw [h b hb]
   by_cases e : i = b
   · subst e; simp [hi]
   · rw [if_neg e, if_neg (Ne.symm e)]
 · rw [if_neg (by omega), List.getElem?_eq_none (by simp; omega)]
   rfl
theorem tabQ_vals (O : List (Nat × Blk)) (f : Nat → Bool) : valBs O (tabQ f) = some (tabP f) := by
 unfold tabQ tabP
 generalize List.range 256 = l
 induction l with
 | nil => rfl
 | cons x l ih => simp only [List.map_cons, valBs, ih]; rfl
theorem tabQ_whole (O : List (Nat × Blk)) (f : Nat → Bool) : valBs O (((tabQ f).drop 0).take 256) = some (tabP f) := by
 rw [List.drop_zero, List.take_of_length_le (by rw [tabQ_len]; decide), tabQ_vals]
def tabR (f : Nat → Bool) : List Base := (List.range 256).map fun b => .d (bD (f b))
theorem tabR_len (f : Nat → Bool) : (tabR f).length = 256 := by simp [tabR]
theorem tabR_vals (O : List (Nat × Blk)) (f : Nat → Bool) : valBs O (tabR f) = some (tabP f) := by
 unfold tabR tabP
 generalize List.range 256 = l
 induction l with
 | nil => rfl
 | cons x l ih => simp only [List.map_cons, valBs, ih]; rfl
theorem tabR_whole (O : List (Nat × Blk)) (f : Nat → Bool) : valBs O (((tabR f).drop 0).take 256) = some (tabP f) := by
 rw [List.drop_zero, List.take_of_length_le (by rw [tabR_len]; decide), tabR_vals]
theorem tabP_drop (f : Nat → Bool) {i : Nat} (h : i < 256) : ∃ r, (tabP f).drop i = bD (f i) :: r := by
 refine ⟨(tabP f).drop (i + 1), ?_⟩
 rw [List.drop_eq_getElem_cons (by rw [tabP_len]; exact h)]
 simp [tabP]
theorem SubBs_tabQ (O : List (Nat × Blk)) (f : Nat → Bool) : SubBs O (tabQ f) (tabQ f) := by
 unfold tabQ
 generalize List.range 256 = l
 induction l with
 | nil => trivial
 | cons x l ih => exact ⟨rfl, ih⟩
abbrev tenL : List UInt8 := [48, 49, 50, 51, 52, 53, 54, 55, 56, 57]
def tenS (i : Nat) (b : Nat) : Bool := (tenL.take i).any fun c => decide (c.toNat = b)
theorem tenS_succ {i : Nat} (h : i < tenL.length) (b : Nat) : tenS (i + 1) b = if b = tenL[i].toNat then true else tenS i b := by
 rw [tenS, List.take_succ_eq_append_getElem h, List.any_append]
 by_cases e : b = tenL[i].toNat
 · rw [if_pos e]; simp [e]
 · rw [if_neg e]
   simp only [List.any_cons, List.any_nil, Bool.or_false, decide_eq_false (Ne.symm e)]
   rfl
theorem mkset_meets : Meets Tryz.prog 93 [.str tenL] fun d => d = .tup [.agg (tabP (tenS 10)), bD true] := by
 have hten : ∀ x ∈ tenL, x.toNat < 128 := by decide
 refine enter tok {sym := [2]} Tryz.func93 rfl (by kernel_rfl) Tryz.ntmps93 (by simp) fun B0 W0 V0 lent g0 => ?_
 ((conv => whnf); repeat' (refine vcC_go tok {sym := [2]} rfl ?_; conv => whnf))
 refine J_cells 2 (tabQ (tenS 0)) ?_
 conv => whnf
 refine ⟨by kernel_rfl, ?_⟩
 conv => whnf
 refine loop_upd tok {sym := [2]} [] (X := Nat) (fun i => [(4, iB i)]) (fun i => [(2, .box (tabQ (tenS i)) 112)]) [5] (fun i => i ≤ tenL.length) (fun i => tenL.length - i) 0 ?_
 ((conv => whnf); repeat' (refine vcC_go tok {sym := [2]} rfl ?_; conv => whnf))
 refine And.intro ?_ ⟨by decide, fun k hk => ?_⟩
 · repeat' (first | exact SubBs_tabQ _ _ | exact True.intro | exact rfl | refine And.intro ?_ ?_)
 ((conv => whnf); repeat' (refine vcC_go tok {sym := [2]} rfl ?_; conv => whnf))
 repeat' ((first | (intro hlq; (try simp only [SL] at hlq)) | refine Ks ?_ | refine Kq ?_ | refine Kt ?_ | refine Ka ?_ | refine Kb ?_ | refine Kc (hd := rfl) (e := ?_) | refine Kc (hd := icells_eq _) (e := ?_) | refine Kd (e := ?_) | refine Kl rfl ?_ | fail) <;> ((conv => whnf); repeat' (refine vcC_go tok {sym := [2]} rfl ?_; conv => whnf)))
 refine ⟨fun h1 => ?_, fun h1 => ?_⟩ <;> (try simp only [BL] at h1) <;> ((conv => whnf); repeat' (refine vcC_go tok {sym := [2]} rfl ?_; conv => whnf))
 · have h1' : k < tenL.length := by simp only [tenL, List.length_cons, List.length_nil] at h1 ⊢; omega
   have hb := hten _ (List.getElem_mem h1')
   refine ⟨_, ⟨by omega, by rw [Int.toNat_natCast, List.getElem?_eq_getElem h1']⟩, ?_⟩
   ((conv => whnf); repeat' (refine vcC_go tok {sym := [2]} rfl ?_; conv => whnf))
   refine ⟨fun h2 => ?_, fun h2 => ?_⟩ <;> (try simp only [BL] at h2) <;> ((conv => whnf); repeat' (refine vcC_go tok {sym := [2]} rfl ?_; conv => whnf))
   · omega
   repeat' ((first | (intro hlq; (try simp only [SL] at hlq)) | refine Ks ?_ | refine Kq ?_ | refine Kt ?_ | refine Ka ?_ | refine Kb ?_ | refine Kc (hd := rfl) (e := ?_) | refine Kc (hd := icells_eq _) (e := ?_) | refine Kd (e := ?_) | refine Kl rfl ?_ | fail) <;> ((conv => whnf); repeat' (refine vcC_go tok {sym := [2]} rfl ?_; conv => whnf)))
   refine ⟨by dsimp only; rw [tabQ_len]; omega, ?_⟩
   ((conv => whnf); repeat' (refine vcC_go tok {sym := [2]} rfl ?_; conv => whnf))
   repeat' ((first | (intro hlq; (try simp only [SL] at hlq)) | refine Ks ?_ | refine Kq ?_ | refine Kt ?_ | refine Ka ?_ | refine Kb ?_ | refine Kc (hd := rfl) (e := ?_) | refine Kc (hd := icells_eq _) (e := ?_) | refine Kd (e := ?_) | refine Kl rfl ?_ | fail) <;> ((conv => whnf); repeat' (refine vcC_go tok {sym := [2]} rfl ?_; conv => whnf)))
   have e1 : (tabQ (tenS k)).set (0 + (tenL[k].toNat : Int).toNat * 1) (qB true) = tabQ (tenS (k + 1)) := by
    refine tabQ_set (by omega) fun b hb => ?_
    rw [tenS_succ h1', show 0 + (tenL[k].toNat : Int).toNat * 1 = tenL[k].toNat by omega]
   rw [e1]
   refine ⟨⟨k + 1, ?_, by omega, by omega⟩⟩
   repeat' (first | exact SubBs_tabQ _ _ | exact True.intro | exact rfl | refine And.intro ?_ ?_)
 · obtain rfl : k = 10 := by simp only [tenL, List.length_cons, List.length_nil] at h1 hk; omega
   refine ⟨tabP (tenS 10), ⟨tabQ_whole _ _, tabP_len _⟩, ?_⟩
   ((conv => whnf); repeat' (refine vcC_go tok {sym := [2]} rfl ?_; conv => whnf))
   show 0 + (tabR (tenS 10)).length ≤ (tabQ (tenS 10)).length ∧ setO _ (Blk.box (setRun (tabQ (tenS 10)) 0 (tabR (tenS 10))) 112) _ _
   rw [setRun_whole (by rw [tabQ_len, tabR_len])]
   refine ⟨by rw [tabQ_len, tabR_len]; decide, ?_⟩
   ((conv => whnf); repeat' (refine vcC_go tok {sym := [2]} rfl ?_; conv => whnf))
   refine ⟨tabP (tenS 10), ⟨tabR_whole _ _, tabP_len _⟩, ?_⟩
   ((conv => whnf); repeat' (refine vcC_go tok {sym := [2]} rfl ?_; conv => whnf))
   exact ⟨rfl⟩
theorem acontains_meets (f : Nat → Bool) (b : UInt8) : Meets Tryz.prog 114 [.ptr (tabP f) 0, .v (.int .u8 (b.toNat : Int))] fun d => d = bD (f b.toNat) := by
 have hb := b.toNat_lt
 obtain ⟨r, hr⟩ := tabP_drop f (i := b.toNat) (by omega)
 refine enter tok {} Tryz.func114 rfl (by kernel_rfl) Tryz.ntmps114 (by simp) fun B0 W0 V0 lent g0 => ?_
 ((conv => whnf); repeat' (refine Z rfl ?_; conv => whnf))
 refine ⟨by omega, ?_⟩
 ((conv => whnf); repeat' (refine Z rfl ?_; conv => whnf))
 generalize hE : List.drop _ _ = E
 have h : E = bD (f b.toNat) :: r := by
  rw [← hE, ← hr]
  exact congrArg (fun k => List.drop k (tabP f)) (by dsimp only; omega)
 clear hE
 subst h
 ((conv => whnf); repeat' (refine Z rfl ?_; conv => whnf))
 exact ⟨rfl⟩
def trimRP (p : UInt8 → Bool) (s : List UInt8) : List UInt8 := (s.reverse.dropWhile p).reverse
theorem dropW_cons (p : UInt8 → Bool) (b : UInt8) (x : List UInt8) : (b :: x).dropWhile p = if p b then x.dropWhile p else b :: x := by rw [List.dropWhile_cons]
theorem trimRP_snoc (p : UInt8 → Bool) (b : UInt8) (x : List UInt8) : trimRP p (x ++ [b]) = if p b then trimRP p x else x ++ [b] := by
 rw [trimRP, List.reverse_append, List.reverse_singleton, List.singleton_append, dropW_cons]
 split
 · rfl
 · simp
theorem trimL_meets (f : Nat → Bool) (s : List UInt8) : Meets Tryz.prog 106 [.str s, .ptr (tabP f) 0] fun d => d = .str (s.dropWhile fun b => f b.toNat) := by
 refine enter tok {} Tryz.func106 rfl (by kernel_rfl) Tryz.ntmps106 (by simp) fun B0 W0 V0 lent g0 => ?_
 ((conv => whnf); repeat' (refine Z rfl ?_; conv => whnf))
 refine loop_upd tok {} [] (X := List UInt8) (fun x => [(0, .d (.str x))]) (fun _ => []) [] (fun x => x.dropWhile (fun b => f b.toNat) = s.dropWhile (fun b => f b.toNat)) (fun x => x.length) s ?_
 ((conv => whnf); repeat' (refine Z rfl ?_; conv => whnf))
 refine And.intro ?_ ⟨rfl, fun x hx => ?_⟩
 · exact Kr
 ((conv => whnf); repeat' (refine Z rfl ?_; conv => whnf))
 repeat' ((first | (intro hlq; (try simp only [SL] at hlq)) | refine Ks ?_ | refine Kq ?_ | refine Kt ?_ | refine Ka ?_ | refine Kb ?_ | refine Kc (hd := rfl) (e := ?_) | refine Kc (hd := icells_eq _) (e := ?_) | refine Kd (e := ?_) | refine Kl rfl ?_ | fail) <;> ((conv => whnf); repeat' (refine Z rfl ?_; conv => whnf)))
 refine ⟨fun h1 => ?_, fun h1 => ?_⟩ <;> (try simp only [BL] at h1) <;> ((conv => whnf); repeat' (refine Z rfl ?_; conv => whnf))
 · match x, hx with
   | [], _ => simp at h1
   | b :: x, hx =>
     rw [dropW_cons] at hx
     refine ⟨b, ⟨by omega, rfl⟩, ?_⟩
     ((conv => whnf); repeat' (refine Z rfl ?_; conv => whnf))
     refine Meets.k (acontains_meets f b) ?_
     ((conv => whnf); repeat' (refine Z rfl ?_; conv => whnf))
     refine ⟨fun h2 => ?_, fun h2 => ?_⟩ <;> (try simp only [BL] at h2) <;> ((conv => whnf); repeat' (refine Z rfl ?_; conv => whnf))
     · rw [h2] at hx
       refine ⟨?_⟩
       rw [← hx]; rfl
     · rw [h2, if_pos rfl] at hx
       repeat' ((first | (intro hlq; (try simp only [SL] at hlq)) | refine Ks ?_ | refine Kq ?_ | refine Kt ?_ | refine Ka ?_ | refine Kb ?_ | refine Kc (hd := rfl) (e := ?_) | refine Kc (hd := icells_eq _) (e := ?_) | refine Kd (e := ?_) | refine Kl rfl ?_ | fail) <;> ((conv => whnf); repeat' (refine Z rfl ?_; conv => whnf)))
       refine ⟨⟨x, ?_, hx, by simp⟩⟩
       repeat' (first | exact True.intro | exact rfl | refine And.intro ?_ ?_ | (refine congrArg D.str ?_; simp [List.append_assoc]; done))
 · match x, hx with
   | [], hx => exact ⟨by rw [← hx]; rfl⟩
   | b :: x, _ => simp at h1
theorem trimR_meets (f : Nat → Bool) (s : List UInt8) : Meets Tryz.prog 94 [.str s, .ptr (tabP f) 0] fun d => d = .str (trimRP (fun b => f b.toNat) s) := by
 refine enter tok {} Tryz.func94 rfl (by kernel_rfl) Tryz.ntmps94 (by simp) fun B0 W0 V0 lent g0 => ?_
 ((conv => whnf); repeat' (refine Z rfl ?_; conv => whnf))
 refine loop_upd tok {} [] (X := List UInt8) (fun x => [(0, .d (.str x))]) (fun _ => []) [] (fun x => trimRP (fun b => f b.toNat) x = trimRP (fun b => f b.toNat) s) (fun x => x.length) s ?_
 ((conv => whnf); repeat' (refine Z rfl ?_; conv => whnf))
 refine And.intro ?_ ⟨rfl, fun x hx => ?_⟩
 · exact Kr
 ((conv => whnf); repeat' (refine Z rfl ?_; conv => whnf))
 repeat' ((first | (intro hlq; (try simp only [SL] at hlq)) | refine Ks ?_ | refine Kq ?_ | refine Kt ?_ | refine Ka ?_ | refine Kb ?_ | refine Kc (hd := rfl) (e := ?_) | refine Kc (hd := icells_eq _) (e := ?_) | refine Kd (e := ?_) | refine Kl rfl ?_ | fail) <;> ((conv => whnf); repeat' (refine Z rfl ?_; conv => whnf)))
 rcases List.eq_nil_or_concat x with rfl | ⟨x, b, rfl⟩
 · refine ⟨fun h1 => ?_, fun h1 => ?_⟩ <;> (try simp only [BL] at h1) <;> ((conv => whnf); repeat' (refine Z rfl ?_; conv => whnf))
   · simp at h1
   · exact ⟨by rw [← hx]; rfl⟩
 rw [List.concat_eq_append] at hx ⊢
 rw [trimRP_snoc] at hx
 refine ⟨fun h1 => ?_, fun h1 => ?_⟩ <;> (try simp only [BL] at h1) <;> ((conv => whnf); repeat' (refine Z rfl ?_; conv => whnf))
 · repeat' ((first | (intro hlq; (try simp only [SL] at hlq)) | refine Ks ?_ | refine Kq ?_ | refine Kt ?_ | refine Ka ?_ | refine Kb ?_ | refine Kc (hd := rfl) (e := ?_) | refine Kc (hd := icells_eq _) (e := ?_) | refine Kd (e := ?_) | refine Kl rfl ?_ | fail) <;> ((conv => whnf); repeat' (refine Z rfl ?_; conv => whnf)))
   refine ⟨b, ⟨by simp only [List.length_append, List.length_cons, List.length_nil]; omega, by simp⟩, ?_⟩
   ((conv => whnf); repeat' (refine Z rfl ?_; conv => whnf))
   refine Meets.k (acontains_meets f b) ?_
   ((conv => whnf); repeat' (refine Z rfl ?_; conv => whnf))
   refine ⟨fun h2 => ?_, fun h2 => ?_⟩ <;> (try simp only [BL] at h2) <;> ((conv => whnf); repeat' (refine Z rfl ?_; conv => whnf))
   · rw [h2] at hx
     refine ⟨?_⟩
     rw [← hx]; rfl
   · rw [h2, if_pos rfl] at hx
     repeat' ((first | (intro hlq; (try simp only [SL] at hlq)) | refine Ks ?_ | refine Kq ?_ | refine Kt ?_ | refine Ka ?_ | refine Kb ?_ | refine Kc (hd := rfl) (e := ?_) | refine Kc (hd := icells_eq _) (e := ?_) | refine Kd (e := ?_) | refine Kl rfl ?_ | fail) <;> ((conv => whnf); repeat' (refine Z rfl ?_; conv => whnf)))
     refine ⟨⟨x, ?_, hx, by simp⟩⟩
     have e : (((x ++ [b]).length : Int) - 1).toNat = x.length := by simp
     rw [e]
     repeat' (first | exact True.intro | exact rfl | refine And.intro ?_ ?_ | (refine congrArg D.str ?_; simp [List.append_assoc]; done))
 · simp at h1
/-! strings.Trim at the ten digits -/
def isDg (b : UInt8) : Bool := decide (48 ≤ (b.toNat : Int)) && decide ((b.toNat : Int) ≤ 57)
theorem ten_dg (b : UInt8) : tenS 10 b.toNat = isDg b := by
 have h : ∀ n : Fin 256, tenS 10 n.1 = (decide (48 ≤ (n.1 : Int)) && decide ((n.1 : Int) ≤ 57)) := by decide +kernel
 exact h ⟨b.toNat, b.toNat_lt⟩
theorem Trim_meets (s : List UInt8) : Meets Tryz.prog 88 [.str s, .str tenL] fun d => d = .str ((trimRP isDg s).dropWhile isDg) := by
 have e : (fun b : UInt8 => tenS 10 b.toNat) = isDg := funext ten_dg
 have hR := trimR_meets (tenS 10) s
 have hL := trimL_meets (tenS 10) (trimRP isDg s)
 rw [e] at hR hL
 refine enter tok {sym := [5]} Tryz.func88 rfl (by kernel_rfl) Tryz.ntmps88 (by simp) fun B0 W0 V0 lent g0 => ?_
 ((conv => whnf); repeat' (refine vcC_go tok {sym := [5]} rfl ?_; conv => whnf))
 repeat' ((first | (intro hlq; (try simp only [SL] at hlq)) | refine Meets.k (mkset_meets) ?_ | refine Ks ?_ | refine Kq ?_ | refine Kt ?_ | ((refine Kh (fun hb => ?_) fun hb => ?_) <;> (try simp only [BL] at hb)) | refine Ka ?_ | refine Kb ?_ | refine Kc (hd := rfl) (e := ?_) | refine Kc (hd := icells_eq _) (e := ?_) | refine Kd (e := ?_) | refine Kl rfl ?_ | fail) <;> ((conv => whnf); repeat' (refine vcC_go tok {sym := [5]} rfl ?_; conv => whnf)))
 · subst hb; exact ⟨rfl⟩
 · cases hb
 · exact absurd (by assumption : (tenL.length : Int) = 1) (by decide)
 · exact absurd (by assumption : (tenL.length : Int) = 1) (by decide)
 show 0 + (tabR (tenS 10)).length ≤ (tabQ (fun _ => false)).length ∧ setO _ (Blk.box (setRun (tabQ (fun _ => false)) 0 (tabR (tenS 10))) 112) _ _
 rw [setRun_whole (by rw [tabQ_len, tabR_len])]
 refine ⟨by rw [tabQ_len, tabR_len]; decide, ?_⟩
 ((conv => whnf); repeat' (refine vcC_go tok {sym := [5]} rfl ?_; conv => whnf))
 repeat' ((first | (intro hlq; (try simp only [SL] at hlq)) | refine Meets.k (hR) ?_ | refine Meets.k (hL) ?_ | refine Ks ?_ | refine Kq ?_ | refine Kt ?_ | ((refine Kh (fun hb => ?_) fun hb => ?_) <;> (try simp only [BL] at hb)) | refine Ka ?_ | refine Kb ?_ | refine Kc (hd := rfl) (e := ?_) | refine Kc (hd := icells_eq _) (e := ?_) | refine Kd (e := ?_) | refine Kl rfl ?_ | fail) <;> ((conv => whnf); repeat' (refine vcC_go tok {sym := [5]} rfl ?_; conv => whnf)))
 · exact ⟨rfl⟩
 · cases hb
theorem trim_all (s : List UInt8) : (trimRP isDg s).dropWhile isDg = [] ↔ s.all isDg = true := by
 have dw : ∀ (p : UInt8 → Bool) (l : List UInt8), l.dropWhile p = [] ↔ ∀ x ∈ l, p x = true := by
  intro p l
  induction l with
  | nil => simp
  | cons b l ih =>
    rw [dropW_cons]
    by_cases h : p b = true
    · rw [if_pos h, ih]; simp [h]
    · rw [if_neg h]; simp [h]
 have split : s = trimRP isDg s ++ (s.reverse.takeWhile isDg).reverse := by
  have := List.takeWhile_append_dropWhile (p := isDg) (l := s.reverse)
  have h2 := congrArg List.reverse this
  rw [List.reverse_append, List.reverse_reverse] at h2
  exact h2.symm
 have tail : ∀ x ∈ (s.reverse.takeWhile isDg).reverse, isDg x = true := by
  intro x hx
  rw [List.mem_reverse] at hx
  exact List.all_eq_true.1 (List.all_takeWhile (p := isDg) (l := s.reverse)) x hx
 rw [dw, List.all_eq_true]
 constructor
 · intro h x hx
   rw [split, List.mem_append] at hx
   exact hx.elim (h x) (tail x)
 · intro h x hx
   exact h x (by rw [split, List.mem_append]; exact .inl hx)
def digitsB (s : List UInt8) (lo hi : Int) : Bool := decide ((s.length : Int) ≥ lo) && (decide ((s.length : Int) ≤ hi) && s.all isDg)
theorem digits_meets (s : List UInt8) (lo hi : Int) : Meets Tryz.prog 48 [.str s, iD lo, iD hi] fun d => d = bD (digitsB s lo hi) := by
 refine enter tok {} Tryz.func48 rfl (by kernel_rfl) Tryz.ntmps48 (by simp) fun B0 W0 V0 lent g0 => ?_
 ((conv => whnf); repeat' (refine Z rfl ?_; conv => whnf))
 repeat' ((first | (intro hlq; (try simp only [SL] at hlq)) | refine Meets.k (Trim_meets s) ?_ | refine Ks ?_ | refine Kq ?_ | refine Kt ?_ | ((refine Kh (fun hb => ?_) fun hb => ?_) <;> (try simp only [BL] at hb)) | refine Ka ?_ | refine Kb ?_ | refine Kc (hd := rfl) (e := ?_) | refine Kc (hd := icells_eq _) (e := ?_) | refine Kd (e := ?_) | refine Kl rfl ?_ | fail) <;> ((conv => whnf); repeat' (refine Z rfl ?_; conv => whnf)))
 all_goals
  refine ⟨congrArg bD ?_⟩
  try rw [Bool.eq_iff_iff]
  simp only [digitsB, ← trim_all, Bool.and_eq_true, decide_eq_true_eq, Bool.false_eq_true, false_iff]
  first
   | (simp_all; done)
   | (intro h; have := h.1; have := h.2.1; omega)
/-- is a text a numeral? -/
def numB (s : List UInt8) : Bool := digitsB s 1 18 && (decide (s = [48]) || decide (s.head? ≠ some 48))
theorem isNumeral_meets (s : List UInt8) : Meets Tryz.prog 47 [.str s] fun d => d = bD (numB s) := by
 have hd := digits_meets s 1 18
 rcases s with _ | ⟨b, r⟩
 · rw [show digitsB [] 1 18 = false from rfl] at hd
   refine enter tok {} Tryz.func47 rfl (by kernel_rfl) Tryz.ntmps47 (by simp) fun B0 W0 V0 lent g0 => ?_
   ((conv => whnf); repeat' (refine Z rfl ?_; conv => whnf))
   repeat' ((first | (intro hlq; (try simp only [SL] at hlq)) | refine Meets.k (hd) ?_ | refine Ks ?_ | refine Kq ?_ | refine Kt ?_ | ((refine Kh (fun hb => ?_) fun hb => ?_) <;> (try simp only [BL] at hb)) | refine Ka ?_ | refine Kb ?_ | refine Kc (hd := rfl) (e := ?_) | refine Kc (hd := icells_eq _) (e := ?_) | refine Kd (e := ?_) | refine Kl rfl ?_ | fail) <;> ((conv => whnf); repeat' (refine Z rfl ?_; conv => whnf)))
   all_goals first | exact absurd (by assumption : false = true) (by decide) | exact ⟨rfl⟩
 · have h48 : (b = 48) = ((b.toNat : Int) = 48) := by
    rw [← UInt8.toNat_inj]
    exact propext ⟨fun h => by rw [h]; rfl, fun h => by have : (48 : UInt8).toNat = 48 := rfl; omega⟩
   refine enter tok {} Tryz.func47 rfl (by kernel_rfl) Tryz.ntmps47 (by simp) fun B0 W0 V0 lent g0 => ?_
   ((conv => whnf); repeat' (refine Z rfl ?_; conv => whnf))
   repeat' ((first | (intro hlq; (try simp only [SL] at hlq)) | refine Meets.k (hd) ?_ | refine ⟨b, ⟨by omega, rfl⟩, ?_⟩ | refine Ks ?_ | refine Kq ?_ | refine Kt ?_ | ((refine Kh (fun hb => ?_) fun hb => ?_) <;> (try simp only [BL] at hb)) | refine Ka ?_ | refine Kb ?_ | refine Kc (hd := rfl) (e := ?_) | refine Kc (hd := icells_eq _) (e := ?_) | refine Kd (e := ?_) | refine Kl rfl ?_ | fail) <;> ((conv => whnf); repeat' (refine Z rfl ?_; conv => whnf)))
   all_goals
    refine ⟨congrArg bD ?_⟩
    simp only [numB, List.head?_cons, Option.some.injEq, h48, ne_eq]
    simp_all
/-- is a text an integer? -/
def intgB (s : List UInt8) : Bool := match s with | 45 :: r => numB r && !decide (r = [48]) | s => numB s
end Go.Proofs.YtedjnaggkakphaaGreatDoor.Dx
/- strings.CutPrefix; isInteger, in the code. -/
namespace Go.Proofs.YtedjnaggkakphaaGreatDoor.Dx
open Go Go.RowKit Go.Proofs
set_option maxRecDepth 100000
set_option maxHeartbeats 8000000
theorem tup2_rep {V : Know} {x y : Value} {d e : D} (h : Rep V x d) (k : Rep V y e) : Rep V (.tuple #[x, y]) (.tup [d, e]) := by
 refine .tup [x, y] [d, e] rfl fun i u c hu hc => ?_
 match i with
 | 0 => simp at hu hc; subst hu hc; exact h
 | 1 => simp at hu hc; subst hu hc; exact k
 | i + 2 => simp at hu
theorem trimP_le (s p : List UInt8) : (Lib.trimPrefix s p).length ≤ s.length := by
 unfold Lib.trimPrefix
 split
 · simp
 · exact Nat.le_refl _
theorem CutPrefix_meets (s p : List UInt8) (hs : s.length ≤ maxLen) : Meets Tryz.prog 44 [.str s, .str p] fun d => d = .tup [.str (Lib.trimPrefix s p), bD (Lib.hasPrefix s p)] := by
 refine Meets.still ⟨Tryz.f44, _, Tryz.func44, rfl, by kernel_rfl⟩ fun V W xs hS hx => ?_
 obtain ⟨u, w, rfl, h1, h2⟩ := hx.two
 obtain ⟨rfl, _⟩ := h1.str_inv
 obtain ⟨rfl, _⟩ := h2.str_inv
 refine (Tryz.strings_CutPrefix ⟨⟨s⟩⟩ ⟨⟨p⟩⟩ W).mono ?_
 rintro e W' ⟨rfl, rfl⟩
 refine ⟨_, rfl, rfl, ?_⟩
 exact tup2_rep (.str _ (Nat.le_trans (trimP_le s p) hs)) (.b _)
theorem cut_minus (r : List UInt8) : Lib.trimPrefix (45 :: r) [45] = r ∧ Lib.hasPrefix (45 :: r) [45] = true := by
 simp [Lib.trimPrefix, Lib.hasPrefix, List.isPrefixOf]
theorem cut_plus {s : List UInt8} (h : ∀ r, s ≠ 45 :: r) : Lib.trimPrefix s [45] = s ∧ Lib.hasPrefix s [45] = false := by
 have e : Lib.hasPrefix s [45] = false := by
  unfold Lib.hasPrefix
  match s, h with
  | [], _ => rfl
  | b :: r, h =>
    have hb : b ≠ 45 := fun e => h r (by rw [e])
    simp [List.isPrefixOf, Ne.symm hb]
 exact ⟨by rw [Lib.trimPrefix, e]; rfl, e⟩
theorem intgB_plus {s : List UInt8} (h : ∀ r, s ≠ 45 :: r) : intgB s = numB s := by
 unfold intgB
 split
 · exact absurd rfl (h _)
 · rfl
theorem isInteger_meets (s : List UInt8) (hs : s.length ≤ maxLen) : Meets Tryz.prog 32 [.str s] fun d => d = bD (intgB s) := by
 have hc := CutPrefix_meets s [45] hs
 by_cases h : ∃ r, s = 45 :: r
 · obtain ⟨r, rfl⟩ := h
   rw [(cut_minus r).1, (cut_minus r).2] at hc
   refine enter tok {} Tryz.func32 rfl (by kernel_rfl) Tryz.ntmps32 (by simp) fun B0 W0 V0 lent g0 => ?_
   ((conv => whnf); repeat' (refine Z rfl ?_; conv => whnf))
   repeat' ((first | (intro hlq; (try simp only [SL] at hlq)) | refine Meets.k (hc) ?_ | refine Meets.k (isNumeral_meets r) ?_ | refine Ks ?_ | refine Kq ?_ | refine Kt ?_ | ((refine Kh (fun hb => ?_) fun hb => ?_) <;> (try simp only [BL] at hb)) | refine Ka ?_ | refine Kb ?_ | refine Kc (hd := rfl) (e := ?_) | refine Kc (hd := icells_eq _) (e := ?_) | refine Kd (e := ?_) | refine Kl rfl ?_ | fail) <;> ((conv => whnf); repeat' (refine Z rfl ?_; conv => whnf)))
   all_goals (refine ⟨congrArg bD ?_⟩; simp_all [intgB])
 · have h : ∀ r, s ≠ 45 :: r := fun r e => h ⟨r, e⟩
   rw [(cut_plus h).1, (cut_plus h).2] at hc
   refine enter tok {} Tryz.func32 rfl (by kernel_rfl) Tryz.ntmps32 (by simp) fun B0 W0 V0 lent g0 => ?_
   ((conv => whnf); repeat' (refine Z rfl ?_; conv => whnf))
   repeat' ((first | (intro hlq; (try simp only [SL] at hlq)) | refine Meets.k (hc) ?_ | refine Meets.k (isNumeral_meets s) ?_ | refine Ks ?_ | refine Kq ?_ | refine Kt ?_ | ((refine Kh (fun hb => ?_) fun hb => ?_) <;> (try simp only [BL] at hb)) | refine Ka ?_ | refine Kb ?_ | refine Kc (hd := rfl) (e := ?_) | refine Kc (hd := icells_eq _) (e := ?_) | refine Kd (e := ?_) | refine Kl rfl ?_ | fail) <;> ((conv => whnf); repeat' (refine Z rfl ?_; conv => whnf)))
   all_goals (rw [intgB_plus h]; first | (exact absurd (by assumption : false = true) (by decide)) | (refine ⟨congrArg bD ?_⟩; simp_all; done))
end Go.Proofs.YtedjnaggkakphaaGreatDoor.Dx
/- strings.Cut, strconv.Atoi by the shelf's contracts. -/
namespace Go.Proofs.YtedjnaggkakphaaGreatDoor.Dx
open Go Go.RowKit Go.Proofs Go.Sort
set_option maxRecDepth 100000
set_option maxHeartbeats 8000000
/-- a function whose contract speaks of values: it returns memoryless data; the world grows -/
theorem Meets.below {P : Program} {f : FuncId} {ds : List D} {d : D} (hf : FnOk P f)
 (h : ∀ V W xs, Sees V W → Reps V xs ds → Calls P f xs.toArray W fun e W' => ∃ v, e = .returned v ∧ Below W.heap.size W W' ∧ Rep V v d) : Meets P f ds fun r => r = d := by
 refine ⟨⟨hf, fun γ V W xs h1 h2 h3 h4 => ?_⟩⟩
 have hr : Reps V xs ds := by
  refine ⟨by have := h2.len; simpa using this.symm, fun i u d h5 h6 => ?_⟩
  exact h2.get i (.d d) u (by simp [h6]) h5
 refine (h V W xs h1 hr).mono ?_
 rintro e W' ⟨v, rfl, hb, hv⟩
 exact ⟨γ, V, .ret (.d d), [], hv, .of hb, .refl _ _ _, h1.below hb, fun n b h => (by rw [look_nil] at h; cases h), fun n b h => (by rw [look_nil] at h; cases h), fun n n' b b' h => (by rw [look_nil] at h; cases h),
  fun _ _ _ _ => rfl, d, rfl, rfl, rfl⟩
theorem cutL_le (s sep : List UInt8) : (Lib.cut s sep).1.length ≤ s.length ∧ (Lib.cut s sep).2.1.length ≤ s.length := by
 unfold Lib.cut
 split
 · simp
   omega
 · simp
theorem tup3_rep {V : Know} {x y z : Value} {d e f : D} (h : Rep V x d) (k : Rep V y e) (l : Rep V z f) : Rep V (.tuple #[x, y, z]) (.tup [d, e, f]) := by
 refine .tup [x, y, z] [d, e, f] rfl fun i u c hu hc => ?_
 match i with
 | 0 => simp at hu hc; subst hu hc; exact h
 | 1 => simp at hu hc; subst hu hc; exact k
 | 2 => simp at hu hc; subst hu hc; exact l
 | i + 3 => simp at hu
theorem drewN_below (w : World) (n : Nat) : Below w.heap.size w (w.drewN n) := ⟨rfl, rfl, rfl, Nat.le_refl _, fun _ _ => rfl⟩
theorem bytes_below (w : World) (e : TypeId) (s : ByteArray) : Below w.heap.size w (Lib.bytesWorld w e s) :=
 ⟨rfl, rfl, rfl, by rw [Lib.bytesWorld_size]; omega, fun j hj => Lib.bytesWorld_at_old w e s j hj⟩
theorem Cut_meets (s sep : List UInt8) (hs : s.length < 4294967281) : Meets Tryz.prog 45 [.str s, .str sep] fun d => d = .tup [.str (Lib.cut s sep).1, .str (Lib.cut s sep).2.1, bD (Lib.cut s sep).2.2] := by
 refine Meets.below ⟨Tryz.f45, _, Tryz.func45, rfl, by kernel_rfl⟩ fun V W xs hS hx => ?_
 obtain ⟨u, w, rfl, h1, h2⟩ := hx.two
 obtain ⟨rfl, _⟩ := h1.str_inv
 obtain ⟨rfl, _⟩ := h2.str_inv
 obtain ⟨m, hm⟩ := hS.lib.maxLen
 refine (Tryz.strings_Cut ⟨⟨s⟩⟩ ⟨⟨sep⟩⟩ m W hs (hS.cell _ _ _ hm)).mono ?_
 rintro e W' ⟨rfl, n, rfl⟩
 have hl := cutL_le s sep
 have hm : s.length ≤ maxLen := by unfold maxLen; omega
 exact ⟨_, rfl, drewN_below W n, tup3_rep (.str _ (Nat.le_trans hl.1 hm)) (.str _ (Nat.le_trans hl.2 hm)) (.b _)⟩
theorem Atoi_meets (s : List UInt8) (n : Int) (hs : s.length ≤ 18) (h : Lib.atoi s = some n) (hn : inKind .i64 n) : Meets Tryz.prog 49 [.str s] fun d => d = .tup [iD n, .v .nilIface] := by
 refine Meets.below ⟨Tryz.f49, _, Tryz.func49, rfl, by kernel_rfl⟩ fun V W xs hS hx => ?_
 obtain ⟨u, hu⟩ : ∃ u, xs = [u] := by
  have := hx.len
  match xs, this with
  | [u], _ => exact ⟨u, rfl⟩
 subst hu
 obtain ⟨rfl, _⟩ := (hx.get 0 _ _ rfl rfl).str_inv
 refine (Tryz.strconv_Atoi ⟨⟨s⟩⟩ n hs h W).mono ?_
 rintro e W' ⟨rfl, t, rfl⟩
 exact ⟨_, rfl, bytes_below W 5 t, tup2_rep (Rep.int hn) (.v _ ⟨rfl, fun _ _ e => by cases e⟩)⟩
end Go.Proofs.YtedjnaggkakphaaGreatDoor.Dx
/- strings.Split by the shelf's contract. -/
namespace Go.Proofs.YtedjnaggkakphaaGreatDoor.Dx
open Go Go.RowKit Go.Proofs Go.Sort
set_option maxRecDepth 100000
set_option maxHeartbeats 8000000
theorem splitB_le (sep : ByteArray) (save : Nat) : ∀ (k : Nat) (s : ByteArray), ∀ x ∈ Lib.splitB sep save k s, x.size ≤ s.size
 | 0, s, x, hx => by
   rw [Lib.splitB_zero, List.mem_singleton] at hx; rw [hx]; exact Nat.le_refl _
 | k + 1, s, x, hx => by
   unfold Lib.splitB at hx
   split at hx
   · rw [List.mem_singleton] at hx; rw [hx]; exact Nat.le_refl _
   · rcases List.mem_cons.1 hx with rfl | hx
     · simp only [ByteArray.size_extract]; omega
     · have := splitB_le sep save k _ x hx
       simp only [ByteArray.size_extract] at this; omega
/-- the parts of a text -/
def splitL (s sep : List UInt8) : List (List UInt8) := (Lib.splitB ⟨⟨sep⟩⟩ 0 (Lib.countB ⟨⟨s⟩⟩ ⟨⟨sep⟩⟩) ⟨⟨s⟩⟩).map (·.data.toList)
theorem Split_meets (s sep : List UInt8) (hs : s.length < 4294967281) (hp : 1 ≤ sep.length) : Meets Tryz.prog 46 [.str s, .str sep] fun d => d = .sl ((splitL s sep).map scells) := by
 refine ⟨⟨⟨Tryz.f46, _, Tryz.func46, rfl, by kernel_rfl⟩, fun γ V W xs h1 h2 h3 h4 => ?_⟩⟩
 have hx : Reps V xs [.str s, .str sep] := by
  refine ⟨by have := h2.len; simpa using this.symm, fun i u d h5 h6 => ?_⟩
  exact h2.get i (.d d) u (by rw [List.getElem?_map, h6]; rfl) h5
 obtain ⟨u, w, rfl, k1, k2⟩ := hx.two
 obtain ⟨rfl, _⟩ := k1.str_inv
 obtain ⟨rfl, _⟩ := k2.str_inv
 obtain ⟨m, hm⟩ := h1.lib.maxLen
 refine (Tryz.strings_Split ⟨⟨s⟩⟩ ⟨⟨sep⟩⟩ m W hs (h1.cell _ _ _ hm) hp).mono ?_
 rintro e W' ⟨rfl, rfl⟩
 have hl := Lib.splitB_all ⟨⟨sep⟩⟩ hp 0 (Lib.countB ⟨⟨s⟩⟩ ⟨⟨sep⟩⟩) ⟨⟨s⟩⟩ rfl
 have hcb : Lib.countB ⟨⟨s⟩⟩ ⟨⟨sep⟩⟩ ≤ s.length := Lib.countB_le ⟨⟨sep⟩⟩ hp _ ⟨⟨s⟩⟩ (Nat.le_refl _)
 have hle := splitB_le ⟨⟨sep⟩⟩ 0 (Lib.countB ⟨⟨s⟩⟩ ⟨⟨sep⟩⟩) ⟨⟨s⟩⟩
 unfold splitL
 generalize Lib.splitB ⟨⟨sep⟩⟩ 0 (Lib.countB ⟨⟨s⟩⟩ ⟨⟨sep⟩⟩) ⟨⟨s⟩⟩ = ps at *
 generalize Lib.countB ⟨⟨s⟩⟩ ⟨⟨sep⟩⟩ = k at *
 have hg := with_grow h1 (ps.map Value.string) 9
 have hk : k + 1 ≤ maxLen := by unfold maxLen; omega
 have hrep : ∀ (V' : Know) (ps : List ByteArray), (∀ x ∈ ps, x.size ≤ maxLen) → Reps V' (ps.map Value.string) ((ps.map (·.data.toList)).map scells).flatten := by
  intro V' ps
  induction ps with
  | nil => intro _; exact .nil _
  | cons x ps ih => intro h; exact .cons (.str _ (h x (by simp))) (ih fun y hy => h y (by simp [hy]))
 have hsz : s.length ≤ maxLen := by unfold maxLen; omega
 refine ⟨γ, _, .ret (.d (.sl ((ps.map (·.data.toList)).map scells))), [], ?_, .of hg.below, hg.fresh, hg.sees, fun n b h => (by rw [look_nil] at h; cases h), fun n b h => (by rw [look_nil] at h; cases h), fun n n' b b' h => (by rw [look_nil] at h; cases h),
  fun _ _ _ _ => rfl, _, rfl, rfl, rfl⟩
 refine rep_row (k := 1) (by simp [hl]) (Nat.le_refl _) hk (fun ds hds => by obtain ⟨x, _, rfl⟩ := List.mem_map.1 hds; rfl) (hrep _ ps fun x hx => Nat.le_trans (hle x hx) hsz) (fun u hu => by obtain ⟨x, _, rfl⟩ := List.mem_map.1 hu; rfl) (fun j u hj => ?_)
 show (if W.heap.size = W.heap.size then _ else _) = some u
 rw [if_pos rfl]; exact hj
end Go.Proofs.YtedjnaggkakphaaGreatDoor.Dx
