/- Conditions: Core, cond, in the reference. -/
import Derived.Test.YteckbkljaneppaaGreatDoorPd
set_option linter.all false
namespace Go.Proofs.YteckbkljaneppaaGreatDoor.Dx
open Go Go.RowKit Go.Proofs
set_option maxRecDepth 100000
set_option maxHeartbeats 8000000
theorem rcore_meets (c : Cond) : Meets Tryz.prog 85 [c.d] fun d => d = c.core.d := by
 refine enter tok {} Tryz.func85 rfl (by kernel_rfl) Tryz.ntmps85 (by simp) fun B0 W0 V0 lent g0 => ?_
 ((conv => whnf); repeat' (refine Z rfl ?_; conv => whnf))
 refine loop_upd tok {} [] (X := Cond) (fun _ => []) (fun x => [(1, .box [iB x.kind, iB x.var, iB x.n, .d (.sl (x.parts.map Cond.cells))] 42)]) [] (fun x => x.core = c.core) (fun x => SizeOf.sizeOf x) c ?_
 ((conv => whnf); repeat' (refine Z rfl ?_; conv => whnf))
 refine And.intro ?_ ⟨rfl, fun x hx => ?_⟩
 · exact Kr
 have hthin : x.kind = 2 ∨ x.kind = 3 → (h : (x.parts.length : Int) = 1) → (x.parts[0]'(by omega)).core = c.core ∧ SizeOf.sizeOf (x.parts[0]'(by omega)) < SizeOf.sizeOf x := fun hk h => by
  obtain ⟨p, hp⟩ := List.length_eq_one_iff.1 (by omega : x.parts.length = 1)
  have hm : p ∈ x.parts := by rw [hp]; simp
  simp only [hp, List.getElem_cons_zero]
  rw [← Cond.core_thin hk hp]
  exact ⟨hx, Cond.size_part hm⟩
 have hself : x.thin = false → D.agg x.dc = c.core.d := fun h => by rw [← hx, Cond.core_self h]
 ((conv => whnf); repeat' (refine Z rfl ?_; conv => whnf))
 repeat' ((first | (intro hlq; (try simp only [SL] at hlq)) | refine Ks ?_ | refine Kq ?_ | refine Kt ?_ | ((refine Kh (fun hb => ?_) fun hb => ?_) <;> (try simp only [BL] at hb)) | refine Ka ?_ | refine Kb ?_ | refine Kc (hd := rfl) (e := ?_) | refine Kc (hd := Cond.cells_eq _) (e := ?_) | refine Kd (e := ?_) | refine Kl rfl ?_ | fail) <;> ((conv => whnf); repeat' (refine Z rfl ?_; conv => whnf)))
 · obtain ⟨k1, k2⟩ := hthin (.inl (by assumption)) (by assumption)
   refine ⟨⟨_, ?_, k1, k2⟩⟩
   repeat' (first | exact True.intro | exact rfl | refine And.intro ?_ ?_)
 · exact ⟨hself (by simp only [Cond.thin, Bool.and_eq_false_iff, Bool.or_eq_false_iff, decide_eq_false_iff_not]; omega)⟩
 · obtain ⟨k1, k2⟩ := hthin (.inr (by assumption)) (by assumption)
   refine ⟨⟨_, ?_, k1, k2⟩⟩
   repeat' (first | exact True.intro | exact rfl | refine And.intro ?_ ?_)
 · exact ⟨hself (by simp only [Cond.thin, Bool.and_eq_false_iff, Bool.or_eq_false_iff, decide_eq_false_iff_not]; omega)⟩
 · exact ⟨hself (by simp only [Cond.thin, Bool.and_eq_false_iff, Bool.or_eq_false_iff, decide_eq_false_iff_not]; omega)⟩
theorem variable_meets (v : Int) : Meets Tryz.prog 86 [iD v] fun d => d = .str (varT v) := by
 refine enter tok {} Tryz.func86 rfl (by kernel_rfl) Tryz.ntmps86 (by simp) fun B0 W0 V0 lent g0 => ?_
 ((conv => whnf); repeat' (refine Z rfl ?_; conv => whnf))
 repeat' ((first | (intro hlq; (try simp only [SL] at hlq)) | refine Ks ?_ | refine Kq ?_ | refine Kt ?_ | ((refine Kh (fun hb => ?_) fun hb => ?_) <;> (try simp only [BL] at hb)) | refine Ka ?_ | refine Kb ?_ | refine Kc (hd := rfl) (e := ?_) | refine Kc (hd := Cond.cells_eq _) (e := ?_) | refine Kd (e := ?_) | refine Kl rfl ?_ | fail) <;> ((conv => whnf); repeat' (refine Z rfl ?_; conv => whnf)))
 all_goals exact ⟨congrArg D.str (by rw [varT]; simp [*])⟩
theorem criterion_meets (v : Int) : Meets Tryz.prog 90 [iD v] fun d => d = .str (critT v) := by
 refine enter tok {} Tryz.func90 rfl (by kernel_rfl) Tryz.ntmps90 (by simp) fun B0 W0 V0 lent g0 => ?_
 ((conv => whnf); repeat' (refine Z rfl ?_; conv => whnf))
 repeat' ((first | (intro hlq; (try simp only [SL] at hlq)) | refine Ks ?_ | refine Kq ?_ | refine Kt ?_ | ((refine Kh (fun hb => ?_) fun hb => ?_) <;> (try simp only [BL] at hb)) | refine Ka ?_ | refine Kb ?_ | refine Kc (hd := rfl) (e := ?_) | refine Kc (hd := Cond.cells_eq _) (e := ?_) | refine Kd (e := ?_) | refine Kl rfl ?_ | fail) <;> ((conv => whnf); repeat' (refine Z rfl ?_; conv => whnf)))
 all_goals exact ⟨congrArg D.str (by rw [critT]; simp [*])⟩
def partT (a b : Int) (x : Int × List UInt8) : List UInt8 := if x.1 = a ∨ x.1 = b then [40] ++ x.2 ++ [41] else x.2
theorem rpart_of (p : Cond) (a b : Int) (hl : p.pt.2.length ≤ 1000000) (h : Meets Tryz.prog 43 [p.d] fun d => d = .str p.pt.2) : Meets Tryz.prog 87 [p.d, iD a, iD b] fun d => d = .str (partT a b p.pt) := by
 have hk : p.pt.1 = p.core.kind := by rw [← (core_ok p).pt, Cond.pt_core (core_ok p).thin]
 refine enter tok {} Tryz.func87 rfl (by kernel_rfl) Tryz.ntmps87 (by simp) fun B0 W0 V0 lent g0 => ?_
 ((conv => whnf); repeat' (refine Z rfl ?_; conv => whnf))
 repeat' ((first | (intro hlq; (try simp only [SL] at hlq)) | refine Meets.k (rcore_meets p) ?_ | refine Meets.k (h) ?_ | refine Ks ?_ | refine Kq ?_ | refine Kt ?_ | ((refine Kh (fun hb => ?_) fun hb => ?_) <;> (try simp only [BL] at hb)) | refine Ka ?_ | refine Kb ?_ | refine Kc (hd := rfl) (e := ?_) | refine Kc (hd := Cond.cells_eq _) (e := ?_) | refine Kd (e := ?_) | refine Kl rfl ?_ | fail) <;> ((conv => whnf); repeat' (refine Z rfl ?_; conv => whnf)))
 all_goals (refine ⟨congrArg D.str ?_⟩; simp only [partT, hk]; simp [*])
theorem join_snoc (sep : List UInt8) (x : List UInt8) : ∀ l : List (List UInt8), Lib.join (l ++ [x]) sep = if l = [] then x else Lib.join l sep ++ sep ++ x
 | [] => by simp [Lib.join, List.intercalate]
 | [y] => by simp [Lib.join, List.intercalate]
 | y :: z :: l => by
   have ih := join_snoc sep x (z :: l)
   rw [if_neg (by simp)] at ih ⊢
   rw [List.cons_append, List.cons_append, join_cons, join_cons, ← List.cons_append, ih]
   simp only [List.append_assoc]
theorem join_take_le (sep : List UInt8) (l : List (List UInt8)) (i : Nat) : (Lib.join (l.take i) sep).length ≤ (Lib.join l sep).length := by
 induction l generalizing i with
 | nil => simp
 | cons x l ih =>
   cases i with
   | zero => simp [Lib.join, List.intercalate]
   | succ i =>
     cases l with
     | nil => simp
     | cons y l =>
       cases i with
       | zero => simp only [List.take_succ_cons, List.take_zero]; rw [join_cons]; simp [Lib.join, List.intercalate]
       | succ i =>
         have := ih (i + 1)
         rw [List.take_succ_cons, List.take_succ_cons, join_cons, join_cons, ← List.take_succ_cons]
         simp only [List.length_append]
         omega
theorem join_step (sep : List UInt8) {α : Type} (f : α → List UInt8) {l : List α} {i : Nat} (h : i < l.length) : Lib.join ((l.map f).take (i + 1)) sep = if i = 0 then f l[i] else Lib.join ((l.map f).take i) sep ++ sep ++ f l[i] := by
 rw [List.take_succ_eq_append_getElem (by simpa using h), join_snoc, List.getElem_map]
 by_cases e : i = 0
 · subst e; simp
 · rw [if_neg e, if_neg]
   intro e2
   have := congrArg List.length e2
   simp only [List.length_take, List.length_map, List.length_nil] at this
   omega
theorem partT_le (a b : Int) (x : Int × List UInt8) : (partT a b x).length ≤ x.2.length + 2 := by
 unfold partT; split <;> simp
theorem rcond_meets (c : Cond) (hv : c.valid = true) (hs : c.total ≤ 10000) : Meets Tryz.prog 43 [c.d] fun d => d = .str c.pt.2 := by
 have hco := core_ok c
 have hpv := Cond.valid_parts (hco.valid hv)
 have hlen := pt_le c.core (hco.valid hv)
 have h4 := hco.total
 have h5 := hco.size
 rw [hco.pt] at hlen
 have hparts : ∀ p ∈ c.core.parts, (Meets Tryz.prog 43 [p.d] fun d => d = .str p.pt.2) ∧ p.pt.2.length ≤ 1000000 := by
  intro p hp
  have h1 := Cond.size_part hp
  have h2 := totalL_mem hp
  have h3 := c.core.total_eq
  have h6 := pt_le p (hpv p hp)
  exact ⟨rcond_meets p (hpv p hp) (by omega), by omega⟩
 have hP : ∀ a b, ∀ p ∈ c.core.parts, Meets Tryz.prog 87 [p.d, iD a, iD b] fun d => d = .str (partT a b p.pt) := fun a b p hp => rpart_of p a b (hparts p hp).2 (hparts p hp).1
 have ht : c.pt.2 = textK c.core.kind c.core.var c.core.n (c.core.parts.map Cond.pt) := by rw [← hco.pt, Cond.pt_core hco.thin]
 rw [ht] at hlen ⊢
 have hvx := hco.valid hv
 clear hco hv
 refine enter tok {} Tryz.func43 rfl (by kernel_rfl) Tryz.ntmps43 (by simp) fun B0 W0 V0 lent g0 => ?_
 ((conv => whnf); repeat' (refine Z rfl ?_; conv => whnf))
 refine Meets.k (rcore_meets c) ?_
 ((conv => whnf); repeat' (refine Z rfl ?_; conv => whnf))
 generalize c.core = x at *
 refine ⟨fun hk1 => ?_, fun hk1 => ?_⟩ <;> (try simp only [BL] at hk1) <;> ((conv => whnf); repeat' (refine Z rfl ?_; conv => whnf))
 · have h := hvx
   rw [Cond.valid_eq, if_pos hk1] at h
   simp only [Bool.and_eq_true, inR, decide_eq_true_eq] at h
   have f1 := itoa_le x.n (by omega) (by omega)
   have f2 := varT_le x.var
   refine draw_rule tok (cf := {}) (by kernel_rfl) [.p 0, .p 1, .p 4, .p 5, .s 2 [1,0], .p 3, .s 6 [5,4], .p 7, .p 8] (by kernel_rfl) ?_
   ((conv => whnf); repeat' (refine Z rfl ?_; conv => whnf))
   repeat' ((first | (intro hlq; (try simp only [SL] at hlq)) | refine Meets.k (variable_meets _) ?_ | refine Meets.k (Decimal_meets _ (by omega) (by omega)) ?_ | refine Ks ?_ | refine Kq ?_ | refine Kt ?_ | ((refine Kh (fun hb => ?_) fun hb => ?_) <;> (try simp only [BL] at hb)) | refine Ka ?_ | refine Kb ?_ | refine Kc (hd := rfl) (e := ?_) | refine Kc (hd := Cond.cells_eq _) (e := ?_) | refine Kd (e := ?_) | refine Kl rfl ?_ | fail) <;> ((conv => whnf); repeat' (refine Z rfl ?_; conv => whnf)))
   rw [textK, if_pos hk1]
   exact ⟨rfl⟩
 refine ⟨fun hk4 => ?_, fun hk4 => ?_⟩ <;> (try simp only [BL] at hk4) <;> ((conv => whnf); repeat' (refine Z rfl ?_; conv => whnf))
 · obtain ⟨p, hp⟩ : ∃ p, x.parts = [p] := by
    rcases valid_cases hvx with h | ⟨h, p, hp, _⟩ | ⟨h, _⟩
    · omega
    · exact ⟨p, hp⟩
    · omega
   rw [textK, if_neg hk1, if_pos hk4, hp]
   have h0 : 0 < x.parts.length := by rw [hp]; simp
   have e0 : x.parts[0] = p := by simp [hp]
   have hm : p ∈ x.parts := by rw [hp]; simp
   have hlp := (hparts p hm).2
   refine ⟨_, ⟨by omega, congrArg some (Cond.cells_eq p), rfl⟩, ?_⟩
   ((conv => whnf); repeat' (refine Z rfl ?_; conv => whnf))
   have hf := partT_le 2 3 p.pt
   repeat' ((first | (intro hlq; (try simp only [SL] at hlq)) | refine Meets.k (hP 2 3 p hm) ?_ | refine Ks ?_ | refine Kq ?_ | refine Kt ?_ | ((refine Kh (fun hb => ?_) fun hb => ?_) <;> (try simp only [BL] at hb)) | refine Ka ?_ | refine Kb ?_ | refine Kc (hd := rfl) (e := ?_) | refine Kc (hd := Cond.cells_eq _) (e := ?_) | refine Kd (e := ?_) | refine Kl rfl ?_ | fail) <;> ((conv => whnf); repeat' (refine Z rfl ?_; conv => whnf)))
   refine ⟨congrArg D.str ?_⟩
   simp [Lib.join, List.intercalate, tightT, partT]
 by_cases hk2 : x.kind = 2
 · have hle : (Lib.join (x.parts.map fun p => partT 2 3 p.pt) [32, 97, 110, 100, 32]).length ≤ 1000000 := by
    rw [textK, if_neg hk1, if_neg hk4, if_pos hk2, List.map_map] at hlen
    have hlen : (Lib.join (x.parts.map fun p => partT 2 3 p.pt) [32, 97, 110, 100, 32]).length + 7 ≤ 40 * x.total := hlen
    omega
   rw [textK, if_neg hk1, if_neg hk4, if_pos hk2, List.map_map, (rfl : (tightT ∘ Cond.pt) = fun p => partT 2 3 p.pt)]
   refine loop_upd tok {} [] (X := Nat) (fun i => [(4, iB i), (3, .d (.str (Lib.join ((x.parts.map fun p => partT 2 3 p.pt).take i) [32, 97, 110, 100, 32])))]) (fun _ => []) [] (fun i => i ≤ x.parts.length) (fun i => x.parts.length - i) 0 ?_
   ((conv => whnf); repeat' (refine Z rfl ?_; conv => whnf))
   refine And.intro ?_ ⟨by omega, fun i hi => ?_⟩
   · exact Kr
   ((conv => whnf); repeat' (refine Z rfl ?_; conv => whnf))
   repeat' ((first | (intro hlq; (try simp only [SL] at hlq)) | refine Ks ?_ | refine Kq ?_ | refine Kt ?_ | refine Ka ?_ | refine Kb ?_ | refine Kc (hd := rfl) (e := ?_) | refine Kc (hd := Cond.cells_eq _) (e := ?_) | refine Kd (e := ?_) | refine Kl rfl ?_ | fail) <;> ((conv => whnf); repeat' (refine Z rfl ?_; conv => whnf)))
   refine ⟨fun h1 => ?_, fun h1 => ?_⟩ <;> (try simp only [BL] at h1) <;> ((conv => whnf); repeat' (refine Z rfl ?_; conv => whnf))
   · have h1' : i < x.parts.length := by omega
     have hj := join_take_le [32, 97, 110, 100, 32] (x.parts.map fun p => partT 2 3 p.pt) i
     have hf := partT_le 2 3 x.parts[i].pt
     have hg := (hparts _ (List.getElem_mem h1')).2
     have hst := join_step [32, 97, 110, 100, 32] (fun p : Cond => partT 2 3 p.pt) h1'
     repeat' ((first | (intro hlq; (try simp only [SL] at hlq)) | refine Meets.k (hP 2 3 _ (List.getElem_mem h1')) ?_ | refine Ks ?_ | refine Kq ?_ | refine Kt ?_ | ((refine Kh (fun hb => ?_) fun hb => ?_) <;> (try simp only [BL] at hb)) | refine Ka ?_ | refine Kb ?_ | refine Kc (hd := rfl) (e := ?_) | refine Kc (hd := Cond.cells_eq _) (e := ?_) | refine Kd (e := ?_) | refine Kl rfl ?_ | fail) <;> ((conv => whnf); repeat' (refine Z rfl ?_; conv => whnf)))
     all_goals (try first | contradiction | (exfalso; omega))
     all_goals
      refine ⟨⟨i + 1, ?_, by omega, by omega⟩⟩
      rw [hst]
      first | rw [if_neg (by omega : ¬ i = 0)] | (obtain rfl : i = 0 := (by omega); rw [if_pos rfl])
      repeat' (first | exact True.intro | exact rfl | refine And.intro ?_ ?_)
   · have e : (x.parts.map fun p => partT 2 3 p.pt).take i = x.parts.map fun p => partT 2 3 p.pt := List.take_of_length_le (by rw [List.length_map]; omega)
     rw [e]
     exact ⟨rfl⟩
 · have hle : (Lib.join (x.parts.map fun p => partT 3 3 p.pt) [32, 111, 114, 32]).length ≤ 1000000 := by
    have e : (looseT ∘ Cond.pt) = fun p => partT 3 3 p.pt := by funext p; simp [looseT, partT]
    rw [textK, if_neg hk1, if_neg hk4, if_neg hk2, List.map_map, e] at hlen
    omega
   have e : (looseT ∘ Cond.pt) = fun p => partT 3 3 p.pt := by funext p; simp [looseT, partT]
   rw [textK, if_neg hk1, if_neg hk4, if_neg hk2, List.map_map, e]
   refine loop_upd tok {} [] (X := Nat) (fun i => [(4, iB i), (3, .d (.str (Lib.join ((x.parts.map fun p => partT 3 3 p.pt).take i) [32, 111, 114, 32])))]) (fun _ => []) [] (fun i => i ≤ x.parts.length) (fun i => x.parts.length - i) 0 ?_
   ((conv => whnf); repeat' (refine Z rfl ?_; conv => whnf))
   refine And.intro ?_ ⟨by omega, fun i hi => ?_⟩
   · exact Kr
   ((conv => whnf); repeat' (refine Z rfl ?_; conv => whnf))
   repeat' ((first | (intro hlq; (try simp only [SL] at hlq)) | refine Ks ?_ | refine Kq ?_ | refine Kt ?_ | refine Ka ?_ | refine Kb ?_ | refine Kc (hd := rfl) (e := ?_) | refine Kc (hd := Cond.cells_eq _) (e := ?_) | refine Kd (e := ?_) | refine Kl rfl ?_ | fail) <;> ((conv => whnf); repeat' (refine Z rfl ?_; conv => whnf)))
   refine ⟨fun h1 => ?_, fun h1 => ?_⟩ <;> (try simp only [BL] at h1) <;> ((conv => whnf); repeat' (refine Z rfl ?_; conv => whnf))
   · have h1' : i < x.parts.length := by omega
     have hj := join_take_le [32, 111, 114, 32] (x.parts.map fun p => partT 3 3 p.pt) i
     have hf := partT_le 3 3 x.parts[i].pt
     have hg := (hparts _ (List.getElem_mem h1')).2
     have hst := join_step [32, 111, 114, 32] (fun p : Cond => partT 3 3 p.pt) h1'
     repeat' ((first | (intro hlq; (try simp only [SL] at hlq)) | refine Meets.k (hP 3 3 _ (List.getElem_mem h1')) ?_ | refine Ks ?_ | refine Kq ?_ | refine Kt ?_ | ((refine Kh (fun hb => ?_) fun hb => ?_) <;> (try simp only [BL] at hb)) | refine Ka ?_ | refine Kb ?_ | refine Kc (hd := rfl) (e := ?_) | refine Kc (hd := Cond.cells_eq _) (e := ?_) | refine Kd (e := ?_) | refine Kl rfl ?_ | fail) <;> ((conv => whnf); repeat' (refine Z rfl ?_; conv => whnf)))
     all_goals (try first | contradiction | (exfalso; omega))
     all_goals
      refine ⟨⟨i + 1, ?_, by omega, by omega⟩⟩
      rw [hst]
      first | rw [if_neg (by omega : ¬ i = 0)] | (obtain rfl : i = 0 := (by omega); rw [if_pos rfl])
      repeat' (first | exact True.intro | exact rfl | refine And.intro ?_ ?_)
   · have e : (x.parts.map fun p => partT 3 3 p.pt).take i = x.parts.map fun p => partT 3 3 p.pt := List.take_of_length_le (by rw [List.length_map]; omega)
     rw [e]
     exact ⟨rfl⟩
termination_by SizeOf.sizeOf c
decreasing_by omega
end Go.Proofs.YteckbkljaneppaaGreatDoor.Dx
/- How long the texts are; what a valid course is. -/
namespace Go.Proofs.YteckbkljaneppaaGreatDoor.Dx
open Go Go.RowKit Go.Proofs
set_option maxRecDepth 100000
set_option maxHeartbeats 8000000
theorem timeS_le (t : Int) : (timeS t).length ≤ 100 := by
 unfold timeS
 split
 · rename_i h
   simp only [inTime, inR, Bool.and_eq_true, decide_eq_true_eq] at h
   have key : ∀ n : Int, 0 ≤ n → n ≤ 1099511627776 → (absT n).length ≤ 90 := by
    intro n h0 h1
    have f1 := itoa_le (n / 1000000 / 60) (by omega) (by omega)
    have f2 := itoa_le (n / 1000000 / 3600) (by omega) (by omega)
    have f3 := twoT_le (n / 1000000 % 60) (by omega) (by omega)
    have f4 := twoT_le (n / 1000000 / 60 % 60) (by omega) (by omega)
    have f5 := itoa_le (1000000 + n % 1000000) (by omega) (by omega)
    have f7 := trimRightB_le (List.drop 1 (Lib.itoa (1000000 + n % 1000000))) 48
    simp only [List.length_drop] at f7
    unfold absT clockT fracT
    split <;> split <;> simp only [List.length_append, List.length_cons, List.length_nil] <;> omega
   unfold timeT
   split
   · have := key (-t) (by omega) (by omega)
     simp only [List.length_append, List.length_cons, List.length_nil]; omega
   · have := key t (by omega) (by omega)
     omega
 · simp
theorem sepT_snoc : ∀ (b : Bool) (l : List (List UInt8)) (x : List UInt8), sepT b (l ++ [x]) = sepT b l ++ (if b = true ∧ l = [] then [] else [32]) ++ x
 | true, [], x => by simp [sepT]
 | false, [], x => by simp [sepT]
 | true, y :: l, x => by
   have := sepT_snoc false l x
   simp only [List.cons_append, sepT, this]
   simp
 | false, y :: l, x => by
   have := sepT_snoc false l x
   simp only [List.cons_append, sepT, this]
   simp
theorem sepT_step {α : Type} (f : α → List UInt8) {l : List α} {i : Nat} (h : i < l.length) : sepT true ((l.map f).take (i + 1)) = if i = 0 then f l[i] else sepT true ((l.map f).take i) ++ [32] ++ f l[i] := by
 rw [List.take_succ_eq_append_getElem (by simpa using h), sepT_snoc, List.getElem_map]
 by_cases e : i = 0
 · subst e; simp [sepT]
 · rw [if_neg, if_neg e]
   rintro ⟨-, e2⟩
   have := congrArg List.length e2
   simp only [List.length_take, List.length_map, List.length_nil] at this
   omega
theorem sepT_take_le : ∀ (b : Bool) (l : List (List UInt8)) (i : Nat), (sepT b (l.take i)).length ≤ (sepT b l).length
 | b, l, 0 => by cases b <;> simp [sepT]
 | b, [], i + 1 => by simp
 | true, x :: l, i + 1 => by have := sepT_take_le false l i; simp only [List.take_succ_cons, sepT, List.length_append]; omega
 | false, x :: l, i + 1 => by have := sepT_take_le false l i; simp only [List.take_succ_cons, sepT, List.length_append]; omega
theorem sepT_le {α : Type} (f : α → List UInt8) (g : α → Nat) : ∀ (b : Bool) (l : List α), (∀ x ∈ l, (f x).length + 1 ≤ g x) → (sepT b (l.map f)).length ≤ (l.map g).sum
 | b, [], _ => by cases b <;> simp [sepT]
 | b, x :: l, h => by
   have ih := sepT_le f g false l fun y hy => h y (List.mem_cons_of_mem _ hy)
   have := h x (by simp)
   cases b <;> simp only [List.map_cons, sepT, List.length_append, List.sum_cons, List.length_cons, List.length_nil] at * <;> omega
theorem valid_total {c : Cond} (h : c.valid = true) : c.num = c.total := by
 have : c.isZero = false := by
  have hk : c.kind ≠ 0 := by rcases valid_cases h with h | ⟨h, _⟩ | ⟨h, _⟩ <;> omega
  simp [Cond.isZero, hk]
 rw [Cond.num, this]; rfl
theorem Step.sum_nst : ∀ l : List Step, (l.map fun s => 40 * (s.nst + s.ncd)).sum = 40 * (Step.nstL l + Step.ncdL l) := by
 intro l; induction l with | nil => rfl | cons s l ih => simp only [List.map_cons, List.sum_cons, ih, Step.nstL, Step.ncdL]; omega
theorem Step.cases {s : Step} (h : s.valid = true) : (s.kind = 1 ∧ 1 ≤ s.crit ∧ s.crit ≤ 5) ∨ (s.kind = 2 ∧ s.cond.valid = true ∧ s.th ≠ [] ∧ (∀ x ∈ s.th, x.valid = true) ∧ ∀ x ∈ s.el, x.valid = true) := by
 rw [Step.valid_eq] at h
 split at h
 · simp only [Bool.and_eq_true, inR, decide_eq_true_eq] at h
   exact .inl ⟨by assumption, h.1.1, h.1.2⟩
 · split at h
   · simp only [Bool.and_eq_true, decide_eq_true_eq, List.all_eq_true] at h
     refine .inr ⟨by assumption, h.2.1, ?_, h.2.2.2.1, h.2.2.2.2⟩
     intro e
     have := h.2.2.1
     rw [e] at this; simp at this
   · cases h
theorem critT_le (b : Int) : (critT b).length ≤ 7 := by
 unfold critT
 split; simp
 split; simp
 split; simp
 split <;> simp
theorem tx_le (s : Step) (hv : s.valid = true) : s.tx.length + 1 ≤ 40 * (s.nst + s.ncd) := by
 rw [Step.tx_eq, s.nst_eq, s.ncd_eq]
 rcases Step.cases hv with ⟨hk, _⟩ | ⟨hk, hc, hne, ht, he⟩
 · rw [if_pos hk]
   have := critT_le s.crit
   simp only [List.length_append, List.length_cons, List.length_nil]; omega
 · rw [if_neg (by omega)]
   have h1 : (stepsT s.th).length ≤ 40 * (Step.nstL s.th + Step.ncdL s.th) := by
    rw [← Step.sum_nst]
    exact sepT_le _ _ _ _ fun x hx => by
     have := Step.size_th hx
     exact tx_le x (ht x hx)
   have h2 : (stepsT s.el).length ≤ 40 * (Step.nstL s.el + Step.ncdL s.el) := by
    rw [← Step.sum_nst]
    exact sepT_le _ _ _ _ fun x hx => by
     have := Step.size_el hx
     exact tx_le x (he x hx)
   have h3 := pt_le s.cond hc
   rw [valid_total hc]
   unfold ifT
   split <;> simp only [List.length_append, List.length_cons, List.length_nil] <;> omega
termination_by SizeOf.sizeOf s
decreasing_by all_goals assumption
theorem stepsT_le {l : List Step} (hv : ∀ s ∈ l, s.valid = true) : (stepsT l).length ≤ 40 * (Step.nstL l + Step.ncdL l) := by
 rw [← Step.sum_nst]
 exact sepT_le _ _ _ _ fun x hx => tx_le x (hv x hx)
theorem nstL_mem : ∀ {l : List Step} {x : Step}, x ∈ l → x.nst ≤ Step.nstL l ∧ x.ncd ≤ Step.ncdL l := by
 intro l
 induction l with
 | nil => intro x h; cases h
 | cons c l ih =>
   intro x h
   simp only [Step.nstL, Step.ncdL]
   rcases List.mem_cons.1 h with rfl | h
   · omega
   · have := ih h; omega
theorem matN_le {ms : List Mat} (h : ∀ m ∈ ms, m.name.length ≤ 24) (i : Int) : (matN ms i).length ≤ 24 := by
 unfold matN
 split
 · rename_i m hm; exact h m (List.mem_of_getElem? hm)
 · simp
theorem Part.sum_cnt : ∀ l : List Part, (l.map fun s => 40 * s.cnt).sum = 40 * Part.cntL l := by
 intro l; induction l with | nil => rfl | cons s l ih => simp only [List.map_cons, List.sum_cons, ih, Part.cntL]; omega
theorem Part.cases {m : Int} {p : Part} (h : p.good m = true) : (p.laps = 0 ∧ 0 ≤ p.mat ∧ p.mat ≤ m) ∨ (1 ≤ p.laps ∧ p.laps ≤ 64 ∧ ∀ x ∈ p.parts, x.good m = true) := by
 rw [Part.good_eq] at h
 split at h
 · simp only [Bool.and_eq_true, inR, decide_eq_true_eq] at h
   exact .inl ⟨by assumption, h.1⟩
 · simp only [Bool.and_eq_true, inR, decide_eq_true_eq, List.all_eq_true] at h
   exact .inr ⟨h.1.1, h.1.2, h.2.2.2⟩
theorem ptx_le {ms : List Mat} (hn : ∀ m ∈ ms, m.name.length ≤ 24) {m : Int} (p : Part) (hg : p.good m = true) : (p.tx ms).length + 1 ≤ 40 * p.cnt := by
 rw [Part.tx_eq, p.cnt_eq]
 rcases Part.cases hg with ⟨hk, _⟩ | ⟨h0, h1, hp⟩
 · rw [if_pos hk]
   have := matN_le hn p.mat
   simp only [List.length_append, List.length_cons, List.length_nil]; omega
 · rw [if_neg (by omega)]
   have h3 : (partsT ms p.parts).length ≤ 40 * Part.cntL p.parts := by
    rw [← Part.sum_cnt]
    exact sepT_le _ _ _ _ fun x hx => by
     have := Part.size_part hx
     exact ptx_le hn x (hp x hx)
   have := itoa_le p.laps (by omega) (by omega)
   simp only [List.length_append, List.length_cons, List.length_nil]; omega
termination_by SizeOf.sizeOf p
decreasing_by assumption
theorem partsT_le {ms : List Mat} (hn : ∀ m ∈ ms, m.name.length ≤ 24) {m : Int} {l : List Part} (hg : ∀ p ∈ l, p.good m = true) : (partsT ms l).length ≤ 40 * Part.cntL l := by
 rw [← Part.sum_cnt]
 exact sepT_le _ _ _ _ fun x hx => ptx_le hn x (hg x hx)
theorem cntL_mem : ∀ {l : List Part} {x : Part}, x ∈ l → x.cnt ≤ Part.cntL l := by
 intro l
 induction l with
 | nil => intro x h; cases h
 | cons c l ih =>
   intro x h
   simp only [Part.cntL]
   rcases List.mem_cons.1 h with rfl | h
   · omega
   · have := ih h; omega
theorem isNm_len {s : List UInt8} (h : isNm kw s = true) : s.length ≤ 24 := by
 simp only [isNm, Bool.and_eq_true, decide_eq_true_eq] at h; exact h.1
theorem nmL_len {α : Type} {l : List α} {f : α → List UInt8} (h : nmL (l.map f) = true) : ∀ x ∈ l, (f x).length ≤ 24 := by
 intro x hx
 simp only [nmL, Bool.and_eq_true, List.all_eq_true] at h
 exact isNm_len (h.1 _ (List.mem_map.2 ⟨x, hx, rfl⟩))
structure Good (c : Course) : Prop where
 small : c.small
 fits : c.fits = true
 named : c.named = true
 nums : NumsOk c
 ties : tiesE c.ties = 0
 name : c.name.length ≤ 24
 mats : ∀ x ∈ c.mats, x.name.length ≤ 24
 distances : ∀ x ∈ c.distances, x.name.length ≤ 24
 waves : ∀ x ∈ c.waves, x.name.length ≤ 24
 offences : ∀ x ∈ c.offences, x.name.length ≤ 24
 categories : ∀ x ∈ c.categories, x.name.length ≤ 24
 steps : ∀ s ∈ c.ties, s.valid = true
 nst : Step.nstL c.ties ≤ 64
 ncd : Step.ncdL c.ties ≤ 256
 routes : ∀ d ∈ c.distances, routeOk c d = true
theorem good_of {c : Course} (hs : c.small) (h : courseE c = 0) : Good c := by
 unfold courseE at h
 split at h; · cases h
 split at h; · cases h
 split at h; · cases h
 split at h
 case isFalse => exact absurd h ‹_›
 split at h
 case isFalse => cases h
 rename_i h1 h2 h3 h4 h5
 have hn : c.named = true := by simpa using h2
 have hn' := hn
 simp only [Course.named, Bool.and_eq_true] at hn'
 obtain ⟨n1, n2, n3, n4, n5, n6⟩ := hn'
 have ht := ties_ok h4
 refine ⟨hs, by simpa using h1, hn, (nums_iff c).1 (by simpa using h3), h4, isNm_len n1, nmL_len n2, nmL_len n3, nmL_len n4, nmL_len n5, nmL_len n6, ht.1, ht.2, ?_, List.all_eq_true.1 h5⟩
 unfold tiesE at h4
 split at h4
 · rename_i hf
   split at h4
   · rename_i hv
     obtain ⟨_, k2, _⟩ := F_S c.ties
     simp only [fitsF, Bool.or_eq_true, Bool.and_eq_true, decide_eq_true_eq, k2] at hf
     rcases hf with hf | hf
     · exact absurd (by simpa [formsS] using hf) hv.1
     · omega
   · cases h4
 · cases h4
theorem Step.szl (s : Step) : SizeOf.sizeOf s.th < SizeOf.sizeOf s ∧ SizeOf.sizeOf s.el < SizeOf.sizeOf s := by
 obtain ⟨k, b, c, t, e⟩ := s
 simp only [Step.mk.sizeOf_spec]
 omega
theorem Part.szl (s : Part) : SizeOf.sizeOf s.parts < SizeOf.sizeOf s := by
 obtain ⟨k, b, c⟩ := s
 simp only [Part.mk.sizeOf_spec]
 omega
theorem mat_at {c : Course} {i : Int} (h0 : 0 ≤ i) (h1 : i ≤ c.m) : ∃ k, (c.mats.map Mat.cells)[i.toNat]? = some [.str (matN c.mats i), iD k] := by
 have hl : i.toNat < c.mats.length := by simp only [Course.m, List.length_map] at h1; omega
 refine ⟨(c.mats[i.toNat]).kind, ?_⟩
 rw [List.getElem?_map, List.getElem?_eq_getElem hl]
 simp only [Option.map_some, Mat.cells]
 rw [matN, List.getElem?_eq_getElem hl]
end Go.Proofs.YteckbkljaneppaaGreatDoor.Dx
