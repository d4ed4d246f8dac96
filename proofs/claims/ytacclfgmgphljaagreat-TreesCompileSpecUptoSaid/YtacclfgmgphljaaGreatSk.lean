/- Chapter 10: the reference's tests are the code's values. -/
import Derived.Test.YtacclfgmgphljaaGreatSj
set_option linter.all false
namespace Go.Proofs.YtacclfgmgphljaaGreat.Dx
open Go Go.RowKit
set_option maxRecDepth 100000
set_option maxHeartbeats 16000000
theorem vals1_sorted {xs : List Int} (h : xs.Pairwise (· < ·)) : vals1 xs = xs := vals_of h fun _ => Iff.rfl
theorem vals1_congr {xs ys : List Int} (h : ∀ x, x ∈ xs ↔ x ∈ ys) : vals1 xs = vals1 ys := vals_of (vals1_spec ys).1 fun x => ((vals1_spec ys).2 x).trans (h x).symm
theorem vals1_in {xs ys : List Int} : vals1 (vals1 xs ++ ys) = vals1 (xs ++ ys) := vals1_congr fun x => by
 rw [List.mem_append, List.mem_append, (vals1_spec xs).2 x]
/-- a number put in its place -/
theorem vals1_put {xs : List Int} (h : xs.Pairwise (· < ·)) {i : Nat} {n : Int} (hi : i ≤ xs.length) (h1 : ∀ x ∈ xs.take i, x < n) (h2 : ∀ x ∈ xs.drop i, n < x) : vals1 (xs ++ [n]) = xs.take i ++ [n] ++ xs.drop i := by
 refine vals_of ?_ fun x => ?_
 · rw [List.pairwise_append, List.pairwise_append]
   have hs := h
   rw [← List.take_append_drop i xs, List.pairwise_append] at hs
   refine ⟨⟨hs.1, List.pairwise_singleton _ _, fun a ha b hb => by rw [List.mem_singleton.1 hb]; exact h1 a ha⟩, hs.2.1, fun a ha b hb => ?_⟩
   rcases List.mem_append.1 ha with ha | ha
   · exact hs.2.2 a ha b hb
   · rw [List.mem_singleton.1 ha]; exact h2 b hb
 · rw [List.mem_append, List.mem_append, List.mem_append]
   have : x ∈ xs ↔ x ∈ xs.take i ∨ x ∈ xs.drop i := by rw [← List.mem_append, List.take_append_drop]
   rw [this]
   constructor
   · rintro ((h | h) | h)
     · exact .inl (.inl h)
     · exact .inr h
     · exact .inl (.inr h)
   · rintro ((h | h) | h)
     · exact .inl (.inl h)
     · exact .inr h
     · exact .inl (.inr h)
theorem with_meets (xs : List Int) (n : Int) (h : xs.Pairwise (· < ·)) (hl : xs.length ≤ 1048576) : Meets Tryz.prog 91 [.sl (xs.map icells), iD n] fun d => d = .sl ((vals1 (xs ++ [n])).map icells) := by
 refine enter tok {} Tryz.func91 rfl (by kernel_rfl) Tryz.ntmps91 (by simp) fun B0 W0 V0 lent g0 => ?_
 ((conv => whnf); repeat' (refine Z rfl ?_; conv => whnf))
 repeat' ((first | (intro hlq; (try simp only [SL] at hlq)) | refine Ks ?_ | refine Kq ?_ | refine Kt ?_ | refine Ka ?_ | refine Kb ?_ | refine Kc (hd := rfl) (e := ?_) | refine Kc (hd := icells_eq _) (e := ?_) | refine Kd (e := ?_) | refine Kl rfl ?_ | fail) <;> ((conv => whnf); repeat' (refine Z rfl ?_; conv => whnf)))
 refine loop_upd tok {} [] (X := Nat) (fun i => [(5, iB i)]) (fun _ => []) [] (fun i => i ≤ xs.length ∧ ∀ x ∈ xs.take i, x < n) (fun i => xs.length - i) 0 ?_
 ((conv => whnf); repeat' (refine Z rfl ?_; conv => whnf))
 refine And.intro ?_ ⟨⟨by omega, by simp⟩, fun i hΦ => ?_⟩
 · exact Kr
 obtain ⟨hi, hp⟩ := hΦ
 ((conv => whnf); repeat' (refine Z rfl ?_; conv => whnf))
 repeat' ((first | (intro hlq; (try simp only [SL] at hlq)) | refine Ks ?_ | refine Kq ?_ | refine Kt ?_ | refine Ka ?_ | refine Kb ?_ | refine Kc (hd := rfl) (e := ?_) | refine Kc (hd := icells_eq _) (e := ?_) | refine Kd (e := ?_) | refine Kl rfl ?_ | fail) <;> ((conv => whnf); repeat' (refine Z rfl ?_; conv => whnf)))
 repeat' ((first | (intro hlq; (try simp only [SL] at hlq)) | refine Ks ?_ | refine Kq ?_ | refine Kt ?_ | ((refine Kh (fun hb => ?_) fun hb => ?_) <;> (try simp only [BL] at hb)) | refine Ka ?_ | refine Kb ?_ | refine Kc (hd := rfl) (e := ?_) | refine Kc (hd := icells_eq _) (e := ?_) | refine Kd (e := ?_) | refine Kl rfl ?_ | fail) <;> ((conv => whnf); repeat' (refine Z rfl ?_; conv => whnf)))
 all_goals try (exfalso; omega)
 · have hi' : i < xs.length := by omega
   refine ⟨⟨i + 1, ?_, ⟨by omega, fun x hx => ?_⟩, by omega⟩⟩
   · exact Kr
   rw [List.take_succ_eq_append_getElem hi'] at hx
   rcases List.mem_append.1 hx with hx | hx
   · exact hp x hx
   · rw [List.mem_singleton.1 hx]; assumption
 · have hi' : i < xs.length := by omega
   refine ⟨?_⟩
   have : vals1 (xs ++ [n]) = xs := vals_of h fun x => by
    rw [List.mem_append, List.mem_singleton]
    exact ⟨.inl, fun hx => hx.elim id fun e => by rw [e, ← hb]; exact List.getElem_mem hi'⟩
   rw [this]
 all_goals
  have h2 : ∀ x ∈ xs.drop i, n < x := by
   intro x hx
   obtain ⟨j, hj, rfl⟩ := List.mem_iff_getElem.1 hx
   rw [List.getElem_drop]
   rw [List.length_drop] at hj
   have hle : xs[i]'(by omega) ≤ xs[i + j]'(by omega) := by
    rcases Nat.eq_zero_or_pos j with e | e
    · subst e; exact Int.le_refl _
    · exact Int.le_of_lt (List.pairwise_iff_getElem.1 h i (i + j) (by omega) (by omega) (by omega))
   omega
  have hv := vals1_put h hi hp h2
  refine draw_rule tok (cf := {}) (by kernel_rfl) [.p 0, .p 1, .p 2, .p 3, .p 5, .p 6, .p 8, .p 9, .p 10, .s 4 [0,3,1,2], .s 7 [6,5], .s 11 [10,8,9], .p 12] (by kernel_rfl) ?_
  ((conv => whnf); repeat' (refine Z rfl ?_; conv => whnf))
  repeat' ((first | (intro hlq; (try simp only [SL] at hlq)) | refine Ks ?_ | refine Kq ?_ | refine Kt ?_ | refine Ka ?_ | refine Kb ?_ | refine Kc (hd := rfl) (e := ?_) | refine Kc (hd := icells_eq _) (e := ?_) | refine Kd (e := ?_) | refine Kl rfl ?_ | fail) <;> ((conv => whnf); repeat' (refine Z rfl ?_; conv => whnf)))
  refine ⟨fun _ => ⟨by omega, by rw [List.length_map]; omega, Int.le_refl _, fun ds hd => by obtain ⟨y, _, rfl⟩ := List.mem_map.1 hd; rfl⟩, ?_⟩
  ((conv => whnf); repeat' (refine Z rfl ?_; conv => whnf))
  repeat' ((first | (intro hlq; (try simp only [SL] at hlq)) | refine Ks ?_ | refine Kq ?_ | refine Kt ?_ | refine Ka ?_ | refine Kb ?_ | refine Kc (hd := rfl) (e := ?_) | refine Kc (hd := icells_eq _) (e := ?_) | refine Kd (e := ?_) | refine Kl rfl ?_ | fail) <;> ((conv => whnf); repeat' (refine Z rfl ?_; conv => whnf)))
  have hall : ∀ ds ∈ xs.map icells, ds.length = 1 := fun ds hd => by obtain ⟨y, _, rfl⟩ := List.mem_map.1 hd; rfl
  refine ⟨fun ds hd => hall ds (List.mem_of_mem_take (List.mem_of_mem_drop hd)), ?_⟩
  ((conv => whnf); repeat' (refine Z rfl ?_; conv => whnf))
  refine ⟨⟨(Kap True.intro ?_ (by decide)).1, by simp⟩, ?_⟩
  · simp only [List.length_drop, List.length_take, List.length_map, List.length_nil]; omega
  ((conv => whnf); repeat' (refine Z rfl ?_; conv => whnf))
  repeat' (first | (refine Kl rfl ?_; ((conv => whnf); repeat' (refine Z rfl ?_; conv => whnf))) | fail)
  repeat' ((first | (intro hlq; (try simp only [SL] at hlq)) | refine Ks ?_ | refine Kq ?_ | refine Kt ?_ | refine Ka ?_ | refine Kb ?_ | refine Kc (hd := rfl) (e := ?_) | refine Kc (hd := icells_eq _) (e := ?_) | refine Kd (e := ?_) | refine Kl rfl ?_ | fail) <;> ((conv => whnf); repeat' (refine Z rfl ?_; conv => whnf)))
  refine ⟨by simp, ?_⟩
  ((conv => whnf); repeat' (refine Z rfl ?_; conv => whnf))
  refine Kap ?_ ?_ ?_
  rotate_left 1
  · simp only [List.length_append, List.length_drop, List.length_take, List.length_map, List.length_cons, List.length_nil]; omega
  · decide
  ((conv => whnf); repeat' (refine Z rfl ?_; conv => whnf))
  repeat' (first | (refine Kl rfl ?_; ((conv => whnf); repeat' (refine Z rfl ?_; conv => whnf))) | fail)
  repeat' ((first | (intro hlq; (try simp only [SL] at hlq)) | refine Ks ?_ | refine Kq ?_ | refine Kt ?_ | refine Ka ?_ | refine Kb ?_ | refine Kc (hd := rfl) (e := ?_) | refine Kc (hd := icells_eq _) (e := ?_) | refine Kd (e := ?_) | refine Kl rfl ?_ | fail) <;> ((conv => whnf); repeat' (refine Z rfl ?_; conv => whnf)))
  refine ⟨fun ds hd => hall ds (List.mem_of_mem_take (List.mem_of_mem_drop hd)), ?_⟩
  ((conv => whnf); repeat' (refine Z rfl ?_; conv => whnf))
  refine Kap ?_ ?_ ?_
  rotate_left 1
  · simp only [List.length_append, List.length_drop, List.length_take, List.length_map, List.length_cons, List.length_nil]; omega
  · decide
  ((conv => whnf); repeat' (refine Z rfl ?_; conv => whnf))
  repeat' (first | (refine Kl rfl ?_; ((conv => whnf); repeat' (refine Z rfl ?_; conv => whnf))) | fail)
  repeat' ((first | (intro hlq; (try simp only [SL] at hlq)) | refine Ks ?_ | refine Kq ?_ | refine Kt ?_ | refine Ka ?_ | refine Kb ?_ | refine Kc (hd := rfl) (e := ?_) | refine Kc (hd := icells_eq _) (e := ?_) | refine Kd (e := ?_) | refine Kl rfl ?_ | fail) <;> ((conv => whnf); repeat' (refine Z rfl ?_; conv => whnf)))
  refine ⟨congrArg D.sl ?_⟩
  rw [hv]
  show [] ++ List.drop (Int.toNat 0) (List.take (i : Int).toNat (xs.map icells)) ++ [icells n] ++ List.drop (i : Int).toNat (List.take (((xs.map icells).length : Nat) : Int).toNat (xs.map icells)) = _
  rw [Int.toNat_natCast, Int.toNat_natCast, List.take_length]
  simp [List.map_take, List.map_drop]
end Go.Proofs.YtacclfgmgphljaaGreat.Dx
/- Chapter 10: the reference's tests (numbers, tests, Tests). -/
namespace Go.Proofs.YtacclfgmgphljaaGreat.Dx
open Go Go.RowKit
set_option maxRecDepth 100000
set_option maxHeartbeats 16000000
structure Row (v : Int) (xs : List Int) : Prop where
 sorted : xs.Pairwise (· < ·)
 mem : ∀ x ∈ xs, 0 ≤ x ∧ x ≤ Tr.most v
theorem most_le (v : Int) : 0 ≤ Tr.most v ∧ Tr.most v ≤ 4000 := by unfold Tr.most; split <;> (try split) <;> omega
theorem Row.len {v : Int} {xs : List Int} (h : Row v xs) : (xs.length : Int) ≤ Tr.most v + 1 := by
 have hm := most_le v
 have h1 : (xs.map Int.toNat).Nodup := by
  rw [List.nodup_iff_pairwise_ne, List.pairwise_map]
  refine h.sorted.imp_of_mem fun ha hb hab => ?_
  have := h.mem _ ha; have := h.mem _ hb; omega
 have := nodup_len (n := (Tr.most v + 1).toNat) h1 fun j hj => by
  obtain ⟨y, hy, rfl⟩ := List.mem_map.1 hj
  have := h.mem y hy; omega
 rw [List.length_map] at this
 omega
theorem Row.add {v : Int} {xs ys : List Int} (h : Row v xs) (hy : ∀ x ∈ ys, 0 < x ∧ x ≤ Tr.most v) : Row v (vals1 (xs ++ ys)) :=
 ⟨(vals1_spec _).1, fun x hx => by
   rcases List.mem_append.1 (((vals1_spec _).2 x).1 hx) with hx | hx
   · exact h.mem x hx
   · have := hy x hx; omega⟩
theorem vals1_nil {xs : List Int} {v : Int} (h : Row v xs) : vals1 (xs ++ []) = xs := by rw [List.append_nil]; exact vals1_sorted h.sorted
theorem numbers_meets (v : Int) (k w n : Int) (ps : List Cond) (xs : List Int) (hok : (⟨k, w, n, ps⟩ : Cond).ok) (hr : Row v xs) :
 Meets Tryz.prog 67 [.agg (⟨k, w, n, ps⟩ : Cond).cells, iD v, .sl (xs.map icells)] fun d => d = .sl ((vals1 (xs ++ (⟨k, w, n, ps⟩ : Cond).nums v)).map icells) := by
 obtain ⟨hpl, hpk⟩ := Cond.ok_iff.1 hok
 have hlen := hr.len
 have hm := most_le v
 have hw := with_meets xs n hr.sorted (by omega)
 have hsz : ∀ p ∈ ps, Cond.szL p.parts < Cond.szL ps := by
  intro p hp
  have h1 := csz_mem hp
  have h2 := p.sz_eq
  omega
 have hrow : ∀ i, Row v (vals1 (xs ++ (own1 v k w n ++ (ps.take i).flatMap (Cond.nums v)))) := fun i => hr.add fun x hx => by
  rcases List.mem_append.1 hx with hx | hx
  · have hx' := own1_mem hx; exact hx'
  · obtain ⟨c, _, hc⟩ := List.mem_flatMap.1 hx; exact nums_mem c hc
 have hgo : ∀ i (h : i < ps.length), vals1 (vals1 (xs ++ (own1 v k w n ++ (ps.take i).flatMap (Cond.nums v))) ++ (⟨ps[i].kind, ps[i].var, ps[i].n, ps[i].parts⟩ : Cond).nums v) = vals1 (xs ++ (own1 v k w n ++ (ps.take (i + 1)).flatMap (Cond.nums v))) := by
  intro i h
  rw [vals1_in, List.take_succ_eq_append_getElem h, List.flatMap_append, cond_eta]
  simp
 rw [Cond.cells_eq]
 refine enter tok {} Tryz.func67 rfl (by kernel_rfl) Tryz.ntmps67 (by simp) fun B0 W0 V0 lent g0 => ?_
 ((conv => whnf); repeat' (refine Z rfl ?_; conv => whnf))
 repeat' ((first | (intro hlq; (try simp only [SL] at hlq)) | refine Meets.k (rBounds_meets v) ?_ | refine Meets.k (hw) ?_ | refine Ks ?_ | refine Kq ?_ | refine Kt ?_ | ((refine Kh (fun hb => ?_) fun hb => ?_) <;> (try simp only [BL] at hb)) | refine Ka ?_ | refine Kb ?_ | refine Kc (hd := rfl) (e := ?_) | refine Kc (hd := icells_eq _) (e := ?_) | refine Kd (e := ?_) | refine Kl rfl ?_ | fail) <;> ((conv => whnf); repeat' (refine Z rfl ?_; conv => whnf)))
 all_goals
  have hs0 : (own1 v k w n = [n] ∧ (k = 1 ∧ w = v ∧ n > 0 ∧ n ≤ Tr.most v)) ∨ (own1 v k w n = [] ∧ ¬ (k = 1 ∧ w = v ∧ n > 0 ∧ n ≤ Tr.most v)) := by
   unfold own1
   by_cases hc : k = 1 ∧ w = v ∧ 0 < n ∧ n ≤ Tr.most w
   · rw [if_pos hc]; refine .inl ⟨rfl, hc.1, hc.2.1, hc.2.2.1, ?_⟩; rw [← hc.2.1]; exact hc.2.2.2
   · rw [if_neg hc]; refine .inr ⟨rfl, fun h => hc ⟨h.1, h.2.1, h.2.2.1, ?_⟩⟩; rw [h.2.1]; exact h.2.2.2
  refine loop_upd tok {} [] (X := Nat) (fun i => [(9, iB i), (2, .d (.sl ((vals1 (xs ++ (own1 v k w n ++ (ps.take i).flatMap (Cond.nums v)))).map icells)))]) (fun _ => []) [] (fun i => i ≤ ps.length) (fun i => ps.length - i) 0 ?_
  ((conv => whnf); repeat' (refine Z rfl ?_; conv => whnf))
  refine And.intro ?_ ⟨by omega, fun i hi => ?_⟩
  · rcases hs0 with ⟨hs0, hs1⟩ | ⟨hs0, hs1⟩ <;> rw [hs0] <;> (try (exfalso; omega)) <;> (try (exfalso; exact hs1 ⟨by assumption, by assumption, by assumption, by assumption⟩))
    all_goals
     have hn := vals1_nil hr
     rw [List.append_nil] at hn
     try rw [show vals1 (xs ++ ([] ++ (ps.take 0).flatMap (Cond.nums v))) = xs by simp [hn]]
     try rw [show vals1 (xs ++ ([n] ++ (ps.take 0).flatMap (Cond.nums v))) = vals1 (xs ++ [n]) by simp]
     repeat' (first | exact True.intro | exact rfl | refine And.intro ?_ ?_)
  ((conv => whnf); repeat' (refine Z rfl ?_; conv => whnf))
  repeat' ((first | (intro hlq; (try simp only [SL] at hlq)) | refine Ks ?_ | refine Kq ?_ | refine Kt ?_ | refine Ka ?_ | refine Kb ?_ | refine Kc (hd := rfl) (e := ?_) | refine Kc (hd := icells_eq _) (e := ?_) | refine Kd (e := ?_) | refine Kl rfl ?_ | fail) <;> ((conv => whnf); repeat' (refine Z rfl ?_; conv => whnf)))
  refine ⟨fun h1 => ?_, fun h1 => ?_⟩ <;> (try simp only [BL] at h1) <;> ((conv => whnf); repeat' (refine Z rfl ?_; conv => whnf))
  · have h1' : i < ps.length := by omega
    have hmem := List.getElem_mem h1'
    have hszi := hsz _ hmem
    have hrec := numbers_meets v ps[i].kind ps[i].var ps[i].n ps[i].parts _ (by rw [cond_eta]; exact hpk _ hmem) (hrow i)
    rw [hgo i h1', Cond.cells_eq] at hrec
    repeat' ((first | (intro hlq; (try simp only [SL] at hlq)) | refine Meets.k (hrec) ?_ | refine Ks ?_ | refine Kq ?_ | refine Kt ?_ | ((refine Kh (fun hb => ?_) fun hb => ?_) <;> (try simp only [BL] at hb)) | refine Ka ?_ | refine Kb ?_ | refine Kc (hd := rfl) (e := ?_) | refine Kc (hd := Cond.cells_eq _) (e := ?_) | refine Kd (e := ?_) | refine Kl rfl ?_ | fail) <;> ((conv => whnf); repeat' (refine Z rfl ?_; conv => whnf)))
    refine ⟨⟨i + 1, ?_, by omega, by omega⟩⟩
    repeat' (first | exact True.intro | exact rfl | refine And.intro ?_ ?_)
  · rw [List.take_of_length_le (by omega)]
    refine ⟨congrArg D.sl ?_⟩
    rw [nums_eq]
termination_by Cond.szL ps
decreasing_by all_goals assumption
end Go.Proofs.YtacclfgmgphljaaGreat.Dx
