/- The walk of the law of routes. -/
import Derived.Test.YtiejhmfeppflaaaGreatNc
namespace Go.Proofs.YtiejhmfeppflaaaGreat.Dx
open Go Go.RowKit
set_option linter.all false
set_option maxRecDepth 100000
set_option maxHeartbeats 16000000

theorem course_ok {c : Course} (h : ¬ courseE c ≠ 0) : c.nums = true ∧ ∀ d ∈ c.distances, routeOk c d = true := by
  rw [ne_eq, Decidable.not_not, courseE] at h
  split at h
  · cases h
  · split at h
    · cases h
    · split at h
      · cases h
      · rename_i hn
        split at h
        · split at h
          · rename_i hd
            exact ⟨by simpa using hn, List.all_eq_true.1 hd⟩
          · cases h
        · rename_i ht
          exact absurd h ht
theorem leg_one {c : Course} {a b : Int} (hN : (c.legs.map fun x => (x.src, x.dst)).Nodup) (h : c.leg a b = true) : (c.legs.map fun x => (x.src, x.dst)).count (a, b) = 1 := by
  simp only [Course.leg, decide_eq_true_eq] at h
  rw [hN.count, if_pos h]
theorem leg_step {c : Course} {a b : Int} {m : Nat} (h : m < c.legs.length) : ((c.legs.map fun x => (x.src, x.dst)).take (m + 1)).count (a, b) =
    ((c.legs.map fun x => (x.src, x.dst)).take m).count (a, b) + if c.legs[m].src = a ∧ c.legs[m].dst = b then 1 else 0 := by
  rw [List.take_succ_eq_append_getElem (by simpa using h), List.count_append, List.getElem_map, List.count_singleton]
  simp

theorem TypingRoutes_meets (c : Course) (hc : c.small) : Meets Tryz.prog 6 [c.d] fun r => r = bD true := by
  refine enter tok {} Tryz.func6 rfl (by kernel_rfl) Tryz.ntmps6 (by simp) fun B0 W0 V0 lent g0 => ?_
  ((conv => whnf); repeat' (refine vcC_go tok {} rfl ?_; conv => whnf))
  repeat' ((first | (intro hlq; (try simp only [List.length_map, maxLen] at hlq)) | refine Meets.k (sane_meets.bl) ?_ | (refine Meets.mono (FewCourse_meets c hc) ?_; rintro _ ⟨_, rfl⟩) | refine Meets.k (Course_meets c hc) ?_ | refine Meets.k (rCourse_meets c hc) ?_ | ((refine ⟨fun (hb : _ = true) => ?_, fun (hb : _ = false) => ?_⟩) <;> (try simp only [BB, List.length_map] at hb)) | refine ⟨fun h1 h2 => ⟨by have := h1.1; have := h1.2; have := h2.1; have := h2.2; (try dsimp only at *); first | omega | (simp only [List.length_map] at *; omega), by have := h1.1; have := h1.2; have := h2.1; have := h2.2; (try dsimp only at *); first | omega | (simp only [List.length_map] at *; omega)⟩, ?_⟩ | refine ⟨⟨(by (try dsimp only at *); omega : _ ≤ _), (by (try dsimp only at *); omega : _ < _)⟩, ?_⟩ | refine ⟨_, ⟨by (try dsimp only at *); omega, getD_at _ (by (try dsimp only at *); (try simp only [List.length_map] at *); omega) (rfl), rfl⟩, ?_⟩ | refine ⟨_, ⟨by (try dsimp only at *); omega, getD_at _ (by (try dsimp only at *); (try simp only [List.length_map] at *); omega) (Cond.cells_eq _), rfl⟩, ?_⟩ | refine ⟨_, ⟨by (try dsimp only at *); omega, str_at (by (try dsimp only at *); (try simp only [List.length_map] at *); omega)⟩, ?_⟩ | refine ⟨(rfl : look _ _ = look _ _), ?_⟩ | fail) <;> ((conv => whnf); repeat' (refine vcC_go tok {} rfl ?_; conv => whnf)))
  all_goals first
    | exact ⟨rfl⟩
    | (exfalso; contradiction)
    | (exfalso; simp_all; done)
    | skip
  obtain ⟨hnum, hrt⟩ := course_ok (c := c) (by assumption)
  have hn := (nums_iff c).1 hnum
  have hmats := hc.mats
  have hm1 : c.m = c.mats.length - 1 := by simp [Course.m]
  have hkd : ∀ x : Int, 0 ≤ x → x ≤ c.m → 1 ≤ c.kind x ∧ c.kind x ≤ 3 := by
    intro x h0 h1
    have hlt : x.toNat < c.mats.length := by omega
    have := hn.mats _ (List.getElem_mem hlt)
    rw [← kind_eq h0 hlt]
    simpa [Mat.good, inR] using this
  have hld := hc.distances
  have hll := hc.legs
  refine loop_upd tok {} [] (X := Nat) (fun i => [(3, iB i)]) (fun _ => []) [] (fun i => i ≤ c.distances.length) (fun i => c.distances.length - i) 0 ?_
  ((conv => whnf); repeat' (refine vcC_go tok {} rfl ?_; conv => whnf))
  refine And.intro ?_ ⟨by omega, fun i0 hi0 => ?_⟩
  · repeat' (first | exact True.intro | exact rfl | refine And.intro ?_ ?_)
  ((conv => whnf); repeat' (refine vcC_go tok {} rfl ?_; conv => whnf))
  repeat' ((first | (intro hlq; (try simp only [List.length_map, maxLen] at hlq)) | refine ⟨fun h1 h2 => ⟨by have := h1.1; have := h1.2; have := h2.1; have := h2.2; (try dsimp only at *); first | omega | (simp only [List.length_map] at *; omega), by have := h1.1; have := h1.2; have := h2.1; have := h2.2; (try dsimp only at *); first | omega | (simp only [List.length_map] at *; omega)⟩, ?_⟩ | refine ⟨⟨(by (try dsimp only at *); omega : _ ≤ _), (by (try dsimp only at *); omega : _ < _)⟩, ?_⟩ | refine ⟨_, ⟨by (try dsimp only at *); omega, getD_at _ (by (try dsimp only at *); (try simp only [List.length_map] at *); omega) (rfl), rfl⟩, ?_⟩ | refine ⟨_, ⟨by (try dsimp only at *); omega, getD_at _ (by (try dsimp only at *); (try simp only [List.length_map] at *); omega) (Cond.cells_eq _), rfl⟩, ?_⟩ | refine ⟨_, ⟨by (try dsimp only at *); omega, str_at (by (try dsimp only at *); (try simp only [List.length_map] at *); omega)⟩, ?_⟩ | refine ⟨(rfl : look _ _ = look _ _), ?_⟩ | fail) <;> ((conv => whnf); repeat' (refine vcC_go tok {} rfl ?_; conv => whnf)))
  refine ⟨fun h0 => ?_, fun h0 => ?_⟩ <;> (try simp only [BB, List.length_map] at h0) <;> ((conv => whnf); repeat' (refine vcC_go tok {} rfl ?_; conv => whnf))
  · have h0' : i0 < c.distances.length := by omega
    have hd := List.getElem_mem h0'
    have hro := hrt _ hd
    have hdg := hn.distances _ hd
    simp only [Distance.good, Bool.and_eq_true, List.all_eq_true] at hdg
    have hmem := exL_mem c.m c.distances[i0].route [] hdg.2.2.1 (by simp)
    have hct := hc.route _ hd
    have hcu := hc.cutoffs _ hd
    simp only [routeOk, Bool.and_eq_true, List.all_eq_true, decide_eq_true_eq, List.mem_range] at hro
    obtain ⟨⟨hr2, hr3⟩, hpos, hext, hcut⟩ := hro
    repeat' ((first | (intro hlq; (try simp only [List.length_map, maxLen] at hlq)) | refine Meets.k (rExpand_meets c.m c.distances[i0].route hdg.2.2.1 hct) ?_ | ((refine ⟨fun (hb : _ = true) => ?_, fun (hb : _ = false) => ?_⟩) <;> (try simp only [BB, List.length_map] at hb)) | refine ⟨fun h1 h2 => ⟨by have := h1.1; have := h1.2; have := h2.1; have := h2.2; (try dsimp only at *); first | omega | (simp only [List.length_map] at *; omega), by have := h1.1; have := h1.2; have := h2.1; have := h2.2; (try dsimp only at *); first | omega | (simp only [List.length_map] at *; omega)⟩, ?_⟩ | refine ⟨⟨(by (try dsimp only at *); omega : _ ≤ _), (by (try dsimp only at *); omega : _ < _)⟩, ?_⟩ | refine ⟨_, ⟨by (try dsimp only at *); omega, getD_at _ (by (try dsimp only at *); (try simp only [List.length_map] at *); omega) (rfl), rfl⟩, ?_⟩ | refine ⟨_, ⟨by (try dsimp only at *); omega, getD_at _ (by (try dsimp only at *); (try simp only [List.length_map] at *); omega) (Distance.cells_eq _), rfl⟩, ?_⟩ | refine ⟨_, ⟨by (try dsimp only at *); omega, str_at (by (try dsimp only at *); (try simp only [List.length_map] at *); omega)⟩, ?_⟩ | refine ⟨(rfl : look _ _ = look _ _), ?_⟩ | fail) <;> ((conv => whnf); repeat' (refine vcC_go tok {} rfl ?_; conv => whnf)))
    all_goals first
      | (exfalso; omega)
      | skip
    generalize Part.exL c.distances[i0].route [] = r at *
    refine loop_upd tok {} [] (X := Nat × List (D × D)) (fun x => [(7, iB x.1)]) (fun x => [(48, .mp x.2)]) [] (fun x => x.1 ≤ r.length ∧ (∀ n : Int, (mget x.2 (iD n)).getD (iD 0) = iD ((r.take x.1).count n)) ∧ ∀ p ∈ x.2, KInt .i64 p.1) (fun x => r.length - x.1) (0, []) ?_
    ((conv => whnf); repeat' (refine vcC_go tok {} rfl ?_; conv => whnf))
    refine And.intro ?_ ⟨⟨by dsimp only; omega, fun n => by simp [mget], by simp⟩, fun z hΦ => ?_⟩
    · repeat' (first | exact True.intro | exact rfl | refine And.intro ?_ ?_)
    obtain ⟨i, lm⟩ := z
    obtain ⟨hi, hget, hkey⟩ := hΦ
    dsimp only at hi hget hkey
    ((conv => whnf); repeat' (refine vcC_go tok {} rfl ?_; conv => whnf))
    repeat' ((first | (intro hlq; (try simp only [List.length_map, maxLen] at hlq)) | refine ⟨fun h1 h2 => ⟨by have := h1.1; have := h1.2; have := h2.1; have := h2.2; (try dsimp only at *); first | omega | (simp only [List.length_map] at *; omega), by have := h1.1; have := h1.2; have := h2.1; have := h2.2; (try dsimp only at *); first | omega | (simp only [List.length_map] at *; omega)⟩, ?_⟩ | refine ⟨⟨(by (try dsimp only at *); omega : _ ≤ _), (by (try dsimp only at *); omega : _ < _)⟩, ?_⟩ | refine ⟨_, ⟨by (try dsimp only at *); omega, getD_at _ (by (try dsimp only at *); (try simp only [List.length_map] at *); omega) (rfl), rfl⟩, ?_⟩ | refine ⟨_, ⟨by (try dsimp only at *); omega, getD_at _ (by (try dsimp only at *); (try simp only [List.length_map] at *); omega) (Cond.cells_eq _), rfl⟩, ?_⟩ | refine ⟨_, ⟨by (try dsimp only at *); omega, str_at (by (try dsimp only at *); (try simp only [List.length_map] at *); omega)⟩, ?_⟩ | refine ⟨(rfl : look _ _ = look _ _), ?_⟩ | fail) <;> ((conv => whnf); repeat' (refine vcC_go tok {} rfl ?_; conv => whnf)))
    refine ⟨fun h1 => ?_, fun h1 => ?_⟩ <;> (try simp only [BB, List.length_map] at h1) <;> ((conv => whnf); repeat' (refine vcC_go tok {} rfl ?_; conv => whnf))
    · have h1' : i < r.length := by omega
      have hr := hmem _ (List.getElem_mem h1')
      have hlt : r[i].toNat < c.mats.length := by omega
      have hki := hkd _ hr.1 hr.2
      have hp := (posOk_iff h1' (by omega) hki).1 (hpos i h1')
      refine draw_rule tok (cf := {}) (by kernel_rfl) [.p 0, .p 1, .p 2, .p 3, .p 4, .p 5, .p 6, .p 7, .p 8, .p 9] (by kernel_rfl) ?_
      ((conv => whnf); repeat' (refine vcC_go tok {} rfl ?_; conv => whnf))
      repeat' ((first | (intro hlq; (try simp only [List.length_map, maxLen] at hlq)) | refine ⟨fun h1 h2 => ⟨by have := h1.1; have := h1.2; have := h2.1; have := h2.2; (try dsimp only at *); first | omega | (simp only [List.length_map] at *; omega), by have := h1.1; have := h1.2; have := h2.1; have := h2.2; (try dsimp only at *); first | omega | (simp only [List.length_map] at *; omega)⟩, ?_⟩ | refine ⟨⟨(by (try dsimp only at *); omega : _ ≤ _), (by (try dsimp only at *); omega : _ < _)⟩, ?_⟩ | refine ⟨_, ⟨by (try dsimp only at *); omega, getD_at _ (by (try dsimp only at *); (try simp only [List.length_map] at *); omega) (rfl), rfl⟩, ?_⟩ | refine ⟨_, ⟨by (try dsimp only at *); omega, getD_at _ (by (try dsimp only at *); (try simp only [List.length_map] at *); omega) (icells_eq _), rfl⟩, ?_⟩ | refine ⟨_, ⟨by (try dsimp only at *); omega, str_at (by (try dsimp only at *); (try simp only [List.length_map] at *); omega)⟩, ?_⟩ | refine ⟨(rfl : look _ _ = look _ _), ?_⟩ | fail) <;> ((conv => whnf); repeat' (refine vcC_go tok {} rfl ?_; conv => whnf)))
      refine ⟨_, ⟨hr.1, getN_at Mat.cells hlt, rfl⟩, ?_⟩
      ((conv => whnf); repeat' (refine vcC_go tok {} rfl ?_; conv => whnf))
      have hkk := kind_eq hr.1 hlt
      repeat' ((first | (intro hlq; (try simp only [List.length_map, maxLen] at hlq)) | ((refine ⟨fun (hb : _ = true) => ?_, fun (hb : _ = false) => ?_⟩) <;> (try simp only [BB, List.length_map] at hb)) | refine ⟨fun h1 h2 => ⟨by have := h1.1; have := h1.2; have := h2.1; have := h2.2; (try dsimp only at *); first | omega | (simp only [List.length_map] at *; omega), by have := h1.1; have := h1.2; have := h2.1; have := h2.2; (try dsimp only at *); first | omega | (simp only [List.length_map] at *; omega)⟩, ?_⟩ | refine ⟨⟨(by (try dsimp only at *); omega : _ ≤ _), (by (try dsimp only at *); omega : _ < _)⟩, ?_⟩ | refine ⟨_, ⟨by (try dsimp only at *); omega, getD_at _ (by (try dsimp only at *); (try simp only [List.length_map] at *); omega) (rfl), rfl⟩, ?_⟩ | refine ⟨_, ⟨by (try dsimp only at *); omega, getD_at _ (by (try dsimp only at *); (try simp only [List.length_map] at *); omega) (icells_eq _), rfl⟩, ?_⟩ | refine ⟨_, ⟨by (try dsimp only at *); omega, str_at (by (try dsimp only at *); (try simp only [List.length_map] at *); omega)⟩, ?_⟩ | refine ⟨(rfl : look _ _ = look _ _), ?_⟩ | fail) <;> ((conv => whnf); repeat' (refine vcC_go tok {} rfl ?_; conv => whnf)))
      all_goals first
        | (exfalso; rw [ne_eq, decide_eq_decide, hkk] at hb; omega)
        | skip
      refine ⟨⟨⟨_, rfl⟩, hkey⟩, _, hget _, ?_⟩
      ((conv => whnf); repeat' (refine vcC_go tok {} rfl ?_; conv => whnf))
      have hcnt : List.count r[i] (r.take i) ≤ i := by have := List.count_le_length (a := r[i]) (l := r.take i); rw [List.length_take] at this; omega
      repeat' ((first | (intro hlq; (try simp only [List.length_map, maxLen] at hlq)) | refine ⟨fun h1 h2 => ⟨by have := h1.1; have := h1.2; have := h2.1; have := h2.2; (try dsimp only at *); first | omega | (simp only [List.length_map] at *; omega), by have := h1.1; have := h1.2; have := h2.1; have := h2.2; (try dsimp only at *); first | omega | (simp only [List.length_map] at *; omega)⟩, ?_⟩ | refine ⟨⟨(by (try dsimp only at *); omega : _ ≤ _), (by (try dsimp only at *); omega : _ < _)⟩, ?_⟩ | refine ⟨_, ⟨by (try dsimp only at *); omega, getD_at _ (by (try dsimp only at *); (try simp only [List.length_map] at *); omega) (rfl), rfl⟩, ?_⟩ | refine ⟨_, ⟨by (try dsimp only at *); omega, getD_at _ (by (try dsimp only at *); (try simp only [List.length_map] at *); omega) (Cond.cells_eq _), rfl⟩, ?_⟩ | refine ⟨_, ⟨by (try dsimp only at *); omega, str_at (by (try dsimp only at *); (try simp only [List.length_map] at *); omega)⟩, ?_⟩ | refine ⟨(rfl : look _ _ = look _ _), ?_⟩ | fail) <;> ((conv => whnf); repeat' (refine vcC_go tok {} rfl ?_; conv => whnf)))
      refine ⟨⟨⟨_, rfl⟩, hkey⟩, ?_⟩
      ((conv => whnf); repeat' (refine vcC_go tok {} rfl ?_; conv => whnf))
      refine loop_upd tok {} [] (X := Nat × Nat) (fun x => [(10, iB x.1), (9, iB x.2)]) (fun _ => []) [] (fun x => x.1 ≤ c.legs.length ∧ x.2 ≤ x.1 ∧ x.2 = ((c.legs.map fun x => (x.src, x.dst)).take x.1).count (r.getD (i - 1) 0, r[i])) (fun x => c.legs.length - x.1) (0, 0) ?_
      ((conv => whnf); repeat' (refine vcC_go tok {} rfl ?_; conv => whnf))
      refine And.intro ?_ ⟨⟨by dsimp only; omega, by dsimp only; omega, by simp⟩, fun z hΨ => ?_⟩
      · repeat' (first | exact True.intro | exact rfl | refine And.intro ?_ ?_)
      obtain ⟨j, n⟩ := z
      obtain ⟨hj, hnj, hcnt2⟩ := hΨ
      dsimp only at hj hnj hcnt2
      ((conv => whnf); repeat' (refine vcC_go tok {} rfl ?_; conv => whnf))
      repeat' ((first | (intro hlq; (try simp only [List.length_map, maxLen] at hlq)) | ((refine ⟨fun (hb : _ = true) => ?_, fun (hb : _ = false) => ?_⟩) <;> (try simp only [BB, List.length_map] at hb)) | refine ⟨fun h1 h2 => ⟨by have := h1.1; have := h1.2; have := h2.1; have := h2.2; (try dsimp only at *); first | omega | (simp only [List.length_map] at *; omega), by have := h1.1; have := h1.2; have := h2.1; have := h2.2; (try dsimp only at *); first | omega | (simp only [List.length_map] at *; omega)⟩, ?_⟩ | refine ⟨⟨(by (try dsimp only at *); omega : _ ≤ _), (by (try dsimp only at *); omega : _ < _)⟩, ?_⟩ | refine ⟨_, ⟨by (try dsimp only at *); omega, getD_at _ (by (try dsimp only at *); (try simp only [List.length_map] at *); omega) (rfl), rfl⟩, ?_⟩ | refine ⟨_, ⟨by (try dsimp only at *); omega, getD_at _ (by (try dsimp only at *); (try simp only [List.length_map] at *); omega) (Cond.cells_eq _), rfl⟩, ?_⟩ | refine ⟨_, ⟨by (try dsimp only at *); omega, str_at (by (try dsimp only at *); (try simp only [List.length_map] at *); omega)⟩, ?_⟩ | refine ⟨(rfl : look _ _ = look _ _), ?_⟩ | fail) <;> ((conv => whnf); repeat' (refine vcC_go tok {} rfl ?_; conv => whnf)))
      all_goals first
        | (exfalso; (try dsimp only at *); omega)
        | (exfalso
           (try dsimp only at *)
           have e : c.legs.length ≤ j := by omega
           rw [List.take_of_length_le (by simpa using e), leg_one hn.legsN (hp.2.2.resolve_left (by omega))] at hcnt2
           omega)
        | (refine ⟨⟨(i + 1, mput lm (iD r[i]) (iD ((List.count r[i] (r.take i) : Int) + 1))), ?_, ⟨by (try dsimp only at *); omega, ?_, imap_keys hkey⟩, by (try dsimp only at *); omega⟩⟩
           · repeat' (first | exact True.intro | exact rfl | refine And.intro ?_ ?_)
           · dsimp only
             rw [List.take_succ_eq_append_getElem h1']
             exact imap_put hget)
        | skip
      have hjl : j < c.legs.length := by (try dsimp only at *); omega
      have hi0 : 0 < i := by (try dsimp only at *); omega
      have hpr := getD_pred hi0 h1'
      refine draw_rule tok (cf := {}) (by kernel_rfl) [.p 0, .p 1, .p 2, .p 3, .p 4, .p 5, .p 6, .p 7, .p 8, .p 9, .p 10, .p 11, .p 12, .p 13, .p 14, .p 15, .p 16, .p 17, .p 18, .p 19, .p 20, .p 21, .p 22, .p 23, .p 24] (by kernel_rfl) ?_
      ((conv => whnf); repeat' (refine vcC_go tok {} rfl ?_; conv => whnf))
      repeat' ((first | (intro hlq; (try simp only [List.length_map, maxLen] at hlq)) | ((refine ⟨fun (hb : _ = true) => ?_, fun (hb : _ = false) => ?_⟩) <;> (try simp only [BB, List.length_map] at hb)) | refine ⟨fun h1 h2 => ⟨by have := h1.1; have := h1.2; have := h2.1; have := h2.2; (try dsimp only at *); first | omega | (simp only [List.length_map] at *; omega), by have := h1.1; have := h1.2; have := h2.1; have := h2.2; (try dsimp only at *); first | omega | (simp only [List.length_map] at *; omega)⟩, ?_⟩ | refine ⟨⟨(by (try dsimp only at *); omega : _ ≤ _), (by (try dsimp only at *); omega : _ < _)⟩, ?_⟩ | refine ⟨_, ⟨by (try dsimp only at *); omega, getD_at _ (by (try dsimp only at *); (try simp only [List.length_map] at *); omega) (rfl), rfl⟩, ?_⟩ | refine ⟨_, ⟨by (try dsimp only at *); omega, getD_at _ (by (try dsimp only at *); (try simp only [List.length_map] at *); omega) (Leg.cells_eq _), rfl⟩, ?_⟩ | refine ⟨_, ⟨by (try dsimp only at *); omega, getD_at _ (by (try dsimp only at *); (try simp only [List.length_map] at *); omega) (icells_eq _), rfl⟩, ?_⟩ | refine ⟨_, ⟨by (try dsimp only at *); omega, str_at (by (try dsimp only at *); (try simp only [List.length_map] at *); omega)⟩, ?_⟩ | refine ⟨(rfl : look _ _ = look _ _), ?_⟩ | fail) <;> ((conv => whnf); repeat' (refine vcC_go tok {} rfl ?_; conv => whnf)))
      refine ⟨_, ⟨by dsimp only; omega, getN_at icells (by dsimp only; omega), rfl⟩, ?_⟩
      ((conv => whnf); repeat' (refine vcC_go tok {} rfl ?_; conv => whnf))
      repeat' ((first | (intro hlq; (try simp only [List.length_map, maxLen] at hlq)) | ((refine ⟨fun (hb : _ = true) => ?_, fun (hb : _ = false) => ?_⟩) <;> (try simp only [BB, List.length_map] at hb)) | refine ⟨fun h1 h2 => ⟨by have := h1.1; have := h1.2; have := h2.1; have := h2.2; (try dsimp only at *); first | omega | (simp only [List.length_map] at *; omega), by have := h1.1; have := h1.2; have := h2.1; have := h2.2; (try dsimp only at *); first | omega | (simp only [List.length_map] at *; omega)⟩, ?_⟩ | refine ⟨⟨(by (try dsimp only at *); omega : _ ≤ _), (by (try dsimp only at *); omega : _ < _)⟩, ?_⟩ | refine ⟨_, ⟨by (try dsimp only at *); omega, getD_at _ (by (try dsimp only at *); (try simp only [List.length_map] at *); omega) (rfl), rfl⟩, ?_⟩ | refine ⟨_, ⟨by (try dsimp only at *); omega, getD_at _ (by (try dsimp only at *); (try simp only [List.length_map] at *); omega) (Leg.cells_eq _), rfl⟩, ?_⟩ | refine ⟨_, ⟨by (try dsimp only at *); omega, getD_at _ (by (try dsimp only at *); (try simp only [List.length_map] at *); omega) (icells_eq _), rfl⟩, ?_⟩ | refine ⟨_, ⟨by (try dsimp only at *); omega, str_at (by (try dsimp only at *); (try simp only [List.length_map] at *); omega)⟩, ?_⟩ | refine ⟨(rfl : look _ _ = look _ _), ?_⟩ | fail) <;> ((conv => whnf); repeat' (refine vcC_go tok {} rfl ?_; conv => whnf)))
      all_goals first
        | (refine ⟨⟨(j + 1, n + 1), ?_, ⟨by dsimp only; omega, by dsimp only; omega, ?_⟩, by dsimp only; omega⟩⟩
           · repeat' (first | exact True.intro | exact rfl | refine And.intro ?_ ?_)
           · dsimp only
             rw [leg_step hjl, ← hcnt2, hpr, if_pos ⟨by assumption, by assumption⟩])
        | (refine ⟨⟨(j + 1, n), ?_, ⟨by dsimp only; omega, by dsimp only; omega, ?_⟩, by dsimp only; omega⟩⟩
           · repeat' (first | exact True.intro | exact rfl | refine And.intro ?_ ?_)
           · dsimp only
             rw [leg_step hjl, ← hcnt2, hpr, if_neg (fun hh => by first | exact absurd hh.1 (by assumption) | exact absurd hh.2 (by assumption))]
             rfl)
    rw [List.take_of_length_le (by omega)] at hget
    refine loop_upd tok {} [] (X := Nat) (fun k => [(11, iB k)]) (fun _ => []) [] (fun k => k ≤ c.distances[i0].cutoffs.length) (fun k => c.distances[i0].cutoffs.length - k) 0 ?_
    ((conv => whnf); repeat' (refine vcC_go tok {} rfl ?_; conv => whnf))
    refine And.intro ?_ ⟨by omega, fun k hk => ?_⟩
    · repeat' (first | exact True.intro | exact rfl | refine And.intro ?_ ?_)
    ((conv => whnf); repeat' (refine vcC_go tok {} rfl ?_; conv => whnf))
    repeat' ((first | (intro hlq; (try simp only [List.length_map, maxLen] at hlq)) | refine ⟨fun h1 h2 => ⟨by have := h1.1; have := h1.2; have := h2.1; have := h2.2; (try dsimp only at *); first | omega | (simp only [List.length_map] at *; omega), by have := h1.1; have := h1.2; have := h2.1; have := h2.2; (try dsimp only at *); first | omega | (simp only [List.length_map] at *; omega)⟩, ?_⟩ | refine ⟨⟨(by (try dsimp only at *); omega : _ ≤ _), (by (try dsimp only at *); omega : _ < _)⟩, ?_⟩ | refine ⟨_, ⟨by (try dsimp only at *); omega, getD_at _ (by (try dsimp only at *); (try simp only [List.length_map] at *); omega) (rfl), rfl⟩, ?_⟩ | refine ⟨_, ⟨by (try dsimp only at *); omega, getD_at _ (by (try dsimp only at *); (try simp only [List.length_map] at *); omega) (Cond.cells_eq _), rfl⟩, ?_⟩ | refine ⟨_, ⟨by (try dsimp only at *); omega, str_at (by (try dsimp only at *); (try simp only [List.length_map] at *); omega)⟩, ?_⟩ | refine ⟨(rfl : look _ _ = look _ _), ?_⟩ | fail) <;> ((conv => whnf); repeat' (refine vcC_go tok {} rfl ?_; conv => whnf)))
    refine ⟨fun h3 => ?_, fun h3 => ?_⟩ <;> (try simp only [BB, List.length_map] at h3) <;> ((conv => whnf); repeat' (refine vcC_go tok {} rfl ?_; conv => whnf))
    · have h3' : k < c.distances[i0].cutoffs.length := by omega
      have hck := hcut _ (List.getElem_mem h3')
      simp only [cutOk, decide_eq_true_eq] at hck
      refine draw_rule tok (cf := {}) (by kernel_rfl) [.p 0, .p 1, .p 2, .p 3, .p 4, .p 5, .p 6, .p 7, .p 8, .p 9, .p 10, .p 11, .p 12, .p 13, .p 14] (by kernel_rfl) ?_
      ((conv => whnf); repeat' (refine vcC_go tok {} rfl ?_; conv => whnf))
      repeat' ((first | (intro hlq; (try simp only [List.length_map, maxLen] at hlq)) | ((refine ⟨fun (hb : _ = true) => ?_, fun (hb : _ = false) => ?_⟩) <;> (try simp only [BB, List.length_map] at hb)) | refine ⟨fun h1 h2 => ⟨by have := h1.1; have := h1.2; have := h2.1; have := h2.2; (try dsimp only at *); first | omega | (simp only [List.length_map] at *; omega), by have := h1.1; have := h1.2; have := h2.1; have := h2.2; (try dsimp only at *); first | omega | (simp only [List.length_map] at *; omega)⟩, ?_⟩ | refine ⟨⟨(by (try dsimp only at *); omega : _ ≤ _), (by (try dsimp only at *); omega : _ < _)⟩, ?_⟩ | refine ⟨_, ⟨by (try dsimp only at *); omega, getD_at _ (by (try dsimp only at *); (try simp only [List.length_map] at *); omega) (rfl), rfl⟩, ?_⟩ | refine ⟨_, ⟨by (try dsimp only at *); omega, getD_at _ (by (try dsimp only at *); (try simp only [List.length_map] at *); omega) (Cutoff.cells_eq _), rfl⟩, ?_⟩ | refine ⟨_, ⟨by (try dsimp only at *); omega, str_at (by (try dsimp only at *); (try simp only [List.length_map] at *); omega)⟩, ?_⟩ | refine ⟨(rfl : look _ _ = look _ _), ?_⟩ | fail) <;> ((conv => whnf); repeat' (refine vcC_go tok {} rfl ?_; conv => whnf)))
      refine ⟨⟨⟨_, rfl⟩, hkey⟩, _, hget _, ?_⟩
      ((conv => whnf); repeat' (refine vcC_go tok {} rfl ?_; conv => whnf))
      repeat' ((first | (intro hlq; (try simp only [List.length_map, maxLen] at hlq)) | ((refine ⟨fun (hb : _ = true) => ?_, fun (hb : _ = false) => ?_⟩) <;> (try simp only [BB, List.length_map] at hb)) | refine ⟨fun h1 h2 => ⟨by have := h1.1; have := h1.2; have := h2.1; have := h2.2; (try dsimp only at *); first | omega | (simp only [List.length_map] at *; omega), by have := h1.1; have := h1.2; have := h2.1; have := h2.2; (try dsimp only at *); first | omega | (simp only [List.length_map] at *; omega)⟩, ?_⟩ | refine ⟨⟨(by (try dsimp only at *); omega : _ ≤ _), (by (try dsimp only at *); omega : _ < _)⟩, ?_⟩ | refine ⟨_, ⟨by (try dsimp only at *); omega, getD_at _ (by (try dsimp only at *); (try simp only [List.length_map] at *); omega) (rfl), rfl⟩, ?_⟩ | refine ⟨_, ⟨by (try dsimp only at *); omega, getD_at _ (by (try dsimp only at *); (try simp only [List.length_map] at *); omega) (Cutoff.cells_eq _), rfl⟩, ?_⟩ | refine ⟨_, ⟨by (try dsimp only at *); omega, str_at (by (try dsimp only at *); (try simp only [List.length_map] at *); omega)⟩, ?_⟩ | refine ⟨(rfl : look _ _ = look _ _), ?_⟩ | fail) <;> ((conv => whnf); repeat' (refine vcC_go tok {} rfl ?_; conv => whnf)))
      all_goals first
        | (exfalso; omega)
        | (refine ⟨⟨k + 1, ?_, by omega, by omega⟩⟩
           repeat' (first | exact True.intro | exact rfl | refine And.intro ?_ ?_))
    · repeat' ((first | (intro hlq; (try simp only [List.length_map, maxLen] at hlq)) | refine ⟨fun h1 h2 => ⟨by have := h1.1; have := h1.2; have := h2.1; have := h2.2; (try dsimp only at *); first | omega | (simp only [List.length_map] at *; omega), by have := h1.1; have := h1.2; have := h2.1; have := h2.2; (try dsimp only at *); first | omega | (simp only [List.length_map] at *; omega)⟩, ?_⟩ | refine ⟨⟨(by (try dsimp only at *); omega : _ ≤ _), (by (try dsimp only at *); omega : _ < _)⟩, ?_⟩ | refine ⟨_, ⟨by (try dsimp only at *); omega, getD_at _ (by (try dsimp only at *); (try simp only [List.length_map] at *); omega) (rfl), rfl⟩, ?_⟩ | refine ⟨_, ⟨by (try dsimp only at *); omega, getD_at _ (by (try dsimp only at *); (try simp only [List.length_map] at *); omega) (Cond.cells_eq _), rfl⟩, ?_⟩ | refine ⟨_, ⟨by (try dsimp only at *); omega, str_at (by (try dsimp only at *); (try simp only [List.length_map] at *); omega)⟩, ?_⟩ | refine ⟨(rfl : look _ _ = look _ _), ?_⟩ | fail) <;> ((conv => whnf); repeat' (refine vcC_go tok {} rfl ?_; conv => whnf)))
      refine ⟨⟨i0 + 1, ?_, by omega, by omega⟩⟩
      repeat' (first | exact True.intro | exact rfl | refine And.intro ?_ ?_)
  repeat' ((first | (intro hlq; (try simp only [List.length_map, maxLen] at hlq)) | ((refine ⟨fun (hb : _ = true) => ?_, fun (hb : _ = false) => ?_⟩) <;> (try simp only [BB, List.length_map] at hb)) | refine ⟨fun h1 h2 => ⟨by have := h1.1; have := h1.2; have := h2.1; have := h2.2; (try dsimp only at *); first | omega | (simp only [List.length_map] at *; omega), by have := h1.1; have := h1.2; have := h2.1; have := h2.2; (try dsimp only at *); first | omega | (simp only [List.length_map] at *; omega)⟩, ?_⟩ | refine ⟨⟨(by (try dsimp only at *); omega : _ ≤ _), (by (try dsimp only at *); omega : _ < _)⟩, ?_⟩ | refine ⟨_, ⟨by (try dsimp only at *); omega, getD_at _ (by (try dsimp only at *); (try simp only [List.length_map] at *); omega) (rfl), rfl⟩, ?_⟩ | refine ⟨_, ⟨by (try dsimp only at *); omega, getD_at _ (by (try dsimp only at *); (try simp only [List.length_map] at *); omega) (Cond.cells_eq _), rfl⟩, ?_⟩ | refine ⟨_, ⟨by (try dsimp only at *); omega, str_at (by (try dsimp only at *); (try simp only [List.length_map] at *); omega)⟩, ?_⟩ | refine ⟨(rfl : look _ _ = look _ _), ?_⟩ | fail) <;> ((conv => whnf); repeat' (refine vcC_go tok {} rfl ?_; conv => whnf)))
  all_goals exact ⟨rfl⟩
end Go.Proofs.YtiejhmfeppflaaaGreat.Dx
