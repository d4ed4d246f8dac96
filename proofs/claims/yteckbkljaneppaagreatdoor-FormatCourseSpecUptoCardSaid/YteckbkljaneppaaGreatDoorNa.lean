/- Is a route possible? In the reference. -/
import Derived.Test.YteckbkljaneppaaGreatDoorMz
set_option linter.all false
namespace Go.Proofs.YteckbkljaneppaaGreatDoor.Dx
open Go Go.RowKit
set_option maxRecDepth 100000
set_option maxHeartbeats 16000000
theorem often_meets (l : List Int) (n : Int) : Meets Tryz.prog 147 [.sl (l.map icells), iD n] fun d => d = iD (l.count n) := by
 refine enter tok {} Tryz.func147 rfl (by kernel_rfl) Tryz.ntmps147 (by simp) fun B0 W0 V0 lent g0 => ?_
 ((conv => whnf); repeat' (refine Z rfl ?_; conv => whnf))
 refine loop_upd tok {} [] (X := Nat × Int) (fun x => [(6, iB x.1), (5, iB x.2)]) (fun _ => []) [] (fun x => x.1 ≤ l.length ∧ x.2 = ((l.take x.1).count n : Int)) (fun x => l.length - x.1) (0, 0) ?_
 ((conv => whnf); repeat' (refine Z rfl ?_; conv => whnf))
 refine And.intro ?_ ⟨⟨by omega, by simp⟩, fun x hΦ => ?_⟩
 · exact Kr
 obtain ⟨i, k⟩ := x
 obtain ⟨hi, hk⟩ := hΦ
 dsimp only at hi hk
 subst hk
 ((conv => whnf); repeat' (refine Z rfl ?_; conv => whnf))
 repeat' ((first | (intro hlq; (try simp only [SL] at hlq)) | refine Ka ?_ | refine Kb ?_ | refine Kc (hd := rfl) (e := ?_) | refine Kc (hd := Cond.cells_eq _) (e := ?_) | refine Kd (e := ?_) | refine Kl rfl ?_ | fail) <;> ((conv => whnf); repeat' (refine Z rfl ?_; conv => whnf)))
 refine ⟨fun h1 => ?_, fun h1 => ?_⟩ <;> (try simp only [BL] at h1) <;> ((conv => whnf); repeat' (refine Z rfl ?_; conv => whnf))
 · have h1' : i < l.length := by omega
   have hc := List.count_le_length (a := n) (l := l.take i)
   rw [List.length_take] at hc
   have hs : (l.take (i + 1)).count n = (l.take i).count n + if l[i] = n then 1 else 0 := by
    rw [List.take_succ_eq_append_getElem h1', List.count_append, List.count_singleton]
    simp
   repeat' ((first | (intro hlq; (try simp only [SL] at hlq)) | refine Ka ?_ | refine Kb ?_ | refine Kc (hd := rfl) (e := ?_) | refine Kc (hd := icells_eq _) (e := ?_) | refine Kd (e := ?_) | refine Kl rfl ?_ | fail) <;> ((conv => whnf); repeat' (refine Z rfl ?_; conv => whnf)))
   refine ⟨fun h2 => ?_, fun h2 => ?_⟩ <;> (try simp only [BL] at h2) <;> ((conv => whnf); repeat' (refine Z rfl ?_; conv => whnf))
   · (try dsimp only at h2)
     rw [if_pos h2] at hs
     repeat' ((first | (intro hlq; (try simp only [SL] at hlq)) | refine Ka ?_ | refine Kb ?_ | refine Kc (hd := rfl) (e := ?_) | refine Kc (hd := Cond.cells_eq _) (e := ?_) | refine Kd (e := ?_) | refine Kl rfl ?_ | fail) <;> ((conv => whnf); repeat' (refine Z rfl ?_; conv => whnf)))
     refine ⟨⟨(i + 1, ((l.take i).count n : Int) + 1), ?_, ⟨by (try dsimp only at *); omega, by dsimp only; rw [hs]; rfl⟩, by (try dsimp only at *); omega⟩⟩
     repeat' (first | exact True.intro | exact rfl | refine And.intro ?_ ?_)
   · (try dsimp only at h2)
     rw [if_neg h2] at hs
     repeat' ((first | (intro hlq; (try simp only [SL] at hlq)) | refine Ka ?_ | refine Kb ?_ | refine Kc (hd := rfl) (e := ?_) | refine Kc (hd := Cond.cells_eq _) (e := ?_) | refine Kd (e := ?_) | refine Kl rfl ?_ | fail) <;> ((conv => whnf); repeat' (refine Z rfl ?_; conv => whnf)))
     refine ⟨⟨(i + 1, ((l.take i).count n : Int)), ?_, ⟨by (try dsimp only at *); omega, by dsimp only; rw [hs]; rfl⟩, by (try dsimp only at *); omega⟩⟩
     repeat' (first | exact True.intro | exact rfl | refine And.intro ?_ ?_)
 · refine ⟨congrArg iD ?_⟩
   rw [List.take_of_length_le (by (try dsimp only at *); omega)]
theorem leg_mem (c : Course) (a b : Int) : c.leg a b = c.legs.any fun l => decide (l.src = a ∧ l.dst = b) := by
 rw [Bool.eq_iff_iff, Course.leg, decide_eq_true_eq, List.any_eq_true]
 simp
theorem rLeg_meets (c : Course) (a b : Int) : Meets Tryz.prog 146 [c.d, iD a, iD b] fun d => ∃ n : Int, d = iD n ∧ decide (n < 0) = !c.leg a b := by
 refine enter tok {} Tryz.func146 rfl (by kernel_rfl) Tryz.ntmps146 (by simp) fun B0 W0 V0 lent g0 => ?_
 ((conv => whnf); repeat' (refine Z rfl ?_; conv => whnf))
 refine loop_upd tok {} [] (X := Nat) (fun i => [(7, iB i)]) (fun _ => []) [] (fun i => i ≤ c.legs.length ∧ ∀ x ∈ c.legs.take i, decide (x.src = a ∧ x.dst = b) = false) (fun i => c.legs.length - i) 0 ?_
 ((conv => whnf); repeat' (refine Z rfl ?_; conv => whnf))
 refine And.intro ?_ ⟨⟨by omega, by simp⟩, fun i hΦ => ?_⟩
 · exact Kr
 obtain ⟨hi, hp⟩ := hΦ
 ((conv => whnf); repeat' (refine Z rfl ?_; conv => whnf))
 repeat' ((first | (intro hlq; (try simp only [SL] at hlq)) | refine Ka ?_ | refine Kb ?_ | refine Kc (hd := rfl) (e := ?_) | refine Kc (hd := Cond.cells_eq _) (e := ?_) | refine Kd (e := ?_) | refine Kl rfl ?_ | fail) <;> ((conv => whnf); repeat' (refine Z rfl ?_; conv => whnf)))
 refine ⟨fun h1 => ?_, fun h1 => ?_⟩ <;> (try simp only [BL] at h1) <;> ((conv => whnf); repeat' (refine Z rfl ?_; conv => whnf))
 · have h1' : i < c.legs.length := by omega
   repeat' ((first | (intro hlq; (try simp only [SL] at hlq)) | ((refine Kh (fun hb => ?_) fun hb => ?_) <;> (try simp only [BL] at hb)) | refine Ka ?_ | refine Kb ?_ | refine Kc (hd := rfl) (e := ?_) | refine Kc (hd := Leg.cells_eq _) (e := ?_) | refine Kd (e := ?_) | refine Kl rfl ?_ | fail) <;> ((conv => whnf); repeat' (refine Z rfl ?_; conv => whnf)))
   all_goals first
    | (refine ⟨_, rfl, ?_⟩
       rw [leg_mem, List.any_eq_true.2 ⟨_, List.getElem_mem h1', by simp [*]⟩]
       simp
       done)
    | (refine ⟨⟨i + 1, ?_, ⟨by omega, take_snoc h1' hp ?_⟩, by omega⟩⟩
       · exact Kr
       simp [*])
 · refine ⟨_, rfl, ?_⟩
   rw [List.take_of_length_le (by omega)] at hp
   rw [leg_mem, any_take hp]
   decide
theorem rroute_meets (c : Course) (d : Distance) (hc : c.small) (hn : NumsOk c) (hd : d ∈ c.distances) : Meets Tryz.prog 72 [c.d, d.d] fun r => r = bD (routeOk c d) := by
 have hmats := hc.mats
 have hdg := hn.distances d hd
 simp only [Distance.good, Bool.and_eq_true, List.all_eq_true] at hdg
 have hmem := exL_mem c.m d.route [] hdg.2.2.1 (by simp)
 have hlen := exL_len d.route [] _ (Nat.le_refl _) (by simp)
 have hdl := Part.deepL_le d.route
 have hct := hc.route d hd
 have hm1 : c.m = c.mats.length - 1 := by simp [Course.m]
 have hx := hdg.2.1
 simp only [inR, Bool.and_eq_true, decide_eq_true_eq] at hx
 refine enter tok {} Tryz.func72 rfl (by kernel_rfl) Tryz.ntmps72 (by simp) fun B0 W0 V0 lent g0 => ?_
 ((conv => whnf); repeat' (refine Z rfl ?_; conv => whnf))
 refine Meets.k (rExpand_meets c.m d.route hdg.2.2.1 hct) ?_
 rw [routeOk]
 generalize Part.exL d.route [] = r at *
 ((conv => whnf); repeat' (refine Z rfl ?_; conv => whnf))
 repeat' ((first | (intro hlq; (try simp only [SL] at hlq)) | ((refine Kh (fun hb => ?_) fun hb => ?_) <;> (try simp only [BL] at hb)) | refine Ka ?_ | refine Kb ?_ | refine Kc (hd := rfl) (e := ?_) | refine Kc (hd := Cond.cells_eq _) (e := ?_) | refine Kd (e := ?_) | refine Kl rfl ?_ | fail) <;> ((conv => whnf); repeat' (refine Z rfl ?_; conv => whnf)))
 · refine ⟨congrArg bD ?_⟩
   rw [decide_eq_false (by omega : ¬ r.length ≥ 2)]; rfl
 · refine ⟨congrArg bD ?_⟩
   rw [decide_eq_false (by omega : ¬ r.length ≤ 256), Bool.and_false]; rfl
 rw [decide_eq_true (by omega : r.length ≥ 2), decide_eq_true (by omega : r.length ≤ 256), Bool.true_and, Bool.true_and]
 refine loop_upd tok {} [] (X := Nat) (fun i => [(7, iB i)]) (fun _ => []) [] (fun i => i ≤ r.length ∧ ∀ j, j < i → posOk c r j = true) (fun i => r.length - i) 0 ?_
 ((conv => whnf); repeat' (refine Z rfl ?_; conv => whnf))
 refine And.intro ?_ ⟨⟨by omega, fun j hj => by omega⟩, fun i hΦ => ?_⟩
 · exact Kr
 obtain ⟨hi, hpos⟩ := hΦ
 ((conv => whnf); repeat' (refine Z rfl ?_; conv => whnf))
 refine ⟨fun h1 => ?_, fun h1 => ?_⟩ <;> (try simp only [BL] at h1) <;> ((conv => whnf); repeat' (refine Z rfl ?_; conv => whnf))
 · have h1' : i < r.length := by omega
   have hr := hmem _ (List.getElem_mem h1')
   have hlt : r[i].toNat < c.mats.length := by omega
   have hgd : r.getD i 0 = r[i] := by simp [List.getD, List.getElem?_eq_getElem h1']
   have next : posOk c r i = true → ∀ j, j < i + 1 → posOk c r j = true := fun h j hj => by
    rcases Nat.lt_or_ge j i with h2 | h2
    · exact hpos j h2
    · obtain rfl : j = i := by omega
      exact h
   have badKind : ∀ {w : Int}, r.getD i 0 = r[i] → (if i = 0 then (1 : Int) else if i + 1 = r.length then 3 else 2) = w → c.kind r[i] ≠ w → Done (bD false = bD ((List.range r.length).all (posOk c r) && (extraOk c r d.extra && d.cutoffs.all (cutOk r)))) := by
    intro w h2 h3 h4
    have hf : posOk c r i = false := by
     rw [posOk, h2, h3, decide_eq_false h4]; rfl
    refine ⟨congrArg bD ?_⟩
    rw [posOk_all hf h1']; rfl
   repeat' ((first | (intro hlq; (try simp only [SL] at hlq)) | ((refine Kh (fun hb => ?_) fun hb => ?_) <;> (try simp only [BL] at hb)) | refine Ka ?_ | refine Kb ?_ | refine Kc (hd := rfl) (e := ?_) | refine Kc (hd := Cond.cells_eq _) (e := ?_) | refine Kd (e := ?_) | refine Kl rfl ?_ | fail) <;> ((conv => whnf); repeat' (refine Z rfl ?_; conv => whnf)))
   · (try dsimp only at *)
     refine draw_rule tok (cf := {}) (by kernel_rfl) [.p 0, .p 1, .p 2, .p 3, .p 4, .p 5, .p 6, .p 7, .p 8, .p 9, .p 10, .p 11, .p 12, .p 13, .p 14, .p 15, .p 16, .p 17, .p 18, .p 19, .p 20, .p 21, .p 22, .p 23, .p 24, .s 25 [15,20,24,14,19,23,13,11,16,18,21,22,12,10,17,8,9,7,6,1,5,0,4,2,3], .p 26, .p 27, .p 28] (by kernel_rfl) ?_
     ((conv => whnf); repeat' (refine Z rfl ?_; conv => whnf))
     repeat' ((first | (intro hlq; (try simp only [SL] at hlq)) | refine Ka ?_ | refine Kb ?_ | refine Kc (hd := rfl) (e := ?_) | refine Kc (hd := icells_eq _) (e := ?_) | refine Kd (e := ?_) | refine Kl rfl ?_ | fail) <;> ((conv => whnf); repeat' (refine Z rfl ?_; conv => whnf)))
     refine ⟨_, ⟨hr.1, getN_at Mat.cells hlt, rfl⟩, ?_⟩
     ((conv => whnf); repeat' (refine Z rfl ?_; conv => whnf))
     rw [show c.mats[r[i].toNat].kind = c.kind r[i] from kind_eq hr.1 hlt]
     repeat' ((first | (intro hlq; (try simp only [SL] at hlq)) | ((refine Kh (fun hb => ?_) fun hb => ?_) <;> (try simp only [BL] at hb)) | refine Ka ?_ | refine Kb ?_ | refine Kc (hd := rfl) (e := ?_) | refine Kc (hd := icells_eq _) (e := ?_) | refine Kd (e := ?_) | refine Kl rfl ?_ | fail) <;> ((conv => whnf); repeat' (refine Z rfl ?_; conv => whnf)))
     all_goals (try (exfalso; omega))
     · exact badKind hgd (by rw [if_pos (by omega)]) (by assumption)
     · refine ⟨⟨i + 1, ?_, ⟨by omega, next ?_⟩, by omega⟩⟩
       · exact Kr
       rw [posOk, hgd, decide_eq_true (by omega : i = 0), Bool.true_or, Bool.and_true, decide_eq_true_eq]
       rw [if_pos (by omega)]; omega
   · (try dsimp only at *)
     refine draw_rule tok (cf := {}) (by kernel_rfl) [.p 0, .p 1, .p 2, .p 3, .p 4, .p 5, .p 6, .p 7, .p 8, .p 9, .p 10, .p 11, .p 12, .p 13, .p 14, .p 15, .p 16, .p 17, .p 18, .p 19, .p 20, .p 21, .p 22, .p 23, .p 24, .s 25 [15,20,24,14,19,23,13,11,16,18,21,22,12,10,17,8,9,7,6,1,5,0,4,2,3], .p 26, .p 27, .p 28] (by kernel_rfl) ?_
     ((conv => whnf); repeat' (refine Z rfl ?_; conv => whnf))
     repeat' ((first | (intro hlq; (try simp only [SL] at hlq)) | refine Ka ?_ | refine Kb ?_ | refine Kc (hd := rfl) (e := ?_) | refine Kc (hd := icells_eq _) (e := ?_) | refine Kd (e := ?_) | refine Kl rfl ?_ | fail) <;> ((conv => whnf); repeat' (refine Z rfl ?_; conv => whnf)))
     refine ⟨_, ⟨hr.1, getN_at Mat.cells hlt, rfl⟩, ?_⟩
     ((conv => whnf); repeat' (refine Z rfl ?_; conv => whnf))
     rw [show c.mats[r[i].toNat].kind = c.kind r[i] from kind_eq hr.1 hlt]
     repeat' ((first | (intro hlq; (try simp only [SL] at hlq)) | ((refine Kh (fun hb => ?_) fun hb => ?_) <;> (try simp only [BL] at hb)) | refine Ka ?_ | refine Kb ?_ | refine Kc (hd := rfl) (e := ?_) | refine Kc (hd := icells_eq _) (e := ?_) | refine Kd (e := ?_) | refine Kl rfl ?_ | fail) <;> ((conv => whnf); repeat' (refine Z rfl ?_; conv => whnf)))
     all_goals (try (exfalso; omega))
     · exact badKind hgd (by rw [if_neg (by omega), if_pos (by omega)]) (by assumption)
     · have hp0 : 0 < i := by omega
       have hpr := getD_pred hp0 h1'
       refine ⟨_, ⟨by omega, getN_at icells (by omega), rfl⟩, ?_⟩
       ((conv => whnf); repeat' (refine Z rfl ?_; conv => whnf))
       repeat' ((first | (intro hlq; (try simp only [SL] at hlq)) | refine Ka ?_ | refine Kb ?_ | refine Kc (hd := rfl) (e := ?_) | refine Kc (hd := icells_eq _) (e := ?_) | refine Kd (e := ?_) | refine Kl rfl ?_ | fail) <;> ((conv => whnf); repeat' (refine Z rfl ?_; conv => whnf)))
       rw [← hpr]
       refine (rLeg_meets c (r.getD (i - 1) 0) r[i]).mono fun e he => ?_
       obtain ⟨n, rfl, hn'⟩ := he
       ((conv => whnf); repeat' (refine Z rfl ?_; conv => whnf))
       repeat' ((first | (intro hlq; (try simp only [SL] at hlq)) | ((refine Kh (fun hb => ?_) fun hb => ?_) <;> (try simp only [BL] at hb)) | refine Ka ?_ | refine Kb ?_ | refine Kc (hd := rfl) (e := ?_) | refine Kc (hd := Cond.cells_eq _) (e := ?_) | refine Kd (e := ?_) | refine Kl rfl ?_ | fail) <;> ((conv => whnf); repeat' (refine Z rfl ?_; conv => whnf)))
       · have hl : c.leg (r.getD (i - 1) 0) r[i] = false := by
          have := decide_eq_true (by assumption : n < 0)
          rw [hn'] at this
          simpa using this
         have hf : posOk c r i = false := by
          rw [posOk, hgd, hl, decide_eq_false (by omega : ¬ i = 0)]; simp
         refine ⟨congrArg bD ?_⟩
         rw [posOk_all hf h1']; rfl
       · have hl : c.leg (r.getD (i - 1) 0) r[i] = true := by
          have := decide_eq_false (by assumption : ¬ n < 0)
          rw [hn'] at this
          simpa using this
         refine ⟨⟨i + 1, ?_, ⟨by omega, next ?_⟩, by omega⟩⟩
         · exact Kr
         rw [posOk, hgd, hl, Bool.or_true, Bool.and_true, decide_eq_true_eq]
         rw [if_neg (by omega), if_pos (by omega)]; omega
   · (try dsimp only at *)
     refine draw_rule tok (cf := {}) (by kernel_rfl) [.p 0, .p 1, .p 2, .p 3, .p 4, .p 5, .p 6, .p 7, .p 8, .p 9, .p 10, .p 11, .p 12, .p 13, .p 14, .p 15, .p 16, .p 17, .p 18, .p 19, .p 20, .p 21, .p 22, .p 23, .p 24, .s 25 [15,20,24,14,19,23,13,11,16,18,21,22,12,10,17,8,9,7,6,1,5,0,4,2,3], .p 26, .p 27, .p 28] (by kernel_rfl) ?_
     ((conv => whnf); repeat' (refine Z rfl ?_; conv => whnf))
     repeat' ((first | (intro hlq; (try simp only [SL] at hlq)) | refine Ka ?_ | refine Kb ?_ | refine Kc (hd := rfl) (e := ?_) | refine Kc (hd := icells_eq _) (e := ?_) | refine Kd (e := ?_) | refine Kl rfl ?_ | fail) <;> ((conv => whnf); repeat' (refine Z rfl ?_; conv => whnf)))
     refine ⟨_, ⟨hr.1, getN_at Mat.cells hlt, rfl⟩, ?_⟩
     ((conv => whnf); repeat' (refine Z rfl ?_; conv => whnf))
     rw [show c.mats[r[i].toNat].kind = c.kind r[i] from kind_eq hr.1 hlt]
     repeat' ((first | (intro hlq; (try simp only [SL] at hlq)) | ((refine Kh (fun hb => ?_) fun hb => ?_) <;> (try simp only [BL] at hb)) | refine Ka ?_ | refine Kb ?_ | refine Kc (hd := rfl) (e := ?_) | refine Kc (hd := icells_eq _) (e := ?_) | refine Kd (e := ?_) | refine Kl rfl ?_ | fail) <;> ((conv => whnf); repeat' (refine Z rfl ?_; conv => whnf)))
     all_goals (try (exfalso; omega))
     · exact badKind hgd (by rw [if_neg (by omega), if_neg (by omega)]) (by assumption)
     · have hp0 : 0 < i := by omega
       have hpr := getD_pred hp0 h1'
       refine ⟨_, ⟨by omega, getN_at icells (by omega), rfl⟩, ?_⟩
       ((conv => whnf); repeat' (refine Z rfl ?_; conv => whnf))
       repeat' ((first | (intro hlq; (try simp only [SL] at hlq)) | refine Ka ?_ | refine Kb ?_ | refine Kc (hd := rfl) (e := ?_) | refine Kc (hd := icells_eq _) (e := ?_) | refine Kd (e := ?_) | refine Kl rfl ?_ | fail) <;> ((conv => whnf); repeat' (refine Z rfl ?_; conv => whnf)))
       rw [← hpr]
       refine (rLeg_meets c (r.getD (i - 1) 0) r[i]).mono fun e he => ?_
       obtain ⟨n, rfl, hn'⟩ := he
       ((conv => whnf); repeat' (refine Z rfl ?_; conv => whnf))
       repeat' ((first | (intro hlq; (try simp only [SL] at hlq)) | ((refine Kh (fun hb => ?_) fun hb => ?_) <;> (try simp only [BL] at hb)) | refine Ka ?_ | refine Kb ?_ | refine Kc (hd := rfl) (e := ?_) | refine Kc (hd := Cond.cells_eq _) (e := ?_) | refine Kd (e := ?_) | refine Kl rfl ?_ | fail) <;> ((conv => whnf); repeat' (refine Z rfl ?_; conv => whnf)))
       · have hl : c.leg (r.getD (i - 1) 0) r[i] = false := by
          have := decide_eq_true (by assumption : n < 0)
          rw [hn'] at this
          simpa using this
         have hf : posOk c r i = false := by
          rw [posOk, hgd, hl, decide_eq_false (by omega : ¬ i = 0)]; simp
         refine ⟨congrArg bD ?_⟩
         rw [posOk_all hf h1']; rfl
       · have hl : c.leg (r.getD (i - 1) 0) r[i] = true := by
          have := decide_eq_false (by assumption : ¬ n < 0)
          rw [hn'] at this
          simpa using this
         refine ⟨⟨i + 1, ?_, ⟨by omega, next ?_⟩, by omega⟩⟩
         · exact Kr
         rw [posOk, hgd, hl, Bool.or_true, Bool.and_true, decide_eq_true_eq]
         rw [if_neg (by omega), if_neg (by omega)]; omega
 · have hall : (List.range r.length).all (posOk c r) = true := by
    rw [List.all_eq_true]
    intro j hj
    exact hpos j (by have := List.mem_range.1 hj; omega)
   rw [hall, Bool.true_and]
   repeat' ((first | (intro hlq; (try simp only [SL] at hlq)) | ((refine Kh (fun hb => ?_) fun hb => ?_) <;> (try simp only [BL] at hb)) | refine Ka ?_ | refine Kb ?_ | refine Kc (hd := rfl) (e := ?_) | refine Kc (hd := Cond.cells_eq _) (e := ?_) | refine Kd (e := ?_) | refine Kl rfl ?_ | fail) <;> ((conv => whnf); repeat' (refine Z rfl ?_; conv => whnf)))
   · have hlt : d.extra.toNat < c.mats.length := by omega
     refine ⟨_, ⟨by omega, getN_at Mat.cells hlt, rfl⟩, ?_⟩
     ((conv => whnf); repeat' (refine Z rfl ?_; conv => whnf))
     rw [show c.mats[d.extra.toNat].kind = c.kind d.extra from kind_eq (by omega) hlt]
     repeat' ((first | (intro hlq; (try simp only [SL] at hlq)) | refine Meets.k (often_meets r d.extra) ?_ | ((refine Kh (fun hb => ?_) fun hb => ?_) <;> (try simp only [BL] at hb)) | refine Ka ?_ | refine Kb ?_ | refine Kc (hd := rfl) (e := ?_) | refine Kc (hd := Cond.cells_eq _) (e := ?_) | refine Kd (e := ?_) | refine Kl rfl ?_ | fail) <;> ((conv => whnf); repeat' (refine Z rfl ?_; conv => whnf)))
     · refine ⟨congrArg bD ?_⟩
       rw [extraOk, decide_eq_false (by omega), decide_eq_false (by omega : ¬ c.kind d.extra = 2)]; simp
     · refine ⟨congrArg bD ?_⟩
       rw [extraOk, decide_eq_false (by omega), decide_eq_false (by omega : ¬ r.count d.extra > 0)]; rfl
     · refine (rLeg_meets c d.extra d.extra).mono fun e he => ?_
       obtain ⟨n, rfl, hn'⟩ := he
       ((conv => whnf); repeat' (refine Z rfl ?_; conv => whnf))
       repeat' ((first | (intro hlq; (try simp only [SL] at hlq)) | ((refine Kh (fun hb => ?_) fun hb => ?_) <;> (try simp only [BL] at hb)) | refine Ka ?_ | refine Kb ?_ | refine Kc (hd := rfl) (e := ?_) | refine Kc (hd := Cond.cells_eq _) (e := ?_) | refine Kd (e := ?_) | refine Kl rfl ?_ | fail) <;> ((conv => whnf); repeat' (refine Z rfl ?_; conv => whnf)))
       · have hl : c.leg d.extra d.extra = false := by
          have := decide_eq_true (by assumption : n < 0)
          rw [hn'] at this
          simpa using this
         refine ⟨congrArg bD ?_⟩
         rw [extraOk, decide_eq_false (by omega), hl]; simp
       · have hl : c.leg d.extra d.extra = true := by
          have := decide_eq_false (by assumption : ¬ n < 0)
          rw [hn'] at this
          simpa using this
         have hex : extraOk c r d.extra = true := by
          rw [extraOk, hl, decide_eq_true (by omega : r.count d.extra > 0), decide_eq_true (by omega : c.kind d.extra = 2)]; simp
         rw [hex, Bool.true_and]
         refine loop_upd tok {} [] (X := Nat) (fun k => [(9, iB k)]) (fun _ => []) [] (fun k => k ≤ d.cutoffs.length ∧ ∀ x ∈ d.cutoffs.take k, cutOk r x = true) (fun k => d.cutoffs.length - k) 0 ?_
         ((conv => whnf); repeat' (refine Z rfl ?_; conv => whnf))
         refine And.intro ?_ ⟨⟨by omega, by simp⟩, fun k hΨ => ?_⟩
         · exact Kr
         obtain ⟨hk, hcu⟩ := hΨ
         ((conv => whnf); repeat' (refine Z rfl ?_; conv => whnf))
         repeat' ((first | (intro hlq; (try simp only [SL] at hlq)) | refine Ka ?_ | refine Kb ?_ | refine Kc (hd := rfl) (e := ?_) | refine Kc (hd := Cond.cells_eq _) (e := ?_) | refine Kd (e := ?_) | refine Kl rfl ?_ | fail) <;> ((conv => whnf); repeat' (refine Z rfl ?_; conv => whnf)))
         refine ⟨fun h4 => ?_, fun h4 => ?_⟩ <;> (try simp only [BL] at h4) <;> ((conv => whnf); repeat' (refine Z rfl ?_; conv => whnf))
         · have h4' : k < d.cutoffs.length := by omega
           refine draw_rule tok (cf := {}) (by kernel_rfl) [.p 0, .p 1, .p 2, .p 3, .p 4, .p 5, .p 6, .p 8, .p 9, .p 10, .p 11, .p 12, .p 13, .s 7 [0,6,5,4,2,3,1], .p 14] (by kernel_rfl) ?_
           ((conv => whnf); repeat' (refine Z rfl ?_; conv => whnf))
           repeat' ((first | (intro hlq; (try simp only [SL] at hlq)) | refine Meets.k (often_meets r d.cutoffs[k].mat) ?_ | ((refine Kh (fun hb => ?_) fun hb => ?_) <;> (try simp only [BL] at hb)) | refine Ka ?_ | refine Kb ?_ | refine Kc (hd := rfl) (e := ?_) | refine Kc (hd := Cutoff.cells_eq _) (e := ?_) | refine Kd (e := ?_) | refine Kl rfl ?_ | fail) <;> ((conv => whnf); repeat' (refine Z rfl ?_; conv => whnf)))
           · have hf : cutOk r d.cutoffs[k] = false := by
              rw [cutOk, decide_eq_false (by omega)]
             refine ⟨congrArg bD ?_⟩
             rw [all_false (List.getElem_mem h4') hf]
           · have hf : cutOk r d.cutoffs[k] = true := by
              rw [cutOk, decide_eq_true (by omega)]
             refine ⟨⟨k + 1, ?_, ⟨by omega, take_snoc h4' hcu hf⟩, by omega⟩⟩
             repeat' (first | exact True.intro | exact rfl | refine And.intro ?_ ?_)
         · refine ⟨congrArg bD ?_⟩
           rw [all_true (by omega) hcu]
   · skip
     have hex : extraOk c r d.extra = true := by
      rw [extraOk, decide_eq_true (by omega : d.extra = -1)]; simp
     rw [hex, Bool.true_and]
     refine loop_upd tok {} [] (X := Nat) (fun k => [(9, iB k)]) (fun _ => []) [] (fun k => k ≤ d.cutoffs.length ∧ ∀ x ∈ d.cutoffs.take k, cutOk r x = true) (fun k => d.cutoffs.length - k) 0 ?_
     ((conv => whnf); repeat' (refine Z rfl ?_; conv => whnf))
     refine And.intro ?_ ⟨⟨by omega, by simp⟩, fun k hΨ => ?_⟩
     · exact Kr
     obtain ⟨hk, hcu⟩ := hΨ
     ((conv => whnf); repeat' (refine Z rfl ?_; conv => whnf))
     repeat' ((first | (intro hlq; (try simp only [SL] at hlq)) | refine Ka ?_ | refine Kb ?_ | refine Kc (hd := rfl) (e := ?_) | refine Kc (hd := Cond.cells_eq _) (e := ?_) | refine Kd (e := ?_) | refine Kl rfl ?_ | fail) <;> ((conv => whnf); repeat' (refine Z rfl ?_; conv => whnf)))
     refine ⟨fun h4 => ?_, fun h4 => ?_⟩ <;> (try simp only [BL] at h4) <;> ((conv => whnf); repeat' (refine Z rfl ?_; conv => whnf))
     · have h4' : k < d.cutoffs.length := by omega
       refine draw_rule tok (cf := {}) (by kernel_rfl) [.p 0, .p 1, .p 2, .p 3, .p 4, .p 5, .p 6, .p 8, .p 9, .p 10, .p 11, .p 12, .p 13, .s 7 [0,6,5,4,2,3,1], .p 14] (by kernel_rfl) ?_
       ((conv => whnf); repeat' (refine Z rfl ?_; conv => whnf))
       repeat' ((first | (intro hlq; (try simp only [SL] at hlq)) | refine Meets.k (often_meets r d.cutoffs[k].mat) ?_ | ((refine Kh (fun hb => ?_) fun hb => ?_) <;> (try simp only [BL] at hb)) | refine Ka ?_ | refine Kb ?_ | refine Kc (hd := rfl) (e := ?_) | refine Kc (hd := Cutoff.cells_eq _) (e := ?_) | refine Kd (e := ?_) | refine Kl rfl ?_ | fail) <;> ((conv => whnf); repeat' (refine Z rfl ?_; conv => whnf)))
       · have hf : cutOk r d.cutoffs[k] = false := by
          rw [cutOk, decide_eq_false (by omega)]
         refine ⟨congrArg bD ?_⟩
         rw [all_false (List.getElem_mem h4') hf]
       · have hf : cutOk r d.cutoffs[k] = true := by
          rw [cutOk, decide_eq_true (by omega)]
         refine ⟨⟨k + 1, ?_, ⟨by omega, take_snoc h4' hcu hf⟩, by omega⟩⟩
         repeat' (first | exact True.intro | exact rfl | refine And.intro ?_ ?_)
     · refine ⟨congrArg bD ?_⟩
       rw [all_true (by omega) hcu]
end Go.Proofs.YteckbkljaneppaaGreatDoor.Dx
