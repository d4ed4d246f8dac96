/- Numbers of a course, in the reference: all of them. -/
import Derived.Test.YteckbkljaneppaaGreatDoorMx
set_option linter.all false
namespace Go.Proofs.YteckbkljaneppaaGreatDoor.Dx
open Go Go.RowKit
set_option maxRecDepth 100000
set_option maxHeartbeats 16000000
structure NumsOk (c : Course) : Prop where
 mats : ∀ x ∈ c.mats, x.good = true
 legs : ∀ x ∈ c.legs, x.good c.m = true
 legsN : (c.legs.map fun x => (x.src, x.dst)).Nodup
 distances : ∀ x ∈ c.distances, x.good c.m = true
 waves : ∀ x ∈ c.waves, x.good = true
 offences : ∀ x ∈ c.offences, x.good = true
 categories : ∀ x ∈ c.categories, x.good = true
 prizes : ∀ x ∈ c.prizes, x.good (c.distances.length - 1) (c.categories.length - 1) = true
 prizesN : (c.prizes.map fun x => (x.distance, x.category, x.rank)).Nodup
 rest : c.numsB = true
theorem nums_iff (c : Course) : c.nums = true ↔ NumsOk c := by
 simp only [Course.nums, Course.numsA, Bool.and_eq_true, List.all_eq_true, decide_eq_true_eq]
 constructor
 · rintro ⟨⟨h1, h2, h3, h4, h5, h6, h7, h8, h9⟩, h10⟩
   exact ⟨h1, h2, h3, h4, h5, h6, h7, h8, h9, h10⟩
 · rintro ⟨h1, h2, h3, h4, h5, h6, h7, h8, h9, h10⟩
   exact ⟨⟨h1, h2, h3, h4, h5, h6, h7, h8, h9⟩, h10⟩
theorem nf {c : Course} (h : NumsOk c → False) : Done (bD false = bD c.nums) := by
 refine ⟨congrArg bD (Eq.symm ?_)⟩
 rw [Bool.eq_false_iff]
 exact fun e => h ((nums_iff c).1 e)
theorem nodup_step {α β : Type} {f : α → β} {xs : List α} {i : Nat} (h : i < xs.length) (hn : ((xs.take i).map f).Nodup) (hx : ∀ x ∈ xs.take i, f x ≠ f xs[i]) : ((xs.take (i + 1)).map f).Nodup := by
 rw [List.take_succ_eq_append_getElem h, List.map_append, List.map_singleton, List.nodup_append]
 refine ⟨hn, by simp, fun a ha b hb => ?_⟩
 obtain ⟨x, hx1, rfl⟩ := List.mem_map.1 ha
 rw [List.mem_singleton.1 hb]
 exact hx x hx1
theorem nodup_ne {α β : Type} {f : α → β} {xs : List α} {i k : Nat} (h : i < xs.length) (hk : k < i) (hn : (xs.map f).Nodup) (e : f xs[k] = f xs[i]) : False := by
 have := (List.pairwise_iff_getElem.1 hn) k i (by simp; omega) (by simpa using h) hk
 simp only [List.getElem_map] at this
 exact this e
theorem take_of {α : Type} {xs : List α} {i : Nat} {p : α → Prop} (h : ¬ i < xs.length) (hp : ∀ x ∈ xs.take i, p x) : ∀ x ∈ xs, p x := by
 rwa [List.take_of_length_le (by omega)] at hp
theorem off_iff (x : Offence) : x.good = true ↔ (inR 0 68719476736 x.time = true ∧ x.laps = 0 ∧ x.out = false) ∨ (x.time = 0 ∧ inR 1 64 x.laps = true ∧ x.out = false) ∨ (x.time = 0 ∧ x.laps = 0 ∧ x.out = true) := by
 have hz : x.laps = 0 → inR 1 64 x.laps = false := fun e => by rw [e]; rfl
 have hy : x.time = 0 → inR 0 68719476736 x.time = true := fun e => by rw [e]; rfl
 simp only [Offence.good]
 cases x.out <;> by_cases hl : x.laps = 0 <;> by_cases ht : x.time = 0 <;> simp_all
theorem ranges_meets (c : Course) : Meets Tryz.prog 71 [c.d] fun r => r = bD c.nums := by
 refine enter tok {} Tryz.func71 rfl (by kernel_rfl) Tryz.ntmps71 (by simp) fun B0 W0 V0 lent g0 => ?_
 ((conv => whnf); repeat' (refine Z rfl ?_; conv => whnf))
 refine loop_upd tok {} [] (X := Nat) (fun i0 => [(3, iB i0)]) (fun _ => []) [] (fun i0 => i0 ≤ c.mats.length ∧ (∀ x ∈ c.mats.take i0, Mat.good x = true)) (fun i0 => c.mats.length - i0) 0 ?_
 ((conv => whnf); repeat' (refine Z rfl ?_; conv => whnf))
 refine And.intro ?_ ⟨⟨by omega, by simp⟩, fun i0 hΦ => ?_⟩
 · exact Kr
 obtain ⟨hi, hp⟩ := hΦ
 ((conv => whnf); repeat' (refine Z rfl ?_; conv => whnf))
 repeat' ((first | (intro hlq; (try simp only [SL] at hlq)) | refine Ka ?_ | refine Kb ?_ | refine Kc (hd := rfl) (e := ?_) | refine Kc (hd := Cond.cells_eq _) (e := ?_) | refine Kd (e := ?_) | refine Kl rfl ?_ | fail) <;> ((conv => whnf); repeat' (refine Z rfl ?_; conv => whnf)))
 refine ⟨fun h1 => ?_, fun h1 => ?_⟩ <;> (try simp only [BL] at h1) <;> ((conv => whnf); repeat' (refine Z rfl ?_; conv => whnf))
 · have h1' : i0 < c.mats.length := by omega
   repeat' ((first | (intro hlq; (try simp only [SL] at hlq)) | refine Meets.k (in_meets c.mats[i0].kind 1 3) ?_ | ((refine Kh (fun hb => ?_) fun hb => ?_) <;> (try simp only [BL] at hb)) | refine Ka ?_ | refine Kb ?_ | refine Kc (hd := rfl) (e := ?_) | refine Kc (hd := Mat.cells_eq _) (e := ?_) | refine Kd (e := ?_) | refine Kl rfl ?_ | fail) <;> ((conv => whnf); repeat' (refine Z rfl ?_; conv => whnf)))
   all_goals first
    | (refine nf fun h => ?_
       have hg := h.mats _ (List.getElem_mem h1')
       clear hp h
       simp_all [Mat.good]
       done)
    | (refine ⟨⟨i0 + 1, ?_, ⟨by omega, take_snoc h1' hp ?_⟩, by omega⟩⟩
       · exact Kr
       clear hp
       simp_all [Mat.good]
       done)
 have h_mats := take_of (by omega) hp
 clear hp h1 hi
 refine loop_upd tok {} [] (X := Nat) (fun i1 => [(4, iB i1)]) (fun _ => []) [5] (fun i1 => i1 ≤ c.legs.length ∧ (∀ x ∈ c.legs.take i1, Leg.good c.m x = true) ∧ ((c.legs.take i1).map fun x => (x.src, x.dst)).Nodup) (fun i1 => c.legs.length - i1) 0 ?_
 ((conv => whnf); repeat' (refine Z rfl ?_; conv => whnf))
 refine And.intro ?_ ⟨⟨by omega, by simp⟩, fun i1 hΦ => ?_⟩
 · exact Kr
 obtain ⟨hi, hp, hn⟩ := hΦ
 ((conv => whnf); repeat' (refine Z rfl ?_; conv => whnf))
 repeat' ((first | (intro hlq; (try simp only [SL] at hlq)) | refine Ka ?_ | refine Kb ?_ | refine Kc (hd := rfl) (e := ?_) | refine Kc (hd := Cond.cells_eq _) (e := ?_) | refine Kd (e := ?_) | refine Kl rfl ?_ | fail) <;> ((conv => whnf); repeat' (refine Z rfl ?_; conv => whnf)))
 refine ⟨fun h1 => ?_, fun h1 => ?_⟩ <;> (try simp only [BL] at h1) <;> ((conv => whnf); repeat' (refine Z rfl ?_; conv => whnf))
 · have h1' : i1 < c.legs.length := by omega
   repeat' ((first | (intro hlq; (try simp only [SL] at hlq)) | refine Meets.k (mat_meets c c.legs[i1].src) ?_ | refine Meets.k (mat_meets c c.legs[i1].dst) ?_ | ((refine Kh (fun hb => ?_) fun hb => ?_) <;> (try simp only [BL] at hb)) | refine Ka ?_ | refine Kb ?_ | refine Kc (hd := rfl) (e := ?_) | refine Kc (hd := Leg.cells_eq _) (e := ?_) | refine Kd (e := ?_) | refine Kl rfl ?_ | fail) <;> ((conv => whnf); repeat' (refine Z rfl ?_; conv => whnf)))
   all_goals first
    | (refine nf fun h => ?_
       have hg := h.legs _ (List.getElem_mem h1')
       clear h_mats; clear hp h
       (simp only [Leg.good, inR, Bool.and_eq_true, Bool.and_eq_false_iff, decide_eq_true_eq, decide_eq_false_iff_not] at *; omega)
       done)
    | skip
   have hg : (c.legs[i1]).good c.m = true := by
    clear h_mats; clear hp hn
    (simp only [Leg.good, inR, Bool.and_eq_true, Bool.and_eq_false_iff, decide_eq_true_eq, decide_eq_false_iff_not] at *; omega)
   refine loop_upd tok {} [] (X := Nat) (fun k => [(6, iB k)]) (fun _ => []) [] (fun k => k ≤ i1 ∧ ∀ x ∈ (c.legs.take i1).take k, decide (x.src = c.legs[i1].src ∧ x.dst = c.legs[i1].dst) = false) (fun k => i1 - k) 0 ?_
   ((conv => whnf); repeat' (refine Z rfl ?_; conv => whnf))
   refine And.intro ?_ ⟨⟨by omega, by simp⟩, fun k hk => ?_⟩
   · exact Kr
   obtain ⟨hk1, hk2⟩ := hk
   ((conv => whnf); repeat' (refine Z rfl ?_; conv => whnf))
   refine ⟨fun h2 => ?_, fun h2 => ?_⟩ <;> (try simp only [BL] at h2) <;> ((conv => whnf); repeat' (refine Z rfl ?_; conv => whnf))
   · have h2' : k < (c.legs.take i1).length := by rw [List.length_take]; omega
     have e : (c.legs.take i1)[k] = c.legs[k] := List.getElem_take
     refine draw_rule tok (cf := {}) (by kernel_rfl) [.p 0, .p 1, .p 2, .p 3, .p 4, .p 5, .p 6, .p 7, .p 8, .p 9, .p 10, .p 11, .p 12, .p 13, .p 14, .p 15, .p 16, .p 17, .p 18, .p 19] (by kernel_rfl) ?_
     ((conv => whnf); repeat' (refine Z rfl ?_; conv => whnf))
     repeat' ((first | (intro hlq; (try simp only [SL] at hlq)) | ((refine Kh (fun hb => ?_) fun hb => ?_) <;> (try simp only [BL] at hb)) | refine Ka ?_ | refine Kb ?_ | refine Kc (hd := rfl) (e := ?_) | refine Kc (hd := Leg.cells_eq _) (e := ?_) | refine Kd (e := ?_) | refine Kl rfl ?_ | fail) <;> ((conv => whnf); repeat' (refine Z rfl ?_; conv => whnf)))
     all_goals first
      | (refine nf fun h => nodup_ne h1' (by omega : k < i1) h.legsN ?_
         clear h_mats; clear hp hn h hk2 hg e
         simp only [Prod.mk.injEq]
         simp only [*, and_self]
         done)
      | (refine ⟨⟨k + 1, ?_, ⟨by omega, take_snoc h2' hk2 ?_⟩, by omega⟩⟩
         · exact Kr
         rw [e, decide_eq_false_iff_not]
         clear h_mats; clear hp hn hk2 hg e
         simp only [*, false_and, and_false, not_false_eq_true]
         done)
   · skip
     repeat' ((first | (intro hlq; (try simp only [SL] at hlq)) | refine Ka ?_ | refine Kb ?_ | refine Kc (hd := rfl) (e := ?_) | refine Kc (hd := Cond.cells_eq _) (e := ?_) | refine Kd (e := ?_) | refine Kl rfl ?_ | fail) <;> ((conv => whnf); repeat' (refine Z rfl ?_; conv => whnf)))
     refine ⟨⟨i1 + 1, ?_, ⟨by omega, take_snoc h1' hp hg, nodup_step h1' hn ?_⟩, by omega⟩⟩
     · exact Kr
     rw [List.take_of_length_le (by rw [List.length_take]; omega)] at hk2
     intro x hx e
     have := hk2 x hx
     rw [decide_eq_false_iff_not] at this
     simp only [Prod.mk.injEq] at e
     exact this e
 have h_legs := take_of (by omega) hp
 have h_legsN := hn
 rw [List.take_of_length_le (by omega)] at h_legsN
 clear hn
 clear hp h1 hi
 refine loop_upd tok {} [] (X := Nat) (fun i2 => [(7, iB i2)]) (fun _ => []) [] (fun i2 => i2 ≤ c.distances.length ∧ (∀ x ∈ c.distances.take i2, Distance.good c.m x = true)) (fun i2 => c.distances.length - i2) 0 ?_
 ((conv => whnf); repeat' (refine Z rfl ?_; conv => whnf))
 refine And.intro ?_ ⟨⟨by omega, by simp⟩, fun i2 hΦ => ?_⟩
 · exact Kr
 obtain ⟨hi, hp⟩ := hΦ
 ((conv => whnf); repeat' (refine Z rfl ?_; conv => whnf))
 repeat' ((first | (intro hlq; (try simp only [SL] at hlq)) | refine Ka ?_ | refine Kb ?_ | refine Kc (hd := rfl) (e := ?_) | refine Kc (hd := Cond.cells_eq _) (e := ?_) | refine Kd (e := ?_) | refine Kl rfl ?_ | fail) <;> ((conv => whnf); repeat' (refine Z rfl ?_; conv => whnf)))
 refine ⟨fun h1 => ?_, fun h1 => ?_⟩ <;> (try simp only [BL] at h1) <;> ((conv => whnf); repeat' (refine Z rfl ?_; conv => whnf))
 · have h1' : i2 < c.distances.length := by omega
   refine draw_rule tok (cf := {}) (by kernel_rfl) [.p 0, .p 1, .p 2, .p 3, .p 4, .p 5, .s 6 [0,5,4,2,3,1], .p 7] (by kernel_rfl) ?_
   ((conv => whnf); repeat' (refine Z rfl ?_; conv => whnf))
   repeat' ((first | (intro hlq; (try simp only [SL] at hlq)) | refine Meets.k (rdistance_meets c c.distances[i2]) ?_ | ((refine Kh (fun hb => ?_) fun hb => ?_) <;> (try simp only [BL] at hb)) | refine Ka ?_ | refine Kb ?_ | refine Kc (hd := rfl) (e := ?_) | refine Kc (hd := Distance.cells_eq _) (e := ?_) | refine Kd (e := ?_) | refine Kl rfl ?_ | fail) <;> ((conv => whnf); repeat' (refine Z rfl ?_; conv => whnf)))
   all_goals first
    | (refine nf fun h => ?_
       have hg := h.distances _ (List.getElem_mem h1')
       clear h_mats h_legs h_legsN; clear hp h
       simp_all
       done)
    | (refine ⟨⟨i2 + 1, ?_, ⟨by omega, take_snoc h1' hp ?_⟩, by omega⟩⟩
       · exact Kr
       clear h_mats h_legs h_legsN; clear hp
       simp_all
       done)
 have h_distances := take_of (by omega) hp
 clear hp h1 hi
 refine loop_upd tok {} [] (X := Nat) (fun i3 => [(8, iB i3)]) (fun _ => []) [] (fun i3 => i3 ≤ c.waves.length ∧ (∀ x ∈ c.waves.take i3, Wave.good x = true)) (fun i3 => c.waves.length - i3) 0 ?_
 ((conv => whnf); repeat' (refine Z rfl ?_; conv => whnf))
 refine And.intro ?_ ⟨⟨by omega, by simp⟩, fun i3 hΦ => ?_⟩
 · exact Kr
 obtain ⟨hi, hp⟩ := hΦ
 ((conv => whnf); repeat' (refine Z rfl ?_; conv => whnf))
 repeat' ((first | (intro hlq; (try simp only [SL] at hlq)) | refine Ka ?_ | refine Kb ?_ | refine Kc (hd := rfl) (e := ?_) | refine Kc (hd := Cond.cells_eq _) (e := ?_) | refine Kd (e := ?_) | refine Kl rfl ?_ | fail) <;> ((conv => whnf); repeat' (refine Z rfl ?_; conv => whnf)))
 refine ⟨fun h1 => ?_, fun h1 => ?_⟩ <;> (try simp only [BL] at h1) <;> ((conv => whnf); repeat' (refine Z rfl ?_; conv => whnf))
 · have h1' : i3 < c.waves.length := by omega
   repeat' ((first | (intro hlq; (try simp only [SL] at hlq)) | refine Meets.k (in_meets c.waves[i3].gun 0 1099511627776) ?_ | ((refine Kh (fun hb => ?_) fun hb => ?_) <;> (try simp only [BL] at hb)) | refine Ka ?_ | refine Kb ?_ | refine Kc (hd := rfl) (e := ?_) | refine Kc (hd := Wave.cells_eq _) (e := ?_) | refine Kd (e := ?_) | refine Kl rfl ?_ | fail) <;> ((conv => whnf); repeat' (refine Z rfl ?_; conv => whnf)))
   all_goals first
    | (refine nf fun h => ?_
       have hg := h.waves _ (List.getElem_mem h1')
       clear h_mats h_legs h_legsN h_distances; clear hp h
       simp_all [Wave.good]
       done)
    | (refine ⟨⟨i3 + 1, ?_, ⟨by omega, take_snoc h1' hp ?_⟩, by omega⟩⟩
       · exact Kr
       clear h_mats h_legs h_legsN h_distances; clear hp
       simp_all [Wave.good]
       done)
 have h_waves := take_of (by omega) hp
 clear hp h1 hi
 refine loop_upd tok {} [] (X := Nat) (fun i4 => [(9, iB i4)]) (fun _ => []) [10] (fun i4 => i4 ≤ c.offences.length ∧ (∀ x ∈ c.offences.take i4, Offence.good x = true)) (fun i4 => c.offences.length - i4) 0 ?_
 ((conv => whnf); repeat' (refine Z rfl ?_; conv => whnf))
 refine And.intro ?_ ⟨⟨by omega, by simp⟩, fun i4 hΦ => ?_⟩
 · exact Kr
 obtain ⟨hi, hp⟩ := hΦ
 ((conv => whnf); repeat' (refine Z rfl ?_; conv => whnf))
 repeat' ((first | (intro hlq; (try simp only [SL] at hlq)) | refine Ka ?_ | refine Kb ?_ | refine Kc (hd := rfl) (e := ?_) | refine Kc (hd := Cond.cells_eq _) (e := ?_) | refine Kd (e := ?_) | refine Kl rfl ?_ | fail) <;> ((conv => whnf); repeat' (refine Z rfl ?_; conv => whnf)))
 refine ⟨fun h1 => ?_, fun h1 => ?_⟩ <;> (try simp only [BL] at h1) <;> ((conv => whnf); repeat' ((fail_if_success (refine J_at 31 ?_)); (fail_if_success (refine J_at 32 ?_)); (fail_if_success (refine J_at 33 ?_)); (fail_if_success (refine J_at 34 ?_)); refine Z rfl ?_; conv => whnf))
 · have h1' : i4 < c.offences.length := by omega
   repeat' ((first | (intro hlq; (try simp only [SL] at hlq)) | refine Ka ?_ | refine Kb ?_ | refine Kc (hd := rfl) (e := ?_) | refine Kc (hd := Offence.cells_eq _) (e := ?_) | refine Kd (e := ?_) | refine Kl rfl ?_ | fail) <;> ((conv => whnf); repeat' ((fail_if_success (refine J_at 31 ?_)); (fail_if_success (refine J_at 32 ?_)); (fail_if_success (refine J_at 33 ?_)); (fail_if_success (refine J_at 34 ?_)); refine Z rfl ?_; conv => whnf)))
   refine cut_to tok {} [(11, .d (.v (.bool (inR 0 68719476736 c.offences[i4].time && (decide (c.offences[i4].laps = 0) && !c.offences[i4].out)))))] ?_
   conv => whnf
   refine ⟨?_, ?_⟩
   · repeat' ((first | (intro hlq; (try simp only [SL] at hlq)) | refine Meets.k (in_meets c.offences[i4].time 0 68719476736) ?_ | refine Meets.k (in_meets c.offences[i4].laps 1 64) ?_ | ((refine Kh (fun hb => ?_) fun hb => ?_) <;> (try simp only [BL] at hb)) | refine Ka ?_ | refine Kb ?_ | refine Kc (hd := rfl) (e := ?_) | refine Kc (hd := Cond.cells_eq _) (e := ?_) | refine Kd (e := ?_) | refine Kl rfl ?_ | fail) <;> ((conv => whnf); repeat' ((fail_if_success (refine J_at 31 ?_)); (fail_if_success (refine J_at 32 ?_)); (fail_if_success (refine J_at 33 ?_)); (fail_if_success (refine J_at 34 ?_)); refine Z rfl ?_; conv => whnf)))
     all_goals refine ⟨?_⟩
     all_goals (repeat' (first | exact True.intro | exact rfl | refine And.intro ?_ ?_))
     all_goals (refine congrArg (fun b => D.v (.bool b)) ?_; clear h_mats h_legs h_legsN h_distances h_waves; clear hp; simp [*])
   refine cut_to tok {} [(12, .d (.v (.bool (decide (c.offences[i4].time = 0) && (inR 1 64 c.offences[i4].laps && !c.offences[i4].out)))))] ?_
   conv => whnf
   refine ⟨?_, ?_⟩
   · repeat' ((first | (intro hlq; (try simp only [SL] at hlq)) | refine Meets.k (in_meets c.offences[i4].time 0 68719476736) ?_ | refine Meets.k (in_meets c.offences[i4].laps 1 64) ?_ | ((refine Kh (fun hb => ?_) fun hb => ?_) <;> (try simp only [BL] at hb)) | refine Ka ?_ | refine Kb ?_ | refine Kc (hd := rfl) (e := ?_) | refine Kc (hd := Cond.cells_eq _) (e := ?_) | refine Kd (e := ?_) | refine Kl rfl ?_ | fail) <;> ((conv => whnf); repeat' ((fail_if_success (refine J_at 31 ?_)); (fail_if_success (refine J_at 32 ?_)); (fail_if_success (refine J_at 33 ?_)); (fail_if_success (refine J_at 34 ?_)); refine Z rfl ?_; conv => whnf)))
     all_goals refine ⟨?_⟩
     all_goals (repeat' (first | exact True.intro | exact rfl | refine And.intro ?_ ?_))
     all_goals (refine congrArg (fun b => D.v (.bool b)) ?_; clear h_mats h_legs h_legsN h_distances h_waves; clear hp; simp [*])
   refine cut_to tok {} [(13, .d (.v (.bool (decide (c.offences[i4].time = 0) && (decide (c.offences[i4].laps = 0) && c.offences[i4].out)))))] ?_
   conv => whnf
   refine ⟨?_, ?_⟩
   · repeat' ((first | (intro hlq; (try simp only [SL] at hlq)) | refine Meets.k (in_meets c.offences[i4].time 0 68719476736) ?_ | refine Meets.k (in_meets c.offences[i4].laps 1 64) ?_ | ((refine Kh (fun hb => ?_) fun hb => ?_) <;> (try simp only [BL] at hb)) | refine Ka ?_ | refine Kb ?_ | refine Kc (hd := rfl) (e := ?_) | refine Kc (hd := Cond.cells_eq _) (e := ?_) | refine Kd (e := ?_) | refine Kl rfl ?_ | fail) <;> ((conv => whnf); repeat' ((fail_if_success (refine J_at 31 ?_)); (fail_if_success (refine J_at 32 ?_)); (fail_if_success (refine J_at 33 ?_)); (fail_if_success (refine J_at 34 ?_)); refine Z rfl ?_; conv => whnf)))
     all_goals refine ⟨?_⟩
     all_goals (repeat' (first | exact True.intro | exact rfl | refine And.intro ?_ ?_))
     all_goals (refine congrArg (fun b => D.v (.bool b)) ?_; clear h_mats h_legs h_legsN h_distances h_waves; clear hp; simp [*])
   ((conv => whnf); repeat' (refine Z rfl ?_; conv => whnf))
   repeat' ((first | (intro hlq; (try simp only [SL] at hlq)) | ((refine Kh (fun hb => ?_) fun hb => ?_) <;> (try simp only [BL] at hb)) | refine Ka ?_ | refine Kb ?_ | refine Kc (hd := rfl) (e := ?_) | refine Kc (hd := Cond.cells_eq _) (e := ?_) | refine Kd (e := ?_) | refine Kl rfl ?_ | fail) <;> ((conv => whnf); repeat' (refine Z rfl ?_; conv => whnf)))
   all_goals first
    | (refine nf fun h => ?_
       have hg := (off_iff _).1 (h.offences _ (List.getElem_mem h1'))
       clear h_mats h_legs h_legsN h_distances h_waves; clear hp h
       rcases hg with ⟨a, b, d⟩ | ⟨a, b, d⟩ | ⟨a, b, d⟩ <;> simp_all
       done)
    | (refine ⟨⟨i4 + 1, ?_, ⟨by omega, take_snoc h1' hp ?_⟩, by omega⟩⟩
       · exact Kr
       clear h_mats h_legs h_legsN h_distances h_waves; clear hp
       rw [off_iff]
       simp_all
       done)
 have h_offences := take_of (by omega) hp
 clear hp h1 hi
 refine loop_upd tok {} [] (X := Nat) (fun i5 => [(14, iB i5)]) (fun _ => []) [15] (fun i5 => i5 ≤ c.categories.length ∧ (∀ x ∈ c.categories.take i5, Category.good x = true)) (fun i5 => c.categories.length - i5) 0 ?_
 ((conv => whnf); repeat' (refine Z rfl ?_; conv => whnf))
 refine And.intro ?_ ⟨⟨by omega, by simp⟩, fun i5 hΦ => ?_⟩
 · exact Kr
 obtain ⟨hi, hp⟩ := hΦ
 ((conv => whnf); repeat' (refine Z rfl ?_; conv => whnf))
 repeat' ((first | (intro hlq; (try simp only [SL] at hlq)) | refine Ka ?_ | refine Kb ?_ | refine Kc (hd := rfl) (e := ?_) | refine Kc (hd := Cond.cells_eq _) (e := ?_) | refine Kd (e := ?_) | refine Kl rfl ?_ | fail) <;> ((conv => whnf); repeat' (refine Z rfl ?_; conv => whnf)))
 refine ⟨fun h1 => ?_, fun h1 => ?_⟩ <;> (try simp only [BL] at h1) <;> ((conv => whnf); repeat' (refine Z rfl ?_; conv => whnf))
 · have h1' : i5 < c.categories.length := by omega
   repeat' ((first | (intro hlq; (try simp only [SL] at hlq)) | ((refine Kh (fun hb => ?_) fun hb => ?_) <;> (try simp only [BL] at hb)) | refine Ka ?_ | refine Kb ?_ | refine Kc (hd := rfl) (e := ?_) | refine Kc (hd := Category.cells_eq _) (e := ?_) | refine Kc (hd := Category.cells_eq _) (e := ?_) | refine Kd (e := ?_) | refine Kl rfl ?_ | fail) <;> ((conv => whnf); repeat' (refine Z rfl ?_; conv => whnf)))
   all_goals first
    | (refine nf fun h => ?_
       have hg := h.categories _ (List.getElem_mem h1')
       clear h_mats h_legs h_legsN h_distances h_waves h_offences; clear hp h
       (simp only [Category.good, inR, Bool.and_eq_true, Bool.and_eq_false_iff, decide_eq_true_eq, decide_eq_false_iff_not] at *; omega)
       done)
    | (refine ⟨⟨i5 + 1, ?_, ⟨by omega, take_snoc h1' hp ?_⟩, by omega⟩⟩
       · exact Kr
       clear h_mats h_legs h_legsN h_distances h_waves h_offences; clear hp
       (simp only [Category.good, inR, Bool.and_eq_true, Bool.and_eq_false_iff, decide_eq_true_eq, decide_eq_false_iff_not] at *; omega)
       done)
 have h_categories := take_of (by omega) hp
 clear hp h1 hi
 refine loop_upd tok {} [] (X := Nat) (fun i6 => [(16, iB i6)]) (fun _ => []) [17] (fun i6 => i6 ≤ c.prizes.length ∧ (∀ x ∈ c.prizes.take i6, Prize.good (c.distances.length - 1) (c.categories.length - 1) x = true) ∧ ((c.prizes.take i6).map fun x => (x.distance, x.category, x.rank)).Nodup) (fun i6 => c.prizes.length - i6) 0 ?_
 ((conv => whnf); repeat' (refine Z rfl ?_; conv => whnf))
 refine And.intro ?_ ⟨⟨by omega, by simp⟩, fun i6 hΦ => ?_⟩
 · exact Kr
 obtain ⟨hi, hp, hn⟩ := hΦ
 ((conv => whnf); repeat' (refine Z rfl ?_; conv => whnf))
 repeat' ((first | (intro hlq; (try simp only [SL] at hlq)) | refine Ka ?_ | refine Kb ?_ | refine Kc (hd := rfl) (e := ?_) | refine Kc (hd := Cond.cells_eq _) (e := ?_) | refine Kd (e := ?_) | refine Kl rfl ?_ | fail) <;> ((conv => whnf); repeat' (refine Z rfl ?_; conv => whnf)))
 refine ⟨fun h1 => ?_, fun h1 => ?_⟩ <;> (try simp only [BL] at h1) <;> ((conv => whnf); repeat' (refine Z rfl ?_; conv => whnf))
 · have h1' : i6 < c.prizes.length := by omega
   repeat' ((first | (intro hlq; (try simp only [SL] at hlq)) | refine Meets.k (in_meets c.prizes[i6].distance 0 ((c.distances.map Distance.cells).length - 1)) ?_ | refine Meets.k (in_meets c.prizes[i6].category (-1) ((c.categories.map Category.cells).length - 1)) ?_ | refine Meets.k (in_meets c.prizes[i6].rank 1 4000) ?_ | refine Meets.k (in_meets c.prizes[i6].amount 1 1125899906842624) ?_ | ((refine Kh (fun hb => ?_) fun hb => ?_) <;> (try simp only [BL] at hb)) | refine Ka ?_ | refine Kb ?_ | refine Kc (hd := rfl) (e := ?_) | refine Kc (hd := Prize.cells_eq _) (e := ?_) | refine Kd (e := ?_) | refine Kl rfl ?_ | fail) <;> ((conv => whnf); repeat' (refine Z rfl ?_; conv => whnf)))
   all_goals first
    | (refine nf fun h => ?_
       have hg := h.prizes _ (List.getElem_mem h1')
       clear h_mats h_legs h_legsN h_distances h_waves h_offences h_categories; clear hp h
       (simp only [Prize.good, List.length_map] at *; simp_all)
       done)
    | skip
   have hg : (c.prizes[i6]).good (c.distances.length - 1) (c.categories.length - 1) = true := by
    clear h_mats h_legs h_legsN h_distances h_waves h_offences h_categories; clear hp hn
    (simp only [Prize.good, List.length_map] at *; simp_all)
   refine loop_upd tok {} [] (X := Nat) (fun k => [(18, iB k)]) (fun _ => []) [19] (fun k => k ≤ i6 ∧ ∀ x ∈ (c.prizes.take i6).take k, decide (x.distance = c.prizes[i6].distance ∧ x.category = c.prizes[i6].category ∧ x.rank = c.prizes[i6].rank) = false) (fun k => i6 - k) 0 ?_
   ((conv => whnf); repeat' (refine Z rfl ?_; conv => whnf))
   refine And.intro ?_ ⟨⟨by omega, by simp⟩, fun k hk => ?_⟩
   · exact Kr
   obtain ⟨hk1, hk2⟩ := hk
   ((conv => whnf); repeat' (refine Z rfl ?_; conv => whnf))
   refine ⟨fun h2 => ?_, fun h2 => ?_⟩ <;> (try simp only [BL] at h2) <;> ((conv => whnf); repeat' (refine Z rfl ?_; conv => whnf))
   · have h2' : k < (c.prizes.take i6).length := by rw [List.length_take]; omega
     have e : (c.prizes.take i6)[k] = c.prizes[k] := List.getElem_take
     repeat' ((first | (intro hlq; (try simp only [SL] at hlq)) | ((refine Kh (fun hb => ?_) fun hb => ?_) <;> (try simp only [BL] at hb)) | refine Ka ?_ | refine Kb ?_ | refine Kc (hd := rfl) (e := ?_) | refine Kc (hd := Prize.cells_eq _) (e := ?_) | refine Kd (e := ?_) | refine Kl rfl ?_ | fail) <;> ((conv => whnf); repeat' (refine Z rfl ?_; conv => whnf)))
     all_goals first
      | (refine nf fun h => nodup_ne h1' (by omega : k < i6) h.prizesN ?_
         clear h_mats h_legs h_legsN h_distances h_waves h_offences h_categories; clear hp hn h hk2 hg e
         simp only [Prod.mk.injEq]
         simp only [*, and_self]
         done)
      | (refine ⟨⟨k + 1, ?_, ⟨by omega, take_snoc h2' hk2 ?_⟩, by omega⟩⟩
         · exact Kr
         rw [e, decide_eq_false_iff_not]
         clear h_mats h_legs h_legsN h_distances h_waves h_offences h_categories; clear hp hn hk2 hg e
         simp only [*, false_and, and_false, not_false_eq_true]
         done)
   · skip
     repeat' ((first | (intro hlq; (try simp only [SL] at hlq)) | refine Ka ?_ | refine Kb ?_ | refine Kc (hd := rfl) (e := ?_) | refine Kc (hd := Cond.cells_eq _) (e := ?_) | refine Kd (e := ?_) | refine Kl rfl ?_ | fail) <;> ((conv => whnf); repeat' (refine Z rfl ?_; conv => whnf)))
     refine ⟨⟨i6 + 1, ?_, ⟨by omega, take_snoc h1' hp hg, nodup_step h1' hn ?_⟩, by omega⟩⟩
     · exact Kr
     rw [List.take_of_length_le (by rw [List.length_take]; omega)] at hk2
     intro x hx e
     have := hk2 x hx
     rw [decide_eq_false_iff_not] at this
     simp only [Prod.mk.injEq] at e
     exact this e
 have h_prizes := take_of (by omega) hp
 have h_prizesN := hn
 rw [List.take_of_length_le (by omega)] at h_prizesN
 clear hn
 clear hp h1 hi
 have hA : c.nums = c.numsB := by
  rw [Bool.eq_iff_iff, nums_iff]
  exact ⟨fun h => h.rest, fun h => ⟨h_mats, h_legs, h_legsN, h_distances, h_waves, h_offences, h_categories, h_prizes, h_prizesN, h⟩⟩
 clear h_mats h_legs h_legsN h_distances h_waves h_offences h_categories h_prizes h_prizesN
 repeat' ((first | (intro hlq; (try simp only [SL] at hlq)) | refine Meets.k (in_meets c.faults.misses 0 16) ?_ | refine Meets.k (in_meets c.faults.strays 0 16) ?_ | refine Meets.k (in_meets c.faults.window 0 4294967296) ?_ | refine Meets.k (in_meets c.faults.residual 0 4294967296) ?_ | refine Meets.k (in_meets c.faults.drift 0 100000) ?_ | refine Meets.k (in_meets c.fee 0 1125899906842624) ?_ | refine Meets.k (in_meets c.deadline 0 1099511627776) ?_ | ((refine Kh (fun hb => ?_) fun hb => ?_) <;> (try simp only [BL] at hb)) | refine Ka ?_ | refine Kb ?_ | refine Kc (hd := rfl) (e := ?_) | refine Kc (hd := Cond.cells_eq _) (e := ?_) | refine Kd (e := ?_) | refine Kl rfl ?_ | fail) <;> ((conv => whnf); repeat' (refine Z rfl ?_; conv => whnf)))
 all_goals (refine ⟨congrArg bD ?_⟩; rw [hA, Course.numsB]; clear hA; simp [*])
end Go.Proofs.YteckbkljaneppaaGreatDoor.Dx
