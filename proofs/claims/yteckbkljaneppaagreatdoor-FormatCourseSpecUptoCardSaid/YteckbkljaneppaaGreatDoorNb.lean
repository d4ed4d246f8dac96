/- Course, in the code and in the reference. -/
import Derived.Test.YteckbkljaneppaaGreatDoorNa
set_option linter.all false
namespace Go.Proofs.YteckbkljaneppaaGreatDoor.Dx
open Go Go.RowKit
set_option maxRecDepth 100000
set_option maxHeartbeats 16000000
def courseE (c : Course) : Int := if c.fits = false then 2 else if c.named = false then 70 else if c.nums = false then 71 else if tiesE c.ties = 0 then (if c.distances.all (routeOk c) then 0 else 72) else tiesE c.ties
theorem course1_meets (c : Course) (d : Distance) (hc : c.small) (hn : NumsOk c) (hd : d ∈ c.distances) : Meets Tryz.prog 63 [d.d, .ptr c.cells 0, .ptr [.mp c.legMap] 0] fun r => r = bD (routeOk c d) := by
 refine enter tok {} Tryz.func63 rfl (by kernel_rfl) Tryz.ntmps63 (by simp) fun B0 W0 V0 lent g0 => ?_
 ((conv => whnf); repeat' (refine Z rfl ?_; conv => whnf))
 refine Meets.k (isRoute_meets c d hc hn hd) ?_
 ((conv => whnf); repeat' (refine Z rfl ?_; conv => whnf))
 exact ⟨rfl⟩
theorem Course_meets (c : Course) (hc : c.small) : Meets Tryz.prog 26 [c.d] fun r => r = iD (courseE c) := by
 refine enter tok {} Tryz.func26 rfl (by kernel_rfl) Tryz.ntmps26 (by simp) fun B0 W0 V0 lent g0 => ?_
 ((conv => whnf); repeat' (refine Z rfl ?_; conv => whnf))
 repeat' ((first | (intro hlq; (try simp only [SL] at hlq)) | refine Meets.k (fits_meets c hc.route) ?_ | refine Meets.k (names_meets c hc) ?_ | refine Meets.k (numbers_meets c hc) ?_ | refine Meets.k (tTies c.ties hc.ties.1 hc.ties.2) ?_ | ((refine Kh (fun hb => ?_) fun hb => ?_) <;> (try simp only [BL] at hb)) | refine Ka ?_ | refine Kb ?_ | refine Kc (hd := rfl) (e := ?_) | refine Kc (hd := Cond.cells_eq _) (e := ?_) | refine Kd (e := ?_) | refine Kl rfl ?_ | fail) <;> ((conv => whnf); repeat' (refine Z rfl ?_; conv => whnf)))
 · exact ⟨congrArg iD (by rw [courseE, if_pos (by assumption)])⟩
 · exact ⟨congrArg iD (by rw [courseE, if_neg (by simp [*]), if_pos (by assumption)])⟩
 · exact ⟨congrArg iD (by rw [courseE, if_neg (by simp [*]), if_neg (by simp [*]), if_pos (by assumption)])⟩
 · exact ⟨congrArg iD (by rw [courseE, if_neg (by simp [*]), if_neg (by simp [*]), if_neg (by simp [*]), if_neg (by assumption)])⟩
 have hE : courseE c = if c.distances.all (routeOk c) then 0 else 72 := by
  rw [courseE, if_neg (by simp [*]), if_neg (by simp [*]), if_neg (by simp [*]), if_pos (by simpa using (by assumption : ¬ tiesE c.ties ≠ 0))]
 have hn : NumsOk c := (nums_iff c).1 (by assumption)
 have hll := hc.legs
 have hkey : ∀ x ∈ c.legs.map Leg.key, KInts 2 x := by
  intro k hk
  obtain ⟨x, _, rfl⟩ := List.mem_map.1 hk
  exact ⟨[x.src, x.dst], rfl, rfl⟩
 refine loop_upd tok {} [] (X := Nat) (fun i => [(28, iB i)]) (fun i => [(24, .mp (kmap ((c.legs.map Leg.key).take i)))]) [5] (fun i => i ≤ c.legs.length) (fun i => c.legs.length - i) 0 ?_
 ((conv => whnf); repeat' (refine Z rfl ?_; conv => whnf))
 refine And.intro ?_ ⟨by omega, fun i hi => ?_⟩
 · exact Kr
 ((conv => whnf); repeat' (refine Z rfl ?_; conv => whnf))
 refine ⟨fun h1 => ?_, fun h1 => ?_⟩ <;> (try simp only [BL] at h1) <;> ((conv => whnf); repeat' (refine Z rfl ?_; conv => whnf))
 · have h1' : i < c.legs.length := by omega
   repeat' ((first | (intro hlq; (try simp only [SL] at hlq)) | refine Ka ?_ | refine Kb ?_ | refine Kc (hd := rfl) (e := ?_) | refine Kc (hd := Leg.cells_eq _) (e := ?_) | refine Kd (e := ?_) | refine Kl rfl ?_ | fail) <;> ((conv => whnf); repeat' (refine Z rfl ?_; conv => whnf)))
   refine ⟨⟨hkey c.legs[i].key (List.mem_map.2 ⟨_, List.getElem_mem h1', rfl⟩), kmap_keyed fun k hk => hkey k (List.mem_of_mem_take hk)⟩, ?_⟩
   rw [show mput (kmap (List.take i (List.map Leg.key c.legs))) c.legs[i].key (bD true) = kmap (List.take (i + 1) (List.map Leg.key c.legs)) from by
    rw [List.take_succ_eq_append_getElem (by simpa using h1'), kmap_snoc, List.getElem_map]]
   ((conv => whnf); repeat' (refine Z rfl ?_; conv => whnf))
   repeat' ((first | (intro hlq; (try simp only [SL] at hlq)) | refine Ka ?_ | refine Kb ?_ | refine Kc (hd := rfl) (e := ?_) | refine Kc (hd := Cond.cells_eq _) (e := ?_) | refine Kd (e := ?_) | refine Kl rfl ?_ | fail) <;> ((conv => whnf); repeat' (refine Z rfl ?_; conv => whnf)))
   refine ⟨⟨i + 1, ?_, by omega, by omega⟩⟩
   repeat' (first | exact True.intro | exact rfl | refine And.intro ?_ ?_)
 have e : (c.legs.map Leg.key).take i = c.legs.map Leg.key := List.take_of_length_le (by simp; omega)
 rw [e]
 refine Meets.k (all_dist c.distances 63 [] [.ptr c.cells 0, .ptr [.mp c.legMap] 0] (routeOk c) fun x hx => course1_meets c x hc hn hx) ?_
 ((conv => whnf); repeat' (refine Z rfl ?_; conv => whnf))
 rw [hE]
 repeat' ((first | (intro hlq; (try simp only [SL] at hlq)) | ((refine Kh (fun hb => ?_) fun hb => ?_) <;> (try simp only [BL] at hb)) | refine Ka ?_ | refine Kb ?_ | refine Kc (hd := rfl) (e := ?_) | refine Kc (hd := Cond.cells_eq _) (e := ?_) | refine Kd (e := ?_) | refine Kl rfl ?_ | fail) <;> ((conv => whnf); repeat' (refine Z rfl ?_; conv => whnf)))
 all_goals exact ⟨congrArg iD (by simp only [*]; simp)⟩
theorem rCourse_meets (c : Course) (hc : c.small) : Meets Tryz.prog 35 [c.d] fun r => r = iD (courseE c) := by
 refine enter tok {} Tryz.func35 rfl (by kernel_rfl) Tryz.ntmps35 (by simp) fun B0 W0 V0 lent g0 => ?_
 ((conv => whnf); repeat' (refine Z rfl ?_; conv => whnf))
 repeat' ((first | (intro hlq; (try simp only [SL] at hlq)) | refine Meets.k (rcounts_meets c hc.route) ?_ | refine Meets.k (rnamed_meets c hc) ?_ | refine Meets.k (ranges_meets c) ?_ | refine Meets.k (rTies c.ties) ?_ | ((refine Kh (fun hb => ?_) fun hb => ?_) <;> (try simp only [BL] at hb)) | refine Ka ?_ | refine Kb ?_ | refine Kc (hd := rfl) (e := ?_) | refine Kc (hd := Cond.cells_eq _) (e := ?_) | refine Kd (e := ?_) | refine Kl rfl ?_ | fail) <;> ((conv => whnf); repeat' (refine Z rfl ?_; conv => whnf)))
 · exact ⟨congrArg iD (by rw [courseE, if_pos (by assumption)])⟩
 · exact ⟨congrArg iD (by rw [courseE, if_neg (by simp [*]), if_pos (by assumption)])⟩
 · exact ⟨congrArg iD (by rw [courseE, if_neg (by simp [*]), if_neg (by simp [*]), if_pos (by assumption)])⟩
 · exact ⟨congrArg iD (by rw [courseE, if_neg (by simp [*]), if_neg (by simp [*]), if_neg (by simp [*]), if_neg (by assumption)])⟩
 have hE : courseE c = if c.distances.all (routeOk c) then 0 else 72 := by
  rw [courseE, if_neg (by simp [*]), if_neg (by simp [*]), if_neg (by simp [*]), if_pos (by simpa using (by assumption : ¬ tiesE c.ties ≠ 0))]
 have hn : NumsOk c := (nums_iff c).1 (by assumption)
 rw [hE]
 refine loop_upd tok {} [] (X := Nat) (fun i => [(4, iB i)]) (fun _ => []) [] (fun i => i ≤ c.distances.length ∧ ∀ x ∈ c.distances.take i, routeOk c x = true) (fun i => c.distances.length - i) 0 ?_
 ((conv => whnf); repeat' (refine Z rfl ?_; conv => whnf))
 refine And.intro ?_ ⟨⟨by omega, by simp⟩, fun i hΦ => ?_⟩
 · exact Kr
 obtain ⟨hi, hp⟩ := hΦ
 ((conv => whnf); repeat' (refine Z rfl ?_; conv => whnf))
 repeat' ((first | (intro hlq; (try simp only [SL] at hlq)) | refine Ka ?_ | refine Kb ?_ | refine Kc (hd := rfl) (e := ?_) | refine Kc (hd := Cond.cells_eq _) (e := ?_) | refine Kd (e := ?_) | refine Kl rfl ?_ | fail) <;> ((conv => whnf); repeat' (refine Z rfl ?_; conv => whnf)))
 refine ⟨fun h1 => ?_, fun h1 => ?_⟩ <;> (try simp only [BL] at h1) <;> ((conv => whnf); repeat' (refine Z rfl ?_; conv => whnf))
 · have h1' : i < c.distances.length := by omega
   refine draw_rule tok (cf := {}) (by kernel_rfl) [.p 0, .p 1, .p 2, .p 3, .p 4, .p 5, .s 6 [0,5,4,2,3,1], .p 7] (by kernel_rfl) ?_
   ((conv => whnf); repeat' (refine Z rfl ?_; conv => whnf))
   repeat' ((first | (intro hlq; (try simp only [SL] at hlq)) | refine Meets.k (rroute_meets c c.distances[i] hc hn (List.getElem_mem h1')) ?_ | ((refine Kh (fun hb => ?_) fun hb => ?_) <;> (try simp only [BL] at hb)) | refine Ka ?_ | refine Kb ?_ | refine Kc (hd := rfl) (e := ?_) | refine Kc (hd := Distance.cells_eq _) (e := ?_) | refine Kd (e := ?_) | refine Kl rfl ?_ | fail) <;> ((conv => whnf); repeat' (refine Z rfl ?_; conv => whnf)))
   · refine ⟨congrArg iD ?_⟩
     rw [all_false (List.getElem_mem h1') (by assumption)]; rfl
   · refine ⟨⟨i + 1, ?_, ⟨by omega, take_snoc h1' hp (by assumption)⟩, by omega⟩⟩
     repeat' (first | exact True.intro | exact rfl | refine And.intro ?_ ?_)
 · refine ⟨congrArg iD ?_⟩
   rw [all_true (by omega) hp]; rfl
end Go.Proofs.YteckbkljaneppaaGreatDoor.Dx
/- The examples of the chapter. -/
namespace Go.Proofs.YteckbkljaneppaaGreatDoor.Dx
open Go Go.RowKit
set_option maxRecDepth 100000
set_option maxHeartbeats 16000000
def c0 : Cond := ⟨0, 0, 0, []⟩
end Go.Proofs.YteckbkljaneppaaGreatDoor.Dx
