/- Names of a course, in the reference. -/
import Derived.Test.YteckbkljaneppaaGreatDoorMv
import Derived.Test.YteckbkljaneppaaGreatDoorMj
set_option linter.all false
namespace Go.Proofs.YteckbkljaneppaaGreatDoor.Dx
open Go Go.RowKit
set_option maxRecDepth 100000
set_option maxHeartbeats 8000000
abbrev nmS (l : List (List UInt8)) (i : Nat) : List (List D) := (l.take i).map scells
theorem nmS_step {l : List (List UInt8)} {i : Nat} (h : i < l.length) : nmS l i ++ [[D.str l[i]]] = nmS l (i + 1) := by
 simp only [nmS, List.take_succ_eq_append_getElem h, List.map_append]; rfl
theorem nmS_all {l : List (List UInt8)} {i : Nat} (h : ¬ i < l.length) : nmS l i = l.map scells := by
 simp only [nmS]; rw [List.take_of_length_le (by omega)]
theorem nmS_len {l : List (List UInt8)} {i : Nat} : (nmS l i).length ≤ i := by simp [nmS]; omega
theorem rnamed_meets (c : Course) (hc : c.small) : Meets Tryz.prog 70 [c.d] fun r => r = bD c.named := by
 have hm := hc.mats; have hd := hc.distances; have hw := hc.waves; have ho := hc.offences; have hk := hc.categories
 refine enter tok {} Tryz.func70 rfl (by kernel_rfl) Tryz.ntmps70 (by simp) fun B0 W0 V0 lent g0 => ?_
 ((conv => whnf); repeat' (refine Z rfl ?_; conv => whnf))
 refine loop_upd tok {} [(.inl 3, 3, 9, 1)] (X := Nat) (fun i => [(4, iB i), (3, .own 3)]) (fun i => [(3, .sl ⟨9, 1, nmS (c.mats.map (·.name)) i, true⟩)]) [] (fun i => i ≤ c.mats.length) (fun i => c.mats.length - i) 0 ?_
 ((conv => whnf); repeat' (refine Z rfl ?_; conv => whnf))
 refine ⟨by simp, ?_⟩
 ((conv => whnf); repeat' (refine Z rfl ?_; conv => whnf))
 refine And.intro ?_ ⟨by omega, fun i0 hi => ?_⟩
 · exact Kr
 ((conv => whnf); repeat' (refine Z rfl ?_; conv => whnf))
 repeat' ((first | (intro hlq; (try simp only [SL] at hlq)) | refine Ka ?_ | refine Kb ?_ | refine Kc (hd := rfl) (e := ?_) | refine Kc (hd := Cond.cells_eq _) (e := ?_) | refine Kd (e := ?_) | refine Kl rfl ?_ | fail) <;> ((conv => whnf); repeat' (refine Z rfl ?_; conv => whnf)))
 refine ⟨fun h1 => ?_, fun h1 => ?_⟩ <;> (try simp only [BL] at h1) <;> ((conv => whnf); repeat' (refine Z rfl ?_; conv => whnf))
 · have h1' : i0 < c.mats.length := by omega
   have hl := nmS_len (l := c.mats.map (·.name)) (i := i0)
   repeat' ((first | (intro hlq; (try simp only [SL] at hlq)) | refine Ka ?_ | refine Kb ?_ | refine Kc (hd := rfl) (e := ?_) | refine Kc (hd := Mat.cells_eq _) (e := ?_) | refine Kd (e := ?_) | refine Kl rfl ?_ | fail) <;> ((conv => whnf); repeat' (refine Z rfl ?_; conv => whnf)))
   refine ⟨by simp, ?_⟩
   ((conv => whnf); repeat' (refine Z rfl ?_; conv => whnf))
   refine ⟨fun h1 h2 => ?_, ?_⟩
   · simp only [List.length_singleton] at *
     omega
   ((conv => whnf); repeat' (refine Z rfl ?_; conv => whnf))
   repeat' ((first | (intro hlq; (try simp only [SL] at hlq)) | refine Ka ?_ | refine Kb ?_ | refine Kc (hd := rfl) (e := ?_) | refine Kc (hd := Cond.cells_eq _) (e := ?_) | refine Kd (e := ?_) | refine Kl rfl ?_ | fail) <;> ((conv => whnf); repeat' (refine Z rfl ?_; conv => whnf)))
   rw [show nmS (c.mats.map (·.name)) i0 ++ [[D.str c.mats[i0].name]] = nmS (c.mats.map (·.name)) (i0 + 1) from by
    rw [← nmS_step (by simpa using h1')]; simp]
   refine ⟨⟨i0 + 1, ?_, by omega, by omega⟩⟩
   repeat' (first | exact True.intro | exact rfl | refine And.intro ?_ ?_)
 rw [nmS_all (l := c.mats.map (·.name)) (i := i0) (by simpa using h1)]
 clear h1 hi
 refine loop_upd tok {} [(.inl 5, 5, 9, 1)] (X := Nat) (fun i => [(6, iB i), (5, .own 5)]) (fun i => [(5, .sl ⟨9, 1, nmS (c.distances.map (·.name)) i, true⟩)]) [] (fun i => i ≤ c.distances.length) (fun i => c.distances.length - i) 0 ?_
 ((conv => whnf); repeat' (refine Z rfl ?_; conv => whnf))
 refine ⟨by simp, ?_⟩
 ((conv => whnf); repeat' (refine Z rfl ?_; conv => whnf))
 refine And.intro ?_ ⟨by omega, fun i1 hi => ?_⟩
 · exact Kr
 ((conv => whnf); repeat' (refine Z rfl ?_; conv => whnf))
 repeat' ((first | (intro hlq; (try simp only [SL] at hlq)) | refine Ka ?_ | refine Kb ?_ | refine Kc (hd := rfl) (e := ?_) | refine Kc (hd := Cond.cells_eq _) (e := ?_) | refine Kd (e := ?_) | refine Kl rfl ?_ | fail) <;> ((conv => whnf); repeat' (refine Z rfl ?_; conv => whnf)))
 refine ⟨fun h1 => ?_, fun h1 => ?_⟩ <;> (try simp only [BL] at h1) <;> ((conv => whnf); repeat' (refine Z rfl ?_; conv => whnf))
 · have h1' : i1 < c.distances.length := by omega
   have hl := nmS_len (l := c.distances.map (·.name)) (i := i1)
   repeat' ((first | (intro hlq; (try simp only [SL] at hlq)) | refine Ka ?_ | refine Kb ?_ | refine Kc (hd := rfl) (e := ?_) | refine Kc (hd := Distance.cells_eq _) (e := ?_) | refine Kd (e := ?_) | refine Kl rfl ?_ | fail) <;> ((conv => whnf); repeat' (refine Z rfl ?_; conv => whnf)))
   refine ⟨by simp, ?_⟩
   ((conv => whnf); repeat' (refine Z rfl ?_; conv => whnf))
   refine ⟨fun h1 h2 => ?_, ?_⟩
   · simp only [List.length_singleton] at *
     omega
   ((conv => whnf); repeat' (refine Z rfl ?_; conv => whnf))
   repeat' ((first | (intro hlq; (try simp only [SL] at hlq)) | refine Ka ?_ | refine Kb ?_ | refine Kc (hd := rfl) (e := ?_) | refine Kc (hd := Cond.cells_eq _) (e := ?_) | refine Kd (e := ?_) | refine Kl rfl ?_ | fail) <;> ((conv => whnf); repeat' (refine Z rfl ?_; conv => whnf)))
   rw [show nmS (c.distances.map (·.name)) i1 ++ [[D.str c.distances[i1].name]] = nmS (c.distances.map (·.name)) (i1 + 1) from by
    rw [← nmS_step (by simpa using h1')]; simp]
   refine ⟨⟨i1 + 1, ?_, by omega, by omega⟩⟩
   repeat' (first | exact True.intro | exact rfl | refine And.intro ?_ ?_)
 rw [nmS_all (l := c.distances.map (·.name)) (i := i1) (by simpa using h1)]
 clear h1 hi
 refine loop_upd tok {} [(.inl 7, 7, 9, 1)] (X := Nat) (fun i => [(8, iB i), (7, .own 7)]) (fun i => [(7, .sl ⟨9, 1, nmS (c.waves.map (·.name)) i, true⟩)]) [] (fun i => i ≤ c.waves.length) (fun i => c.waves.length - i) 0 ?_
 ((conv => whnf); repeat' (refine Z rfl ?_; conv => whnf))
 refine ⟨by simp, ?_⟩
 ((conv => whnf); repeat' (refine Z rfl ?_; conv => whnf))
 refine And.intro ?_ ⟨by omega, fun i2 hi => ?_⟩
 · exact Kr
 ((conv => whnf); repeat' (refine Z rfl ?_; conv => whnf))
 repeat' ((first | (intro hlq; (try simp only [SL] at hlq)) | refine Ka ?_ | refine Kb ?_ | refine Kc (hd := rfl) (e := ?_) | refine Kc (hd := Cond.cells_eq _) (e := ?_) | refine Kd (e := ?_) | refine Kl rfl ?_ | fail) <;> ((conv => whnf); repeat' (refine Z rfl ?_; conv => whnf)))
 refine ⟨fun h1 => ?_, fun h1 => ?_⟩ <;> (try simp only [BL] at h1) <;> ((conv => whnf); repeat' (refine Z rfl ?_; conv => whnf))
 · have h1' : i2 < c.waves.length := by omega
   have hl := nmS_len (l := c.waves.map (·.name)) (i := i2)
   repeat' ((first | (intro hlq; (try simp only [SL] at hlq)) | refine Ka ?_ | refine Kb ?_ | refine Kc (hd := rfl) (e := ?_) | refine Kc (hd := Wave.cells_eq _) (e := ?_) | refine Kd (e := ?_) | refine Kl rfl ?_ | fail) <;> ((conv => whnf); repeat' (refine Z rfl ?_; conv => whnf)))
   refine ⟨by simp, ?_⟩
   ((conv => whnf); repeat' (refine Z rfl ?_; conv => whnf))
   refine ⟨fun h1 h2 => ?_, ?_⟩
   · simp only [List.length_singleton] at *
     omega
   ((conv => whnf); repeat' (refine Z rfl ?_; conv => whnf))
   repeat' ((first | (intro hlq; (try simp only [SL] at hlq)) | refine Ka ?_ | refine Kb ?_ | refine Kc (hd := rfl) (e := ?_) | refine Kc (hd := Cond.cells_eq _) (e := ?_) | refine Kd (e := ?_) | refine Kl rfl ?_ | fail) <;> ((conv => whnf); repeat' (refine Z rfl ?_; conv => whnf)))
   rw [show nmS (c.waves.map (·.name)) i2 ++ [[D.str c.waves[i2].name]] = nmS (c.waves.map (·.name)) (i2 + 1) from by
    rw [← nmS_step (by simpa using h1')]; simp]
   refine ⟨⟨i2 + 1, ?_, by omega, by omega⟩⟩
   repeat' (first | exact True.intro | exact rfl | refine And.intro ?_ ?_)
 rw [nmS_all (l := c.waves.map (·.name)) (i := i2) (by simpa using h1)]
 clear h1 hi
 refine loop_upd tok {} [(.inl 9, 9, 9, 1)] (X := Nat) (fun i => [(10, iB i), (9, .own 9)]) (fun i => [(9, .sl ⟨9, 1, nmS (c.offences.map (·.name)) i, true⟩)]) [] (fun i => i ≤ c.offences.length) (fun i => c.offences.length - i) 0 ?_
 ((conv => whnf); repeat' (refine Z rfl ?_; conv => whnf))
 refine ⟨by simp, ?_⟩
 ((conv => whnf); repeat' (refine Z rfl ?_; conv => whnf))
 refine And.intro ?_ ⟨by omega, fun i3 hi => ?_⟩
 · exact Kr
 ((conv => whnf); repeat' (refine Z rfl ?_; conv => whnf))
 repeat' ((first | (intro hlq; (try simp only [SL] at hlq)) | refine Ka ?_ | refine Kb ?_ | refine Kc (hd := rfl) (e := ?_) | refine Kc (hd := Cond.cells_eq _) (e := ?_) | refine Kd (e := ?_) | refine Kl rfl ?_ | fail) <;> ((conv => whnf); repeat' (refine Z rfl ?_; conv => whnf)))
 refine ⟨fun h1 => ?_, fun h1 => ?_⟩ <;> (try simp only [BL] at h1) <;> ((conv => whnf); repeat' (refine Z rfl ?_; conv => whnf))
 · have h1' : i3 < c.offences.length := by omega
   have hl := nmS_len (l := c.offences.map (·.name)) (i := i3)
   repeat' ((first | (intro hlq; (try simp only [SL] at hlq)) | refine Ka ?_ | refine Kb ?_ | refine Kc (hd := rfl) (e := ?_) | refine Kc (hd := Offence.cells_eq _) (e := ?_) | refine Kd (e := ?_) | refine Kl rfl ?_ | fail) <;> ((conv => whnf); repeat' (refine Z rfl ?_; conv => whnf)))
   refine ⟨by simp, ?_⟩
   ((conv => whnf); repeat' (refine Z rfl ?_; conv => whnf))
   refine ⟨fun h1 h2 => ?_, ?_⟩
   · simp only [List.length_singleton] at *
     omega
   ((conv => whnf); repeat' (refine Z rfl ?_; conv => whnf))
   repeat' ((first | (intro hlq; (try simp only [SL] at hlq)) | refine Ka ?_ | refine Kb ?_ | refine Kc (hd := rfl) (e := ?_) | refine Kc (hd := Cond.cells_eq _) (e := ?_) | refine Kd (e := ?_) | refine Kl rfl ?_ | fail) <;> ((conv => whnf); repeat' (refine Z rfl ?_; conv => whnf)))
   rw [show nmS (c.offences.map (·.name)) i3 ++ [[D.str c.offences[i3].name]] = nmS (c.offences.map (·.name)) (i3 + 1) from by
    rw [← nmS_step (by simpa using h1')]; simp]
   refine ⟨⟨i3 + 1, ?_, by omega, by omega⟩⟩
   repeat' (first | exact True.intro | exact rfl | refine And.intro ?_ ?_)
 rw [nmS_all (l := c.offences.map (·.name)) (i := i3) (by simpa using h1)]
 clear h1 hi
 refine loop_upd tok {} [(.inl 11, 11, 9, 1)] (X := Nat) (fun i => [(12, iB i), (11, .own 11)]) (fun i => [(11, .sl ⟨9, 1, nmS (c.categories.map (·.name)) i, true⟩)]) [] (fun i => i ≤ c.categories.length) (fun i => c.categories.length - i) 0 ?_
 ((conv => whnf); repeat' (refine Z rfl ?_; conv => whnf))
 refine ⟨by simp, ?_⟩
 ((conv => whnf); repeat' (refine Z rfl ?_; conv => whnf))
 refine And.intro ?_ ⟨by omega, fun i4 hi => ?_⟩
 · exact Kr
 ((conv => whnf); repeat' (refine Z rfl ?_; conv => whnf))
 repeat' ((first | (intro hlq; (try simp only [SL] at hlq)) | refine Ka ?_ | refine Kb ?_ | refine Kc (hd := rfl) (e := ?_) | refine Kc (hd := Cond.cells_eq _) (e := ?_) | refine Kd (e := ?_) | refine Kl rfl ?_ | fail) <;> ((conv => whnf); repeat' (refine Z rfl ?_; conv => whnf)))
 refine ⟨fun h1 => ?_, fun h1 => ?_⟩ <;> (try simp only [BL] at h1) <;> ((conv => whnf); repeat' (refine Z rfl ?_; conv => whnf))
 · have h1' : i4 < c.categories.length := by omega
   have hl := nmS_len (l := c.categories.map (·.name)) (i := i4)
   repeat' ((first | (intro hlq; (try simp only [SL] at hlq)) | refine Ka ?_ | refine Kb ?_ | refine Kc (hd := rfl) (e := ?_) | refine Kc (hd := Category.cells_eq _) (e := ?_) | refine Kd (e := ?_) | refine Kl rfl ?_ | fail) <;> ((conv => whnf); repeat' (refine Z rfl ?_; conv => whnf)))
   refine ⟨by simp, ?_⟩
   ((conv => whnf); repeat' (refine Z rfl ?_; conv => whnf))
   refine ⟨fun h1 h2 => ?_, ?_⟩
   · simp only [List.length_singleton] at *
     omega
   ((conv => whnf); repeat' (refine Z rfl ?_; conv => whnf))
   repeat' ((first | (intro hlq; (try simp only [SL] at hlq)) | refine Ka ?_ | refine Kb ?_ | refine Kc (hd := rfl) (e := ?_) | refine Kc (hd := Cond.cells_eq _) (e := ?_) | refine Kd (e := ?_) | refine Kl rfl ?_ | fail) <;> ((conv => whnf); repeat' (refine Z rfl ?_; conv => whnf)))
   rw [show nmS (c.categories.map (·.name)) i4 ++ [[D.str c.categories[i4].name]] = nmS (c.categories.map (·.name)) (i4 + 1) from by
    rw [← nmS_step (by simpa using h1')]; simp]
   refine ⟨⟨i4 + 1, ?_, by omega, by omega⟩⟩
   repeat' (first | exact True.intro | exact rfl | refine And.intro ?_ ?_)
 rw [nmS_all (l := c.categories.map (·.name)) (i := i4) (by simpa using h1)]
 clear h1 hi
 repeat' ((first | (intro hlq; (try simp only [SL] at hlq)) | refine Meets.k (rName_meets c.name) ?_ | refine Meets.k (different_meets (c.mats.map Mat.name)) ?_ | refine Meets.k (different_meets (c.distances.map Distance.name)) ?_ | refine Meets.k (different_meets (c.waves.map Wave.name)) ?_ | refine Meets.k (different_meets (c.offences.map Offence.name)) ?_ | refine Meets.k (different_meets (c.categories.map Category.name)) ?_ | ((refine Kh (fun hb => ?_) fun hb => ?_) <;> (try simp only [BL] at hb)) | refine Ka ?_ | refine Kb ?_ | refine Kc (hd := rfl) (e := ?_) | refine Kc (hd := Cond.cells_eq _) (e := ?_) | refine Kd (e := ?_) | refine Kl rfl ?_ | fail) <;> ((conv => whnf); repeat' (refine Z rfl ?_; conv => whnf)))
 all_goals (refine ⟨congrArg bD ?_⟩; rw [Course.named]; simp_all)
end Go.Proofs.YteckbkljaneppaaGreatDoor.Dx
/- Numbers of a course: what is asked of elements. -/
namespace Go.Proofs.YteckbkljaneppaaGreatDoor.Dx
open Go Go.RowKit
set_option maxRecDepth 100000
set_option maxHeartbeats 8000000
mutual
def Part.good (m : Int) : Part → Bool
 | ⟨mt, l, ps⟩ => if l = 0 then inR 0 m mt && decide ((ps.length : Int) = 0) else inR 1 64 l && (decide (mt = 0) && (decide ((ps.length : Int) > 0) && Part.goodL m ps))
def Part.goodL (m : Int) : List Part → Bool
 | [] => true
 | p :: ps => p.good m && Part.goodL m ps
end
theorem Part.goodL_eq (m : Int) : ∀ l : List Part, Part.goodL m l = l.all (Part.good m)
 | [] => rfl
 | p :: l => by rw [Part.goodL, Part.goodL_eq m l, List.all_cons]
theorem Part.good_eq (m : Int) (p : Part) : p.good m = if p.laps = 0 then inR 0 m p.mat && decide ((p.parts.length : Int) = 0) else inR 1 64 p.laps && (decide (p.mat = 0) && (decide ((p.parts.length : Int) > 0) && p.parts.all (Part.good m))) := by
 obtain ⟨mt, l, ps⟩ := p; simp only [Part.good, Part.goodL_eq]
def Cutoff.good (m : Int) (x : Cutoff) : Bool := inR 0 m x.mat && (decide (x.lap ≥ 1) && inR 0 1099511627776 x.limit)
def Distance.good (m : Int) (d : Distance) : Bool := inR 1 3 d.timing && (inR (-1) m d.extra && (d.route.all (Part.good m) && d.cutoffs.all (Cutoff.good m)))
def Leg.good (m : Int) (l : Leg) : Bool := (inR 0 m l.src && inR 0 m l.dst) && ((inR 0 68719476736 l.lo && inR 0 68719476736 l.hi) && decide (l.lo ≤ l.hi))
def Offence.good (o : Offence) : Bool := if o.out then decide (o.time = 0) && decide (o.laps = 0) else if o.laps = 0 then inR 0 68719476736 o.time else decide (o.time = 0) && inR 1 64 o.laps
def Prize.good (nd nc : Int) (p : Prize) : Bool := inR 0 nd p.distance && (inR (-1) nc p.category && (inR 1 4000 p.rank && inR 1 1125899906842624 p.amount))
def Mat.good (m : Mat) : Bool := inR 1 3 m.kind
def Wave.good (w : Wave) : Bool := inR 0 1099511627776 w.gun
def Category.good (x : Category) : Bool := (inR 0 120 x.lo && inR 0 120 x.hi) && decide (x.lo ≤ x.hi)
abbrev mp1 (m : Int) : D := .ptr [iD m] 0
def pc (m : Int) : List D → List D := fun x => [.fn 110 [] [mp1 m, .ptr x 0]]
theorem matGood_meets (x : Mat) : Meets Tryz.prog 120 [x.d] fun r => r = bD x.good := by
 refine enter tok {} Tryz.func120 rfl (by kernel_rfl) Tryz.ntmps120 (by simp) fun B0 W0 V0 lent g0 => ?_
 ((conv => whnf); repeat' (refine Z rfl ?_; conv => whnf))
 repeat' ((first | (intro hlq; (try simp only [SL] at hlq)) | refine Meets.k (within_meets 1 3 [x.kind]) ?_ | ((refine Kh (fun hb => ?_) fun hb => ?_) <;> (try simp only [BL] at hb)) | refine Ka ?_ | refine Kb ?_ | refine Kc (hd := rfl) (e := ?_) | refine Kc (hd := Cond.cells_eq _) (e := ?_) | refine Kd (e := ?_) | refine Kl rfl ?_ | fail) <;> ((conv => whnf); repeat' (refine Z rfl ?_; conv => whnf)))
 all_goals (refine ⟨congrArg bD ?_⟩; simp_all [Mat.good])
theorem waveGood_meets (x : Wave) : Meets Tryz.prog 125 [x.d] fun r => r = bD x.good := by
 refine enter tok {} Tryz.func125 rfl (by kernel_rfl) Tryz.ntmps125 (by simp) fun B0 W0 V0 lent g0 => ?_
 ((conv => whnf); repeat' (refine Z rfl ?_; conv => whnf))
 repeat' ((first | (intro hlq; (try simp only [SL] at hlq)) | refine Meets.k (within_meets 0 1099511627776 [x.gun]) ?_ | ((refine Kh (fun hb => ?_) fun hb => ?_) <;> (try simp only [BL] at hb)) | refine Ka ?_ | refine Kb ?_ | refine Kc (hd := rfl) (e := ?_) | refine Kc (hd := Cond.cells_eq _) (e := ?_) | refine Kd (e := ?_) | refine Kl rfl ?_ | fail) <;> ((conv => whnf); repeat' (refine Z rfl ?_; conv => whnf)))
 all_goals (refine ⟨congrArg bD ?_⟩; simp_all [Wave.good])
theorem categoryGood_meets (x : Category) : Meets Tryz.prog 128 [x.d] fun r => r = bD x.good := by
 refine enter tok {} Tryz.func128 rfl (by kernel_rfl) Tryz.ntmps128 (by simp) fun B0 W0 V0 lent g0 => ?_
 ((conv => whnf); repeat' (refine Z rfl ?_; conv => whnf))
 repeat' ((first | (intro hlq; (try simp only [SL] at hlq)) | refine Meets.k (within_meets 0 120 [x.lo, x.hi]) ?_ | ((refine Kh (fun hb => ?_) fun hb => ?_) <;> (try simp only [BL] at hb)) | refine Ka ?_ | refine Kb ?_ | refine Kc (hd := rfl) (e := ?_) | refine Kc (hd := Cond.cells_eq _) (e := ?_) | refine Kd (e := ?_) | refine Kl rfl ?_ | fail) <;> ((conv => whnf); repeat' (refine Z rfl ?_; conv => whnf)))
 all_goals (refine ⟨congrArg bD ?_⟩; simp_all [Category.good])
theorem offenceGood_meets (x : Offence) : Meets Tryz.prog 117 [x.d] fun r => r = bD x.good := by
 refine enter tok {} Tryz.func117 rfl (by kernel_rfl) Tryz.ntmps117 (by simp) fun B0 W0 V0 lent g0 => ?_
 ((conv => whnf); repeat' (refine Z rfl ?_; conv => whnf))
 repeat' ((first | (intro hlq; (try simp only [SL] at hlq)) | refine Meets.k (within_meets 0 68719476736 [x.time]) ?_ | refine Meets.k (within_meets 1 64 [x.laps]) ?_ | ((refine Kh (fun hb => ?_) fun hb => ?_) <;> (try simp only [BL] at hb)) | refine Ka ?_ | refine Kb ?_ | refine Kc (hd := rfl) (e := ?_) | refine Kc (hd := Cond.cells_eq _) (e := ?_) | refine Kd (e := ?_) | refine Kl rfl ?_ | fail) <;> ((conv => whnf); repeat' (refine Z rfl ?_; conv => whnf)))
 all_goals (refine ⟨congrArg bD ?_⟩; simp_all [Offence.good])
theorem legGood_meets (m : Int) (x : Leg) : Meets Tryz.prog 116 [x.d, mp1 m] fun r => r = bD (x.good m) := by
 refine enter tok {} Tryz.func116 rfl (by kernel_rfl) Tryz.ntmps116 (by simp) fun B0 W0 V0 lent g0 => ?_
 ((conv => whnf); repeat' (refine Z rfl ?_; conv => whnf))
 repeat' ((first | (intro hlq; (try simp only [SL] at hlq)) | refine Meets.k (within_meets 0 m [x.src, x.dst]) ?_ | refine Meets.k (within_meets 0 68719476736 [x.lo, x.hi]) ?_ | ((refine Kh (fun hb => ?_) fun hb => ?_) <;> (try simp only [BL] at hb)) | refine Ka ?_ | refine Kb ?_ | refine Kc (hd := rfl) (e := ?_) | refine Kc (hd := Cond.cells_eq _) (e := ?_) | refine Kd (e := ?_) | refine Kl rfl ?_ | fail) <;> ((conv => whnf); repeat' (refine Z rfl ?_; conv => whnf)))
 all_goals (refine ⟨congrArg bD ?_⟩; simp_all [Leg.good])
theorem cutoffGood_meets (m : Int) (x : Cutoff) : Meets Tryz.prog 113 [x.d, mp1 m] fun r => r = bD (x.good m) := by
 refine enter tok {} Tryz.func113 rfl (by kernel_rfl) Tryz.ntmps113 (by simp) fun B0 W0 V0 lent g0 => ?_
 ((conv => whnf); repeat' (refine Z rfl ?_; conv => whnf))
 repeat' ((first | (intro hlq; (try simp only [SL] at hlq)) | refine Meets.k (within_meets 0 m [x.mat]) ?_ | refine Meets.k (within_meets 0 1099511627776 [x.limit]) ?_ | ((refine Kh (fun hb => ?_) fun hb => ?_) <;> (try simp only [BL] at hb)) | refine Ka ?_ | refine Kb ?_ | refine Kc (hd := rfl) (e := ?_) | refine Kc (hd := Cond.cells_eq _) (e := ?_) | refine Kd (e := ?_) | refine Kl rfl ?_ | fail) <;> ((conv => whnf); repeat' (refine Z rfl ?_; conv => whnf)))
 all_goals (refine ⟨congrArg bD ?_⟩; simp_all [Cutoff.good])
 all_goals (intro h; omega)
theorem prizeGood_meets (c : Course) (x : Prize) : Meets Tryz.prog 118 [x.d, .ptr c.cells 0] fun r => r = bD (x.good (c.distances.length - 1) (c.categories.length - 1)) := by
 refine enter tok {} Tryz.func118 rfl (by kernel_rfl) Tryz.ntmps118 (by simp) fun B0 W0 V0 lent g0 => ?_
 ((conv => whnf); repeat' (refine Z rfl ?_; conv => whnf))
 repeat' ((first | (intro hlq; (try simp only [SL] at hlq)) | refine Meets.k (within_meets 0 ((c.distances.map Distance.cells).length - 1) [x.distance]) ?_ | refine Meets.k (within_meets (-1) ((c.categories.map Category.cells).length - 1) [x.category]) ?_ | refine Meets.k (within_meets 1 4000 [x.rank]) ?_ | refine Meets.k (within_meets 1 1125899906842624 [x.amount]) ?_ | ((refine Kh (fun hb => ?_) fun hb => ?_) <;> (try simp only [BL] at hb)) | refine Ka ?_ | refine Kb ?_ | refine Kc (hd := rfl) (e := ?_) | refine Kc (hd := Cond.cells_eq _) (e := ?_) | refine Kd (e := ?_) | refine Kl rfl ?_ | fail) <;> ((conv => whnf); repeat' (refine Z rfl ?_; conv => whnf)))
 all_goals (refine ⟨congrArg bD ?_⟩; simp_all [Prize.good])
theorem Part.deep_mem : ∀ {l : List Part} {p : Part}, p ∈ l → p.deep ≤ Part.deepL l
 | x :: l, p, h => by
   rw [Part.deepL]
   rcases List.mem_cons.1 h with rfl | h
   · omega
   · have := Part.deep_mem h; omega
theorem partGood_meets (m : Int) (p : Part) (j : List D) (k : Nat) (hk : p.deep ≤ k) : Meets Tryz.prog 110 [p.d, mp1 m, .ptr (iterD (pc m) j k) 0] fun r => r = bD (p.good m) := by
 have hd := p.deep_or
 refine enter tok {} Tryz.func110 rfl (by kernel_rfl) Tryz.ntmps110 (by simp) fun B0 W0 V0 lent g0 => ?_
 ((conv => whnf); repeat' (refine Z rfl ?_; conv => whnf))
 repeat' ((first | (intro hlq; (try simp only [SL] at hlq)) | refine Meets.k (within_meets 0 m [p.mat]) ?_ | refine Meets.k (within_meets 1 64 [p.laps]) ?_ | ((refine Kh (fun hb => ?_) fun hb => ?_) <;> (try simp only [BL] at hb)) | refine Ka ?_ | refine Kb ?_ | refine Kc (hd := rfl) (e := ?_) | refine Kc (hd := Cond.cells_eq _) (e := ?_) | refine Kd (e := ?_) | refine Kl rfl ?_ | fail) <;> ((conv => whnf); repeat' (refine Z rfl ?_; conv => whnf)))
 all_goals first
  | (refine ⟨congrArg bD ?_⟩
     rw [Part.good_eq]
     simp_all
     done)
  | skip
 cases k with
 | zero => exfalso; omega
 | succ k =>
   ((conv => whnf); repeat' (refine Z rfl ?_; conv => whnf))
   refine Meets.k (all_part p.parts 110 [] [mp1 m, .ptr (iterD (pc m) j k) 0] (Part.good m) fun x hx => partGood_meets m x j k (by have := Part.deep_mem hx; omega)) ?_
   ((conv => whnf); repeat' (refine Z rfl ?_; conv => whnf))
   refine ⟨congrArg bD ?_⟩
   rw [Part.good_eq]
   simp_all
termination_by k
theorem distanceGood_meets (m : Int) (d : Distance) (j : List D) (k : Nat) (hk : Part.deepL d.route < k) : Meets Tryz.prog 114 [d.d, mp1 m, .ptr (iterD (pc m) j k) 0, .ptr [.fn 113 [] [mp1 m]] 0] fun r => r = bD (d.good m) := by
 cases k with
 | zero => exfalso; omega
 | succ k =>
   refine enter tok {} Tryz.func114 rfl (by kernel_rfl) Tryz.ntmps114 (by simp) fun B0 W0 V0 lent g0 => ?_
   ((conv => whnf); repeat' (refine Z rfl ?_; conv => whnf))
   repeat' ((first | (intro hlq; (try simp only [SL] at hlq)) | refine Meets.k (within_meets 1 3 [d.timing]) ?_ | refine Meets.k (within_meets (-1) m [d.extra]) ?_ | refine Meets.k (all_part d.route 110 [] [mp1 m, .ptr (iterD (pc m) j k) 0] (Part.good m) fun x hx => partGood_meets m x j k (by have := Part.deep_mem hx; omega)) ?_ | refine Meets.k (all_cutoff d.cutoffs 113 [] [mp1 m] (Cutoff.good m) fun x _ => cutoffGood_meets m x) ?_ | ((refine Kh (fun hb => ?_) fun hb => ?_) <;> (try simp only [BL] at hb)) | refine Ka ?_ | refine Kb ?_ | refine Kc (hd := rfl) (e := ?_) | refine Kc (hd := Cond.cells_eq _) (e := ?_) | refine Kd (e := ?_) | refine Kl rfl ?_ | fail) <;> ((conv => whnf); repeat' (refine Z rfl ?_; conv => whnf)))
   all_goals (refine ⟨congrArg bD ?_⟩; simp_all [Distance.good])
   all_goals (intro h; obtain ⟨x, hx, hf⟩ := hb; rw [h x hx] at hf; cases hf)
abbrev Leg.key (l : Leg) : D := .agg [iD l.src, iD l.dst]
abbrev Prize.key (p : Prize) : D := .agg [iD p.distance, iD p.category, iD p.rank]
theorem legKey_meets (x : Leg) : Meets Tryz.prog 123 [x.d] fun r => r = x.key := by
 refine enter tok {} Tryz.func123 rfl (by kernel_rfl) Tryz.ntmps123 (by simp) fun B0 W0 V0 lent g0 => ?_
 ((conv => whnf); repeat' (refine Z rfl ?_; conv => whnf))
 exact ⟨rfl⟩
theorem prizeKey_meets (x : Prize) : Meets Tryz.prog 131 [x.d] fun r => r = x.key := by
 refine enter tok {} Tryz.func131 rfl (by kernel_rfl) Tryz.ntmps131 (by simp) fun B0 W0 V0 lent g0 => ?_
 ((conv => whnf); repeat' (refine Z rfl ?_; conv => whnf))
 exact ⟨rfl⟩
open Classical in
theorem mput_keys {l : List (D × D)} {k v : D} : (mput l k v).length = l.length + (if k ∈ l.map (·.1) then 0 else 1) ∧ ∀ x, x ∈ (mput l k v).map (·.1) ↔ x ∈ l.map (·.1) ∨ x = k := by
 induction l with
 | nil => simp [mput]
 | cons p l ih =>
   simp only [mput]
   by_cases e : p.1 = k
   · subst e
     simp
   · rw [if_neg e]
     have e' : ¬ k = p.1 := fun h => e h.symm
     simp only [List.length_cons, List.map_cons, List.mem_cons, ih.1, e', false_or]
     refine ⟨by omega, fun x => ?_⟩
     rw [ih.2]
     simp only [or_assoc]
noncomputable def kmap (ks : List D) : List (D × D) := ks.foldl (fun l k => mput l k (bD true)) []
theorem kmap_snoc (ks : List D) (k : D) : kmap (ks ++ [k]) = mput (kmap ks) k (bD true) := by simp [kmap]
open Classical in
theorem kmap_law : ∀ n, ∀ ks : List D, ks.length = n → (∀ x, x ∈ (kmap ks).map (·.1) ↔ x ∈ ks) ∧ (kmap ks).length ≤ ks.length ∧ ((kmap ks).length = ks.length ↔ ks.Nodup) := by
 intro n
 induction n with
 | zero =>
   intro ks h
   obtain rfl := List.eq_nil_of_length_eq_zero h
   simp [kmap]
 | succ n ih =>
   intro ks h
   obtain ⟨l, k, rfl⟩ : ∃ l k, ks = l ++ [k] := by
    have hne : ks ≠ [] := by rintro rfl; simp at h
    exact ⟨_, _, (List.dropLast_concat_getLast hne).symm⟩
   obtain ⟨h1, h2, h3⟩ := ih l (by simpa using h)
   obtain ⟨g1, g2⟩ := mput_keys (l := kmap l) (k := k) (v := bD true)
   rw [kmap_snoc]
   refine ⟨fun x => ?_, ?_, ?_⟩
   · rw [g2, h1]; simp
   · rw [g1]; simp only [List.length_append, List.length_singleton]; split <;> omega
   · rw [g1, List.nodup_append]
     simp only [List.length_append, List.length_singleton]
     simp only [h1]
     by_cases hm : k ∈ l
     · rw [if_pos hm]
       constructor
       · intro h; omega
       · intro ⟨_, _, h⟩; exact absurd rfl (h k hm k (List.mem_singleton.2 rfl))
     · rw [if_neg hm]
       constructor
       · intro h
         refine ⟨h3.1 (by omega), by simp, fun a ha b hb => ?_⟩
         rw [List.mem_singleton.1 hb]
         rintro rfl
         exact hm ha
       · intro ⟨h, _, _⟩
         have := h3.2 h
         omega
theorem kmap_keyed {S : D → Prop} {ks : List D} (h : ∀ k ∈ ks, S k) : ∀ p ∈ kmap ks, S p.1 := fun p hp => h _ (((kmap_law _ ks rfl).1 p.1).1 (List.mem_map.2 ⟨p, hp, rfl⟩))
theorem key_nodup {α β : Type} [DecidableEq β] {f : α → D} {g : α → β} {xs : List α} (h : ∀ a b, f a = f b ↔ g a = g b) : decide ((kmap (xs.map f)).length = xs.length) = decide (xs.map g).Nodup := by
 have h3 := (kmap_law _ (xs.map f) rfl).2.2
 rw [List.length_map] at h3
 rw [Bool.eq_iff_iff, decide_eq_true_eq, decide_eq_true_eq, h3, List.Nodup, List.Nodup, List.pairwise_map, List.pairwise_map]
 constructor
 · exact fun hp => hp.imp fun hn e => hn ((h _ _).2 e)
 · exact fun hp => hp.imp fun hn e => hn ((h _ _).1 e)
theorem onceLeg_meets (xs : List Leg) (hl : xs.length ≤ 1048576) : Meets Tryz.prog 122 [.sl (xs.map Leg.cells), .fn 123 [] []] fun r => r = bD (decide (xs.map fun x => (x.src, x.dst)).Nodup) := by
 have hkey : ∀ x ∈ xs.map Leg.key, KInts 2 x := by
  intro k hk
  obtain ⟨x, _, rfl⟩ := List.mem_map.1 hk
  exact ⟨[x.src, x.dst], rfl, rfl⟩
 refine enter tok {} Tryz.func122 rfl (by kernel_rfl) Tryz.ntmps122 (by simp) fun B0 W0 V0 lent g0 => ?_
 ((conv => whnf); repeat' (refine Z rfl ?_; conv => whnf))
 repeat' ((first | (intro hlq; (try simp only [SL] at hlq)) | refine Ka ?_ | refine Kb ?_ | refine Kc (hd := rfl) (e := ?_) | refine Kc (hd := Cond.cells_eq _) (e := ?_) | refine Kd (e := ?_) | refine Kl rfl ?_ | fail) <;> ((conv => whnf); repeat' (refine Z rfl ?_; conv => whnf)))
 refine loop_upd tok {} [] (X := Nat) (fun i => [(11, iB i)]) (fun i => [(8, .mp (kmap ((xs.map Leg.key).take i)))]) [7] (fun i => i ≤ xs.length) (fun i => xs.length - i) 0 ?_
 ((conv => whnf); repeat' (refine Z rfl ?_; conv => whnf))
 refine And.intro ?_ ⟨by omega, fun i hi => ?_⟩
 · exact Kr
 ((conv => whnf); repeat' (refine Z rfl ?_; conv => whnf))
 refine ⟨fun h1 => ?_, fun h1 => ?_⟩ <;> (try simp only [BL] at h1) <;> ((conv => whnf); repeat' (refine Z rfl ?_; conv => whnf))
 · have h1' : i < xs.length := by omega
   repeat' ((first | (intro hlq; (try simp only [SL] at hlq)) | refine Meets.k (legKey_meets xs[i]) ?_ | ((refine Kh (fun hb => ?_) fun hb => ?_) <;> (try simp only [BL] at hb)) | refine Ka ?_ | refine Kb ?_ | refine Kc (hd := rfl) (e := ?_) | refine Kc (hd := Cond.cells_eq _) (e := ?_) | refine Kd (e := ?_) | refine Kl rfl ?_ | fail) <;> ((conv => whnf); repeat' (refine Z rfl ?_; conv => whnf)))
   refine ⟨⟨hkey xs[i].key (List.mem_map.2 ⟨_, List.getElem_mem h1', rfl⟩), kmap_keyed fun k hk => hkey k (List.mem_of_mem_take hk)⟩, ?_⟩
   rw [show mput (kmap (List.take i (List.map Leg.key xs))) xs[i].key (bD true) = kmap (List.take (i + 1) (List.map Leg.key xs)) from by
    rw [List.take_succ_eq_append_getElem (by simpa using h1'), kmap_snoc, List.getElem_map]]
   ((conv => whnf); repeat' (refine Z rfl ?_; conv => whnf))
   repeat' ((first | (intro hlq; (try simp only [SL] at hlq)) | refine Ka ?_ | refine Kb ?_ | refine Kc (hd := rfl) (e := ?_) | refine Kc (hd := Cond.cells_eq _) (e := ?_) | refine Kd (e := ?_) | refine Kl rfl ?_ | fail) <;> ((conv => whnf); repeat' (refine Z rfl ?_; conv => whnf)))
   refine ⟨⟨i + 1, ?_, by omega, by omega⟩⟩
   repeat' (first | exact True.intro | exact rfl | refine And.intro ?_ ?_)
 · have e : (xs.map Leg.key).take i = xs.map Leg.key := List.take_of_length_le (by simp; omega)
   rw [e]
   have hlen := (kmap_law _ (xs.map Leg.key) rfl).2.1
   rw [List.length_map] at hlen
   refine ⟨by simp only [maxLen]; omega, ?_⟩
   ((conv => whnf); repeat' (refine Z rfl ?_; conv => whnf))
   repeat' ((first | (intro hlq; (try simp only [SL] at hlq)) | refine Ka ?_ | refine Kb ?_ | refine Kc (hd := rfl) (e := ?_) | refine Kc (hd := Cond.cells_eq _) (e := ?_) | refine Kd (e := ?_) | refine Kl rfl ?_ | fail) <;> ((conv => whnf); repeat' (refine Z rfl ?_; conv => whnf)))
   refine ⟨congrArg bD ?_⟩
   rw [← key_nodup (f := Leg.key) (g := fun x => (x.src, x.dst)) (fun a b => by simp [Leg.key]), Bool.eq_iff_iff]
   simp only [decide_eq_true_eq, List.length_map]
   omega
theorem oncePrize_meets (xs : List Prize) (hl : xs.length ≤ 1048576) : Meets Tryz.prog 130 [.sl (xs.map Prize.cells), .fn 131 [] []] fun r => r = bD (decide (xs.map fun x => (x.distance, x.category, x.rank)).Nodup) := by
 have hkey : ∀ x ∈ xs.map Prize.key, KInts 3 x := by
  intro k hk
  obtain ⟨x, _, rfl⟩ := List.mem_map.1 hk
  exact ⟨[x.distance, x.category, x.rank], rfl, rfl⟩
 refine enter tok {} Tryz.func130 rfl (by kernel_rfl) Tryz.ntmps130 (by simp) fun B0 W0 V0 lent g0 => ?_
 ((conv => whnf); repeat' (refine Z rfl ?_; conv => whnf))
 repeat' ((first | (intro hlq; (try simp only [SL] at hlq)) | refine Ka ?_ | refine Kb ?_ | refine Kc (hd := rfl) (e := ?_) | refine Kc (hd := Cond.cells_eq _) (e := ?_) | refine Kd (e := ?_) | refine Kl rfl ?_ | fail) <;> ((conv => whnf); repeat' (refine Z rfl ?_; conv => whnf)))
 refine loop_upd tok {} [] (X := Nat) (fun i => [(11, iB i)]) (fun i => [(8, .mp (kmap ((xs.map Prize.key).take i)))]) [7] (fun i => i ≤ xs.length) (fun i => xs.length - i) 0 ?_
 ((conv => whnf); repeat' (refine Z rfl ?_; conv => whnf))
 refine And.intro ?_ ⟨by omega, fun i hi => ?_⟩
 · exact Kr
 ((conv => whnf); repeat' (refine Z rfl ?_; conv => whnf))
 refine ⟨fun h1 => ?_, fun h1 => ?_⟩ <;> (try simp only [BL] at h1) <;> ((conv => whnf); repeat' (refine Z rfl ?_; conv => whnf))
 · have h1' : i < xs.length := by omega
   repeat' ((first | (intro hlq; (try simp only [SL] at hlq)) | refine Meets.k (prizeKey_meets xs[i]) ?_ | ((refine Kh (fun hb => ?_) fun hb => ?_) <;> (try simp only [BL] at hb)) | refine Ka ?_ | refine Kb ?_ | refine Kc (hd := rfl) (e := ?_) | refine Kc (hd := Cond.cells_eq _) (e := ?_) | refine Kd (e := ?_) | refine Kl rfl ?_ | fail) <;> ((conv => whnf); repeat' (refine Z rfl ?_; conv => whnf)))
   refine ⟨⟨hkey xs[i].key (List.mem_map.2 ⟨_, List.getElem_mem h1', rfl⟩), kmap_keyed fun k hk => hkey k (List.mem_of_mem_take hk)⟩, ?_⟩
   rw [show mput (kmap (List.take i (List.map Prize.key xs))) xs[i].key (bD true) = kmap (List.take (i + 1) (List.map Prize.key xs)) from by
    rw [List.take_succ_eq_append_getElem (by simpa using h1'), kmap_snoc, List.getElem_map]]
   ((conv => whnf); repeat' (refine Z rfl ?_; conv => whnf))
   repeat' ((first | (intro hlq; (try simp only [SL] at hlq)) | refine Ka ?_ | refine Kb ?_ | refine Kc (hd := rfl) (e := ?_) | refine Kc (hd := Cond.cells_eq _) (e := ?_) | refine Kd (e := ?_) | refine Kl rfl ?_ | fail) <;> ((conv => whnf); repeat' (refine Z rfl ?_; conv => whnf)))
   refine ⟨⟨i + 1, ?_, by omega, by omega⟩⟩
   repeat' (first | exact True.intro | exact rfl | refine And.intro ?_ ?_)
 · have e : (xs.map Prize.key).take i = xs.map Prize.key := List.take_of_length_le (by simp; omega)
   rw [e]
   have hlen := (kmap_law _ (xs.map Prize.key) rfl).2.1
   rw [List.length_map] at hlen
   refine ⟨by simp only [maxLen]; omega, ?_⟩
   ((conv => whnf); repeat' (refine Z rfl ?_; conv => whnf))
   repeat' ((first | (intro hlq; (try simp only [SL] at hlq)) | refine Ka ?_ | refine Kb ?_ | refine Kc (hd := rfl) (e := ?_) | refine Kc (hd := Cond.cells_eq _) (e := ?_) | refine Kd (e := ?_) | refine Kl rfl ?_ | fail) <;> ((conv => whnf); repeat' (refine Z rfl ?_; conv => whnf)))
   refine ⟨congrArg bD ?_⟩
   rw [← key_nodup (f := Prize.key) (g := fun x => (x.distance, x.category, x.rank)) (fun a b => by simp [Prize.key]), Bool.eq_iff_iff]
   simp only [decide_eq_true_eq, List.length_map]
   omega
end Go.Proofs.YteckbkljaneppaaGreatDoor.Dx
