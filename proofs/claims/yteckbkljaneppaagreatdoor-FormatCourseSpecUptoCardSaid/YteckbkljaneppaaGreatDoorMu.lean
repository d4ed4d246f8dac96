/- Parts of routes: their depth and their number; fits. -/
import Derived.Test.YteckbkljaneppaaGreatDoorMt
set_option linter.all false
namespace Go.Proofs.YteckbkljaneppaaGreatDoor.Dx
open Go Go.RowKit
set_option maxRecDepth 100000
set_option maxHeartbeats 8000000
mutual
def Part.deep : Part → Nat
 | ⟨_, _, ps⟩ => if ps.isEmpty then 0 else 1 + Part.deepL ps
def Part.deepL : List Part → Nat
 | [] => 0
 | p :: ps => max p.deep (Part.deepL ps)
end
mutual
def Part.cnt : Part → Nat
 | ⟨_, _, ps⟩ => 1 + Part.cntL ps
def Part.cntL : List Part → Nat
 | [] => 0
 | p :: ps => p.cnt + Part.cntL ps
end
theorem Part.cnt_eq (p : Part) : p.cnt = 1 + Part.cntL p.parts := by obtain ⟨m, n, ps⟩ := p; rfl
theorem Part.deepL_append : ∀ a b : List Part, Part.deepL (a ++ b) = max (Part.deepL a) (Part.deepL b)
 | [], b => by simp [Part.deepL]
 | x :: a, b => by rw [List.cons_append, Part.deepL, Part.deepL_append a b, Part.deepL]; omega
theorem Part.cntL_append : ∀ a b : List Part, Part.cntL (a ++ b) = Part.cntL a + Part.cntL b
 | [], b => by simp [Part.cntL]
 | x :: a, b => by rw [List.cons_append, Part.cntL, Part.cntL_append a b, Part.cntL]; omega
theorem Part.len_cnt : ∀ l : List Part, l.length ≤ Part.cntL l
 | [] => by simp
 | x :: l => by have := Part.len_cnt l; rw [Part.cntL, Part.cnt_eq, List.length_cons]; omega
theorem Part.deepL_take {l : List Part} {i : Nat} (h : i < l.length) : Part.deepL (l.take (i + 1)) = max (Part.deepL (l.take i)) l[i].deep := by
 rw [List.take_succ_eq_append_getElem h, Part.deepL_append]; simp [Part.deepL]
theorem Part.cntL_take {l : List Part} {i : Nat} (h : i < l.length) : Part.cntL (l.take (i + 1)) = Part.cntL (l.take i) + (1 + Part.cntL l[i].parts) := by
 rw [List.take_succ_eq_append_getElem h, Part.cntL_append]; simp [Part.cntL, Part.cnt_eq]
theorem Part.cnt_part {l : List Part} {i : Nat} (h : i < l.length) : 1 + Part.cntL l[i].parts ≤ Part.cntL l := by
 have h1 := Part.cntL_take h
 have h2 := Part.cntL_append (l.take (i + 1)) (l.drop (i + 1))
 rw [List.take_append_drop] at h2
 omega
mutual
theorem Part.deep_le : ∀ p : Part, p.deep ≤ p.cnt
 | ⟨m, n, ps⟩ => by
   have := Part.deepL_le ps
   simp only [Part.deep, Part.cnt]
   split <;> omega
theorem Part.deepL_le : ∀ l : List Part, Part.deepL l ≤ Part.cntL l
 | [] => by simp [Part.deepL]
 | p :: l => by
   have h1 := Part.deep_le p
   have h2 := Part.deepL_le l
   simp only [Part.deepL, Part.cntL]
   omega
end
theorem Part.deep_or (p : Part) : (p.parts.length = 0 ∧ p.deep = 0 ∧ Part.cntL p.parts = 0) ∨ (0 < p.parts.length ∧ p.deep = 1 + Part.deepL p.parts) := by
 obtain ⟨m, n, ps⟩ := p
 cases ps with
 | nil => exact .inl ⟨rfl, rfl, rfl⟩
 | cons x l => exact .inr ⟨Nat.succ_pos _, rfl⟩
def Dep (n : Nat) (t : List Part) (left d m : Int) : Prop :=
 (m + t.length ≤ n + Part.cntL t ∧ (n : Int) ≤ m) ∧ (0 ≤ d ∧ d ≤ Part.deepL t) ∧ (m ≤ 256 → ((Part.deepL t : Int) ≤ left → d = Part.deepL t ∧ m + t.length = n + Part.cntL t) ∧ (left < (Part.deepL t : Int) → left ≤ d))
theorem depth_meets (l : List Part) (left : Int) (h0 : 0 ≤ left ∧ left ≤ 17) (hl : Part.cntL l ≤ 1048576) :
 Meets Tryz.prog 98 [.sl (l.map Part.cells), iD left] fun r => ∃ d m : Int, r = .tup [iD d, iD m] ∧ Dep l.length l left d m := by
 have hlen := Part.len_cnt l
 refine enter tok {} Tryz.func98 rfl (by kernel_rfl) Tryz.ntmps98 (by simp) fun B0 W0 V0 lent g0 => ?_
 ((conv => whnf); repeat' (refine Z rfl ?_; conv => whnf))
 repeat' ((first | (intro hlq; (try simp only [SL] at hlq)) | refine Ka ?_ | refine Kb ?_ | refine Kc (hd := rfl) (e := ?_) | refine Kc (hd := Cond.cells_eq _) (e := ?_) | refine Kd (e := ?_) | refine Kl rfl ?_ | fail) <;> ((conv => whnf); repeat' (refine Z rfl ?_; conv => whnf)))
 refine loop_upd tok {} [] (X := Nat × Int × Int) (fun x => [(14, iB x.1), (4, iB x.2.1), (5, iB x.2.2)]) (fun _ => []) [7] (fun x => x.1 ≤ l.length ∧ Dep l.length (l.take x.1) left x.2.1 x.2.2) (fun x => l.length - x.1) (0, 0, ((l.map Part.cells).length : Int)) ?_
 ((conv => whnf); repeat' (refine Z rfl ?_; conv => whnf))
 refine And.intro ?_ ⟨⟨by omega, by simp [Dep, Part.deepL, Part.cntL]; omega⟩, fun x hΦ => ?_⟩
 · exact Kr
 obtain ⟨i, d, m⟩ := x
 obtain ⟨hi, hD⟩ := hΦ
 dsimp only at hi hD
 ((conv => whnf); repeat' (refine Z rfl ?_; conv => whnf))
 refine ⟨fun h1 => ?_, fun h1 => ?_⟩ <;> (try simp only [BL] at h1) <;> ((conv => whnf); repeat' (refine Z rfl ?_; conv => whnf))
 · have h1' : i < l.length := by omega
   have e1 := Part.deepL_take h1'
   have e2 := Part.cntL_take h1'
   have e3 := l[i].deep_or
   have e4 := Part.cnt_part h1'
   have e5 := Part.len_cnt l[i].parts
   have e6 : (l.take (i + 1)).length = i + 1 := by rw [List.length_take]; omega
   have e7 : (l.take i).length = i := by rw [List.length_take]; omega
   rw [Dep, e7] at hD
   have hskip : (l[i].parts.length = 0 ∨ left = 0 ∨ m > 256) → Dep l.length (l.take (i + 1)) left d m := by
    intro h
    rw [Dep, e1, e2, e6]
    omega
   repeat' ((first | (intro hlq; (try simp only [SL] at hlq)) | ((refine Kh (fun hb => ?_) fun hb => ?_) <;> (try simp only [BL] at hb)) | refine Ka ?_ | refine Kb ?_ | refine Kc (hd := rfl) (e := ?_) | refine Kc (hd := Part.cells_eq _) (e := ?_) | refine Kd (e := ?_) | refine Kl rfl ?_ | fail) <;> ((conv => whnf); repeat' (refine Z rfl ?_; conv => whnf)))
   iterate 3
    · refine ⟨⟨(i + 1, d, m), ?_, ⟨by dsimp only; omega, hskip (by (try dsimp only at *); omega)⟩, by dsimp only; omega⟩⟩
      repeat' (first | exact True.intro | exact rfl | refine And.intro ?_ ?_)
   (try dsimp only at *)
   refine (depth_meets l[i].parts (left - 1) (by omega) (by omega)).mono fun r hr => ?_
   obtain ⟨d', m', rfl, hD'⟩ := hr
   have e8 := Part.deepL_le l[i].parts
   rw [Dep] at hD'
   ((conv => whnf); repeat' (refine Z rfl ?_; conv => whnf))
   repeat' ((first | (intro hlq; (try simp only [SL] at hlq)) | refine Ka ?_ | refine Kb ?_ | refine Kc (hd := rfl) (e := ?_) | refine Kc (hd := Cond.cells_eq _) (e := ?_) | refine Kd (e := ?_) | refine Kl rfl ?_ | fail) <;> ((conv => whnf); repeat' (refine Z rfl ?_; conv => whnf)))
   refine ⟨⟨(i + 1, max d (d' + 1), m + m'), ?_, ⟨by dsimp only; omega, ?_⟩, by dsimp only; omega⟩⟩
   · exact Kr
   dsimp only
   rw [Dep, e1, e2, e6]
   omega
 · skip
   have e : l.take i = l := List.take_of_length_le (by omega)
   rw [e] at hD
   exact ⟨d, m, rfl, hD⟩
termination_by Part.cntL l
decreasing_by omega
theorem Dep.fit {l : List Part} {d m : Int} (h : Dep l.length l 17 d m) : (d ≤ 16 ∧ m ≤ 256) ↔ (Part.deepL l ≤ 16 ∧ Part.cntL l ≤ 256) := by
 rw [Dep] at h
 omega
end Go.Proofs.YteckbkljaneppaaGreatDoor.Dx
/- Parts of routes in the reference; has a course not too many elements? -/
namespace Go.Proofs.YteckbkljaneppaaGreatDoor.Dx
open Go Go.RowKit
set_option maxRecDepth 100000
set_option maxHeartbeats 8000000
theorem rcount_meets (l : List Part) (hl : Part.cntL l ≤ 1048576) : Meets Tryz.prog 24 [.sl (l.map Part.cells)] fun r => r = iD (min (Part.cntL l : Int) 257) := by
 have hlen := Part.len_cnt l
 refine enter tok {} Tryz.func24 rfl (by kernel_rfl) Tryz.ntmps24 (by simp) fun B0 W0 V0 lent g0 => ?_
 ((conv => whnf); repeat' (refine Z rfl ?_; conv => whnf))
 repeat' ((first | (intro hlq; (try simp only [SL] at hlq)) | refine Ka ?_ | refine Kb ?_ | refine Kc (hd := rfl) (e := ?_) | refine Kc (hd := Cond.cells_eq _) (e := ?_) | refine Kd (e := ?_) | refine Kl rfl ?_ | fail) <;> ((conv => whnf); repeat' (refine Z rfl ?_; conv => whnf)))
 refine loop_upd tok {} [] (X := Nat × Int) (fun x => [(4, iB x.1), (3, iB x.2)]) (fun _ => []) [] (fun x => x.1 ≤ l.length ∧ ((l.length : Int) ≤ x.2 ∧ x.2 + x.1 ≤ l.length + Part.cntL (l.take x.1) ∧ (x.2 ≤ 256 → x.2 + x.1 = l.length + Part.cntL (l.take x.1)))) (fun x => l.length - x.1) (0, ((l.map Part.cells).length : Int)) ?_
 ((conv => whnf); repeat' (refine Z rfl ?_; conv => whnf))
 refine And.intro ?_ ⟨⟨by omega, by simp [Part.cntL]⟩, fun x hΦ => ?_⟩
 · exact Kr
 obtain ⟨i, m⟩ := x
 obtain ⟨hi, hD⟩ := hΦ
 dsimp only at hi hD
 ((conv => whnf); repeat' (refine Z rfl ?_; conv => whnf))
 have hsub := Part.cntL_append (l.take i) (l.drop i)
 rw [List.take_append_drop] at hsub
 have hge := Part.len_cnt (l.drop i)
 rw [List.length_drop] at hge
 repeat' ((first | (intro hlq; (try simp only [SL] at hlq)) | ((refine Kh (fun hb => ?_) fun hb => ?_) <;> (try simp only [BL] at hb)) | refine Ka ?_ | refine Kb ?_ | refine Kc (hd := rfl) (e := ?_) | refine Kc (hd := Part.cells_eq _) (e := ?_) | refine Kd (e := ?_) | refine Kl rfl ?_ | fail) <;> ((conv => whnf); repeat' (refine Z rfl ?_; conv => whnf)))
 · have h1' : i < l.length := by (try dsimp only at *); omega
   have e2 := Part.cntL_take h1'
   have e4 := Part.cnt_part h1'
   (try dsimp only at *)
   refine Meets.k (rcount_meets l[i].parts (by omega)) ?_
   ((conv => whnf); repeat' (refine Z rfl ?_; conv => whnf))
   repeat' ((first | (intro hlq; (try simp only [SL] at hlq)) | refine Ka ?_ | refine Kb ?_ | refine Kc (hd := rfl) (e := ?_) | refine Kc (hd := Cond.cells_eq _) (e := ?_) | refine Kd (e := ?_) | refine Kl rfl ?_ | fail) <;> ((conv => whnf); repeat' (refine Z rfl ?_; conv => whnf)))
   refine ⟨⟨(i + 1, m + min (Part.cntL l[i].parts : Int) 257), ?_, ⟨by dsimp only; omega, ?_⟩, by dsimp only; omega⟩⟩
   · exact Kr
   dsimp only
   rw [e2]
   omega
 · refine ⟨congrArg iD ?_⟩
   (try dsimp only at *)
   omega
 · refine ⟨congrArg iD ?_⟩
   (try dsimp only at *)
   have e : l.take i = l := List.take_of_length_le (by omega)
   rw [e] at hD
   omega
termination_by Part.cntL l
decreasing_by omega
theorem rdepth_meets (l : List Part) (most : Int) (h0 : 0 ≤ most ∧ most ≤ 17) (hl : Part.cntL l ≤ 1048576) : Meets Tryz.prog 25 [.sl (l.map Part.cells), iD most] fun r => r = iD (min (Part.deepL l : Int) most) := by
 have hlen := Part.len_cnt l
 refine enter tok {} Tryz.func25 rfl (by kernel_rfl) Tryz.ntmps25 (by simp) fun B0 W0 V0 lent g0 => ?_
 ((conv => whnf); repeat' (refine Z rfl ?_; conv => whnf))
 repeat' ((first | (intro hlq; (try simp only [SL] at hlq)) | refine Ka ?_ | refine Kb ?_ | refine Kc (hd := rfl) (e := ?_) | refine Kc (hd := Cond.cells_eq _) (e := ?_) | refine Kd (e := ?_) | refine Kl rfl ?_ | fail) <;> ((conv => whnf); repeat' (refine Z rfl ?_; conv => whnf)))
 refine loop_upd tok {} [] (X := Nat × Int) (fun x => [(6, iB x.1), (5, iB x.2)]) (fun _ => []) [] (fun x => x.1 ≤ l.length ∧ x.2 = min (Part.deepL (l.take x.1) : Int) most) (fun x => l.length - x.1) (0, 0) ?_
 ((conv => whnf); repeat' (refine Z rfl ?_; conv => whnf))
 refine And.intro ?_ ⟨⟨by omega, by simp [Part.deepL]; omega⟩, fun x hΦ => ?_⟩
 · exact Kr
 obtain ⟨i, m⟩ := x
 obtain ⟨hi, hD⟩ := hΦ
 dsimp only at hi hD
 ((conv => whnf); repeat' (refine Z rfl ?_; conv => whnf))
 have hsub := Part.deepL_append (l.take i) (l.drop i)
 rw [List.take_append_drop] at hsub
 have hge := Part.deepL_le l
 repeat' ((first | (intro hlq; (try simp only [SL] at hlq)) | ((refine Kh (fun hb => ?_) fun hb => ?_) <;> (try simp only [BL] at hb)) | refine Ka ?_ | refine Kb ?_ | refine Kc (hd := rfl) (e := ?_) | refine Kc (hd := Part.cells_eq _) (e := ?_) | refine Kd (e := ?_) | refine Kl rfl ?_ | fail) <;> ((conv => whnf); repeat' (refine Z rfl ?_; conv => whnf)))
 · have h1' : i < l.length := by (try dsimp only at *); omega
   have e1 := Part.deepL_take h1'
   have e3 := l[i].deep_or
   have e4 := Part.cnt_part h1'
   (try dsimp only at *)
   refine Meets.k (rdepth_meets l[i].parts (most - 1) (by omega) (by omega)) ?_
   ((conv => whnf); repeat' (refine Z rfl ?_; conv => whnf))
   have hge2 := Part.deepL_le l[i].parts
   repeat' ((first | (intro hlq; (try simp only [SL] at hlq)) | refine Ka ?_ | refine Kb ?_ | refine Kc (hd := rfl) (e := ?_) | refine Kc (hd := Cond.cells_eq _) (e := ?_) | refine Kd (e := ?_) | refine Kl rfl ?_ | fail) <;> ((conv => whnf); repeat' (refine Z rfl ?_; conv => whnf)))
   refine ⟨⟨(i + 1, max m (1 + min (Part.deepL l[i].parts : Int) (most - 1))), ?_, ⟨by dsimp only; omega, ?_⟩, by dsimp only; omega⟩⟩
   · exact Kr
   dsimp only
   rw [e1]
   omega
 · have h1' : i < l.length := by (try dsimp only at *); omega
   have e1 := Part.deepL_take h1'
   have e3 := l[i].deep_or
   (try dsimp only at *)
   refine ⟨⟨(i + 1, m), ?_, ⟨by dsimp only; omega, ?_⟩, by dsimp only; omega⟩⟩
   · exact Kr
   dsimp only
   rw [e1]
   omega
 · refine ⟨congrArg iD ?_⟩
   (try dsimp only at *)
   omega
 · refine ⟨congrArg iD ?_⟩
   (try dsimp only at *)
   have e : l.take i = l := List.take_of_length_le (by omega)
   rw [e] at hD
   omega
termination_by Part.cntL l
decreasing_by omega
def Distance.fits (d : Distance) : Bool := decide (d.cutoffs.length ≤ 64) && (decide (Part.deepL d.route ≤ 16) && decide (Part.cntL d.route ≤ 256))
def Course.fits (c : Course) : Bool := (decide (c.mats.length ≤ 40) && (decide (c.legs.length ≤ 512) && (decide (c.distances.length ≤ 8) && (decide (c.waves.length ≤ 32) && (decide (c.offences.length ≤ 32) && (decide (c.categories.length ≤ 32) && decide (c.prizes.length ≤ 32))))))) && c.distances.all Distance.fits
theorem Course.fits_false {c : Course} (h : c.mats.length > 40 ∨ c.legs.length > 512 ∨ c.distances.length > 8 ∨ c.waves.length > 32 ∨ c.offences.length > 32 ∨ c.categories.length > 32 ∨ c.prizes.length > 32) : c.fits = false := by
 cases hf : c.fits with
 | false => rfl
 | true =>
   simp only [Course.fits, Bool.and_eq_true, decide_eq_true_eq] at hf
   omega
theorem Course.fits_eq {c : Course} (h : ¬ (c.mats.length > 40 ∨ c.legs.length > 512 ∨ c.distances.length > 8 ∨ c.waves.length > 32 ∨ c.offences.length > 32 ∨ c.categories.length > 32 ∨ c.prizes.length > 32)) : c.fits = c.distances.all Distance.fits := by
 rw [Course.fits, decide_eq_true (by omega), decide_eq_true (by omega), decide_eq_true (by omega), decide_eq_true (by omega), decide_eq_true (by omega), decide_eq_true (by omega), decide_eq_true (by omega)]
 rfl
theorem fits_meets (c : Course) (hc : ∀ d ∈ c.distances, Part.cntL d.route ≤ 1048576) : Meets Tryz.prog 59 [c.d] fun r => r = bD c.fits := by
 refine enter tok {} Tryz.func59 rfl (by kernel_rfl) Tryz.ntmps59 (by simp) fun B0 W0 V0 lent g0 => ?_
 ((conv => whnf); repeat' (refine Z rfl ?_; conv => whnf))
 repeat' ((first | (intro hlq; (try simp only [SL] at hlq)) | ((refine Kh (fun hb => ?_) fun hb => ?_) <;> (try simp only [BL] at hb)) | refine Ka ?_ | refine Kb ?_ | refine Kc (hd := rfl) (e := ?_) | refine Kc (hd := Cond.cells_eq _) (e := ?_) | refine Kd (e := ?_) | refine Kl rfl ?_ | fail) <;> ((conv => whnf); repeat' (refine Z rfl ?_; conv => whnf)))
 iterate 7
  · exact ⟨congrArg bD (Course.fits_false (by omega)).symm⟩
 rw [Course.fits_eq (by omega)]
 refine loop_upd tok {} [] (X := Nat) (fun i => [(50, iB i)]) (fun _ => []) [4] (fun i => i ≤ c.distances.length ∧ ∀ x ∈ c.distances.take i, Distance.fits x = true) (fun i => c.distances.length - i) 0 ?_
 ((conv => whnf); repeat' (refine Z rfl ?_; conv => whnf))
 refine And.intro ?_ ⟨⟨by omega, by simp⟩, fun i hΦ => ?_⟩
 · exact Kr
 obtain ⟨hi, hp⟩ := hΦ
 ((conv => whnf); repeat' (refine Z rfl ?_; conv => whnf))
 refine ⟨fun h1 => ?_, fun h1 => ?_⟩ <;> (try simp only [BL] at h1) <;> ((conv => whnf); repeat' (refine Z rfl ?_; conv => whnf))
 · have h1' : i < c.distances.length := by omega
   repeat' ((first | (intro hlq; (try simp only [SL] at hlq)) | refine Ka ?_ | refine Kb ?_ | refine Kc (hd := rfl) (e := ?_) | refine Kc (hd := Distance.cells_eq _) (e := ?_) | refine Kd (e := ?_) | refine Kl rfl ?_ | fail) <;> ((conv => whnf); repeat' (refine Z rfl ?_; conv => whnf)))
   refine (depth_meets c.distances[i].route 17 (by omega) (hc _ (List.getElem_mem h1'))).mono fun r hr => ?_
   obtain ⟨d, m, rfl, hD⟩ := hr
   have hf := hD.fit
   ((conv => whnf); repeat' (refine Z rfl ?_; conv => whnf))
   repeat' ((first | (intro hlq; (try simp only [SL] at hlq)) | ((refine Kh (fun hb => ?_) fun hb => ?_) <;> (try simp only [BL] at hb)) | refine Ka ?_ | refine Kb ?_ | refine Kc (hd := rfl) (e := ?_) | refine Kc (hd := Cond.cells_eq _) (e := ?_) | refine Kd (e := ?_) | refine Kl rfl ?_ | fail) <;> ((conv => whnf); repeat' (refine Z rfl ?_; conv => whnf)))
   all_goals first
    | (refine ⟨congrArg bD ?_⟩
       have hn : Distance.fits c.distances[i] = false := by
        simp only [Distance.fits, Bool.and_eq_false_iff, decide_eq_false_iff_not]; omega
       rw [all_false (List.getElem_mem h1') hn]
       done)
    | (refine ⟨⟨i + 1, ?_, ⟨by omega, take_snoc h1' hp ?_⟩, by omega⟩⟩
       · exact Kr
       simp only [Distance.fits, Bool.and_eq_true, decide_eq_true_eq]; omega)
 · refine ⟨congrArg bD ?_⟩
   rw [all_true (by omega) hp]
theorem rcounts_meets (c : Course) (hc : ∀ d ∈ c.distances, Part.cntL d.route ≤ 1048576) : Meets Tryz.prog 69 [c.d] fun r => r = bD c.fits := by
 refine enter tok {} Tryz.func69 rfl (by kernel_rfl) Tryz.ntmps69 (by simp) fun B0 W0 V0 lent g0 => ?_
 ((conv => whnf); repeat' (refine Z rfl ?_; conv => whnf))
 repeat' ((first | (intro hlq; (try simp only [SL] at hlq)) | ((refine Kh (fun hb => ?_) fun hb => ?_) <;> (try simp only [BL] at hb)) | refine Ka ?_ | refine Kb ?_ | refine Kc (hd := rfl) (e := ?_) | refine Kc (hd := Cond.cells_eq _) (e := ?_) | refine Kd (e := ?_) | refine Kl rfl ?_ | fail) <;> ((conv => whnf); repeat' (refine Z rfl ?_; conv => whnf)))
 iterate 7
  · exact ⟨congrArg bD (Course.fits_false (by omega)).symm⟩
 rw [Course.fits_eq (by omega)]
 refine loop_upd tok {} [] (X := Nat) (fun i => [(3, iB i)]) (fun _ => []) [4] (fun i => i ≤ c.distances.length ∧ ∀ x ∈ c.distances.take i, Distance.fits x = true) (fun i => c.distances.length - i) 0 ?_
 ((conv => whnf); repeat' (refine Z rfl ?_; conv => whnf))
 refine And.intro ?_ ⟨⟨by omega, by simp⟩, fun i hΦ => ?_⟩
 · exact Kr
 obtain ⟨hi, hp⟩ := hΦ
 ((conv => whnf); repeat' (refine Z rfl ?_; conv => whnf))
 repeat' ((first | (intro hlq; (try simp only [SL] at hlq)) | refine Ka ?_ | refine Kb ?_ | refine Kc (hd := rfl) (e := ?_) | refine Kc (hd := Cond.cells_eq _) (e := ?_) | refine Kd (e := ?_) | refine Kl rfl ?_ | fail) <;> ((conv => whnf); repeat' (refine Z rfl ?_; conv => whnf)))
 refine ⟨fun h1 => ?_, fun h1 => ?_⟩ <;> (try simp only [BL] at h1) <;> ((conv => whnf); repeat' (refine Z rfl ?_; conv => whnf))
 · have h1' : i < c.distances.length := by omega
   repeat' ((first | (intro hlq; (try simp only [SL] at hlq)) | refine Meets.k (rdepth_meets c.distances[i].route 17 (by omega) (hc _ (List.getElem_mem h1'))) ?_ | refine Meets.k (rcount_meets c.distances[i].route (hc _ (List.getElem_mem h1'))) ?_ | ((refine Kh (fun hb => ?_) fun hb => ?_) <;> (try simp only [BL] at hb)) | refine Ka ?_ | refine Kb ?_ | refine Kc (hd := rfl) (e := ?_) | refine Kc (hd := Cond.cells_eq _) (e := ?_) | refine Kd (e := ?_) | refine Kl rfl ?_ | fail) <;> ((conv => whnf); repeat' (refine Z rfl ?_; conv => whnf)))
   all_goals first
    | (refine ⟨congrArg bD ?_⟩
       have hn : Distance.fits c.distances[i] = false := by
        simp only [Distance.fits, Bool.and_eq_false_iff, decide_eq_false_iff_not]; omega
       rw [all_false (List.getElem_mem h1') hn]
       done)
    | (refine ⟨⟨i + 1, ?_, ⟨by omega, take_snoc h1' hp ?_⟩, by omega⟩⟩
       · exact Kr
       simp only [Distance.fits, Bool.and_eq_true, decide_eq_true_eq]; omega)
 · refine ⟨congrArg bD ?_⟩
   rw [all_true (by omega) hp]
end Go.Proofs.YteckbkljaneppaaGreatDoor.Dx
