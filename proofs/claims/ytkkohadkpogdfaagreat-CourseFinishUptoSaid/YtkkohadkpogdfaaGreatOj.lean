/- Few, Short: they answer. -/
import Derived.Test.YtkkohadkpogdfaaGreatOe
namespace Go.Proofs.YtkkohadkpogdfaaGreat.Dx
open Go Go.RowKit
set_option linter.all false
set_option maxRecDepth 100000
set_option maxHeartbeats 16000000

theorem size9_meets (l : List Part) (d : Nat) (hd : d ≤ 21) (hl : Part.cntL l ≤ 1048576) : Meets Tryz.prog 24 [.sl (l.map Part.cells), iD d] fun r => ∃ n : Int, r = iD n ∧ 0 ≤ n ∧ n ≤ 1048576 + 500 * (22 - (d : Int)) := by
  have hlen := Part.len_cnt l
  refine enter tok {} Tryz.func24 rfl (by kernel_rfl) Tryz.ntmps24 (by simp) fun B0 W0 V0 lent g0 => ?_
  ((conv => whnf); repeat' (refine vcC_go tok {} rfl ?_; conv => whnf))
  repeat' ((first | (intro hlq; (try simp only [List.length_map, maxLen] at hlq)) | refine Ka ?_ | refine Kb ?_ | refine Kc (hd := rfl) (e := ?_) | refine Kc (hd := Cond.cells_eq _) (e := ?_) | refine Kd (e := ?_) | refine ⟨(rfl : look _ _ = look _ _), ?_⟩ | fail) <;> ((conv => whnf); repeat' (refine vcC_go tok {} rfl ?_; conv => whnf)))
  refine ⟨fun h0 => ?_, fun h0 => ?_⟩ <;> (try simp only [BB, List.length_map] at h0) <;> ((conv => whnf); repeat' (refine vcC_go tok {} rfl ?_; conv => whnf))
  · exact ⟨500, rfl, by omega, by omega⟩
  refine loop_upd tok {} [] (X := Nat × Int) (fun x => [(6, iB x.1), (5, iB x.2)]) (fun _ => []) [] (fun x => x.1 ≤ l.length ∧ 0 ≤ x.2 ∧ x.2 ≤ 1048576 + 500 * (22 - (d : Int))) (fun x => l.length - x.1) (0, ((l.map Part.cells).length : Int)) ?_
  ((conv => whnf); repeat' (refine vcC_go tok {} rfl ?_; conv => whnf))
  refine And.intro ?_ ⟨⟨by omega, by dsimp only; omega, by dsimp only; rw [List.length_map]; omega⟩, fun x hΦ => ?_⟩
  · repeat' (first | exact True.intro | exact rfl | refine And.intro ?_ ?_)
  obtain ⟨i, n⟩ := x
  obtain ⟨hi, hn, hn2⟩ := hΦ
  dsimp only at hi hn hn2
  ((conv => whnf); repeat' (refine vcC_go tok {} rfl ?_; conv => whnf))
  repeat' ((first | (intro hlq; (try simp only [List.length_map, maxLen] at hlq)) | ((refine ⟨fun (hb : _ = true) => ?_, fun (hb : _ = false) => ?_⟩) <;> (try simp only [BB, List.length_map] at hb)) | refine Ka ?_ | refine Kb ?_ | refine Kc (hd := rfl) (e := ?_) | refine Kc (hd := Cond.cells_eq _) (e := ?_) | refine Kd (e := ?_) | refine ⟨(rfl : look _ _ = look _ _), ?_⟩ | fail) <;> ((conv => whnf); repeat' (refine vcC_go tok {} rfl ?_; conv => whnf)))
  · have h1' : i < l.length := by (try dsimp only at *); omega
    have hc := Part.cnt_part h1'
    repeat' ((first | (intro hlq; (try simp only [List.length_map, maxLen] at hlq)) | refine Ka ?_ | refine Kb ?_ | refine Kc (hd := rfl) (e := ?_) | refine Kc (hd := Part.cells_eq _) (e := ?_) | refine Kd (e := ?_) | refine ⟨(rfl : look _ _ = look _ _), ?_⟩ | fail) <;> ((conv => whnf); repeat' (refine vcC_go tok {} rfl ?_; conv => whnf)))
    refine (size9_meets l[i].parts (d + 1) (by omega) (by omega)).mono ?_
    rintro r ⟨m, rfl, hm, hm2⟩
    ((conv => whnf); repeat' (refine vcC_go tok {} rfl ?_; conv => whnf))
    repeat' ((first | (intro hlq; (try simp only [List.length_map, maxLen] at hlq)) | refine Ka ?_ | refine Kb ?_ | refine Kc (hd := rfl) (e := ?_) | refine Kc (hd := Cond.cells_eq _) (e := ?_) | refine Kd (e := ?_) | refine ⟨(rfl : look _ _ = look _ _), ?_⟩ | fail) <;> ((conv => whnf); repeat' (refine vcC_go tok {} rfl ?_; conv => whnf)))
    refine ⟨⟨(i + 1, n + m), ?_, ⟨by (try dsimp only at *); omega, by dsimp only; omega, by (try dsimp only at *); omega⟩, by (try dsimp only at *); omega⟩⟩
    repeat' (first | exact True.intro | exact rfl | refine And.intro ?_ ?_)
  · exact ⟨n, rfl, hn, hn2⟩
  · exact ⟨n, rfl, hn, hn2⟩
termination_by 21 - d
decreasing_by all_goals (have h0' := of_decide_eq_false h0; omega)

theorem conds9_meets (l : List Cond) (d : Nat) (hd : d ≤ 21) (hl : l.length ≤ 1048576) (hok : ∀ x ∈ l, x.ok) : Meets Tryz.prog 44 [.sl (l.map Cond.cells), iD d] fun r => ∃ n : Int, r = iD n ∧ 0 ≤ n ∧ n ≤ 1048576 + 500 * (22 - (d : Int)) := by
  refine enter tok {} Tryz.func44 rfl (by kernel_rfl) Tryz.ntmps44 (by simp) fun B0 W0 V0 lent g0 => ?_
  ((conv => whnf); repeat' (refine vcC_go tok {} rfl ?_; conv => whnf))
  repeat' ((first | (intro hlq; (try simp only [List.length_map, maxLen] at hlq)) | refine Ka ?_ | refine Kb ?_ | refine Kc (hd := rfl) (e := ?_) | refine Kc (hd := Cond.cells_eq _) (e := ?_) | refine Kd (e := ?_) | refine ⟨(rfl : look _ _ = look _ _), ?_⟩ | fail) <;> ((conv => whnf); repeat' (refine vcC_go tok {} rfl ?_; conv => whnf)))
  refine ⟨fun h0 => ?_, fun h0 => ?_⟩ <;> (try simp only [BB, List.length_map] at h0) <;> ((conv => whnf); repeat' (refine vcC_go tok {} rfl ?_; conv => whnf))
  · exact ⟨500, rfl, by omega, by omega⟩
  refine loop_upd tok {} [] (X := Nat × Int) (fun x => [(6, iB x.1), (5, iB x.2)]) (fun _ => []) [] (fun x => x.1 ≤ l.length ∧ 0 ≤ x.2 ∧ x.2 ≤ 1048576 + 500 * (22 - (d : Int))) (fun x => l.length - x.1) (0, ((l.map Cond.cells).length : Int)) ?_
  ((conv => whnf); repeat' (refine vcC_go tok {} rfl ?_; conv => whnf))
  refine And.intro ?_ ⟨⟨by omega, by dsimp only; omega, by dsimp only; rw [List.length_map]; omega⟩, fun x hΦ => ?_⟩
  · repeat' (first | exact True.intro | exact rfl | refine And.intro ?_ ?_)
  obtain ⟨i, n⟩ := x
  obtain ⟨hi, hn, hn2⟩ := hΦ
  dsimp only at hi hn hn2
  ((conv => whnf); repeat' (refine vcC_go tok {} rfl ?_; conv => whnf))
  repeat' ((first | (intro hlq; (try simp only [List.length_map, maxLen] at hlq)) | ((refine ⟨fun (hb : _ = true) => ?_, fun (hb : _ = false) => ?_⟩) <;> (try simp only [BB, List.length_map] at hb)) | refine Ka ?_ | refine Kb ?_ | refine Kc (hd := rfl) (e := ?_) | refine Kc (hd := Cond.cells_eq _) (e := ?_) | refine Kd (e := ?_) | refine ⟨(rfl : look _ _ = look _ _), ?_⟩ | fail) <;> ((conv => whnf); repeat' (refine vcC_go tok {} rfl ?_; conv => whnf)))
  · have h1' : i < l.length := by (try dsimp only at *); omega
    have hc := Cond.ok_iff.1 (hok _ (List.getElem_mem h1'))
    repeat' ((first | (intro hlq; (try simp only [List.length_map, maxLen] at hlq)) | refine Ka ?_ | refine Kb ?_ | refine Kc (hd := rfl) (e := ?_) | refine Kc (hd := Cond.cells_eq _) (e := ?_) | refine Kd (e := ?_) | refine ⟨(rfl : look _ _ = look _ _), ?_⟩ | fail) <;> ((conv => whnf); repeat' (refine vcC_go tok {} rfl ?_; conv => whnf)))
    refine (conds9_meets l[i].parts (d + 1) (by omega) hc.1 hc.2).mono ?_
    rintro r ⟨m, rfl, hm, hm2⟩
    ((conv => whnf); repeat' (refine vcC_go tok {} rfl ?_; conv => whnf))
    repeat' ((first | (intro hlq; (try simp only [List.length_map, maxLen] at hlq)) | refine Ka ?_ | refine Kb ?_ | refine Kc (hd := rfl) (e := ?_) | refine Kc (hd := Cond.cells_eq _) (e := ?_) | refine Kd (e := ?_) | refine ⟨(rfl : look _ _ = look _ _), ?_⟩ | fail) <;> ((conv => whnf); repeat' (refine vcC_go tok {} rfl ?_; conv => whnf)))
    refine ⟨⟨(i + 1, n + m), ?_, ⟨by (try dsimp only at *); omega, by dsimp only; omega, by (try dsimp only at *); omega⟩, by (try dsimp only at *); omega⟩⟩
    repeat' (first | exact True.intro | exact rfl | refine And.intro ?_ ?_)
  · exact ⟨n, rfl, hn, hn2⟩
  · exact ⟨n, rfl, hn, hn2⟩
termination_by 21 - d
decreasing_by all_goals (have h0' := of_decide_eq_false h0; omega)

def stB : Nat → Int
  | 0 => 2000000
  | r + 1 => 2 * stB r + 2000000
theorem stB_eq : ∀ r, stB r + 2000000 = 4000000 * ((2 ^ r : Nat) : Int)
  | 0 => by simp [stB]
  | r + 1 => by
    have := stB_eq r
    rw [stB, Nat.pow_succ]
    omega
theorem stB_le {r : Nat} (h : r ≤ 21) : 2000000 ≤ stB r ∧ stB r ≤ 10000000000000 := by
  have h1 := stB_eq r
  have h2 : 2 ^ r ≤ 2 ^ 21 := Nat.pow_le_pow_right (by omega) h
  have h3 : 0 < 2 ^ r := Nat.pow_pos (by omega)
  generalize 2 ^ r = q at *
  simp at h2
  omega

theorem steps9_meets (l : List Step) (d : Nat) (hd : d ≤ 21) (hl : l.length ≤ 1048576) (hok : ∀ x ∈ l, x.ok) : Meets Tryz.prog 25 [.sl (l.map Step.cells), iD d] fun r => ∃ n : Int, r = iD n ∧ 0 ≤ n ∧ n ≤ stB (21 - d) := by
  have hB := stB_le (r := 21 - d) (by omega)
  refine enter tok {} Tryz.func25 rfl (by kernel_rfl) Tryz.ntmps25 (by simp) fun B0 W0 V0 lent g0 => ?_
  ((conv => whnf); repeat' (refine vcC_go tok {} rfl ?_; conv => whnf))
  repeat' ((first | (intro hlq; (try simp only [List.length_map, maxLen] at hlq)) | refine Ka ?_ | refine Kb ?_ | refine Kc (hd := rfl) (e := ?_) | refine Kc (hd := Cond.cells_eq _) (e := ?_) | refine Kd (e := ?_) | refine ⟨(rfl : look _ _ = look _ _), ?_⟩ | fail) <;> ((conv => whnf); repeat' (refine vcC_go tok {} rfl ?_; conv => whnf)))
  refine ⟨fun h0 => ?_, fun h0 => ?_⟩ <;> (try simp only [BB, List.length_map] at h0) <;> ((conv => whnf); repeat' (refine vcC_go tok {} rfl ?_; conv => whnf))
  · exact ⟨500, rfl, by omega, by omega⟩
  have hs : stB (21 - d) = 2 * stB (21 - (d + 1)) + 2000000 := by rw [show 21 - d = (21 - (d + 1)) + 1 by omega, stB]
  have hB2 := stB_le (r := 21 - (d + 1)) (by omega)
  refine loop_upd tok {} [] (X := Nat × Int) (fun x => [(6, iB x.1), (5, iB x.2)]) (fun _ => []) [] (fun x => x.1 ≤ l.length ∧ 0 ≤ x.2 ∧ x.2 ≤ stB (21 - d)) (fun x => l.length - x.1) (0, ((l.map Step.cells).length : Int)) ?_
  ((conv => whnf); repeat' (refine vcC_go tok {} rfl ?_; conv => whnf))
  refine And.intro ?_ ⟨⟨by omega, by dsimp only; omega, by dsimp only; rw [List.length_map]; omega⟩, fun x hΦ => ?_⟩
  · repeat' (first | exact True.intro | exact rfl | refine And.intro ?_ ?_)
  obtain ⟨i, n⟩ := x
  obtain ⟨hi, hn, hn2⟩ := hΦ
  dsimp only at hi hn hn2
  ((conv => whnf); repeat' (refine vcC_go tok {} rfl ?_; conv => whnf))
  repeat' ((first | (intro hlq; (try simp only [List.length_map, maxLen] at hlq)) | ((refine ⟨fun (hb : _ = true) => ?_, fun (hb : _ = false) => ?_⟩) <;> (try simp only [BB, List.length_map] at hb)) | refine Ka ?_ | refine Kb ?_ | refine Kc (hd := rfl) (e := ?_) | refine Kc (hd := Cond.cells_eq _) (e := ?_) | refine Kd (e := ?_) | refine ⟨(rfl : look _ _ = look _ _), ?_⟩ | fail) <;> ((conv => whnf); repeat' (refine vcC_go tok {} rfl ?_; conv => whnf)))
  · have h1' : i < l.length := by (try dsimp only at *); omega
    have hc := Step.ok_iff.1 (hok _ (List.getElem_mem h1'))
    refine draw_rule tok (cf := {}) (by kernel_rfl) [.p 0, .p 1, .p 2, .p 3, .p 4, .p 5, .p 6, .p 9, .p 10, .p 11, .p 12, .p 13, .p 14, .p 15, .p 18, .p 19, .p 20, .p 21, .p 22, .p 23, .p 24, .s 7 [6,5,4,3,1,2], .p 8, .s 16 [13,15,12,14,11,9,10], .p 17, .s 25 [22,24,21,23,20,18,19], .p 26, .p 27] (by kernel_rfl) ?_
    ((conv => whnf); repeat' (refine vcC_go tok {} rfl ?_; conv => whnf))
    repeat' ((first | (intro hlq; (try simp only [List.length_map, maxLen] at hlq)) | refine Ka ?_ | refine Kb ?_ | refine Kc (hd := rfl) (e := ?_) | refine Kc (hd := Step.cells_eq _) (e := ?_) | refine Kd (e := ?_) | refine ⟨(rfl : look _ _ = look _ _), ?_⟩ | fail) <;> ((conv => whnf); repeat' (refine vcC_go tok {} rfl ?_; conv => whnf)))
    have hcd := conds9_meets [l[i].cond] 0 (by omega) (by simp) (by simp [hc.1])
    rw [show List.map Cond.cells [l[i].cond] = [l[i].cond.dc] from by rw [List.map_singleton, Cond.cells_eq]] at hcd
    refine hcd.mono ?_
    rintro r ⟨m1, rfl, hm1, hm1'⟩
    ((conv => whnf); repeat' (refine vcC_go tok {} rfl ?_; conv => whnf))
    repeat' (first | (refine ⟨(rfl : look _ _ = look _ _), ?_⟩; ((conv => whnf); repeat' (refine vcC_go tok {} rfl ?_; conv => whnf))) | fail)
    repeat' ((first | (intro hlq; (try simp only [List.length_map, maxLen] at hlq)) | refine Ka ?_ | refine Kb ?_ | refine Kc (hd := rfl) (e := ?_) | refine Kc (hd := Step.cells_eq _) (e := ?_) | refine Kd (e := ?_) | refine ⟨(rfl : look _ _ = look _ _), ?_⟩ | fail) <;> ((conv => whnf); repeat' (refine vcC_go tok {} rfl ?_; conv => whnf)))
    refine (steps9_meets l[i].th (d + 1) (by omega) hc.2.1.1 hc.2.1.2).mono ?_
    rintro r ⟨m2, rfl, hm2, hm2'⟩
    ((conv => whnf); repeat' (refine vcC_go tok {} rfl ?_; conv => whnf))
    repeat' (first | (refine ⟨(rfl : look _ _ = look _ _), ?_⟩; ((conv => whnf); repeat' (refine vcC_go tok {} rfl ?_; conv => whnf))) | fail)
    repeat' ((first | (intro hlq; (try simp only [List.length_map, maxLen] at hlq)) | refine Ka ?_ | refine Kb ?_ | refine Kc (hd := rfl) (e := ?_) | refine Kc (hd := Step.cells_eq _) (e := ?_) | refine Kd (e := ?_) | refine ⟨(rfl : look _ _ = look _ _), ?_⟩ | fail) <;> ((conv => whnf); repeat' (refine vcC_go tok {} rfl ?_; conv => whnf)))
    refine (steps9_meets l[i].el (d + 1) (by omega) hc.2.2.1 hc.2.2.2).mono ?_
    rintro r ⟨m3, rfl, hm3, hm3'⟩
    ((conv => whnf); repeat' (refine vcC_go tok {} rfl ?_; conv => whnf))
    repeat' (first | (refine ⟨(rfl : look _ _ = look _ _), ?_⟩; ((conv => whnf); repeat' (refine vcC_go tok {} rfl ?_; conv => whnf))) | fail)
    repeat' ((first | (intro hlq; (try simp only [List.length_map, maxLen] at hlq)) | refine Ka ?_ | refine Kb ?_ | refine Kc (hd := rfl) (e := ?_) | refine Kc (hd := Cond.cells_eq _) (e := ?_) | refine Kd (e := ?_) | refine ⟨(rfl : look _ _ = look _ _), ?_⟩ | fail) <;> ((conv => whnf); repeat' (refine vcC_go tok {} rfl ?_; conv => whnf)))
    rw [Int.natCast_zero] at hm1'
    refine ⟨⟨(i + 1, n + m1 + m2 + m3), ?_, ⟨by (try dsimp only at *); omega, by dsimp only; omega, by (try dsimp only at *); omega⟩, by (try dsimp only at *); omega⟩⟩
    repeat' (first | exact True.intro | exact rfl | refine And.intro ?_ ?_)
  · exact ⟨n, rfl, hn, hn2⟩
  · exact ⟨n, rfl, hn, hn2⟩
termination_by 21 - d
decreasing_by all_goals (have h0' := of_decide_eq_false h0; omega)
end Go.Proofs.YtkkohadkpogdfaaGreat.Dx

/- Few, Short: they answer. -/
namespace Go.Proofs.YtkkohadkpogdfaaGreat.Dx
open Go Go.RowKit
set_option linter.all false
set_option maxRecDepth 100000
set_option maxHeartbeats 16000000

theorem Few_meets (c : Course) (hc : c.small) : Meets Tryz.prog 9 [c.d] fun r => ∃ b : Bool, r = bD b := by
  have hdl := hc.distances
  have hml := hc.mats
  refine enter tok {} Tryz.func9 rfl (by kernel_rfl) Tryz.ntmps9 (by simp) fun B0 W0 V0 lent g0 => ?_
  ((conv => whnf); repeat' (refine vcC_go tok {} rfl ?_; conv => whnf))
  repeat' ((first | (intro hlq; (try simp only [List.length_map, maxLen] at hlq)) | refine Ka ?_ | refine Kb ?_ | refine Kc (hd := rfl) (e := ?_) | refine Kc (hd := Cond.cells_eq _) (e := ?_) | refine Kd (e := ?_) | refine ⟨(rfl : look _ _ = look _ _), ?_⟩ | fail) <;> ((conv => whnf); repeat' (refine vcC_go tok {} rfl ?_; conv => whnf)))
  refine loop_upd tok {} [] (X := Nat) (fun i => [(3, iB i)]) (fun _ => []) [] (fun i => i ≤ c.distances.length) (fun i => c.distances.length - i) 0 ?_
  ((conv => whnf); repeat' (refine vcC_go tok {} rfl ?_; conv => whnf))
  refine And.intro ?_ ⟨by omega, fun i hi => ?_⟩
  · repeat' (first | exact True.intro | exact rfl | refine And.intro ?_ ?_)
  ((conv => whnf); repeat' (refine vcC_go tok {} rfl ?_; conv => whnf))
  repeat' ((first | (intro hlq; (try simp only [List.length_map, maxLen] at hlq)) | refine Ka ?_ | refine Kb ?_ | refine Kc (hd := rfl) (e := ?_) | refine Kc (hd := Cond.cells_eq _) (e := ?_) | refine Kd (e := ?_) | refine ⟨(rfl : look _ _ = look _ _), ?_⟩ | fail) <;> ((conv => whnf); repeat' (refine vcC_go tok {} rfl ?_; conv => whnf)))
  refine ⟨fun h1 => ?_, fun h1 => ?_⟩ <;> (try simp only [BB, List.length_map] at h1) <;> ((conv => whnf); repeat' (refine vcC_go tok {} rfl ?_; conv => whnf))
  · have h1' : i < c.distances.length := by omega
    have hcnt := hc.route _ (List.getElem_mem h1')
    repeat' ((first | (intro hlq; (try simp only [List.length_map, maxLen] at hlq)) | refine Ka ?_ | refine Kb ?_ | refine Kc (hd := rfl) (e := ?_) | refine Kc (hd := Distance.cells_eq _) (e := ?_) | refine Kd (e := ?_) | refine ⟨(rfl : look _ _ = look _ _), ?_⟩ | fail) <;> ((conv => whnf); repeat' (refine vcC_go tok {} rfl ?_; conv => whnf)))
    refine (size9_meets c.distances[i].route 0 (by omega) hcnt).mono ?_
    rintro r ⟨n, rfl, hn, hn2⟩
    ((conv => whnf); repeat' (refine vcC_go tok {} rfl ?_; conv => whnf))
    repeat' ((first | (intro hlq; (try simp only [List.length_map, maxLen] at hlq)) | ((refine ⟨fun (hb : _ = true) => ?_, fun (hb : _ = false) => ?_⟩) <;> (try simp only [BB, List.length_map] at hb)) | refine Ka ?_ | refine Kb ?_ | refine Kc (hd := rfl) (e := ?_) | refine Kc (hd := Distance.cells_eq _) (e := ?_) | refine Kd (e := ?_) | refine ⟨(rfl : look _ _ = look _ _), ?_⟩ | fail) <;> ((conv => whnf); repeat' (refine vcC_go tok {} rfl ?_; conv => whnf)))
    all_goals (try exact ⟨_, rfl⟩)
    refine ⟨⟨i + 1, ?_, by omega, by omega⟩⟩
    repeat' (first | exact True.intro | exact rfl | refine And.intro ?_ ?_)
  refine loop_upd tok {} [] (X := Nat) (fun j => [(4, iB j)]) (fun _ => []) [] (fun j => j ≤ c.mats.length) (fun j => c.mats.length - j) 0 ?_
  ((conv => whnf); repeat' (refine vcC_go tok {} rfl ?_; conv => whnf))
  refine And.intro ?_ ⟨by omega, fun j hj => ?_⟩
  · repeat' (first | exact True.intro | exact rfl | refine And.intro ?_ ?_)
  ((conv => whnf); repeat' (refine vcC_go tok {} rfl ?_; conv => whnf))
  repeat' ((first | (intro hlq; (try simp only [List.length_map, maxLen] at hlq)) | refine Ka ?_ | refine Kb ?_ | refine Kc (hd := rfl) (e := ?_) | refine Kc (hd := Cond.cells_eq _) (e := ?_) | refine Kd (e := ?_) | refine ⟨(rfl : look _ _ = look _ _), ?_⟩ | fail) <;> ((conv => whnf); repeat' (refine vcC_go tok {} rfl ?_; conv => whnf)))
  refine ⟨fun h2 => ?_, fun h2 => ?_⟩ <;> (try simp only [BB, List.length_map] at h2) <;> ((conv => whnf); repeat' (refine vcC_go tok {} rfl ?_; conv => whnf))
  · have h2' : j < c.mats.length := by omega
    repeat' ((first | (intro hlq; (try simp only [List.length_map, maxLen] at hlq)) | ((refine ⟨fun (hb : _ = true) => ?_, fun (hb : _ = false) => ?_⟩) <;> (try simp only [BB, List.length_map] at hb)) | refine Ka ?_ | refine Kb ?_ | refine Kc (hd := rfl) (e := ?_) | refine Kc (hd := Mat.cells_eq _) (e := ?_) | refine Kd (e := ?_) | refine ⟨(rfl : look _ _ = look _ _), ?_⟩ | fail) <;> ((conv => whnf); repeat' (refine vcC_go tok {} rfl ?_; conv => whnf)))
    all_goals (try exact ⟨_, rfl⟩)
    refine ⟨⟨j + 1, ?_, by omega, by omega⟩⟩
    repeat' (first | exact True.intro | exact rfl | refine And.intro ?_ ?_)
  repeat' ((first | (intro hlq; (try simp only [List.length_map, maxLen] at hlq)) | ((refine ⟨fun (hb : _ = true) => ?_, fun (hb : _ = false) => ?_⟩) <;> (try simp only [BB, List.length_map] at hb)) | refine Ka ?_ | refine Kb ?_ | refine Kc (hd := rfl) (e := ?_) | refine Kc (hd := Cond.cells_eq _) (e := ?_) | refine Kd (e := ?_) | refine ⟨(rfl : look _ _ = look _ _), ?_⟩ | fail) <;> ((conv => whnf); repeat' (refine vcC_go tok {} rfl ?_; conv => whnf)))
  all_goals (try exact ⟨_, rfl⟩)
  refine (steps9_meets c.ties 0 (by omega) hc.ties.1 hc.ties.2).mono ?_
  rintro r ⟨n, rfl, hn, hn2⟩
  ((conv => whnf); repeat' (refine vcC_go tok {} rfl ?_; conv => whnf))
  exact ⟨_, rfl⟩

theorem Short_meets (c : Course) (hc : c.small) (m : Int) : Meets Tryz.prog 21 [c.d, iD m] fun r => ∃ b : Bool, r = bD b ∧ (b = true → ∀ j (h : j < c.distances.length), ((Part.rxL c.distances[j].route []).length : Int) ≤ m) := by
  have hdl := hc.distances
  refine enter tok {} Tryz.func21 rfl (by kernel_rfl) Tryz.ntmps21 (by simp) fun B0 W0 V0 lent g0 => ?_
  ((conv => whnf); repeat' (refine vcC_go tok {} rfl ?_; conv => whnf))
  refine (Few_meets c hc).mono ?_
  rintro r ⟨b, rfl⟩
  ((conv => whnf); repeat' (refine vcC_go tok {} rfl ?_; conv => whnf))
  refine ⟨fun h0 => ?_, fun h0 => ?_⟩ <;> (try simp only [BB, List.length_map] at h0) <;> ((conv => whnf); repeat' (refine vcC_go tok {} rfl ?_; conv => whnf))
  · exact ⟨_, rfl, fun h => Bool.noConfusion h⟩
  repeat' ((first | (intro hlq; (try simp only [List.length_map, maxLen] at hlq)) | refine Ka ?_ | refine Kb ?_ | refine Kc (hd := rfl) (e := ?_) | refine Kc (hd := Cond.cells_eq _) (e := ?_) | refine Kd (e := ?_) | refine ⟨(rfl : look _ _ = look _ _), ?_⟩ | fail) <;> ((conv => whnf); repeat' (refine vcC_go tok {} rfl ?_; conv => whnf)))
  refine loop_upd tok {} [] (X := Nat) (fun i => [(5, iB i)]) (fun _ => []) [] (fun i => i ≤ c.distances.length ∧ ∀ j (h : j < c.distances.length), j < i → ((Part.rxL c.distances[j].route []).length : Int) ≤ m) (fun i => c.distances.length - i) 0 ?_
  ((conv => whnf); repeat' (refine vcC_go tok {} rfl ?_; conv => whnf))
  refine And.intro ?_ ⟨⟨by omega, fun j _ h => by omega⟩, fun i hi => ?_⟩
  · repeat' (first | exact True.intro | exact rfl | refine And.intro ?_ ?_)
  obtain ⟨hi, hs⟩ := hi
  ((conv => whnf); repeat' (refine vcC_go tok {} rfl ?_; conv => whnf))
  repeat' ((first | (intro hlq; (try simp only [List.length_map, maxLen] at hlq)) | refine Ka ?_ | refine Kb ?_ | refine Kc (hd := rfl) (e := ?_) | refine Kc (hd := Cond.cells_eq _) (e := ?_) | refine Kd (e := ?_) | refine ⟨(rfl : look _ _ = look _ _), ?_⟩ | fail) <;> ((conv => whnf); repeat' (refine vcC_go tok {} rfl ?_; conv => whnf)))
  refine ⟨fun h1 => ?_, fun h1 => ?_⟩ <;> (try simp only [BB, List.length_map] at h1) <;> ((conv => whnf); repeat' (refine vcC_go tok {} rfl ?_; conv => whnf))
  · have h1' : i < c.distances.length := by omega
    have hcnt := hc.route _ (List.getElem_mem h1')
    repeat' ((first | (intro hlq; (try simp only [List.length_map, maxLen] at hlq)) | refine Meets.k (rExp_meets c.distances[i].route hcnt) ?_ | ((refine ⟨fun (hb : _ = true) => ?_, fun (hb : _ = false) => ?_⟩) <;> (try simp only [BB, List.length_map] at hb)) | refine Ka ?_ | refine Kb ?_ | refine Kc (hd := rfl) (e := ?_) | refine Kc (hd := Distance.cells_eq _) (e := ?_) | refine Kd (e := ?_) | refine ⟨(rfl : look _ _ = look _ _), ?_⟩ | fail) <;> ((conv => whnf); repeat' (refine vcC_go tok {} rfl ?_; conv => whnf)))
    all_goals (try exact ⟨_, rfl, fun h => Bool.noConfusion h⟩)
    refine ⟨⟨i + 1, ?_, ⟨by omega, fun j hj hji => ?_⟩, by omega⟩⟩
    · repeat' (first | exact True.intro | exact rfl | refine And.intro ?_ ?_)
    by_cases e : j = i
    · subst e; omega
    · exact hs j hj (by omega)
  exact ⟨_, rfl, fun _ j hj => hs j hj (by omega)⟩
end Go.Proofs.YtkkohadkpogdfaaGreat.Dx

