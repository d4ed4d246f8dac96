/- course.Finish. -/
import Derived.Test.YtkkohadkpogdfaaGreatOg
import Derived.Test.YtkkohadkpogdfaaGreatOe
import Derived.Test.YtkkohadkpogdfaaGreatMi
namespace Go.Proofs.YtkkohadkpogdfaaGreat.Dx
open Go Go.RowKit
set_option linter.all false
set_option maxRecDepth 100000
set_option maxHeartbeats 16000000

theorem J_at2 {P : Program} {C : Cx} {st : SSt} {Q : Post} (n : Nat) {ops : Array Oper} {d : Bool} {y z : Code} (h : J P C (.seq (.seq (.region n ops d) y) z) Q st) : J P C (.seq (.seq (.region n ops d) y) z) Q st := h

theorem spanF_one {c : Course} (hn : NumsOk c) (m : List Int) (n : Nat) : spanF c m n 1 = ((legOf c (m.getD n 0) (m.getD (n + 1) 0)).lo, (legOf c (m.getD n 0) (m.getD (n + 1) 0)).hi) := by
  have hl := legOf_good hn (m.getD n 0) (m.getD (n + 1) 0)
  simp only [spanF, Nat.add_zero, most]
  rw [show min (2199023255552 : Int) (0 + (legOf c (m.getD n 0) (m.getD (n + 1) 0)).lo) = (legOf c (m.getD n 0) (m.getD (n + 1) 0)).lo by omega, show min (2199023255552 : Int) (0 + (legOf c (m.getD n 0) (m.getD (n + 1) 0)).hi) = (legOf c (m.getD n 0) (m.getD (n + 1) 0)).hi by omega]
theorem spanF_zero_succ (c : Course) (m : List Int) (n : Nat) : spanF c m 0 (n + 1) = (min most ((spanF c m 0 n).1 + (legOf c (m.getD n 0) (m.getD (n + 1) 0)).lo), min most ((spanF c m 0 n).2 + (legOf c (m.getD n 0) (m.getD (n + 1) 0)).hi)) := by
  rw [spanF, Nat.zero_add]

noncomputable abbrev fO (c : Course) (m : List Int) (lm : List (D × D)) (lo hi e : Int) : List (Nat × Blk) :=
  [(8, .box [.d (.mp lm)] 81), (7, .box [.d (.sl (m.map icells)), .d (.mp (legML c.legs))] 71), (2006, .box [iB e] 37), (5, .box [.d (bD false)] 4), (4, .box [iB lo, iB hi] 45), (2, .box (c.cells.map .d) 33)]

theorem Finish_meets (c : Course) (hc : c.small) (d : Int) : Meets Tryz.prog 17 [c.d, iD d] fun r => r = .tup [spD (finishR c d).1.1, bD (finishR c d).1.2, iD (finishR c d).2] := by
  refine enter tok {nm := [(6, 2006)]} Tryz.func17 rfl (by kernel_rfl) Tryz.ntmps17 (by simp) fun B0 W0 V0 lent g0 => ?_
  ((conv => whnf); repeat' ((fail_if_success (refine J_at2 13 ?_)); refine vcC_go tok {nm := [(6, 2006)]} rfl ?_; conv => whnf))
  refine Meets.k (build_meets c hc d 0) ?_
  ((conv => whnf); repeat' ((fail_if_success (refine J_at2 13 ?_)); refine vcC_go tok {nm := [(6, 2006)]} rfl ?_; conv => whnf))
  refine ⟨fun h1 => ?_, fun h1 => ?_⟩ <;> (try simp only [BB, List.length_map] at h1) <;> ((conv => whnf); repeat' ((fail_if_success (refine J_at2 13 ?_)); refine vcC_go tok {nm := [(6, 2006)]} rfl ?_; conv => whnf))
  · refine draw_rule tok (cf := {nm := [(6, 2006)]}) (by kernel_rfl) [.p 0, .p 1, .s 2 [0], .s 3 [], .s 4 [1]] (by kernel_rfl) ?_
    ((conv => whnf); repeat' ((fail_if_success (refine J_at2 13 ?_)); refine vcC_go tok {nm := [(6, 2006)]} rfl ?_; conv => whnf))
    repeat' (first | (refine ⟨(rfl : look _ _ = look _ _), ?_⟩; ((conv => whnf); repeat' ((fail_if_success (refine J_at2 13 ?_)); refine vcC_go tok {nm := [(6, 2006)]} rfl ?_; conv => whnf))) | fail)
    exact ⟨by rw [finishR, if_pos h1]⟩
  have hB := built_of (Decidable.not_not.1 h1)
  have hle := hB.le
  have hlen := hB.len
  have hge := hB.valid.ge
  have hR : finishR c d = (finR c (matsX c d 0) (findD c d).cutoffs, 0) := by rw [finishR, if_neg h1]
  have hcl : (findD c d).cutoffs.length ≤ 1048576 := hc.cutoffs _ hB.valid.mem
  have hcb := hB.valid.cuts
  have hnum := hB.valid.nums
  obtain ⟨hlt, hD⟩ := findD_at hB.valid.zero
  have h0d := (findE_zero hB.valid.zero).2.1
  rw [hR, hB.m, hB.l]
  have hge2 : 2 ≤ (matsX c d 0).length := by omega
  generalize matsX c d 0 = m at *
  refine ⟨_, ⟨h0d, getZ_at _ hlt (Distance.cells_eq _), rfl⟩, ?_⟩
  rw [← hD]
  generalize (findD c d).cutoffs = cuts at *
  ((conv => whnf); repeat' ((fail_if_success (refine J_at2 13 ?_)); refine vcC_go tok {nm := [(6, 2006)]} rfl ?_; conv => whnf))
  repeat' ((first | (intro hlq; (try simp only [List.length_map, maxLen] at hlq)) | refine Ka ?_ | refine Kb ?_ | refine Kc (hd := rfl) (e := ?_) | refine Kc (hd := Cond.cells_eq _) (e := ?_) | refine Kd (e := ?_) | refine ⟨(rfl : look _ _ = look _ _), ?_⟩ | fail) <;> ((conv => whnf); repeat' ((fail_if_success (refine J_at2 13 ?_)); refine vcC_go tok {nm := [(6, 2006)]} rfl ?_; conv => whnf)))
  refine loop_upd tok {nm := [(6, 2006)]} [] (X := Nat × List (D × D)) (fun s => [(37, iB s.1)]) (fun s => [(29, .mp s.2)]) [10, 11] (fun s => s.1 ≤ cuts.length ∧ LimM s.2 (cuts.take s.1)) (fun s => cuts.length - s.1) (0, []) ?_
  ((conv => whnf); repeat' ((fail_if_success (refine J_at2 13 ?_)); refine vcC_go tok {nm := [(6, 2006)]} rfl ?_; conv => whnf))
  refine And.intro ?_ ⟨⟨Nat.zero_le _, LimM.nil⟩, fun s hΦ => ?_⟩
  · repeat' (first | exact True.intro | exact rfl | refine And.intro ?_ ?_)
  obtain ⟨k, lm⟩ := s
  obtain ⟨hk, hlim⟩ := hΦ
  dsimp only at hk hlim
  ((conv => whnf); repeat' ((fail_if_success (refine J_at2 13 ?_)); refine vcC_go tok {nm := [(6, 2006)]} rfl ?_; conv => whnf))
  refine ⟨fun h2 => ?_, fun h2 => ?_⟩ <;> (try simp only [BB, List.length_map] at h2) <;> ((conv => whnf); repeat' ((fail_if_success (refine J_at2 13 ?_)); refine vcC_go tok {nm := [(6, 2006)]} rfl ?_; conv => whnf))
  · have h2' : k < cuts.length := by omega
    have hts : cuts.take (k + 1) = cuts.take k ++ [cuts[k]] := List.take_succ_eq_append_getElem h2'
    repeat' ((first | (intro hlq; (try simp only [List.length_map, maxLen] at hlq)) | refine Ka ?_ | refine Kb ?_ | refine Kc (hd := rfl) (e := ?_) | refine Kc (hd := Cutoff.cells_eq _) (e := ?_) | refine Kd (e := ?_) | refine ⟨(rfl : look _ _ = look _ _), ?_⟩ | fail) <;> ((conv => whnf); repeat' ((fail_if_success (refine J_at2 13 ?_)); refine vcC_go tok {nm := [(6, 2006)]} rfl ?_; conv => whnf)))
    refine ⟨⟨⟨[cuts[k].mat, cuts[k].lap], rfl, rfl⟩, hlim.2⟩, ?_⟩
    have hmg := hlim.1 cuts[k].mat cuts[k].lap
    cases hmo : minOf (cuts.take k) cuts[k].mat cuts[k].lap with
    | none =>
      rw [hmo] at hmg
      refine ⟨iD 0, false, ⟨congrArg (fun o : Option D => o.getD (iD 0)) hmg, congrArg (fun o : Option D => o.isSome) hmg⟩, ?_⟩
      ((conv => whnf); repeat' ((fail_if_success (refine J_at2 13 ?_)); refine vcC_go tok {nm := [(6, 2006)]} rfl ?_; conv => whnf))
      refine ⟨fun _ => ?_, fun hb => absurd hb (by decide)⟩
      ((conv => whnf); repeat' ((fail_if_success (refine J_at2 13 ?_)); refine vcC_go tok {nm := [(6, 2006)]} rfl ?_; conv => whnf))
      repeat' ((first | (intro hlq; (try simp only [List.length_map, maxLen] at hlq)) | refine Ka ?_ | refine Kb ?_ | refine Kc (hd := rfl) (e := ?_) | refine Kc (hd := Cond.cells_eq _) (e := ?_) | refine Kd (e := ?_) | refine ⟨(rfl : look _ _ = look _ _), ?_⟩ | fail) <;> ((conv => whnf); repeat' ((fail_if_success (refine J_at2 13 ?_)); refine vcC_go tok {nm := [(6, 2006)]} rfl ?_; conv => whnf)))
      refine ⟨⟨⟨[cuts[k].mat, cuts[k].lap], rfl, rfl⟩, hlim.2⟩, ?_⟩
      ((conv => whnf); repeat' ((fail_if_success (refine J_at2 13 ?_)); refine vcC_go tok {nm := [(6, 2006)]} rfl ?_; conv => whnf))
      repeat' ((first | (intro hlq; (try simp only [List.length_map, maxLen] at hlq)) | refine Ka ?_ | refine Kb ?_ | refine Kc (hd := rfl) (e := ?_) | refine Kc (hd := Cond.cells_eq _) (e := ?_) | refine Kd (e := ?_) | refine ⟨(rfl : look _ _ = look _ _), ?_⟩ | fail) <;> ((conv => whnf); repeat' ((fail_if_success (refine J_at2 13 ?_)); refine vcC_go tok {nm := [(6, 2006)]} rfl ?_; conv => whnf)))
      refine ⟨⟨(k + 1, mput lm (.agg [iD cuts[k].mat, iD cuts[k].lap]) (iD cuts[k].limit)), ?_, ⟨by dsimp only; omega, by dsimp only; rw [hts]; exact hlim.put _ (by rw [hmo]; rfl)⟩, by dsimp only; omega⟩⟩
      repeat' (first | exact True.intro | exact rfl | refine And.intro ?_ ?_)
    | some y =>
      rw [hmo] at hmg
      refine ⟨iD y, true, ⟨congrArg (fun o : Option D => o.getD (iD 0)) hmg, congrArg (fun o : Option D => o.isSome) hmg⟩, ?_⟩
      ((conv => whnf); repeat' ((fail_if_success (refine J_at2 13 ?_)); refine vcC_go tok {nm := [(6, 2006)]} rfl ?_; conv => whnf))
      refine ⟨fun hb => absurd hb (by decide), fun _ => ?_⟩
      ((conv => whnf); repeat' ((fail_if_success (refine J_at2 13 ?_)); refine vcC_go tok {nm := [(6, 2006)]} rfl ?_; conv => whnf))
      repeat' ((first | (intro hlq; (try simp only [List.length_map, maxLen] at hlq)) | refine Ka ?_ | refine Kb ?_ | refine Kc (hd := rfl) (e := ?_) | refine Kc (hd := Cond.cells_eq _) (e := ?_) | refine Kd (e := ?_) | refine ⟨(rfl : look _ _ = look _ _), ?_⟩ | fail) <;> ((conv => whnf); repeat' ((fail_if_success (refine J_at2 13 ?_)); refine vcC_go tok {nm := [(6, 2006)]} rfl ?_; conv => whnf)))
      refine ⟨fun h3 => ?_, fun h3 => ?_⟩ <;> (try simp only [BB, List.length_map] at h3) <;> ((conv => whnf); repeat' ((fail_if_success (refine J_at2 13 ?_)); refine vcC_go tok {nm := [(6, 2006)]} rfl ?_; conv => whnf))
      · (try dsimp only at h3)
        repeat' ((first | (intro hlq; (try simp only [List.length_map, maxLen] at hlq)) | refine Ka ?_ | refine Kb ?_ | refine Kc (hd := rfl) (e := ?_) | refine Kc (hd := Cond.cells_eq _) (e := ?_) | refine Kd (e := ?_) | refine ⟨(rfl : look _ _ = look _ _), ?_⟩ | fail) <;> ((conv => whnf); repeat' ((fail_if_success (refine J_at2 13 ?_)); refine vcC_go tok {nm := [(6, 2006)]} rfl ?_; conv => whnf)))
        refine ⟨⟨⟨[cuts[k].mat, cuts[k].lap], rfl, rfl⟩, hlim.2⟩, ?_⟩
        ((conv => whnf); repeat' ((fail_if_success (refine J_at2 13 ?_)); refine vcC_go tok {nm := [(6, 2006)]} rfl ?_; conv => whnf))
        repeat' ((first | (intro hlq; (try simp only [List.length_map, maxLen] at hlq)) | refine Ka ?_ | refine Kb ?_ | refine Kc (hd := rfl) (e := ?_) | refine Kc (hd := Cond.cells_eq _) (e := ?_) | refine Kd (e := ?_) | refine ⟨(rfl : look _ _ = look _ _), ?_⟩ | fail) <;> ((conv => whnf); repeat' ((fail_if_success (refine J_at2 13 ?_)); refine vcC_go tok {nm := [(6, 2006)]} rfl ?_; conv => whnf)))
        refine ⟨⟨(k + 1, mput lm (.agg [iD cuts[k].mat, iD cuts[k].lap]) (iD cuts[k].limit)), ?_, ⟨by dsimp only; omega, by dsimp only; rw [hts]; exact hlim.put _ (by rw [hmo]; simp only [minO]; omega)⟩, by dsimp only; omega⟩⟩
        repeat' (first | exact True.intro | exact rfl | refine And.intro ?_ ?_)
      · (try dsimp only at h3)
        repeat' ((first | (intro hlq; (try simp only [List.length_map, maxLen] at hlq)) | refine Ka ?_ | refine Kb ?_ | refine Kc (hd := rfl) (e := ?_) | refine Kc (hd := Cond.cells_eq _) (e := ?_) | refine Kd (e := ?_) | refine ⟨(rfl : look _ _ = look _ _), ?_⟩ | fail) <;> ((conv => whnf); repeat' ((fail_if_success (refine J_at2 13 ?_)); refine vcC_go tok {nm := [(6, 2006)]} rfl ?_; conv => whnf)))
        refine ⟨⟨(k + 1, lm), ?_, ⟨by dsimp only; omega, by dsimp only; rw [hts]; exact hlim.keep _ hmo h3⟩, by dsimp only; omega⟩⟩
        repeat' (first | exact True.intro | exact rfl | refine And.intro ?_ ?_)
  · rw [List.take_of_length_le (by omega)] at hlim
    refine J_frz [29] ?_
    ((conv => whnf); repeat' (refine vcC_go tok {nm := [(6, 2006)]} rfl ?_; conv => whnf))
    refine Meets.k (laps_meets m (legML c.legs)) ?_
    ((conv => whnf); repeat' (refine vcC_go tok {nm := [(6, 2006)]} rfl ?_; conv => whnf))
    refine range_rule tok {nm := [(6, 2006)]} {} 3000 (X := Nat) (Y := {i : Nat // i < m.length ∧ (spanF c m 0 i).1 > finH c m cuts (i + 1)}) (fun i => fO c m lm (spanF c m 0 (i - 1)).1 (finH c m cuts i) (buildE c d 0)) (fun y => fO c m lm 0 0 0) (fun _ => .ret)
      (fun i ds => (i < m.length ∧ ∀ j < i, ¬ (spanF c m 0 j).1 > finH c m cuts (j + 1)) ∧ ds = [iD i, iD (lapN m i : Nat)]) (fun i _ i' => (i' ≤ m.length ∧ ∀ j < i', ¬ (spanF c m 0 j).1 > finH c m cuts (j + 1)) ∧ i' = i + 1) (fun _ _ _ => True) (fun i => i = m.length ∧ ∀ j < m.length, ¬ (spanF c m 0 j).1 > finH c m cuts (j + 1)) 0
      (F := 48) (fs := []) (cs := [.d (.ptr [.sl (m.map icells), .mp (legML c.legs)] 0)]) rfl (Nat.le_refl _) ?_ Tryz.func48 rfl (by kernel_rfl) Tryz.ntmps48 (by simp) (by simp) (by simp) ?_ rfl (by simp) rfl (fun _ => rfl) (fun _ => rfl) (fun _ => rfl) rfl rfl ?_ ?_ ?_
    · conv => whnf
      exact rfl
    · repeat' (first | exact True.intro | exact rfl | refine And.intro ?_ ?_)
    · rintro i ds ⟨_, rfl⟩
      rfl
    · intro B0 W0 V0 lent g0 rc g V1 hY
      ((conv => whnf); repeat' (refine vcC_go tok {} rfl ?_; conv => whnf))
      repeat' ((first | (intro hlq; (try simp only [List.length_map, maxLen] at hlq)) | refine Ka ?_ | refine Kb ?_ | refine Kc (hd := rfl) (e := ?_) | refine Kc (hd := Cond.cells_eq _) (e := ?_) | refine Kd (e := ?_) | refine ⟨(rfl : look _ _ = look _ _), ?_⟩ | fail) <;> ((conv => whnf); repeat' (refine vcC_go tok {} rfl ?_; conv => whnf)))
      refine loop_upd tok {} [] (X := Nat × List (D × D)) (fun s => [(10, iB s.1)]) (fun s => [(6, .mp s.2), (4, .box [iB (spanF c m 0 (s.1 - 1)).1, iB (finH c m cuts s.1)] 45)]) [] (fun s => (s.1 ≤ m.length ∧ ∀ j < s.1, ¬ (spanF c m 0 j).1 > finH c m cuts (j + 1)) ∧ (∀ n : Int, (mget s.2 (iD n)).getD (iD 0) = iD ((m.take s.1).count n)) ∧ ∀ p ∈ s.2, KInt .i64 p.1) (fun s => m.length - s.1) (0, []) ?_
      ((conv => whnf); repeat' (refine vcC_go tok {} rfl ?_; conv => whnf))
      refine And.intro ?_ ⟨⟨⟨Nat.zero_le _, fun j hj => by simp at hj⟩, fun n => by simp [mget], fun p hp => by cases hp⟩, fun s hΦ => ?_⟩
      · repeat' (first | exact True.intro | exact rfl | refine And.intro ?_ ?_)
      obtain ⟨i, im⟩ := s
      obtain ⟨⟨hi, hp⟩, hget, hkey⟩ := hΦ
      dsimp only at hi hp hget hkey
      ((conv => whnf); repeat' (refine vcC_go tok {} rfl ?_; conv => whnf))
      refine ⟨fun h2 => ?_, fun h2 => ?_⟩ <;> (try simp only [BB, List.length_map] at h2) <;> ((conv => whnf); repeat' (refine vcC_go tok {} rfl ?_; conv => whnf))
      · have h1' : i < m.length := by omega
        have hcl := List.count_le_length (a := m[i]) (l := m.take i)
        rw [List.length_take] at hcl
        have hgd := getD_of h1'
        have hput := imap_put (x := m[i]) hget
        have hkey2 := imap_keys (x := m[i]) (v := iD ((List.count m[i] (List.take i m) : Int) + 1)) hkey
        have hts : List.take i m ++ [m[i]] = List.take (i + 1) m := (List.take_succ_eq_append_getElem h1').symm
        rw [hts] at hput
        have hlap : lapN m i = List.count m[i] (List.take (i + 1) m) := by rw [lapN, hgd]
        repeat' ((first | (intro hlq; (try simp only [List.length_map, maxLen] at hlq)) | refine Ka ?_ | refine Kb ?_ | refine Kc (hd := rfl) (e := ?_) | refine Kc (hd := icells_eq _) (e := ?_) | refine Kd (e := ?_) | refine ⟨(rfl : look _ _ = look _ _), ?_⟩ | fail) <;> ((conv => whnf); repeat' (refine vcC_go tok {} rfl ?_; conv => whnf)))
        refine ⟨⟨⟨_, rfl⟩, hkey⟩, _, hget m[i], ?_⟩
        ((conv => whnf); repeat' (refine vcC_go tok {} rfl ?_; conv => whnf))
        refine ⟨fun _ _ => by simp only [inKind]; omega, ?_⟩
        ((conv => whnf); repeat' (refine vcC_go tok {} rfl ?_; conv => whnf))
        refine ⟨⟨⟨_, rfl⟩, hkey⟩, ?_⟩
        ((conv => whnf); repeat' (refine vcC_go tok {} rfl ?_; conv => whnf))
        refine ⟨⟨⟨_, rfl⟩, hkey2⟩, _, hput m[i], ?_⟩
        ((conv => whnf); repeat' (refine vcC_go tok {} rfl ?_; conv => whnf))
        rw [← hlap]
        refine ⟨_, ?_, (hY i _ ⟨⟨h1', hp⟩, rfl⟩).mono ?_⟩
        · repeat' (first | exact True.intro | exact rfl | refine And.intro ?_ ?_)
        intro o O' h
        rcases h with ⟨i', ⟨⟨hi', hp'⟩, rfl⟩, rfl, rfl⟩ | ⟨y, _, rfl, rfl⟩
        · ((conv => whnf); repeat' (refine vcC_go tok {} rfl ?_; conv => whnf))
          repeat' ((first | (intro hlq; (try simp only [List.length_map, maxLen] at hlq)) | refine Ka ?_ | refine Kb ?_ | refine Kc (hd := rfl) (e := ?_) | refine Kc (hd := Cond.cells_eq _) (e := ?_) | refine Kd (e := ?_) | refine ⟨(rfl : look _ _ = look _ _), ?_⟩ | fail) <;> ((conv => whnf); repeat' (refine vcC_go tok {} rfl ?_; conv => whnf)))
          refine ⟨fun h3 => absurd h3 (by decide), fun _ => ?_⟩
          ((conv => whnf); repeat' (refine vcC_go tok {} rfl ?_; conv => whnf))
          repeat' ((first | (intro hlq; (try simp only [List.length_map, maxLen] at hlq)) | refine Ka ?_ | refine Kb ?_ | refine Kc (hd := rfl) (e := ?_) | refine Kc (hd := Cond.cells_eq _) (e := ?_) | refine Kd (e := ?_) | refine ⟨(rfl : look _ _ = look _ _), ?_⟩ | fail) <;> ((conv => whnf); repeat' (refine vcC_go tok {} rfl ?_; conv => whnf)))
          refine ⟨⟨(i + 1, mput im (iD m[i]) (iD ((List.count m[i] (List.take i m) : Int) + 1))), ?_, ⟨⟨hi', hp'⟩, hput, hkey2⟩, by dsimp only; omega⟩⟩
          repeat' (first | exact True.intro | exact rfl | refine And.intro ?_ ?_)
        · ((conv => whnf); repeat' (refine vcC_go tok {} rfl ?_; conv => whnf))
          repeat' ((first | (intro hlq; (try simp only [List.length_map, maxLen] at hlq)) | refine Ka ?_ | refine Kb ?_ | refine Kc (hd := rfl) (e := ?_) | refine Kc (hd := Cond.cells_eq _) (e := ?_) | refine Kd (e := ?_) | refine ⟨(rfl : look _ _ = look _ _), ?_⟩ | fail) <;> ((conv => whnf); repeat' (refine vcC_go tok {} rfl ?_; conv => whnf)))
          refine ⟨fun _ => ?_, fun h3 => absurd h3 (by decide)⟩
          ((conv => whnf); repeat' (refine vcC_go tok {} rfl ?_; conv => whnf))
          refine ⟨_, .d (.tup []), ⟨?_, ?_, rfl⟩, ⟨_, rfl, .inr ⟨y, rfl⟩⟩⟩
          · repeat' (first | exact True.intro | exact rfl | refine And.intro ?_ ?_)
          · repeat' (first | exact True.intro | exact rfl | refine And.intro ?_ ?_)
      · obtain rfl : i = m.length := by omega
        refine ⟨_, .d (.tup []), ⟨?_, ?_, rfl⟩, ⟨_, rfl, .inl ⟨m.length, ⟨rfl, hp⟩, rfl⟩⟩⟩
        · repeat' (first | exact True.intro | exact rfl | refine And.intro ?_ ?_)
        · repeat' (first | exact True.intro | exact rfl | refine And.intro ?_ ?_)
    · ((conv => whnf); repeat' (refine vcC_go tok {} rfl ?_; conv => whnf))
      refine ⟨?_, ?_, ?_⟩
      · rintro i ds ⟨⟨hi, hp⟩, rfl⟩ B0 W0 V0 lent g0 l m0
        have hgd := getD_of hi
        have hfb := finH_bound hnum (m := m) (fun x hx => (hcb x hx).1) i
        have hsb := spanF_bound hnum m 0 (i - 1)
        simp only [most] at hfb hsb
        ((conv => whnf); repeat' (refine vcC_go tok {} rfl ?_; conv => whnf))
        refine ⟨rfl, fun B0 W0 V0 lent g0 l m0 => ?_⟩
        have hfin : finH c m cuts (i + 1) = capF m cuts i (preF c m i (finH c m cuts i)) := rfl
        rw [capF_min, hgd] at hfin
        have hmg := hlim.1 m[i] (lapN m i)
        have step : ¬ (spanF c m 0 i).1 > finH c m cuts (i + 1) → ∀ j < i + 1, ¬ (spanF c m 0 j).1 > finH c m cuts (j + 1) := fun h j hj => by
          rcases Nat.lt_or_ge j i with h3 | h3
          · exact hp j h3
          · rw [show j = i by omega]; exact h
        ((conv => whnf); repeat' (refine vcC_go tok {} rfl ?_; conv => whnf))
        repeat' ((first | (intro hlq; (try simp only [List.length_map, maxLen] at hlq)) | ((refine ⟨fun (hb : _ = true) => ?_, fun (hb : _ = false) => ?_⟩) <;> (try simp only [BB, List.length_map] at hb)) | refine Ka ?_ | refine Kb ?_ | refine Kc (hd := rfl) (e := ?_) | refine Kc (hd := Cond.cells_eq _) (e := ?_) | refine Kd (e := ?_) | refine ⟨(rfl : look _ _ = look _ _), ?_⟩ | fail) <;> ((conv => whnf); repeat' (refine vcC_go tok {} rfl ?_; conv => whnf)))
        focus
          have hi1 : i - 1 + 1 = i := by omega
          have hsp := span_meets c hnum m (by omega) (i - 1) i (by omega) hi
          rw [show i - (i - 1) = 1 by omega, spanF_one hnum, hi1] at hsp
          have hl := legOf_good hnum (m.getD (i - 1) 0) (m.getD i 0)
          have hlo : (spanF c m 0 i).1 = min most ((spanF c m 0 (i - 1)).1 + (legOf c (m.getD (i - 1) 0) (m.getD i 0)).lo) := by
            have := congrArg Prod.fst (spanF_zero_succ c m (i - 1))
            rwa [hi1] at this
          have hpre : preF c m i (finH c m cuts i) = min most (finH c m cuts i + (legOf c (m.getD (i - 1) 0) (m.getD i 0)).hi) := by rw [preF, if_neg (by omega)]
          rw [show ((i : Int) - 1) = ((i - 1 : Nat) : Int) by omega]
          refine Meets.k hsp ?_
          ((conv => whnf); repeat' (refine vcC_go tok {} rfl ?_; conv => whnf))
          repeat' ((first | (intro hlq; (try simp only [List.length_map, maxLen] at hlq)) | refine Ka ?_ | refine Kb ?_ | refine Kc (hd := rfl) (e := ?_) | refine Kc (hd := Cond.cells_eq _) (e := ?_) | refine Kd (e := ?_) | refine ⟨(rfl : look _ _ = look _ _), ?_⟩ | fail) <;> ((conv => whnf); repeat' (refine vcC_go tok {} rfl ?_; conv => whnf)))
          rw [← hlo, ← hpre]
          clear hlo hpre hl hsp
        rotate_left
        focus
          have hi0 : i = 0 := by omega
          have hlo : (spanF c m 0 i).1 = (spanF c m 0 (i - 1)).1 := by rw [hi0]
          have hpre : preF c m i (finH c m cuts i) = finH c m cuts i := by rw [preF, if_pos hi0]
          rw [← hlo, ← hpre]
          clear hlo hpre
        all_goals
          refine draw_rule tok (cf := {}) (by kernel_rfl) [.p 0, .p 1, .p 2, .p 3, .p 4, .p 5, .p 6, .p 7, .p 8, .p 9, .p 10, .p 11, .p 12, .p 13] (by kernel_rfl) ?_
          ((conv => whnf); repeat' (refine vcC_go tok {} rfl ?_; conv => whnf))
          repeat' ((first | (intro hlq; (try simp only [List.length_map, maxLen] at hlq)) | refine Ka ?_ | refine Kb ?_ | refine Kc (hd := rfl) (e := ?_) | refine Kc (hd := icells_eq _) (e := ?_) | refine Kd (e := ?_) | refine ⟨(rfl : look _ _ = look _ _), ?_⟩ | fail) <;> ((conv => whnf); repeat' (refine vcC_go tok {} rfl ?_; conv => whnf)))
          refine ⟨⟨⟨[m[i], (lapN m i : Int)], rfl, rfl⟩, hlim.2⟩, ?_⟩
          cases hmo : minOf cuts m[i] (lapN m i) with
          | none =>
            rw [hmo] at hmg
            simp only [hmo] at hfin
            refine ⟨iD 0, false, ⟨congrArg (fun o : Option D => o.getD (iD 0)) hmg, congrArg (fun o : Option D => o.isSome) hmg⟩, ?_⟩
            ((conv => whnf); repeat' (refine vcC_go tok {} rfl ?_; conv => whnf))
            repeat' (first | (refine ⟨(rfl : look _ _ = look _ _), ?_⟩; ((conv => whnf); repeat' (refine vcC_go tok {} rfl ?_; conv => whnf))) | fail)
            refine ⟨fun hb => absurd hb (by decide), fun _ => ?_⟩
            ((conv => whnf); repeat' (refine vcC_go tok {} rfl ?_; conv => whnf))
            repeat' ((first | (intro hlq; (try simp only [List.length_map, maxLen] at hlq)) | ((refine ⟨fun (hb : _ = true) => ?_, fun (hb : _ = false) => ?_⟩) <;> (try simp only [BB, List.length_map] at hb)) | refine Ka ?_ | refine Kb ?_ | refine Kc (hd := rfl) (e := ?_) | refine Kc (hd := Cond.cells_eq _) (e := ?_) | refine Kd (e := ?_) | refine ⟨(rfl : look _ _ = look _ _), ?_⟩ | fail) <;> ((conv => whnf); repeat' (refine vcC_go tok {} rfl ?_; conv => whnf)))
            · refine ⟨⟨⟨i, hi, by rw [hfin]; assumption⟩, ⟨?_, rfl⟩, rfl, trivial⟩⟩
              repeat' (first | exact True.intro | exact rfl | refine And.intro ?_ ?_)
            · refine ⟨⟨i + 1, ⟨?_, rfl⟩, ⟨by omega, step (by rw [hfin]; assumption)⟩, rfl⟩⟩
              show SubO _ (fO c m lm (spanF c m 0 i).1 (finH c m cuts (i + 1)) (buildE c d 0))
              rw [hfin]
              repeat' (first | exact True.intro | exact rfl | refine And.intro ?_ ?_)
          | some y =>
            rw [hmo] at hmg
            simp only [hmo] at hfin
            refine ⟨iD y, true, ⟨congrArg (fun o : Option D => o.getD (iD 0)) hmg, congrArg (fun o : Option D => o.isSome) hmg⟩, ?_⟩
            ((conv => whnf); repeat' (refine vcC_go tok {} rfl ?_; conv => whnf))
            repeat' (first | (refine ⟨(rfl : look _ _ = look _ _), ?_⟩; ((conv => whnf); repeat' (refine vcC_go tok {} rfl ?_; conv => whnf))) | fail)
            refine ⟨fun _ => ?_, fun hb => absurd hb (by decide)⟩
            ((conv => whnf); repeat' (refine vcC_go tok {} rfl ?_; conv => whnf))
            repeat' ((first | (intro hlq; (try simp only [List.length_map, maxLen] at hlq)) | ((refine ⟨fun (hb : _ = true) => ?_, fun (hb : _ = false) => ?_⟩) <;> (try simp only [BB, List.length_map] at hb)) | refine Ka ?_ | refine Kb ?_ | refine Kc (hd := rfl) (e := ?_) | refine Kc (hd := Cond.cells_eq _) (e := ?_) | refine Kd (e := ?_) | refine ⟨(rfl : look _ _ = look _ _), ?_⟩ | fail) <;> ((conv => whnf); repeat' (refine vcC_go tok {} rfl ?_; conv => whnf)))
            · refine ⟨⟨⟨i, hi, by rw [hfin]; assumption⟩, ⟨?_, rfl⟩, rfl, trivial⟩⟩
              repeat' (first | exact True.intro | exact rfl | refine And.intro ?_ ?_)
            · refine ⟨⟨i + 1, ⟨?_, rfl⟩, ⟨by omega, step (by rw [hfin]; assumption)⟩, rfl⟩⟩
              show SubO _ (fO c m lm (spanF c m 0 i).1 (finH c m cuts (i + 1)) (buildE c d 0))
              rw [hfin]
              repeat' (first | exact True.intro | exact rfl | refine And.intro ?_ ?_)
      · rintro i ⟨rfl, hp⟩
        ((conv => whnf); repeat' (refine vcC_go tok {} rfl ?_; conv => whnf))
        refine ⟨?_⟩
        rw [finR_good hp]
      · rintro ⟨i, hi, hb⟩
        ((conv => whnf); repeat' (refine vcC_go tok {} rfl ?_; conv => whnf))
        refine ⟨?_⟩
        rw [finR_bad hi hb]
end Go.Proofs.YtkkohadkpogdfaaGreat.Dx

/- A private row of one's own is lent to a function over data: it comes back private. -/
namespace Go.Proofs.YtkkohadkpogdfaaGreat.Dx
open Go Go.RowKit
set_option linter.all false
set_option maxHeartbeats 1000000

/-- no value reads as both -/
def clash (d e : D) : Bool :=
  match d, e with
  | .v (.int k a), .v (.int k' b) => !decide (a = b)
  | .v (.int _ _), .str _ => true
  | .v (.int _ _), .sl _ => true
  | .str _, .v (.int _ _) => true
  | .str s, .str t => !decide (s = t)
  | .str _, .sl _ => true
  | .sl _, .v (.int _ _) => true
  | .sl _, .str _ => true
  | _, _ => false
theorem sl_val {V : Know} {x : Value} {xs : List (List D)} (h : Rep V x (.sl xs)) : ∃ a n c, x = .slice a n c := by
  cases h
  · exact ⟨_, _, _, rfl⟩
  · exact ⟨_, _, _, rfl⟩
  · exact ⟨_, _, _, rfl⟩
theorem clash_run {V : Know} {u : Value} {d e : D} (h : clash d e = true) (h1 : Rep V u d) (h2 : Rep V u e) : False := by
  unfold clash at h
  split at h
  · have e1 := h1.v_inv.1
    have e2 := h2.v_inv.1
    rw [e1] at e2
    cases e2
    simp at h
  · rw [h1.v_inv.1] at h2; have := h2.str_inv.1; cases this
  · rw [h1.v_inv.1] at h2; obtain ⟨_, _, _, e⟩ := sl_val h2; cases e
  · rw [h2.v_inv.1] at h1; have := h1.str_inv.1; cases this
  · have e1 := h1.str_inv.1
    have e2 := h2.str_inv.1
    rw [e1] at e2
    have : (⟨⟨_⟩⟩ : ByteArray) = ⟨⟨_⟩⟩ := Value.string.inj e2
    have := congrArg (fun b : ByteArray => b.data.toList) this
    simp at this
    simp [this] at h
  · rw [h1.str_inv.1] at h2; obtain ⟨_, _, _, e⟩ := sl_val h2; cases e
  · rw [h2.v_inv.1] at h1; obtain ⟨_, _, _, e⟩ := sl_val h1; cases e
  · rw [h2.str_inv.1] at h1; obtain ⟨_, _, _, e⟩ := sl_val h1; cases e
  · cases h

/-- cells fl do not lie in a row of the cells gs from place o on -/
def missAt (gs fl : List D) (o : Nat) : Bool := (List.range fl.length).any fun j => match gs[o + j]?, fl[j]? with
  | none, _ => true
  | some e, some d => clash d e
  | some _, none => false
def missed (gs fl : List D) : Bool := fl.isEmpty || (List.range gs.length).all (missAt gs fl)

mutual
/-- data that can be read without the row of the cells gs -/
def keepD (gs : List D) : D → Bool
  | .v _ => true
  | .bl _ => true
  | .junk => true
  | .str _ => true
  | .agg ds => keepDs gs ds
  | .tup ds => keepDs gs ds
  | .sl xs => missed gs xs.flatten && keepDss gs xs
  | _ => false
def keepDs (gs : List D) : List D → Bool
  | [] => true
  | d :: ds => keepD gs d && keepDs gs ds
def keepDss (gs : List D) : List (List D) → Bool
  | [] => true
  | ds :: xs => keepDs gs ds && keepDss gs xs
end
theorem keepDs_get {gs : List D} : ∀ {ds : List D}, keepDs gs ds = true → ∀ {i : Nat} {d : D}, ds[i]? = some d → keepD gs d = true
  | [], _, i, d, h => by simp at h
  | x :: ds, h, i, d, hi => by
    simp only [keepDs, Bool.and_eq_true] at h
    cases i with
    | zero => simp at hi; subst hi; exact h.1
    | succ i => exact keepDs_get h.2 (by simpa using hi)
theorem keepDss_get {gs : List D} : ∀ {xs : List (List D)}, keepDss gs xs = true → ∀ {i : Nat} {ds : List D}, xs[i]? = some ds → keepDs gs ds = true
  | [], _, i, d, h => by simp at h
  | x :: ds, h, i, d, hi => by
    simp only [keepDss, Bool.and_eq_true] at h
    cases i with
    | zero => simp at hi; subst hi; exact h.1
    | succ i => exact keepDss_get h.2 (by simpa using hi)

def Know.less (V : Know) (g : Nat) : Know := { V with cell := fun b o => if b = g then none else V.cell b o }
theorem less_cell {V : Know} {g b o : Nat} {u : Value} : (V.less g).cell b o = some u ↔ b ≠ g ∧ V.cell b o = some u := by
  show (if b = g then none else V.cell b o) = some u ↔ _
  split
  · rename_i h; simp [h]
  · rename_i h; simp [h]

theorem flatten_idx {k : Nat} : ∀ {xs : List (List D)}, (∀ ds ∈ xs, ds.length = k) → ∀ {q : Nat} {d : D}, xs.flatten[q]? = some d → ∃ i ds j, xs[i]? = some ds ∧ ds[j]? = some d ∧ q = i * k + j := by
  intro xs
  induction xs with
  | nil => intro _ q d h; simp at h
  | cons x xs ih =>
    intro hk q d h
    rw [List.flatten_cons] at h
    have hx := hk x (by simp)
    by_cases hq : q < x.length
    · rw [List.getElem?_append_left hq] at h
      exact ⟨0, x, q, rfl, h, by omega⟩
    · rw [List.getElem?_append_right (by omega)] at h
      obtain ⟨i, ds, j, h1, h2, h3⟩ := ih (fun z hz => hk z (by simp [hz])) h
      exact ⟨i + 1, ds, j, by simpa using h1, h2, by rw [Nat.succ_mul]; omega⟩

theorem keep_run {V : Know} {g : Nat} {gs : List D} (hg : ∀ o u, V.cell g o = some u → ∃ e, gs[o]? = some e ∧ Rep V u e) {x : Value} {d : D} (h : Rep V x d) : keepD gs d = true → Rep (V.less g) x d := by
  induction h with
  | v x h => intro _; exact .v x h
  | bl b => intro _; exact .bl b
  | junk x => intro _; exact .junk x
  | raw x => intro hk; simp [keepD] at hk
  | str l h => intro _; exact .str l h
  | agg us ds hl h1 h ih =>
    intro hk
    simp only [keepD] at hk
    exact .agg us ds hl h1 fun i u d hu hd => ih i u d hu hd (keepDs_get hk hd)
  | tup us ds hl h ih =>
    intro hk
    simp only [keepD] at hk
    exact .tup us ds hl fun i u d hu hd => ih i u d hu hd (keepDs_get hk hd)
  | nil => intro _; exact .nil
  | empty a => intro _; exact .empty a
  | sl b o c k xs hc hm hk hex h ih =>
    intro hkk
    simp only [keepD, Bool.and_eq_true] at hkk
    obtain ⟨hmiss, hcells⟩ := hkk
    have hne : ∀ {i : Nat} {ds : List D} {j : Nat} {d : D}, xs[i]? = some ds → ds[j]? = some d → b ≠ g := by
      intro i ds j d hi hj e
      subst e
      have hfl := flatten_get hk hi hj
      simp only [missed, Bool.or_eq_true, List.isEmpty_iff, List.all_eq_true, List.mem_range] at hmiss
      rcases hmiss with hm0 | hm0
      · rw [hm0] at hfl; simp at hfl
      have at' : ∀ q d, xs.flatten[q]? = some d → ∃ u, V.cell b (o + q) = some u ∧ Rep V u d := by
        intro q d hq
        obtain ⟨i, ds, j, h1, h2, rfl⟩ := flatten_idx hk hq
        obtain ⟨u, hu, _⟩ := hex i ds j d h1 h2
        refine ⟨u, ?_, h i ds j d u h1 h2 hu⟩
        rwa [← Nat.add_assoc]
      have hlt0 : 0 < xs.flatten.length := by
        rcases Nat.lt_or_ge (i * k + j) xs.flatten.length with h3 | h3
        · omega
        · rw [List.getElem?_eq_none h3] at hfl; cases hfl
      obtain ⟨u0, hu0, _⟩ := at' 0 _ (List.getElem?_eq_getElem hlt0)
      obtain ⟨e0, he0, _⟩ := hg _ _ hu0
      have ho : o < gs.length := by
        rcases Nat.lt_or_ge o gs.length with h3 | h3
        · exact h3
        · rw [List.getElem?_eq_none (by omega)] at he0; cases he0
      have hma := hm0 o ho
      simp only [missAt, List.any_eq_true, List.mem_range] at hma
      obtain ⟨q, hq, hmq⟩ := hma
      obtain ⟨u, hu, hru⟩ := at' q _ (List.getElem?_eq_getElem hq)
      obtain ⟨e, he, hre⟩ := hg _ _ hu
      rw [he, List.getElem?_eq_getElem hq] at hmq
      exact clash_run hmq hru hre
    refine .sl b o c k xs hc hm hk (fun i ds j d h1 h2 => ?_) (fun i ds j d u h1 h2 h3 => ?_)
    · obtain ⟨u, hu, ho⟩ := hex i ds j d h1 h2
      exact ⟨u, less_cell.2 ⟨hne h1 h2, hu⟩, ho⟩
    · exact ih i ds j d u h1 h2 (less_cell.1 h3).2 (keepDs_get (keepDss_get hcells h1) h2)
  | ptr => intro hk; simp [keepD] at hk
  | mnil => intro hk; simp [keepD] at hk
  | mp => intro hk; simp [keepD] at hk
  | iface => intro hk; simp [keepD] at hk
  | fn => intro hk; simp [keepD] at hk

/-- what a base reads as while row n is lent -/
def lendB (n : Nat) (xs : List (List D)) (b : Base) : Option D :=
  match b with
  | .d d => some d
  | .ag p m q => match Nat.beq m n with
    | true => some (.agg (p ++ .sl xs :: q))
    | false => none
  | _ => none
def lendBs (n : Nat) (xs : List (List D)) : List Base → Option (List D)
  | [] => some []
  | b :: bs => match lendB n xs b with
    | some d => match lendBs n xs bs with
      | some ds => some (d :: ds)
      | none => none
    | none => none
theorem lendBs_run {γ : Gm} {V V' : Know} (hle : V.Le V') {n : Nat} {xs : List (List D)} (hr : Rep V' (γ n).1 (.sl xs)) : ∀ {bs : List Base} {ds : List D} {vs : List Value}, lendBs n xs bs = some ds → Vals γ V bs vs → Vals γ V' (ds.map .d) vs
  | [], ds, vs, h, hv => by
    cases h
    obtain rfl := hv.nil_l
    exact All2.nil
  | b :: bs, ds, vs, h, hv => by
    obtain ⟨x, vs, rfl, h1, h2⟩ := hv.cons_l
    simp only [lendBs] at h
    split at h
    case h_2 => cases h
    rename_i d hd
    split at h
    case h_2 => cases h
    rename_i ds' hds
    cases h
    refine .cons ?_ (lendBs_run hle hr hds h2)
    unfold lendB at hd
    split at hd
    · cases hd; exact Rep.mono hle h1
    · split at hd
      · rename_i e
        obtain rfl := Nat.eq_of_beq_eq_true e
        cases hd
        obtain ⟨us, ws, rfl, r1, r2, r3⟩ := h1
        have := (r1.mono hle).append (Reps.cons hr (r2.mono hle))
        exact .agg _ _ this.len r3 this.get
      · cases hd
    · cases hd

theorem lend_meets {P : Program} {F : FuncId} {ds : List D} {bs : List Base} {n : Nat} {e : TypeId} {k : Nat} {xs : List (List D)} {R : D → Prop} (h : Meets P F ds R) (O : List (Nat × Blk)) (hlk : look n O = some (.sl ⟨e, k, xs, false⟩)) (hl : lendBs n xs bs = some ds) (hx : xs ≠ []) (hk : ∀ d, R d → keepD xs.flatten d = true) :
    MeetsR P F bs O fun o O' => ∃ d, o = .ret (.d d) ∧ O' = O ∧ R d := by
  refine ⟨h.out.fn, fun γ V W vs hs hv hown hinj => ?_⟩
  rcases hown n _ hlk with ⟨g, m, c, vals, hγ, hrow, hkk, hvr, h1, hnone⟩ | ⟨hp, _⟩
  case inr =>
    rcases hp with hp | hp
    · cases hp
    · exact absurd hp hx
  simp only at hkk hvr hnone hrow
  have hcells := hrow.cells (g := g) (by rw [hγ]; rfl)
  have hle : V.Le (V.with g vals) := with_le' fun o u hu => by rw [hnone] at hu; cases hu
  have hs1 := with_sees' hs hle fun j u hj => by have := hcells j u hj; rwa [addr_add, Nat.zero_add] at this
  rw [hγ] at hrow
  obtain ⟨cur, hm, hh, hnc, hcm, hcs, ht, hvl⟩ := own_cap hrow
  have hrep : Rep (V.with g vals) (γ n).1 (.sl xs) := by
    rw [hγ]
    exact rep_row hm (by omega) hcm hkk (hvr.mono hle) h1 fun j u hj => by
      show (if g = g then vals[j]? else _) = some u
      rw [if_pos rfl]; exact hj
  have hgW : g < W.heap.size := (Array.getElem?_eq_some_iff.1 hh).1
  refine (h.out.run γ (V.with g vals) W vs hs1 (lendBs_run hle hrep hl hv) (fun m b hl => by rw [look_nil] at hl; cases hl) (fun m m' b b' hl => by rw [look_nil] at hl; cases hl)).mono ?_
  rintro ev W' ⟨γ', V2, o, O', hout, hbel, hfr, hsees, _, _, _, _, d, rfl, rfl, hR⟩
  have hV2 : ∀ o u, V2.cell g o = some u → vals[o]? = some u := fun o u hu => by
    rcases hfr.cell g o u hu with h2 | h2 | h2
    · have h3 : (if g = g then vals[o]? else V.cell g o) = some u := h2
      rwa [if_pos rfl] at h3
    · simp [blks] at h2
    · omega
  have hle2 : V.Le V2 := hle.trans hfr.le
  have hle3 : V.Le (V2.less g) := ⟨fun b o v hc => less_cell.2 ⟨fun e => (by rw [e, hnone] at hc; cases hc), hle2.cell b o v hc⟩, fun r x hx => hle2.obj r x hx⟩
  have hbel0 : BelowX [] W.heap.size W W' := hbel
  refine ⟨γ, V2.less g, .ret (.d d), O, ?_, ⟨hbel0.os, hbel0.tape, hbel0.output, hbel0.size, fun q hq _ => hbel0.block q hq (by simp)⟩, ⟨hle3, fun b o v hc => ?_, fun r x hx => ?_⟩, ⟨fun b o v hc => hsees.cell b o v (less_cell.1 hc).2, hsees.obj, hs.lib.mono hle3⟩, fun m b hlm => ?_, fun m b hlm q hq => .inl (List.mem_filterMap.2 ⟨(m, b), look_mem hlm, hq⟩), hinj, fun _ _ _ _ => rfl, d, rfl, rfl, hR⟩
  · cases ev with
    | returned v =>
      refine keep_run (V := V2) (gs := xs.flatten) (fun o u hu => ?_) hout (hk d hR)
      have hvo := hV2 o u hu
      have hol : o < vals.length := (List.getElem?_eq_some_iff.1 hvo).1
      have hol2 : o < xs.flatten.length := by rw [← hvr.len]; exact hol
      exact ⟨_, List.getElem?_eq_getElem hol2, (hvr.get o u _ hvo (List.getElem?_eq_getElem hol2)).mono hle2⟩
    | panicked _ => exact hout.elim
    | outgrown => exact hout.elim
  · obtain ⟨hbg, hc⟩ := less_cell.1 hc
    rcases hfr.cell b o v hc with h2 | h2 | h2
    · have h3 : (if b = g then vals[o]? else V.cell b o) = some v := h2
      rw [if_neg hbg] at h3
      exact .inl h3
    · simp [blks] at h2
    · exact .inr (.inr h2)
  · rcases hfr.obj r x hx with h2 | h2 | h2
    · exact .inl h2
    · simp [blks] at h2
    · exact .inr (.inr h2)
  · have hb := hown m b hlm
    refine hb.keep hle3 (fun q hq => hbel0.block q (own_lt hb hq) (by simp)) (fun q hq o u hu => ?_) (fun r hr x hx => ?_)
    · obtain ⟨hqg, hc⟩ := less_cell.1 hu
      rcases hfr.cell q o u hc with h2 | h2 | h2
      · have h3 : (if q = g then vals[o]? else V.cell q o) = some u := h2
        rwa [if_neg hqg] at h3
      · simp [blks] at h2
      · have := own_lt hb hq; omega
    · rcases hfr.obj r x hx with h2 | h2 | h2
      · exact h2
      · simp [blks] at h2
      · have := own_lt hb hr; omega
end Go.Proofs.YtkkohadkpogdfaaGreat.Dx

