/- The walk of the law of penalty laps. -/
import Derived.Test.YtkkohadkpogdfaaGreatOl
namespace Go.Proofs.YtkkohadkpogdfaaGreat.Dx
open Go Go.RowKit
set_option linter.all false
set_option maxRecDepth 100000
set_option maxHeartbeats 16000000

theorem buildE_pos {c : Course} {d x : Int} (hx : 0 ≤ x) (h : buildE c d x ≠ 0) : buildE c d (x + 1) ≠ 0 := by
  rw [buildE] at h ⊢
  split at h
  · rename_i h1; rw [if_pos h1]; exact h1
  · rename_i h1
    rw [if_neg h1]
    split at h
    · rename_i h2
      rw [if_pos (by omega)]; omega
    · split
      · omega
      · split at h
        · rw [if_pos (by omega)]; omega
        · omega
theorem buildE_next {c : Course} {d x : Int} (hx : 0 ≤ x) (hx3 : x ≤ 3) (h : Built c d x) (hs : ∀ j (h : j < c.distances.length), ((Part.rxL c.distances[j].route []).length : Int) ≤ 40) (h' : buildE c d (x + 1) ≠ 0) : x = 0 := by
  obtain ⟨hd, hD⟩ := findD_at h.valid.zero
  have := hs _ hd
  rw [← hD, h.valid.exr] at this
  rw [buildE, if_neg (by rw [h.valid.zero]; simp)] at h'
  have h0 := h.zero
  rw [buildE, if_neg (by rw [h.valid.zero]; simp)] at h0
  split at h0
  · omega
  · split at h'
    · omega
    · split at h'
      · omega
      · omega

theorem Same_at {xs ys : List (List D)} (a b : List Int) (h1 : xs = a.map icells) (h2 : ys = b.map icells) (h : a = b) : Meets Tryz.prog 12 [.sl xs, .sl ys] fun r => r = bD true := by
  rw [h1, h2]
  exact (Same_meets a b).mono fun r hr => by rw [hr, decide_eq_true h]
theorem ins1_take (m : List Int) (e : Int) : (insL m e 1).take (lastN m e) = m.take (lastN m e) := by
  have := lastN_le e m
  rw [insL, List.take_left' (by simp; omega)]
theorem ins1_drop (m : List Int) (e : Int) : (insL m e 1).drop (lastN m e + 1) = m.drop (lastN m e) := by
  have := lastN_le e m
  rw [insL, ← List.append_assoc, List.drop_left' (by simp; omega)]
theorem ins1_at (m : List Int) (e : Int) : (insL m e 1)[lastN m e]? = some e := by
  have := lastN_le e m
  rw [insL, List.getElem?_append_right (by rw [List.length_take]; omega), List.length_take, Nat.min_eq_left (by omega), Nat.sub_self]
  rfl
theorem tk_map (xs : List Int) {n : Int} {K : Nat} (h : n.toNat = K) : List.drop (Int.toNat 0) (List.take n.toNat (xs.map icells)) = (xs.take K).map icells := by rw [h]; simp
theorem dr_map (xs : List Int) {n : Int} {K : Nat} (h : n.toNat = K) : List.drop n.toNat (List.take (((xs.map icells).length : Nat) : Int).toNat (xs.map icells)) = (xs.drop K).map icells := by rw [h, Int.toNat_natCast, List.take_length, List.map_drop]
abbrev and3v (x : Int) : Int := IntKind.wrap .i64 ((BitVec.ofInt IntKind.i64.bits x &&& BitVec.ofInt IntKind.i64.bits 3).toNat : Int)
theorem Extra_meets (c : Course) (hc : c.small) (d x : Int) : Meets Tryz.prog 6 [c.d, iD d, iD x] fun r => r = bD true := by
  have hx := and3 x
  refine enter tok {} Tryz.func6 rfl (by kernel_rfl) Tryz.ntmps6 (by simp) fun B0 W0 V0 lent g0 => ?_
  ((conv => whnf); repeat' (refine vcC_go tok {} rfl ?_; conv => whnf))
  refine Meets.k sane9_meets ?_
  ((conv => whnf); repeat' (refine vcC_go tok {} rfl ?_; conv => whnf))
  refine ⟨fun h0 => ?_, fun h0 => ?_⟩ <;> (try simp only [BB, List.length_map] at h0) <;> ((conv => whnf); repeat' (refine vcC_go tok {} rfl ?_; conv => whnf))
  · exact (Bool.noConfusion h0)
  refine (Short_meets c hc 40).mono ?_
  rintro r ⟨b, rfl, hb40⟩
  ((conv => whnf); repeat' (refine vcC_go tok {} rfl ?_; conv => whnf))
  refine ⟨fun h0 => ?_, fun h0 => ?_⟩ <;> (try simp only [BB, List.length_map] at h0) <;> ((conv => whnf); repeat' (refine vcC_go tok {} rfl ?_; conv => whnf))
  · exact ⟨rfl⟩
  have hb40 := hb40 (by assumption)
  repeat' ((first | (intro hlq; (try simp only [List.length_map, maxLen] at hlq)) | refine Ka ?_ | refine Kb ?_ | refine Kc (hd := rfl) (e := ?_) | refine Kc (hd := Cond.cells_eq _) (e := ?_) | refine Kd (e := ?_) | refine ⟨(rfl : look _ _ = look _ _), ?_⟩ | fail) <;> ((conv => whnf); repeat' (refine vcC_go tok {} rfl ?_; conv => whnf)))
  refine Meets.k (Route_meets c hc _ _) ?_
  ((conv => whnf); repeat' (refine vcC_go tok {} rfl ?_; conv => whnf))
  repeat' ((first | (intro hlq; (try simp only [List.length_map, maxLen] at hlq)) | refine Ka ?_ | refine Kb ?_ | refine Kc (hd := rfl) (e := ?_) | refine Kc (hd := Cond.cells_eq _) (e := ?_) | refine Kd (e := ?_) | refine ⟨(rfl : look _ _ = look _ _), ?_⟩ | fail) <;> ((conv => whnf); repeat' (refine vcC_go tok {} rfl ?_; conv => whnf)))
  refine Meets.k (Route_meets c hc _ _) ?_
  ((conv => whnf); repeat' (refine vcC_go tok {} rfl ?_; conv => whnf))
  refine ⟨fun hE => ?_, fun hE => ?_⟩ <;> (try simp only [BB, List.length_map] at hE) <;> ((conv => whnf); repeat' (refine vcC_go tok {} rfl ?_; conv => whnf))
  · repeat' ((first | (intro hlq; (try simp only [List.length_map, maxLen] at hlq)) | ((refine ⟨fun (hb : _ = true) => ?_, fun (hb : _ = false) => ?_⟩) <;> (try simp only [BB, List.length_map] at hb)) | refine Ka ?_ | refine Kb ?_ | refine Kc (hd := rfl) (e := ?_) | refine Kc (hd := Cond.cells_eq _) (e := ?_) | refine Kd (e := ?_) | refine ⟨(rfl : look _ _ = look _ _), ?_⟩ | fail) <;> ((conv => whnf); repeat' (refine vcC_go tok {} rfl ?_; conv => whnf)))
    · exact ⟨congrArg bD (decide_eq_true (buildE_pos hx.1 hE))⟩
    · exfalso; rw [routeM, if_neg hE] at hb; exact hb rfl
  have hB := built_of (Decidable.not_not.1 hE)
  have hr := hB.r
  have hle : (routeM c d (and3v x)).length ≤ 256 := by rw [hr]; exact hB.le
  have hge : 2 ≤ (routeM c d (and3v x)).length := by rw [hr, hB.len]; have := hB.valid.ge; omega
  have hnear := hB.near
  rw [← hr] at hnear
  repeat' ((first | (intro hlq; (try simp only [List.length_map, maxLen] at hlq)) | refine Ka ?_ | refine Kb ?_ | refine Kc (hd := rfl) (e := ?_) | refine Kc (hd := Cond.cells_eq _) (e := ?_) | refine Kd (e := ?_) | refine ⟨(rfl : look _ _ = look _ _), ?_⟩ | fail) <;> ((conv => whnf); repeat' (refine vcC_go tok {} rfl ?_; conv => whnf)))
  refine loop_upd tok {} [] (X := Nat) (fun i => [(11, iB i)]) (fun _ => []) [] (fun i => i + 1 ≤ (routeM c d (and3v x)).length) (fun i => 256 - i) 0 ?_
  ((conv => whnf); repeat' (refine vcC_go tok {} rfl ?_; conv => whnf))
  refine And.intro ?_ ⟨by omega, fun i hi => ?_⟩
  · repeat' (first | exact True.intro | exact rfl | refine And.intro ?_ ?_)
  have hi2 : i + 1 ≤ 256 := Nat.le_trans hi hle
  ((conv => whnf); repeat' (refine vcC_go tok {} rfl ?_; conv => whnf))
  repeat' ((first | (intro hlq; (try simp only [List.length_map, maxLen] at hlq)) | refine Ka ?_ | refine Kb ?_ | refine Kc (hd := rfl) (e := ?_) | refine Kc (hd := Cond.cells_eq _) (e := ?_) | refine Kd (e := ?_) | refine ⟨(rfl : look _ _ = look _ _), ?_⟩ | fail) <;> ((conv => whnf); repeat' (refine vcC_go tok {} rfl ?_; conv => whnf)))
  refine ⟨fun h1 => ?_, fun h1 => ?_⟩ <;> (try simp only [BB, List.length_map] at h1) <;> ((conv => whnf); repeat' (refine vcC_go tok {} rfl ?_; conv => whnf))
  · have h1' : i + 1 < (routeM c d (and3v x)).length := by dsimp only [and3v]; omega
    have hm := hnear i h1'
    have hbe := betweenE_of hB (show (0 : Int) ≤ (i : Int) by omega) (show (i : Int) ≤ (i : Int) + 1 by omega) (by rw [← hr]; dsimp only [and3v] at h1'; omega)
    repeat' ((first | (intro hlq; (try simp only [List.length_map, maxLen] at hlq)) | refine Ka ?_ | refine Kb ?_ | refine Kc (hd := rfl) (e := ?_) | refine Kc (hd := Cond.cells_eq _) (e := ?_) | refine Kd (e := ?_) | refine ⟨(rfl : look _ _ = look _ _), ?_⟩ | fail) <;> ((conv => whnf); repeat' (refine vcC_go tok {} rfl ?_; conv => whnf)))
    refine loop_upd tok {} [] (X := Nat × Bool) (fun s => [(62, iB s.1), (12, .d (bD s.2))]) (fun _ => []) [] (fun s => s.1 ≤ c.legs.length ∧ s.2 = (c.legs.take s.1).any (isLeg ((routeM c d (and3v x)).getD i 0) ((routeM c d (and3v x)).getD (i + 1) 0))) (fun s => c.legs.length - s.1) (0, false) ?_
    ((conv => whnf); repeat' (refine vcC_go tok {} rfl ?_; conv => whnf))
    refine And.intro ?_ ⟨⟨Nat.zero_le _, by simp⟩, fun s hs => ?_⟩
    · repeat' (first | exact True.intro | exact rfl | refine And.intro ?_ ?_)
    obtain ⟨k, met⟩ := s
    obtain ⟨hk, hmet⟩ := hs
    dsimp only at hk hmet
    ((conv => whnf); repeat' (refine vcC_go tok {} rfl ?_; conv => whnf))
    refine ⟨fun h2 => ?_, fun h2 => ?_⟩ <;> (try simp only [BB, List.length_map] at h2) <;> ((conv => whnf); repeat' (refine vcC_go tok {} rfl ?_; conv => whnf))
    · have h2' : k < c.legs.length := by omega
      have hs := any_take_succ (p := isLeg ((routeM c d (and3v x)).getD i 0) ((routeM c d (and3v x)).getD (i + 1) 0)) h2'
      rw [← hmet, getD_of (show i < (routeM c d (and3v x)).length by omega), getD_of h1'] at hs
      repeat' ((first | (intro hlq; (try simp only [List.length_map, maxLen] at hlq)) | refine Ka ?_ | refine Kb ?_ | refine Kc (hd := rfl) (e := ?_) | refine Kc (hd := Leg.cells_eq _) (e := ?_) | refine Kd (e := ?_) | refine ⟨(rfl : look _ _ = look _ _), ?_⟩ | fail) <;> ((conv => whnf); repeat' (refine vcC_go tok {} rfl ?_; conv => whnf)))
      refine draw_rule tok (cf := {}) (by kernel_rfl) [.p 0, .p 1, .p 2, .p 3, .p 4, .p 5, .p 6, .p 7, .p 8, .p 9, .p 10, .p 11, .p 12, .p 13, .p 14, .p 15, .p 16, .p 17, .p 18, .p 19, .p 20] (by kernel_rfl) ?_
      ((conv => whnf); repeat' (refine vcC_go tok {} rfl ?_; conv => whnf))
      repeat' ((first | (intro hlq; (try simp only [List.length_map, maxLen] at hlq)) | ((refine ⟨fun (hb : _ = true) => ?_, fun (hb : _ = false) => ?_⟩) <;> (try simp only [BB, List.length_map] at hb)) | refine Ka ?_ | refine Kb ?_ | refine Kc (hd := rfl) (e := ?_) | refine Kc (hd := Cond.cells_eq _) (e := ?_) | refine Kd (e := ?_) | refine ⟨(rfl : look _ _ = look _ _), ?_⟩ | fail) <;> ((conv => whnf); repeat' (refine vcC_go tok {} rfl ?_; conv => whnf)))
      · refine ⟨⟨(k + 1, true), ?_, ⟨by dsimp only; omega, ?_⟩, by dsimp only; omega⟩⟩
        · repeat' (first | exact True.intro | exact rfl | refine And.intro ?_ ?_)
        · dsimp only
          rw [getD_of (show i < (routeM c d (and3v x)).length by omega), getD_of h1', hs, (by assumption : met = true)]; rfl
      · refine ⟨⟨(k + 1, decide (c.legs[k].dst = (routeM c d (and3v x))[i + 1])), ?_, ⟨by dsimp only; omega, ?_⟩, by dsimp only; omega⟩⟩
        · repeat' (first | exact True.intro | exact rfl | refine And.intro ?_ ?_)
        · dsimp only
          rw [getD_of (show i < (routeM c d (and3v x)).length by omega), getD_of h1', hs, (by assumption : met = false), isLeg, decide_eq_true hb]; rfl
      · refine ⟨⟨(k + 1, false), ?_, ⟨by dsimp only; omega, ?_⟩, by dsimp only; omega⟩⟩
        · repeat' (first | exact True.intro | exact rfl | refine And.intro ?_ ?_)
        · dsimp only
          rw [getD_of (show i < (routeM c d (and3v x)).length by omega), getD_of h1', hs, (by assumption : met = false), isLeg, decide_eq_false hb]; rfl
    · have hmt : met = true := by
        rw [List.take_of_length_le (by omega), ← leg_any] at hmet
        rw [hmet]; exact hm
      repeat' ((first | (intro hlq; (try simp only [List.length_map, maxLen] at hlq)) | refine Meets.k (Between_meets c hc _ _ _ _) ?_ | ((refine ⟨fun (hb : _ = true) => ?_, fun (hb : _ = false) => ?_⟩) <;> (try simp only [BB, List.length_map] at hb)) | refine Ka ?_ | refine Kb ?_ | refine Kc (hd := rfl) (e := ?_) | refine Kc (hd := Cond.cells_eq _) (e := ?_) | refine Kd (e := ?_) | refine ⟨(rfl : look _ _ = look _ _), ?_⟩ | fail) <;> ((conv => whnf); repeat' (refine vcC_go tok {} rfl ?_; conv => whnf)))
      · rw [hmt] at hb; exact Bool.noConfusion hb
      · exact absurd hbe hb
      · have := (between_add hbe (Int.le_refl _) (by omega)).2.1.2.2.1
        exfalso; omega
      · refine ⟨⟨i + 1, ?_, by omega, by omega⟩⟩
        repeat' (first | exact True.intro | exact rfl | refine And.intro ?_ ?_)
  refine ⟨fun hF => ?_, fun hF => ?_⟩ <;> (try simp only [BB, List.length_map] at hF) <;> ((conv => whnf); repeat' (refine vcC_go tok {} rfl ?_; conv => whnf))
  · have hx0 := buildE_next hx.1 hx.2 hB hb40 hF
    repeat' ((first | (intro hlq; (try simp only [List.length_map, maxLen] at hlq)) | ((refine ⟨fun (hb : _ = true) => ?_, fun (hb : _ = false) => ?_⟩) <;> (try simp only [BB, List.length_map] at hb)) | refine Ka ?_ | refine Kb ?_ | refine Kc (hd := rfl) (e := ?_) | refine Kc (hd := Cond.cells_eq _) (e := ?_) | refine Kd (e := ?_) | refine ⟨(rfl : look _ _ = look _ _), ?_⟩ | fail) <;> ((conv => whnf); repeat' (refine vcC_go tok {} rfl ?_; conv => whnf)))
    · exact ⟨congrArg bD (decide_eq_true hx0)⟩
    · exfalso; rw [routeM, if_neg hF] at hb; exact hb rfl
  have hB' := built_of (Decidable.not_not.1 hF)
  have hr' := hB'.r
  obtain ⟨hlast, hins⟩ := hB.next hB'
  have hl' := insL_len (matsX c d (and3v x)) (findD c d).extra 1
  rw [← hins, ← hr', ← hr] at hl'
  rw [← hr, ← hr'] at hins
  rw [← hr] at hlast
  obtain ⟨hd, hD⟩ := findD_at hB.valid.zero
  obtain ⟨_, hd0, hd1⟩ := findE_zero hB.valid.zero
  repeat' ((first | (intro hlq; (try simp only [List.length_map, maxLen] at hlq)) | ((refine ⟨fun (hb : _ = true) => ?_, fun (hb : _ = false) => ?_⟩) <;> (try simp only [BB, List.length_map] at hb)) | refine Ka ?_ | refine Kb ?_ | refine Kc (hd := rfl) (e := ?_) | refine Kc (hd := Cond.cells_eq _) (e := ?_) | refine Kd (e := ?_) | refine ⟨(rfl : look _ _ = look _ _), ?_⟩ | fail) <;> ((conv => whnf); repeat' (refine vcC_go tok {} rfl ?_; conv => whnf)))
  all_goals (try (exfalso; dsimp only [and3v] at *; omega))
  refine ⟨_, ⟨hd0, getZ_at Distance.cells hd (Distance.cells_eq _), rfl⟩, ?_⟩
  ((conv => whnf); repeat' (refine vcC_go tok {} rfl ?_; conv => whnf))
  rw [hD] at hlast hins
  repeat' ((first | (intro hlq; (try simp only [List.length_map, maxLen] at hlq)) | refine Ka ?_ | refine Kb ?_ | refine Kc (hd := rfl) (e := ?_) | refine Kc (hd := Cond.cells_eq _) (e := ?_) | refine Kd (e := ?_) | refine ⟨(rfl : look _ _ = look _ _), ?_⟩ | fail) <;> ((conv => whnf); repeat' (refine vcC_go tok {} rfl ?_; conv => whnf)))
  refine loop_upd tok {} [] (X := Nat × Int) (fun s => [(144, iB s.1), (18, iB s.2)]) (fun _ => []) [] (fun s => s.1 ≤ (routeM c d (and3v x)).length ∧ s.2 = (lastN ((routeM c d (and3v x)).take s.1) c.distances[d.toNat].extra : Int) - 1) (fun s => (routeM c d (and3v x)).length - s.1) (0, -1) ?_
  ((conv => whnf); repeat' (refine vcC_go tok {} rfl ?_; conv => whnf))
  refine And.intro ?_ ⟨⟨Nat.zero_le _, by simp [lastN]⟩, fun s hs => ?_⟩
  · repeat' (first | exact True.intro | exact rfl | refine And.intro ?_ ?_)
  obtain ⟨k, n⟩ := s
  obtain ⟨hk, hn⟩ := hs
  dsimp only at hk hn
  ((conv => whnf); repeat' (refine vcC_go tok {} rfl ?_; conv => whnf))
  refine ⟨fun h3 => ?_, fun h3 => ?_⟩ <;> (try simp only [BB, List.length_map] at h3) <;> ((conv => whnf); repeat' (refine vcC_go tok {} rfl ?_; conv => whnf))
  · have h3' : k < (routeM c d (and3v x)).length := by dsimp only [and3v]; omega
    have hs : lastN ((routeM c d (and3v x)).take (k + 1)) c.distances[d.toNat].extra = if (routeM c d (and3v x))[k] = c.distances[d.toNat].extra then k + 1 else lastN ((routeM c d (and3v x)).take k) c.distances[d.toNat].extra := by
      rw [List.take_succ_eq_append_getElem h3', lastN_snoc, List.length_take, Nat.min_eq_left (by omega)]
    repeat' ((first | (intro hlq; (try simp only [List.length_map, maxLen] at hlq)) | ((refine ⟨fun (hb : _ = true) => ?_, fun (hb : _ = false) => ?_⟩) <;> (try simp only [BB, List.length_map] at hb)) | refine Ka ?_ | refine Kb ?_ | refine Kc (hd := rfl) (e := ?_) | refine Kc (hd := Cond.cells_eq _) (e := ?_) | refine Kd (e := ?_) | refine ⟨(rfl : look _ _ = look _ _), ?_⟩ | fail) <;> ((conv => whnf); repeat' (refine vcC_go tok {} rfl ?_; conv => whnf)))
    · rw [if_pos hb] at hs
      refine ⟨⟨(k + 1, (k : Int)), ?_, ⟨by dsimp only; omega, by dsimp only; rw [hs]; omega⟩, by dsimp only; omega⟩⟩
      repeat' (first | exact True.intro | exact rfl | refine And.intro ?_ ?_)
    · rw [if_neg hb] at hs
      refine ⟨⟨(k + 1, n), ?_, ⟨by dsimp only; omega, by dsimp only; rw [hs]; exact hn⟩, by dsimp only; omega⟩⟩
      repeat' (first | exact True.intro | exact rfl | refine And.intro ?_ ?_)
  have hn2 : n = (lastN (routeM c d (and3v x)) c.distances[d.toNat].extra : Int) - 1 := by rw [hn, List.take_of_length_le (by dsimp only [and3v]; omega)]
  have hll := lastN_le c.distances[d.toNat].extra (routeM c d (and3v x))
  have ht := ins1_take (routeM c d (and3v x)) c.distances[d.toNat].extra
  have hdr := ins1_drop (routeM c d (and3v x)) c.distances[d.toNat].extra
  have hat := ins1_at (routeM c d (and3v x)) c.distances[d.toNat].extra
  rw [← hins] at ht hdr hat
  generalize lastN (routeM c d (and3v x)) c.distances[d.toNat].extra = K at *
  have e1 : (n + 1).toNat = K := by omega
  have e2 : (n + 2).toNat = K + 1 := by omega
  refine draw_rule tok (cf := {}) (by kernel_rfl) [.p 0, .p 1, .p 2, .p 3, .p 4, .p 5, .p 6, .p 7, .p 8, .p 9, .p 10, .s 11 [6,10,2,3,5,7,9,1,4,8,0], .p 12, .p 13, .p 14, .p 15, .p 16, .p 17, .p 18, .p 19, .p 20, .p 21, .p 22, .p 23, .p 24, .p 25, .p 26, .p 27, .p 28, .p 29, .p 30, .s 31 [26,30,22,23,25,27,29,21,13,24,28,20,12,18,19,17,14,16,15], .p 32, .p 33] (by kernel_rfl) ?_
  ((conv => whnf); repeat' (refine vcC_go tok {} rfl ?_; conv => whnf))
  repeat' ((first | (intro hlq; (try simp only [List.length_map, maxLen] at hlq)) | ((refine ⟨fun (hb : _ = true) => ?_, fun (hb : _ = false) => ?_⟩) <;> (try simp only [BB, List.length_map] at hb)) | refine Ka ?_ | refine Kb ?_ | refine Kc (hd := rfl) (e := ?_) | refine Kc (hd := Cond.cells_eq _) (e := ?_) | refine Kd (e := ?_) | refine ⟨(rfl : look _ _ = look _ _), ?_⟩ | fail) <;> ((conv => whnf); repeat' (refine vcC_go tok {} rfl ?_; conv => whnf)))
  · refine ⟨fun _ => ⟨by omega, by dsimp only; omega, by rw [List.length_map]; dsimp only; dsimp only [and3v] at *; omega, ic1⟩, ?_⟩
    ((conv => whnf); repeat' (refine vcC_go tok {} rfl ?_; conv => whnf))
    repeat' (first | (refine ⟨(rfl : look _ _ = look _ _), ?_⟩; ((conv => whnf); repeat' (refine vcC_go tok {} rfl ?_; conv => whnf))) | fail)
    repeat' ((first | (intro hlq; (try simp only [List.length_map, maxLen] at hlq)) | ((refine ⟨fun (hb : _ = true) => ?_, fun (hb : _ = false) => ?_⟩) <;> (try simp only [BB, List.length_map] at hb)) | refine Ka ?_ | refine Kb ?_ | refine Kc (hd := rfl) (e := ?_) | refine Kc (hd := Cond.cells_eq _) (e := ?_) | refine Kd (e := ?_) | refine ⟨(rfl : look _ _ = look _ _), ?_⟩ | fail) <;> ((conv => whnf); repeat' (refine vcC_go tok {} rfl ?_; conv => whnf)))
    refine ⟨fun _ => ⟨by omega, by dsimp only; omega, by rw [List.length_map]; dsimp only; dsimp only [and3v] at *; omega, ic1⟩, ?_⟩
    ((conv => whnf); repeat' (refine vcC_go tok {} rfl ?_; conv => whnf))
    repeat' (first | (refine ⟨(rfl : look _ _ = look _ _), ?_⟩; ((conv => whnf); repeat' (refine vcC_go tok {} rfl ?_; conv => whnf))) | fail)
    repeat' ((first | (intro hlq; (try simp only [List.length_map, maxLen] at hlq)) | ((refine ⟨fun (hb : _ = true) => ?_, fun (hb : _ = false) => ?_⟩) <;> (try simp only [BB, List.length_map] at hb)) | refine Ka ?_ | refine Kb ?_ | refine Kc (hd := rfl) (e := ?_) | refine Kc (hd := Cond.cells_eq _) (e := ?_) | refine Kd (e := ?_) | refine ⟨(rfl : look _ _ = look _ _), ?_⟩ | fail) <;> ((conv => whnf); repeat' (refine vcC_go tok {} rfl ?_; conv => whnf)))
    refine Meets.k (Same_at ((routeM c d (and3v x + 1)).take K) ((routeM c d (and3v x)).take K) (tk_map _ e1) (tk_map _ e1) ht) ?_
    ((conv => whnf); repeat' (refine vcC_go tok {} rfl ?_; conv => whnf))
    repeat' ((first | (intro hlq; (try simp only [List.length_map, maxLen] at hlq)) | ((refine ⟨fun (hb : _ = true) => ?_, fun (hb : _ = false) => ?_⟩) <;> (try simp only [BB, List.length_map] at hb)) | refine Ka ?_ | refine Kb ?_ | refine Kc (hd := rfl) (e := ?_) | refine Kc (hd := Cond.cells_eq _) (e := ?_) | refine Kd (e := ?_) | refine ⟨(rfl : look _ _ = look _ _), ?_⟩ | fail) <;> ((conv => whnf); repeat' (refine vcC_go tok {} rfl ?_; conv => whnf)))
    case refine_2 => exact Bool.noConfusion hb
    have hBe : (routeM c d (and3v x + 1))[(n + 1).toNat]? = some c.distances[d.toNat].extra := by rw [e1]; exact hat
    have hlB : (n + 1).toNat < (routeM c d (and3v x + 1)).length := by
      rcases Nat.lt_or_ge (n + 1).toNat (routeM c d (and3v x + 1)).length with h | h
      · exact h
      · rw [List.getElem?_eq_none h] at hBe; cases hBe
    have hBe' : (routeM c d (and3v x + 1))[(n + 1).toNat] = c.distances[d.toNat].extra := by rw [List.getElem?_eq_getElem hlB] at hBe; exact Option.some.inj hBe
    refine ⟨_, ⟨by dsimp only; omega, getZ_at icells hlB (congrArg icells hBe'), rfl⟩, ?_⟩
    ((conv => whnf); repeat' (refine vcC_go tok {} rfl ?_; conv => whnf))
    repeat' (first | (refine ⟨(rfl : look _ _ = look _ _), ?_⟩; ((conv => whnf); repeat' (refine vcC_go tok {} rfl ?_; conv => whnf))) | fail)
    repeat' ((first | (intro hlq; (try simp only [List.length_map, maxLen] at hlq)) | ((refine ⟨fun (hb : _ = true) => ?_, fun (hb : _ = false) => ?_⟩) <;> (try simp only [BB, List.length_map] at hb)) | refine Ka ?_ | refine Kb ?_ | refine Kc (hd := rfl) (e := ?_) | refine Kc (hd := Cond.cells_eq _) (e := ?_) | refine Kd (e := ?_) | refine ⟨(rfl : look _ _ = look _ _), ?_⟩ | fail) <;> ((conv => whnf); repeat' (refine vcC_go tok {} rfl ?_; conv => whnf)))
    case refine_2 => exact absurd trivial hb
    refine ⟨fun _ => ⟨by dsimp only; omega, by rw [List.length_map]; dsimp only; dsimp only [and3v] at *; omega, Int.le_refl _, ic1⟩, ?_⟩
    ((conv => whnf); repeat' (refine vcC_go tok {} rfl ?_; conv => whnf))
    repeat' (first | (refine ⟨(rfl : look _ _ = look _ _), ?_⟩; ((conv => whnf); repeat' (refine vcC_go tok {} rfl ?_; conv => whnf))) | fail)
    repeat' ((first | (intro hlq; (try simp only [List.length_map, maxLen] at hlq)) | ((refine ⟨fun (hb : _ = true) => ?_, fun (hb : _ = false) => ?_⟩) <;> (try simp only [BB, List.length_map] at hb)) | refine Ka ?_ | refine Kb ?_ | refine Kc (hd := rfl) (e := ?_) | refine Kc (hd := Cond.cells_eq _) (e := ?_) | refine Kd (e := ?_) | refine ⟨(rfl : look _ _ = look _ _), ?_⟩ | fail) <;> ((conv => whnf); repeat' (refine vcC_go tok {} rfl ?_; conv => whnf)))
    refine ⟨fun _ => ⟨by dsimp only; omega, by rw [List.length_map]; dsimp only; dsimp only [and3v] at *; omega, Int.le_refl _, ic1⟩, ?_⟩
    ((conv => whnf); repeat' (refine vcC_go tok {} rfl ?_; conv => whnf))
    repeat' (first | (refine ⟨(rfl : look _ _ = look _ _), ?_⟩; ((conv => whnf); repeat' (refine vcC_go tok {} rfl ?_; conv => whnf))) | fail)
    repeat' ((first | (intro hlq; (try simp only [List.length_map, maxLen] at hlq)) | ((refine ⟨fun (hb : _ = true) => ?_, fun (hb : _ = false) => ?_⟩) <;> (try simp only [BB, List.length_map] at hb)) | refine Ka ?_ | refine Kb ?_ | refine Kc (hd := rfl) (e := ?_) | refine Kc (hd := Cond.cells_eq _) (e := ?_) | refine Kd (e := ?_) | refine ⟨(rfl : look _ _ = look _ _), ?_⟩ | fail) <;> ((conv => whnf); repeat' (refine vcC_go tok {} rfl ?_; conv => whnf)))
    refine Meets.k (Same_at ((routeM c d (and3v x + 1)).drop (K + 1)) ((routeM c d (and3v x)).drop K) (dr_map _ e2) (dr_map _ e1) hdr) ?_
    ((conv => whnf); repeat' (refine vcC_go tok {} rfl ?_; conv => whnf))
    exact ⟨rfl⟩
  exfalso; omega
end Go.Proofs.YtkkohadkpogdfaaGreat.Dx

