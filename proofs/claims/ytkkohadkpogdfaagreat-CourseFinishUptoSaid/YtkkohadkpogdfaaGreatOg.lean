/- What cut-offs leave possible: the plain law. -/
import Derived.Test.YtkkohadkpogdfaaGreatOe
namespace Go.Proofs.YtkkohadkpogdfaaGreat.Dx
open Go Go.RowKit
set_option linter.all false
set_option maxRecDepth 100000
set_option maxHeartbeats 16000000

def capF (m : List Int) (cuts : List Cutoff) (i : Nat) (v : Int) : Int := cuts.foldl (fun v x => if x.mat = m.getD i 0 ∧ x.lap = (lapN m i : Int) then min v x.limit else v) v
def preF (c : Course) (m : List Int) (i : Nat) (v : Int) : Int := if i = 0 then v else min most (v + (legOf c (m.getD (i - 1) 0) (m.getD i 0)).hi)
def finH (c : Course) (m : List Int) (cuts : List Cutoff) : Nat → Int
  | 0 => 0
  | i + 1 => capF m cuts i (preF c m i (finH c m cuts i))
def finBad (c : Course) (m : List Int) (cuts : List Cutoff) (i : Nat) : Bool := decide ((spanF c m 0 i).1 > finH c m cuts (i + 1))
def finR (c : Course) (m : List Int) (cuts : List Cutoff) : (Int × Int) × Bool :=
  if (List.range m.length).any (finBad c m cuts) then ((0, 0), false) else (((spanF c m 0 (m.length - 1)).1, finH c m cuts m.length), true)
def finishR (c : Course) (d : Int) : ((Int × Int) × Bool) × Int :=
  if buildE c d 0 ≠ 0 then (((0, 0), false), buildE c d 0) else (finR c (matsX c d 0) (findD c d).cutoffs, 0)

theorem capF_snoc (m : List Int) (t : List Cutoff) (x : Cutoff) (i : Nat) (v : Int) : capF m (t ++ [x]) i v = if x.mat = m.getD i 0 ∧ x.lap = (lapN m i : Int) then min (capF m t i v) x.limit else capF m t i v := by
  simp [capF]
theorem capF_take {m : List Int} {cuts : List Cutoff} {k : Nat} (h : k < cuts.length) (i : Nat) (v : Int) : capF m (cuts.take (k + 1)) i v = if cuts[k].mat = m.getD i 0 ∧ cuts[k].lap = (lapN m i : Int) then min (capF m (cuts.take k) i v) cuts[k].limit else capF m (cuts.take k) i v := by
  rw [List.take_succ_eq_append_getElem h, capF_snoc]
theorem capF_bound {m : List Int} {i : Nat} : ∀ {cuts : List Cutoff} {v : Int}, (∀ x ∈ cuts, 0 ≤ x.limit) → 0 ≤ v → 0 ≤ capF m cuts i v ∧ capF m cuts i v ≤ v
  | [], v, _, h => ⟨h, Int.le_refl _⟩
  | x :: t, v, hx, h => by
    have e : capF m (x :: t) i v = capF m t i (if x.mat = m.getD i 0 ∧ x.lap = (lapN m i : Int) then min v x.limit else v) := rfl
    have h0 := hx x (List.mem_cons_self ..)
    have := capF_bound (m := m) (i := i) (cuts := t) (v := if x.mat = m.getD i 0 ∧ x.lap = (lapN m i : Int) then min v x.limit else v) (fun y hy => hx y (List.mem_cons_of_mem _ hy)) (by split <;> omega)
    rw [e]
    split at this <;> rename_i h1
    · rw [if_pos h1]; omega
    · rw [if_neg h1]; omega
theorem finH_bound {c : Course} (hn : NumsOk c) {m : List Int} {cuts : List Cutoff} (hx : ∀ x ∈ cuts, 0 ≤ x.limit) : ∀ i, 0 ≤ finH c m cuts i ∧ finH c m cuts i ≤ most
  | 0 => by simp [finH]
  | i + 1 => by
    have h := finH_bound hn (m := m) hx i
    have hp : 0 ≤ preF c m i (finH c m cuts i) ∧ preF c m i (finH c m cuts i) ≤ most := by
      rw [preF]
      split
      · exact h
      · have hl := legOf_good hn (m.getD (i - 1) 0) (m.getD i 0)
        simp only [most] at *
        omega
    have := capF_bound (m := m) (i := i) hx hp.1
    rw [finH]
    omega
theorem Valid.cuts {c : Course} {d : Int} (h : Valid c d) : ∀ x ∈ (findD c d).cutoffs, 0 ≤ x.limit ∧ x.limit ≤ 1099511627776 := by
  have hg := h.nums.distances _ h.mem
  simp only [Distance.good, Bool.and_eq_true, List.all_eq_true] at hg
  intro x hx
  have := hg.2.2.2 x hx
  simp only [Cutoff.good, inR, Bool.and_eq_true, decide_eq_true_eq] at this
  omega

/-! the cut-offs as a map -/
def minO (o : Option Int) (n : Int) : Int := match o with | none => n | some y => min y n
def minOf (cuts : List Cutoff) (a b : Int) : Option Int := cuts.foldl (fun o x => if x.mat = a ∧ x.lap = b then some (minO o x.limit) else o) none
theorem minOf_snoc (t : List Cutoff) (x : Cutoff) (a b : Int) : minOf (t ++ [x]) a b = if x.mat = a ∧ x.lap = b then some (minO (minOf t a b) x.limit) else minOf t a b := by simp [minOf]
theorem capF_min' (m : List Int) (i : Nat) (v : Int) : ∀ n, ∀ cuts : List Cutoff, cuts.length = n → capF m cuts i v = match minOf cuts (m.getD i 0) (lapN m i) with | none => v | some y => min v y := by
  intro n
  induction n with
  | zero =>
    intro ks h
    obtain rfl := List.eq_nil_of_length_eq_zero h
    rfl
  | succ n ih =>
    intro ks h
    obtain ⟨l, q, rfl⟩ : ∃ l q, ks = l ++ [q] := by
      have hne : ks ≠ [] := by rintro rfl; simp at h
      exact ⟨_, _, (List.dropLast_concat_getLast hne).symm⟩
    have hi := ih l (by simpa using h)
    rw [capF_snoc, minOf_snoc, hi]
    split
    · cases minOf l (m.getD i 0) (lapN m i) with
      | none => rfl
      | some y => simp only [minO]; omega
    · rfl
theorem capF_min (m : List Int) (i : Nat) (v : Int) (cuts : List Cutoff) : capF m cuts i v = match minOf cuts (m.getD i 0) (lapN m i) with | none => v | some y => min v y := capF_min' m i v _ cuts rfl

def LimM (lm : List (D × D)) (t : List Cutoff) : Prop := (∀ a b : Int, mget lm (.agg [iD a, iD b]) = (minOf t a b).map iD) ∧ ∀ p ∈ lm, KInts 2 p.1
theorem LimM.nil : LimM [] [] := ⟨fun _ _ => rfl, fun p h => by cases h⟩
theorem LimM.put {lm : List (D × D)} {t : List Cutoff} (h : LimM lm t) (x : Cutoff) (hm : minO (minOf t x.mat x.lap) x.limit = x.limit) : LimM (mput lm (.agg [iD x.mat, iD x.lap]) (iD x.limit)) (t ++ [x]) := by
  refine ⟨fun a b => ?_, fun p hp => ?_⟩
  · rw [mget_mput, minOf_snoc, h.1]
    by_cases e : x.mat = a ∧ x.lap = b
    · rw [if_pos e, if_pos (by rw [e.1, e.2]), ← e.1, ← e.2, hm]; rfl
    · rw [if_neg e, if_neg (fun h => e (by simpa using h))]
  · rcases (mput_keys.2 p.1).1 (List.mem_map.2 ⟨p, hp, rfl⟩) with h1 | h1
    · obtain ⟨q, hq, e⟩ := List.mem_map.1 h1
      rw [← e]; exact h.2 q hq
    · rw [h1]; exact ⟨[x.mat, x.lap], rfl, rfl⟩
theorem LimM.keep {lm : List (D × D)} {t : List Cutoff} (h : LimM lm t) (x : Cutoff) {y : Int} (hy : minOf t x.mat x.lap = some y) (hm : ¬ x.limit < y) : LimM lm (t ++ [x]) := by
  refine ⟨fun a b => ?_, h.2⟩
  rw [minOf_snoc, h.1]
  by_cases e : x.mat = a ∧ x.lap = b
  · rw [if_pos e, ← e.1, ← e.2, hy]
    simp only [minO, Option.map_some, Option.some.injEq]
    rw [show min y x.limit = y by omega]
  · rw [if_neg e]

theorem finR_bad {c : Course} {m : List Int} {cuts : List Cutoff} {i : Nat} (hi : i < m.length) (h : (spanF c m 0 i).1 > finH c m cuts (i + 1)) : finR c m cuts = ((0, 0), false) := by
  rw [finR, if_pos (List.any_eq_true.2 ⟨i, List.mem_range.2 hi, decide_eq_true h⟩)]
theorem finR_good {c : Course} {m : List Int} {cuts : List Cutoff} (h : ∀ i < m.length, ¬ (spanF c m 0 i).1 > finH c m cuts (i + 1)) : finR c m cuts = (((spanF c m 0 (m.length - 1)).1, finH c m cuts m.length), true) := by
  rw [finR, if_neg]
  intro h2
  obtain ⟨i, hi, hb⟩ := List.any_eq_true.1 h2
  exact h i (List.mem_range.1 hi) (of_decide_eq_true hb)
end Go.Proofs.YtkkohadkpogdfaaGreat.Dx

/- Finish in the reference. -/
namespace Go.Proofs.YtkkohadkpogdfaaGreat.Dx
open Go Go.RowKit
set_option linter.all false
set_option maxRecDepth 100000
set_option maxHeartbeats 16000000

theorem rFinish_meets (c : Course) (hc : c.small) (d : Int) : Meets Tryz.prog 18 [c.d, iD d] fun r => r = .tup [spD (finishR c d).1.1, bD (finishR c d).1.2, iD (finishR c d).2] := by
  refine enter tok {} Tryz.func18 rfl (by kernel_rfl) Tryz.ntmps18 (by simp) fun B0 W0 V0 lent g0 => ?_
  ((conv => whnf); repeat' (refine vcC_go tok {} rfl ?_; conv => whnf))
  refine Meets.k (rRoute_meets c hc d 0) ?_
  ((conv => whnf); repeat' (refine vcC_go tok {} rfl ?_; conv => whnf))
  refine ⟨fun h1 => ?_, fun h1 => ?_⟩ <;> (try simp only [BB, List.length_map] at h1) <;> ((conv => whnf); repeat' (refine vcC_go tok {} rfl ?_; conv => whnf))
  · exact ⟨by rw [finishR, if_pos h1]⟩
  have hB := built_of (Decidable.not_not.1 h1)
  have hle := hB.le
  have hlen := hB.len
  have hge := hB.valid.ge
  have hR : finishR c d = (finR c (matsX c d 0) (findD c d).cutoffs, 0) := by rw [finishR, if_neg h1]
  have hcl : (findD c d).cutoffs.length ≤ 1048576 := hc.cutoffs _ hB.valid.mem
  have hcb := hB.valid.cuts
  have hnum := hB.valid.nums
  obtain ⟨hlt, hD⟩ := findD_at hB.valid.zero
  have h0d := (findE_zero hB.valid.zero).2.1
  rw [hR, hB.r]
  have hge2 : 2 ≤ (matsX c d 0).length := by omega
  generalize matsX c d 0 = m at *
  refine ⟨_, ⟨h0d, getZ_at _ hlt (Distance.cells_eq _), rfl⟩, ?_⟩
  rw [← hD]
  generalize (findD c d).cutoffs = cuts at *
  ((conv => whnf); repeat' (refine vcC_go tok {} rfl ?_; conv => whnf))
  refine loop_upd tok {} [] (X := Nat) (fun i => [(11, iB i), (10, iB (finH c m cuts i))]) (fun _ => []) [] (fun i => i ≤ m.length ∧ ∀ j < i, ¬ (spanF c m 0 j).1 > finH c m cuts (j + 1)) (fun i => m.length - i) 0 ?_
  ((conv => whnf); repeat' (refine vcC_go tok {} rfl ?_; conv => whnf))
  refine And.intro ?_ ⟨⟨Nat.zero_le _, fun j hj => by omega⟩, fun i hΦ => ?_⟩
  · repeat' (first | exact True.intro | exact rfl | refine And.intro ?_ ?_)
  obtain ⟨hi, hp⟩ := hΦ
  have hfb := finH_bound hnum (m := m) (fun x hx => (hcb x hx).1) i
  ((conv => whnf); repeat' (refine vcC_go tok {} rfl ?_; conv => whnf))
  repeat' ((first | (intro hlq; (try simp only [List.length_map, maxLen] at hlq)) | refine Ka ?_ | refine Kb ?_ | refine Kc (hd := rfl) (e := ?_) | refine Kc (hd := Cond.cells_eq _) (e := ?_) | refine Kd (e := ?_) | refine ⟨(rfl : look _ _ = look _ _), ?_⟩ | fail) <;> ((conv => whnf); repeat' (refine vcC_go tok {} rfl ?_; conv => whnf)))
  refine ⟨fun h2 => ?_, fun h2 => ?_⟩ <;> (try simp only [BB, List.length_map] at h2) <;> ((conv => whnf); repeat' (refine vcC_go tok {} rfl ?_; conv => whnf))
  · have h1' : i < m.length := by omega
    have hgd := getD_of h1'
    have hcf := fun v : Int => (rfl : capF m ([] : List Cutoff) i v = v)
    have hfin : finH c m cuts (i + 1) = capF m cuts i (preF c m i (finH c m cuts i)) := rfl
    have hsb := spanF_bound hnum m 0 i
    have hbt := rbetween_meets c hnum m (by omega) 0 i (by omega) h1'
    rw [Nat.sub_zero] at hbt
    refine ⟨fun h3 => ?_, fun h3 => ?_⟩ <;> (try simp only [BB, List.length_map] at h3) <;> ((conv => whnf); repeat' (refine vcC_go tok {} rfl ?_; conv => whnf))
    focus
      have hgd1 := getD_pred (r := m) (i := i) (by omega) h1'
      have hpre : preF c m i (finH c m cuts i) = min most (finH c m cuts i + (legOf c (m[((i : Int) - 1).toNat]'(by omega)) m[i]).hi) := by rw [preF, if_neg (by omega), hgd, hgd1]
      have hl := legOf_good hnum (m[((i : Int) - 1).toNat]'(by omega)) m[i]
      simp only [most] at hfb
      refine draw_rule tok (cf := {}) (by kernel_rfl) [.p 0, .p 1, .p 2, .p 3, .p 4, .p 5, .p 6, .p 7, .p 8, .p 9, .p 10, .s 11 [1,6,10,5,9,2,4,7,8,3], .p 12, .p 13, .p 14, .p 15] (by kernel_rfl) ?_
      ((conv => whnf); repeat' (refine vcC_go tok {} rfl ?_; conv => whnf))
      repeat' ((first | (intro hlq; (try simp only [List.length_map, maxLen] at hlq)) | refine Ka ?_ | refine Kb ?_ | refine Kc (hd := rfl) (e := ?_) | refine Kc (hd := icells_eq _) (e := ?_) | refine Kd (e := ?_) | refine ⟨(rfl : look _ _ = look _ _), ?_⟩ | fail) <;> ((conv => whnf); repeat' (refine vcC_go tok {} rfl ?_; conv => whnf)))
      refine ⟨_, ⟨by omega, getZ_at icells (by omega) rfl, rfl⟩, ?_⟩
      ((conv => whnf); repeat' (refine vcC_go tok {} rfl ?_; conv => whnf))
      repeat' ((first | (intro hlq; (try simp only [List.length_map, maxLen] at hlq)) | refine Ka ?_ | refine Kb ?_ | refine Kc (hd := rfl) (e := ?_) | refine Kc (hd := icells_eq _) (e := ?_) | refine Kd (e := ?_) | refine ⟨(rfl : look _ _ = look _ _), ?_⟩ | fail) <;> ((conv => whnf); repeat' (refine vcC_go tok {} rfl ?_; conv => whnf)))
      refine Meets.k (rleg_meets c (m[((i : Int) - 1).toNat]'(by omega)) m[i]) ?_
      ((conv => whnf); repeat' (refine vcC_go tok {} rfl ?_; conv => whnf))
      repeat' (first | (refine ⟨(rfl : look _ _ = look _ _), ?_⟩; ((conv => whnf); repeat' (refine vcC_go tok {} rfl ?_; conv => whnf))) | fail)
      repeat' ((first | (intro hlq; (try simp only [List.length_map, maxLen] at hlq)) | refine Ka ?_ | refine Kb ?_ | refine Kc (hd := rfl) (e := ?_) | refine Kc (hd := Cond.cells_eq _) (e := ?_) | refine Kd (e := ?_) | refine ⟨(rfl : look _ _ = look _ _), ?_⟩ | fail) <;> ((conv => whnf); repeat' (refine vcC_go tok {} rfl ?_; conv => whnf)))
      refine loop_upd tok {} [] (X := Nat × Int) (fun s => [(12, iB s.1), (10, iB s.2)]) (fun _ => []) [] (fun s => s.1 ≤ cuts.length ∧ s.2 = capF m (cuts.take s.1) i (preF c m i (finH c m cuts i))) (fun s => cuts.length - s.1) (0, min most (finH c m cuts i + (legOf c (m[((i : Int) - 1).toNat]'(by omega)) m[i]).hi)) ?_
      ((conv => whnf); repeat' (refine vcC_go tok {} rfl ?_; conv => whnf))
      refine And.intro ?_ ⟨⟨Nat.zero_le _, hpre.symm⟩, fun s hΨ => ?_⟩
      · repeat' (first | exact True.intro | exact rfl | refine And.intro ?_ ?_)
    rotate_left
    focus
      have hi0 : i = 0 := by omega
      have hpre : preF c m i (finH c m cuts i) = finH c m cuts i := by rw [preF, if_pos hi0]
      refine loop_upd tok {} [] (X := Nat × Int) (fun s => [(12, iB s.1), (10, iB s.2)]) (fun _ => []) [] (fun s => s.1 ≤ cuts.length ∧ s.2 = capF m (cuts.take s.1) i (preF c m i (finH c m cuts i))) (fun s => cuts.length - s.1) (0, finH c m cuts i) ?_
      ((conv => whnf); repeat' (refine vcC_go tok {} rfl ?_; conv => whnf))
      refine And.intro ?_ ⟨⟨Nat.zero_le _, hpre.symm⟩, fun s hΨ => ?_⟩
      · repeat' (first | exact True.intro | exact rfl | refine And.intro ?_ ?_)
    all_goals
      obtain ⟨k, v⟩ := s
      obtain ⟨hk, hv⟩ := hΨ
      dsimp only at hk hv
      ((conv => whnf); repeat' (refine vcC_go tok {} rfl ?_; conv => whnf))
      repeat' ((first | (intro hlq; (try simp only [List.length_map, maxLen] at hlq)) | refine Ka ?_ | refine Kb ?_ | refine Kc (hd := rfl) (e := ?_) | refine Kc (hd := Cond.cells_eq _) (e := ?_) | refine Kd (e := ?_) | refine ⟨(rfl : look _ _ = look _ _), ?_⟩ | fail) <;> ((conv => whnf); repeat' (refine vcC_go tok {} rfl ?_; conv => whnf)))
      refine ⟨fun h4 => ?_, fun h4 => ?_⟩ <;> (try simp only [BB, List.length_map] at h4) <;> ((conv => whnf); repeat' (refine vcC_go tok {} rfl ?_; conv => whnf))
    all_goals
      first
      | (have h4' : k < cuts.length := by omega
         have hcs := capF_take (m := m) h4' i (preF c m i (finH c m cuts i)))
      | (have hvf : v = finH c m cuts (i + 1) := by rw [hv, hfin, List.take_of_length_le (by omega)])
    all_goals
      first
      | (refine Meets.k hbt ?_
         ((conv => whnf); repeat' (refine vcC_go tok {} rfl ?_; conv => whnf))
         repeat' ((first | (intro hlq; (try simp only [List.length_map, maxLen] at hlq)) | ((refine ⟨fun (hb : _ = true) => ?_, fun (hb : _ = false) => ?_⟩) <;> (try simp only [BB, List.length_map] at hb)) | refine Ka ?_ | refine Kb ?_ | refine Kc (hd := rfl) (e := ?_) | refine Kc (hd := Cond.cells_eq _) (e := ?_) | refine Kd (e := ?_) | refine ⟨(rfl : look _ _ = look _ _), ?_⟩ | fail) <;> ((conv => whnf); repeat' (refine vcC_go tok {} rfl ?_; conv => whnf)))
         focus
           refine ⟨?_⟩
           rw [finR_bad h1' (by omega)]
         refine ⟨⟨i + 1, ?_, ⟨by omega, fun j hj => ?_⟩, by omega⟩⟩
         · rw [← hvf]
           repeat' (first | exact True.intro | exact rfl | refine And.intro ?_ ?_)
         rcases Nat.lt_or_ge j i with h5 | h5
         · exact hp j h5
         · rw [show j = i by omega]; omega)
      | skip
    all_goals
      refine draw_rule tok (cf := {}) (by kernel_rfl) [.p 0, .p 1, .p 2, .p 3, .p 4, .p 5, .p 6, .p 7, .p 8, .p 9, .p 10, .p 11, .p 12, .p 13, .p 14, .p 15, .p 16, .p 17, .s 18 [16,17,10,9,4,8,3,7,2,5,6,0,1], .p 19, .p 20] (by kernel_rfl) ?_
      ((conv => whnf); repeat' (refine vcC_go tok {} rfl ?_; conv => whnf))
      repeat' ((first | (intro hlq; (try simp only [List.length_map, maxLen] at hlq)) | refine Meets.k (Lap_meets m i h1' (by omega)) ?_ | ((refine ⟨fun (hb : _ = true) => ?_, fun (hb : _ = false) => ?_⟩) <;> (try simp only [BB, List.length_map] at hb)) | refine Ka ?_ | refine Kb ?_ | refine Kc (hd := rfl) (e := ?_) | refine Kc (hd := icells_eq _) (e := ?_) | refine Kc (hd := Cutoff.cells_eq _) (e := ?_) | refine Kd (e := ?_) | refine ⟨(rfl : look _ _ = look _ _), ?_⟩ | fail) <;> ((conv => whnf); repeat' (refine vcC_go tok {} rfl ?_; conv => whnf)))
    all_goals
      rw [hgd] at hcs
      first
      | (rw [if_pos ⟨by assumption, by assumption⟩] at hcs
         refine ⟨⟨(k + 1, min v cuts[k].limit), ?_, ⟨by dsimp only; omega, by dsimp only; rw [hcs, hv]⟩, by dsimp only; omega⟩⟩
         repeat' (first | exact True.intro | exact rfl | refine And.intro ?_ ?_))
      | (rw [if_neg (by first | (intro h; exact absurd h.2 (by assumption)) | (intro h; exact absurd h.1 (by assumption)))] at hcs
         refine ⟨⟨(k + 1, v), ?_, ⟨by dsimp only; omega, by dsimp only; rw [hcs, hv]⟩, by dsimp only; omega⟩⟩
         repeat' (first | exact True.intro | exact rfl | refine And.intro ?_ ?_))
  · have hbt := rbetween_meets c hnum m (by omega) 0 (m.length - 1) (by omega) (by omega)
    rw [Nat.sub_zero] at hbt
    repeat' ((first | (intro hlq; (try simp only [List.length_map, maxLen] at hlq)) | ((refine ⟨fun (hb : _ = true) => ?_, fun (hb : _ = false) => ?_⟩) <;> (try simp only [BB, List.length_map] at hb)) | refine Ka ?_ | refine Kb ?_ | refine Kc (hd := rfl) (e := ?_) | refine Kc (hd := Cond.cells_eq _) (e := ?_) | refine Kd (e := ?_) | refine ⟨(rfl : look _ _ = look _ _), ?_⟩ | fail) <;> ((conv => whnf); repeat' (refine vcC_go tok {} rfl ?_; conv => whnf)))
    rw [show ((List.map icells m).length : Int) - 1 = ((m.length - 1 : Nat) : Int) by rw [List.length_map]; omega]
    refine Meets.k hbt ?_
    ((conv => whnf); repeat' (refine vcC_go tok {} rfl ?_; conv => whnf))
    refine ⟨?_⟩
    obtain rfl : i = m.length := by omega
    rw [finR_good hp]
end Go.Proofs.YtkkohadkpogdfaaGreat.Dx

