/- Plain laws of what cut-offs leave possible. -/
import Derived.Test.YtkkohadkpogdfaaGreatOg
import Derived.Test.YtkkohadkpogdfaaGreatOk
import Derived.Test.YtkkohadkpogdfaaGreatOl
import Derived.Test.YtkkohadkpogdfaaGreatMf
namespace Go.Proofs.YtkkohadkpogdfaaGreat.Dx
open Go Go.RowKit
set_option linter.all false
set_option maxRecDepth 100000
set_option maxHeartbeats 1600000

theorem finH_le {c : Course} (hn : NumsOk c) {m : List Int} {cuts : List Cutoff} (hx : ∀ x ∈ cuts, 0 ≤ x.limit) : ∀ i, finH c m cuts (i + 1) ≤ (spanF c m 0 i).2
  | 0 => by
    have := (capF_bound (m := m) (i := 0) hx (Int.le_refl 0)).2
    simpa [finH, preF, spanF] using this
  | i + 1 => by
    have h := finH_le hn (m := m) hx i
    have hb := finH_bound hn (m := m) hx (i + 1)
    have hl := legOf_good hn (m.getD i 0) (m.getD (i + 1) 0)
    have hp : preF c m (i + 1) (finH c m cuts (i + 1)) = min most (finH c m cuts (i + 1) + (legOf c (m.getD i 0) (m.getD (i + 1) 0)).hi) := by
      rw [preF, if_neg (by omega), Nat.add_sub_cancel]
    have hs : (spanF c m 0 (i + 1)).2 = min most ((spanF c m 0 i).2 + (legOf c (m.getD i 0) (m.getD (i + 1) 0)).hi) := by simp [spanF]
    have hc := (capF_bound (m := m) (i := i + 1) hx (v := preF c m (i + 1) (finH c m cuts (i + 1))) (by rw [hp]; simp only [most] at *; omega)).2
    rw [finH, hs]
    rw [hp] at hc ⊢
    omega
theorem finH_none {c : Course} (m : List Int) : ∀ i, finH c m [] (i + 1) = (spanF c m 0 i).2
  | 0 => by simp [finH, preF, spanF, capF]
  | i + 1 => by
    rw [finH, finH_none m i]
    simp [preF, spanF, capF]

def later (n : Int) (y : Cutoff) : Cutoff := ⟨y.mat, y.lap, y.limit + n⟩
theorem capF_later {m : List Int} {i : Nat} {n : Int} (hn : 0 ≤ n) : ∀ (cuts : List Cutoff) {v w : Int}, v ≤ w → capF m cuts i v ≤ capF m (cuts.map (later n)) i w
  | [], v, w, h => h
  | x :: t, v, w, h => by
    have e1 : capF m (x :: t) i v = capF m t i (if x.mat = m.getD i 0 ∧ x.lap = (lapN m i : Int) then min v x.limit else v) := rfl
    have e2 : capF m ((x :: t).map (later n)) i w = capF m (t.map (later n)) i (if x.mat = m.getD i 0 ∧ x.lap = (lapN m i : Int) then min w (x.limit + n) else w) := rfl
    rw [e1, e2]
    refine capF_later hn t ?_
    split <;> omega
theorem finH_later {c : Course} {m : List Int} {n : Int} (hn : 0 ≤ n) (cuts : List Cutoff) : ∀ i, finH c m cuts i ≤ finH c m (cuts.map (later n)) i
  | 0 => Int.le_refl _
  | i + 1 => by
    have h := finH_later (c := c) (m := m) hn cuts i
    rw [finH, finH]
    refine capF_later hn cuts ?_
    simp only [preF]
    split <;> omega

/-- what Finish says, and what the whole route says -/
theorem fin_between {c : Course} {d : Int} (h : Built c d 0) :
    ((finR c (matsX c d 0) (findD c d).cutoffs).2 = true → (finR c (matsX c d 0) (findD c d).cutoffs).1.1 = (spanF c (matsX c d 0) 0 ((matsX c d 0).length - 1)).1 ∧ (finR c (matsX c d 0) (findD c d).cutoffs).1.2 ≤ (spanF c (matsX c d 0) 0 ((matsX c d 0).length - 1)).2 ∧
      (finR c (matsX c d 0) (findD c d).cutoffs).1.1 ≤ (finR c (matsX c d 0) (findD c d).cutoffs).1.2) ∧
    ((findD c d).cutoffs = [] → finR c (matsX c d 0) (findD c d).cutoffs = (spanF c (matsX c d 0) 0 ((matsX c d 0).length - 1), true)) := by
  have hn := h.valid.nums
  have hx : ∀ x ∈ (findD c d).cutoffs, 0 ≤ x.limit := fun x hx => (h.valid.cuts x hx).1
  have hl : 2 ≤ (matsX c d 0).length := by rw [h.len]; have := h.valid.ge; omega
  generalize matsX c d 0 = m at *
  constructor
  · intro hok
    by_cases hb : (List.range m.length).any (finBad c m (findD c d).cutoffs) = true
    · rw [finR, if_pos hb] at hok; cases hok
    · rw [finR, if_neg hb]
      have hg : finBad c m (findD c d).cutoffs (m.length - 1) = false := by
        cases e : finBad c m (findD c d).cutoffs (m.length - 1) with
        | false => rfl
        | true => exact absurd (List.any_eq_true.2 ⟨_, List.mem_range.2 (by omega), e⟩) hb
      have hg := of_decide_eq_false hg
      have hle := finH_le hn (m := m) hx (m.length - 1)
      rw [show m.length - 1 + 1 = m.length by omega] at hg hle
      exact ⟨rfl, hle, by dsimp only; omega⟩
  · intro h0
    rw [h0, finR_good (fun i hi => by rw [finH_none]; have := spanF_bound hn m 0 i; omega)]
    have := finH_none (c := c) m (m.length - 1)
    rw [show m.length - 1 + 1 = m.length by omega] at this
    rw [this]

/-- the course with later cut-offs of a distance -/
def lateC (c : Course) (k : Nat) (n : Int) (dd : Distance) : Course := { c with distances := c.distances.set k { dd with cutoffs := dd.cutoffs.map (later n) } }
theorem late_small {c : Course} (hc : c.small) {k : Nat} (n : Int) (h : k < c.distances.length) : (lateC c k n c.distances[k]).small := by
  have mem : ∀ d ∈ (lateC c k n c.distances[k]).distances, d ∈ c.distances ∨ d = { c.distances[k] with cutoffs := c.distances[k].cutoffs.map (later n) } := fun d hd => List.mem_or_eq_of_mem_set hd
  refine ⟨hc.mats, hc.legs, by simp only [lateC, List.length_set]; exact hc.distances, hc.waves, hc.offences, hc.categories, hc.prizes, hc.ties, fun d hd => ?_, fun d hd => ?_⟩
  · rcases mem d hd with h1 | rfl
    · exact hc.route d h1
    · exact hc.route c.distances[k] (List.getElem_mem h)
  · rcases mem d hd with h1 | rfl
    · exact hc.cutoffs d h1
    · show ((c.distances[k].cutoffs).map (later n)).length ≤ _
      rw [List.length_map]; exact hc.cutoffs c.distances[k] (List.getElem_mem h)
theorem late_fin {c : Course} {d : Int} (hB : Built c d 0) (n : Int) (hn : 0 ≤ n) :
    ((finishR (lateC c d.toNat n (findD c d)) d).2 ≠ 0 → courseE (lateC c d.toNat n (findD c d)) = (finishR (lateC c d.toNat n (findD c d)) d).2) ∧
    ((finishR (lateC c d.toNat n (findD c d)) d).2 = 0 → (finR c (matsX c d 0) (findD c d).cutoffs).2 = true → (finishR (lateC c d.toNat n (findD c d)) d).1.2 = true ∧ (finishR (lateC c d.toNat n (findD c d)) d).1.1.1 = (finR c (matsX c d 0) (findD c d).cutoffs).1.1 ∧
      (finR c (matsX c d 0) (findD c d).cutoffs).1.2 ≤ (finishR (lateC c d.toNat n (findD c d)) d).1.1.2) := by
  obtain ⟨hk, hD⟩ := findD_at hB.valid.zero
  obtain ⟨_, hd0, hd1⟩ := findE_zero hB.valid.zero
  generalize hx : lateC c d.toNat n (findD c d) = x
  have hlen : x.distances.length = c.distances.length := by rw [← hx]; simp [lateC]
  have hfe : findE x d = courseE x := by
    rw [findE]
    split
    · rfl
    · rename_i h
      rw [if_neg (by rw [hlen]; omega)]
      exact (Decidable.not_not.1 h).symm
  have hbe : buildE x d 0 = courseE x := by
    rw [buildE]
    split
    · exact hfe
    · rename_i h
      have h := Decidable.not_not.1 h
      have hv := (valid_of h).le
      rw [if_neg (by omega), if_neg (by omega), ← hfe, h]
  constructor
  · intro h
    rw [finishR] at h ⊢
    split
    · rw [hbe]
    · rename_i h1; rw [if_neg h1] at h; exact absurd rfl h
  · intro h hok
    have hb0 : buildE x d 0 = 0 := by
      rw [finishR] at h
      split at h
      · rename_i h1; exact absurd h h1
      · rename_i h1; exact Decidable.not_not.1 h1
    have hf0 : findE x d = 0 := by rw [hfe, ← hbe, hb0]
    have hDx : findD x d = { findD c d with cutoffs := (findD c d).cutoffs.map (later n) } := by
      obtain ⟨hk', hD'⟩ := findD_at hf0
      rw [hD']
      simp only [← hx, lateC, List.getElem_set_self]
    have hm : matsX x d 0 = matsX c d 0 := by
      rw [matsX, matsX, if_neg (by omega), if_neg (by omega), mats0, mats0, hDx]
    have hsp : ∀ i, spanF x (matsX c d 0) 0 i = spanF c (matsX c d 0) 0 i := by
      intro i
      induction i with
      | zero => rfl
      | succ i ih => rw [spanF, spanF, ih, ← hx]; rfl
    have hfh : ∀ cuts i, finH x (matsX c d 0) cuts i = finH c (matsX c d 0) cuts i := by
      intro cuts i
      induction i with
      | zero => rfl
      | succ i ih => rw [finH, finH, ih, ← hx]; rfl
    rw [finishR, if_neg (by rw [hb0]; simp), hm, hDx]
    dsimp only
    generalize matsX c d 0 = m at *
    by_cases hb : (List.range m.length).any (finBad c m (findD c d).cutoffs) = true
    · rw [finR, if_pos hb] at hok; cases hok
    · have hg : ∀ i < m.length, ¬ (spanF c m 0 i).1 > finH c m (findD c d).cutoffs (i + 1) := by
        intro i hi hgt
        exact hb (List.any_eq_true.2 ⟨i, List.mem_range.2 hi, decide_eq_true hgt⟩)
      rw [finR_good hg, finR_good (c := x) (fun i hi => by
        rw [hsp, hfh]
        have h1 := hg i hi
        have h2 := finH_later (c := c) (m := m) hn (findD c d).cutoffs (i + 1)
        omega), hsp, hfh]
      exact ⟨rfl, rfl, finH_later hn _ _⟩
theorem late_fin2 {c : Course} {d : Int} (hB : Built c d 0) (n : Int) (hn : 0 ≤ n) {dd : Distance} (hdd : findD c d = dd) :
    ((finishR (lateC c d.toNat n dd) d).2 ≠ 0 → courseE (lateC c d.toNat n dd) = (finishR (lateC c d.toNat n dd) d).2) ∧
    ((finishR (lateC c d.toNat n dd) d).2 = 0 → (finR c (matsX c d 0) (findD c d).cutoffs).2 = true → (finishR (lateC c d.toNat n dd) d).1.2 = true ∧ (finishR (lateC c d.toNat n dd) d).1.1.1 = (finR c (matsX c d 0) (findD c d).cutoffs).1.1 ∧
      (finR c (matsX c d 0) (findD c d).cutoffs).1.2 ≤ (finishR (lateC c d.toNat n dd) d).1.1.2) := by
  rw [← hdd]
  exact late_fin hB n hn
theorem and1023 (a : Int) : 0 ≤ IntKind.wrap .i64 ((BitVec.ofInt IntKind.i64.bits a &&& BitVec.ofInt IntKind.i64.bits 1023).toNat : Int) ∧ IntKind.wrap .i64 ((BitVec.ofInt IntKind.i64.bits a &&& BitVec.ofInt IntKind.i64.bits 1023).toNat : Int) ≤ 1023 := by
  have h : (BitVec.ofInt IntKind.i64.bits a &&& BitVec.ofInt IntKind.i64.bits 1023).toNat ≤ 1023 := by
    rw [BitVec.toNat_and]
    exact Nat.le_trans Nat.and_le_right (by decide)
  generalize (BitVec.ofInt IntKind.i64.bits a &&& BitVec.ofInt IntKind.i64.bits 1023).toNat = n at h
  have e : IntKind.wrap .i64 (n : Int) = n := by
    have e1 : (n : Int) % 2 ^ 64 = n := Int.emod_eq_of_lt (by omega) (by omega)
    simp only [IntKind.wrap, IntKind.bits, IntKind.signed, e1]
    rw [if_neg (by simp; omega)]
  rw [e]
  omega
end Go.Proofs.YtkkohadkpogdfaaGreat.Dx

/- The walk of the law of cut-offs. -/
namespace Go.Proofs.YtkkohadkpogdfaaGreat.Dx
open Go Go.RowKit
set_option linter.all false
set_option maxRecDepth 100000
set_option maxHeartbeats 16000000

theorem dist5 (c : Course) : ∀ ds ∈ c.distances.map Distance.cells, ds.length = 5 := by
  intro ds h
  obtain ⟨x, _, rfl⟩ := List.mem_map.1 h
  rfl

abbrev and1023v (x : Int) : Int := IntKind.wrap .i64 ((BitVec.ofInt IntKind.i64.bits x &&& BitVec.ofInt IntKind.i64.bits 1023).toNat : Int)
abbrev rowG (c : Course) (k : Nat) (dd : Distance) (v : Value) : List (List D) := (c.distances.map Distance.cells).set k [.str dd.name, .sl (dd.route.map Part.cells), iD dd.timing, .raw v, iD dd.extra]

theorem rowG_at (c : Course) {k : Nat} (h : k < c.distances.length) (dd : Distance) (v : Value) : (rowG c k dd v)[k]? = some [.str dd.name, .sl (dd.route.map Part.cells), iD dd.timing, .raw v, iD dd.extra] :=
  List.getElem?_set_self (by rw [List.length_map]; exact h)

theorem FinishLaw_meets (c : Course) (hc : c.small) (d x : Int) : Meets Tryz.prog 7 [c.d, iD d, iD x] fun r => r = bD true := by
  have hdl := hc.distances
  refine enter tok {priv := [108, 111], raws := [(108, 900), (111, 900)]} Tryz.func7 rfl (by kernel_rfl) Tryz.ntmps7 (by simp) fun B0 W0 V0 lent g0 => ?_
  ((conv => whnf); repeat' ((fail_if_success (refine J_at 24 ?_)); refine vcC_go tok {priv := [108, 111], raws := [(108, 900), (111, 900)]} rfl ?_; conv => whnf))
  refine Meets.k sane9_meets ?_
  ((conv => whnf); repeat' ((fail_if_success (refine J_at 24 ?_)); refine vcC_go tok {priv := [108, 111], raws := [(108, 900), (111, 900)]} rfl ?_; conv => whnf))
  refine ⟨fun h0 => ?_, fun h0 => ?_⟩ <;> (try simp only [BB, List.length_map] at h0) <;> ((conv => whnf); repeat' ((fail_if_success (refine J_at 24 ?_)); refine vcC_go tok {priv := [108, 111], raws := [(108, 900), (111, 900)]} rfl ?_; conv => whnf))
  · exact (Bool.noConfusion h0)
  refine (Few_meets c hc).mono ?_
  rintro r ⟨b, rfl⟩
  ((conv => whnf); repeat' ((fail_if_success (refine J_at 24 ?_)); refine vcC_go tok {priv := [108, 111], raws := [(108, 900), (111, 900)]} rfl ?_; conv => whnf))
  refine ⟨fun h0 => ?_, fun h0 => ?_⟩ <;> (try simp only [BB, List.length_map] at h0) <;> ((conv => whnf); repeat' ((fail_if_success (refine J_at 24 ?_)); refine vcC_go tok {priv := [108, 111], raws := [(108, 900), (111, 900)]} rfl ?_; conv => whnf))
  · exact ⟨rfl⟩
  refine Meets.k (Finish_meets c hc _) ?_
  ((conv => whnf); repeat' ((fail_if_success (refine J_at 24 ?_)); refine vcC_go tok {priv := [108, 111], raws := [(108, 900), (111, 900)]} rfl ?_; conv => whnf))
  refine Meets.k (Route_meets c hc _ _) ?_
  ((conv => whnf); repeat' ((fail_if_success (refine J_at 24 ?_)); refine vcC_go tok {priv := [108, 111], raws := [(108, 900), (111, 900)]} rfl ?_; conv => whnf))
  by_cases hE : buildE c d 0 ≠ 0
  · have e1 : finishR c d = (((0, 0), false), buildE c d 0) := by rw [finishR, if_pos hE]
    rw [e1]
    repeat' ((first | (intro hlq; (try simp only [List.length_map, maxLen] at hlq)) | ((refine ⟨fun (hb : _ = true) => ?_, fun (hb : _ = false) => ?_⟩) <;> (try simp only [BB, List.length_map] at hb)) | refine Ka ?_ | refine Kb ?_ | refine Kc (hd := rfl) (e := ?_) | refine Kc (hd := Cond.cells_eq _) (e := ?_) | refine Kd (e := ?_) | refine ⟨(rfl : look _ _ = look _ _), ?_⟩ | fail) <;> ((conv => whnf); repeat' ((fail_if_success (refine J_at 24 ?_)); refine vcC_go tok {priv := [108, 111], raws := [(108, 900), (111, 900)]} rfl ?_; conv => whnf)))
    all_goals first
      | exact ⟨congrArg bD (decide_eq_true hE)⟩
      | exact absurd trivial hb
      | exact Bool.noConfusion hb
      | exact absurd hE (by assumption)
  have hB := built_of (Decidable.not_not.1 hE)
  have e1 : finishR c d = (finR c (matsX c d 0) (findD c d).cutoffs, 0) := by rw [finishR, if_neg hE]
  have hr := hB.r
  have hle : (routeM c d 0).length ≤ 256 := by rw [hr]; exact hB.le
  have hge : 2 ≤ (routeM c d 0).length := by rw [hr, hB.len]; have := hB.valid.ge; omega
  rw [e1]
  repeat' ((first | (intro hlq; (try simp only [List.length_map, maxLen] at hlq)) | ((refine ⟨fun (hb : _ = true) => ?_, fun (hb : _ = false) => ?_⟩) <;> (try simp only [BB, List.length_map] at hb)) | refine Ka ?_ | refine Kb ?_ | refine Kc (hd := rfl) (e := ?_) | refine Kc (hd := Cond.cells_eq _) (e := ?_) | refine Kd (e := ?_) | refine ⟨(rfl : look _ _ = look _ _), ?_⟩ | fail) <;> ((conv => whnf); repeat' ((fail_if_success (refine J_at 24 ?_)); refine vcC_go tok {priv := [108, 111], raws := [(108, 900), (111, 900)]} rfl ?_; conv => whnf)))
  all_goals (try exact absurd (by assumption : buildE c d 0 ≠ 0) hE)
  all_goals (try (exfalso; omega))
  have hbe : betweenE c d 0 0 ((routeM c d 0).length - 1 : Int) = 0 := betweenE_of hB (Int.le_refl _) (by omega) (by rw [← hr]; omega)
  have hbs : betweenS c d 0 0 ((routeM c d 0).length - 1 : Int) = spanF c (matsX c d 0) 0 ((matsX c d 0).length - 1) := by
    rw [betweenS, if_pos hbe, hr]
    congr 1
    omega
  obtain ⟨hf1, hf2⟩ := fin_between hB
  obtain ⟨hd, hD⟩ := findD_at hB.valid.zero
  obtain ⟨_, hd0, hd1⟩ := findE_zero hB.valid.zero
  have hs1 := congrArg Prod.fst hbs
  have hs2 := congrArg Prod.snd hbs
  refine Meets.k (Between_meets c hc _ _ _ _) ?_
  ((conv => whnf); repeat' ((fail_if_success (refine J_at 24 ?_)); refine vcC_go tok {priv := [108, 111], raws := [(108, 900), (111, 900)]} rfl ?_; conv => whnf))
  repeat' ((first | (intro hlq; (try simp only [List.length_map, maxLen] at hlq)) | ((refine ⟨fun (hb : _ = true) => ?_, fun (hb : _ = false) => ?_⟩) <;> (try simp only [BB, List.length_map] at hb)) | refine Ka ?_ | refine Kb ?_ | refine Kc (hd := rfl) (e := ?_) | refine Kc (hd := Cond.cells_eq _) (e := ?_) | refine Kd (e := ?_) | refine ⟨(rfl : look _ _ = look _ _), ?_⟩ | fail) <;> ((conv => whnf); repeat' ((fail_if_success (refine J_at 24 ?_)); refine vcC_go tok {priv := [108, 111], raws := [(108, 900), (111, 900)]} rfl ?_; conv => whnf)))
  all_goals (try exact absurd hbe hb)
  all_goals (try (exfalso; omega))
  all_goals (try (exfalso; obtain ⟨q1, q2, q3⟩ := hf1 (by assumption); omega))
  all_goals
    refine ⟨dist5 c, ?_⟩
    ((conv => whnf); repeat' ((fail_if_success (refine J_at 24 ?_)); refine vcC_go tok {priv := [108, 111], raws := [(108, 900), (111, 900)]} rfl ?_; conv => whnf))
    refine ⟨fun _ _ => by simp only [List.length_map, List.length_nil]; omega, ?_⟩
    ((conv => whnf); repeat' ((fail_if_success (refine J_at 24 ?_)); refine vcC_go tok {priv := [108, 111], raws := [(108, 900), (111, 900)]} rfl ?_; conv => whnf))
    refine ⟨⟨hd0, by dsimp only; simp only [List.length_append, List.length_map, List.length_nil]; omega, rfl⟩, ?_⟩
    ((conv => whnf); repeat' ((fail_if_success (refine J_at 24 ?_)); refine vcC_go tok {priv := [108, 111], raws := [(108, 900), (111, 900)]} rfl ?_; conv => whnf))
    refine ⟨_, ⟨getZ_at Distance.cells hd (Distance.cells_eq _), rfl⟩, ?_⟩
    ((conv => whnf); repeat' ((fail_if_success (refine J_at 24 ?_)); refine vcC_go tok {priv := [108, 111], raws := [(108, 900), (111, 900)]} rfl ?_; conv => whnf))
    repeat' ((first | (intro hlq; (try simp only [List.length_map, maxLen] at hlq)) | refine Ka ?_ | refine Kb ?_ | refine Kc (hd := rfl) (e := ?_) | refine Kc (hd := Cond.cells_eq _) (e := ?_) | refine Kd (e := ?_) | refine ⟨(rfl : look _ _ = look _ _), ?_⟩ | fail) <;> ((conv => whnf); repeat' ((fail_if_success (refine J_at 24 ?_)); refine vcC_go tok {priv := [108, 111], raws := [(108, 900), (111, 900)]} rfl ?_; conv => whnf)))
    refine ⟨fun hcu => ?_, fun hcu => ?_⟩ <;> (try simp only [BB, List.length_map] at hcu) <;> ((conv => whnf); repeat' ((fail_if_success (refine J_at 24 ?_)); refine vcC_go tok {priv := [108, 111], raws := [(108, 900), (111, 900)]} rfl ?_; conv => whnf))
    · have hcu0 : (findD c d).cutoffs = [] := by rw [hD]; exact List.eq_nil_of_length_eq_zero (by omega)
      have hf := hf2 hcu0
      have hft := congrArg Prod.snd hf
      dsimp only at hft
      repeat' ((first | (intro hlq; (try simp only [List.length_map, maxLen] at hlq)) | ((refine ⟨fun (hb : _ = true) => ?_, fun (hb : _ = false) => ?_⟩) <;> (try simp only [BB, List.length_map] at hb)) | refine Ka ?_ | refine Kb ?_ | refine Kc (hd := rfl) (e := ?_) | refine Kc (hd := Cond.cells_eq _) (e := ?_) | refine Kd (e := ?_) | refine ⟨(rfl : look _ _ = look _ _), ?_⟩ | fail) <;> ((conv => whnf); repeat' ((fail_if_success (refine J_at 24 ?_)); refine vcC_go tok {priv := [108, 111], raws := [(108, 900), (111, 900)]} rfl ?_; conv => whnf)))
      all_goals first
        | exact Bool.noConfusion hb
        | (exfalso; rw [hft] at *; contradiction)
        | skip
      refine ⟨⟨⟨[_, _], rfl, rfl⟩, ⟨[_, _], rfl, rfl⟩⟩, ?_⟩
      ((conv => whnf); repeat' ((fail_if_success (refine J_at 24 ?_)); refine vcC_go tok {priv := [108, 111], raws := [(108, 900), (111, 900)]} rfl ?_; conv => whnf))
      refine ⟨congrArg bD ?_⟩
      simp [hf, hbs]
    refine ⟨_, ⟨getZ_at Distance.cells hd (Distance.cells_eq _), rfl, (by decide : 4 ≤ 5)⟩, fun g => ?_⟩
    ((conv => whnf); repeat' ((fail_if_success (refine J_at 24 ?_)); refine vcC_go tok {priv := [108, 111], raws := [(108, 900), (111, 900)]} rfl ?_; conv => whnf))
    refine ⟨_, ⟨hd0, getZ_at Distance.cells hd (Distance.cells_eq _), rfl⟩, ?_⟩
    ((conv => whnf); repeat' ((fail_if_success (refine J_at 24 ?_)); refine vcC_go tok {priv := [108, 111], raws := [(108, 900), (111, 900)]} rfl ?_; conv => whnf))
    repeat' ((first | (intro hlq; (try simp only [List.length_map, maxLen] at hlq)) | refine Ka ?_ | refine Kb ?_ | refine Kc (hd := rfl) (e := ?_) | refine Kc (hd := Cond.cells_eq _) (e := ?_) | refine Kd (e := ?_) | refine ⟨(rfl : look _ _ = look _ _), ?_⟩ | fail) <;> ((conv => whnf); repeat' ((fail_if_success (refine J_at 24 ?_)); refine vcC_go tok {priv := [108, 111], raws := [(108, 900), (111, 900)]} rfl ?_; conv => whnf)))
    have hn := and1023 x
    have hcl := hc.cutoffs _ (List.getElem_mem hd)
    refine loop_upd tok {priv := [108, 111], raws := [(108, 900), (111, 900)]} [] (X := Nat × (Nat → Value × Option Nat)) (fun s => [(139, iB s.1)])
      (fun s => [(108, .sl ⟨58, 5, rowG c d.toNat c.distances[d.toNat] (s.2 900).1, false⟩), (900, .sl ⟨62, 3, ((c.distances[d.toNat].cutoffs.take s.1).map (later (and1023v x))).map Cutoff.cells, false⟩), (5900, .pn s.2 [900])]) [17]
      (fun s => s.1 ≤ c.distances[d.toNat].cutoffs.length) (fun s => c.distances[d.toNat].cutoffs.length - s.1) (0, g) ?_
    ((conv => whnf); repeat' ((fail_if_success (refine J_at 24 ?_)); refine vcC_go tok {priv := [108, 111], raws := [(108, 900), (111, 900)]} rfl ?_; conv => whnf))
    refine And.intro ?_ ⟨Nat.zero_le _, fun s hs => ?_⟩
    · repeat' (first | exact True.intro | exact rfl | refine And.intro ?_ ?_)
    obtain ⟨k, g2⟩ := s
    dsimp only at hs
    ((conv => whnf); repeat' ((fail_if_success (refine J_at 24 ?_)); refine vcC_go tok {priv := [108, 111], raws := [(108, 900), (111, 900)]} rfl ?_; conv => whnf))
    refine ⟨fun h1 => ?_, fun h1 => ?_⟩ <;> (try simp only [BB, List.length_map] at h1) <;> ((conv => whnf); repeat' ((fail_if_success (refine J_at 24 ?_)); refine vcC_go tok {priv := [108, 111], raws := [(108, 900), (111, 900)]} rfl ?_; conv => whnf))
    · have h1' : k < c.distances[d.toNat].cutoffs.length := by omega
      have hlim := hB.valid.cuts c.distances[d.toNat].cutoffs[k] (by rw [hD]; exact List.getElem_mem h1')
      repeat' ((first | (intro hlq; (try simp only [List.length_map, maxLen] at hlq)) | refine Ka ?_ | refine Kb ?_ | refine Kc (hd := rfl) (e := ?_) | refine Kc (hd := Cutoff.cells_eq _) (e := ?_) | refine Kd (e := ?_) | refine ⟨(rfl : look _ _ = look _ _), ?_⟩ | fail) <;> ((conv => whnf); repeat' ((fail_if_success (refine J_at 24 ?_)); refine vcC_go tok {priv := [108, 111], raws := [(108, 900), (111, 900)]} rfl ?_; conv => whnf)))
      refine draw_rule tok (cf := {priv := [108, 111], raws := [(108, 900), (111, 900)]}) (by kernel_rfl) [.p 0, .p 1, .p 2, .p 3, .p 4, .p 5, .p 6, .s 7 [4,6,3,5,2,1], .p 8, .p 9, .s 10 [9,0,8]] (by kernel_rfl) ?_
      ((conv => whnf); repeat' ((fail_if_success (refine J_at 24 ?_)); refine vcC_go tok {priv := [108, 111], raws := [(108, 900), (111, 900)]} rfl ?_; conv => whnf))
      refine ⟨_, ⟨rowG_at c hd _ _, rfl⟩, ?_⟩
      ((conv => whnf); repeat' ((fail_if_success (refine J_at 24 ?_)); refine vcC_go tok {priv := [108, 111], raws := [(108, 900), (111, 900)]} rfl ?_; conv => whnf))
      refine ⟨5900, 900, g2, [900], ⟨rfl, rfl, rfl⟩, ?_⟩
      ((conv => whnf); repeat' ((fail_if_success (refine J_at 24 ?_)); refine vcC_go tok {priv := [108, 111], raws := [(108, 900), (111, 900)]} rfl ?_; conv => whnf))
      refine ⟨by simp, ?_⟩
      ((conv => whnf); repeat' ((fail_if_success (refine J_at 24 ?_)); refine vcC_go tok {priv := [108, 111], raws := [(108, 900), (111, 900)]} rfl ?_; conv => whnf))
      refine ⟨fun _ _ => by simp only [List.length_map, List.length_take, List.length_cons, List.length_nil]; omega, ?_⟩
      ((conv => whnf); repeat' ((fail_if_success (refine J_at 24 ?_)); refine vcC_go tok {priv := [108, 111], raws := [(108, 900), (111, 900)]} rfl ?_; conv => whnf))
      repeat' (first | (refine ⟨(rfl : look _ _ = look _ _), ?_⟩; ((conv => whnf); repeat' ((fail_if_success (refine J_at 24 ?_)); refine vcC_go tok {priv := [108, 111], raws := [(108, 900), (111, 900)]} rfl ?_; conv => whnf))) | fail)
      refine ⟨_, ⟨rowG_at c hd _ _, rfl, (by decide : 4 ≤ 5)⟩, fun g3 => ?_⟩
      ((conv => whnf); repeat' ((fail_if_success (refine J_at 24 ?_)); refine vcC_go tok {priv := [108, 111], raws := [(108, 900), (111, 900)]} rfl ?_; conv => whnf))
      repeat' (first | (refine ⟨(rfl : look _ _ = look _ _), ?_⟩; ((conv => whnf); repeat' ((fail_if_success (refine J_at 24 ?_)); refine vcC_go tok {priv := [108, 111], raws := [(108, 900), (111, 900)]} rfl ?_; conv => whnf))) | fail)
      repeat' ((first | (intro hlq; (try simp only [List.length_map, maxLen] at hlq)) | refine Ka ?_ | refine Kb ?_ | refine Kc (hd := rfl) (e := ?_) | refine Kc (hd := Cond.cells_eq _) (e := ?_) | refine Kd (e := ?_) | refine ⟨(rfl : look _ _ = look _ _), ?_⟩ | fail) <;> ((conv => whnf); repeat' ((fail_if_success (refine J_at 24 ?_)); refine vcC_go tok {priv := [108, 111], raws := [(108, 900), (111, 900)]} rfl ?_; conv => whnf)))
      refine ⟨⟨(k + 1, g3), ?_, by dsimp only; omega, by dsimp only; omega⟩⟩
      repeat' (first | exact True.intro | exact rfl | refine And.intro ?_ ?_)
      all_goals first
        | exact List.set_set ..
        | (dsimp only; rw [List.take_succ_eq_append_getElem h1', List.map_append, List.map_append]; rfl)
    have hk : c.distances[d.toNat].cutoffs.take k = c.distances[d.toNat].cutoffs := List.take_of_length_le (by omega)
    refine J_frz [900] ?_
    ((conv => whnf); repeat' ((fail_if_success (refine J_at 24 ?_)); refine vcC_go tok {priv := [108, 111], raws := [(108, 900), (111, 900)]} rfl ?_; conv => whnf))
    refine J_fill 108 900 5900 d.toNat 3 rfl rfl rfl rfl rfl rfl (rowG_at c hd _ _) rfl ((lateC c d.toNat (and1023v x) c.distances[d.toNat]).distances.map Distance.cells) ?_ ?_
    · show List.set (List.set _ _ _) _ _ = List.map _ (List.set _ _ _)
      rw [List.set_set, List.map_set]
      dsimp only
      rw [hk]
      rfl
    have hlf := late_fin2 hB (and1023v x) hn.1 hD
    have hls := late_small hc (and1023v x) hd
    ((conv => whnf); repeat' ((fail_if_success (refine J_at 24 ?_)); refine vcC_go tok {priv := [108, 111], raws := [(108, 900), (111, 900)]} rfl ?_; conv => whnf))
    refine J_frz [108] ?_
    ((conv => whnf); repeat' (refine vcC_go tok {priv := [108, 111], raws := [(108, 900), (111, 900)]} rfl ?_; conv => whnf))
    refine Meets.k (Finish_meets _ hls d) ?_
    ((conv => whnf); repeat' (refine vcC_go tok {priv := [108, 111], raws := [(108, 900), (111, 900)]} rfl ?_; conv => whnf))
    repeat' ((first | (intro hlq; (try simp only [List.length_map, maxLen] at hlq)) | refine Meets.k (Course_meets _ hls) ?_ | ((refine ⟨fun (hb : _ = true) => ?_, fun (hb : _ = false) => ?_⟩) <;> (try simp only [BB, List.length_map] at hb)) | refine Ka ?_ | refine Kb ?_ | refine Kc (hd := rfl) (e := ?_) | refine Kc (hd := Cond.cells_eq _) (e := ?_) | refine Kd (e := ?_) | refine ⟨(rfl : look _ _ = look _ _), ?_⟩ | fail) <;> ((conv => whnf); repeat' (refine vcC_go tok {priv := [108, 111], raws := [(108, 900), (111, 900)]} rfl ?_; conv => whnf)))
    all_goals first
      | exact ⟨rfl⟩
      | exact ⟨congrArg bD (decide_eq_true (hlf.1 (by assumption)))⟩
      | (obtain ⟨q1, q2, q3⟩ := hlf.2 (Decidable.not_not.1 (by assumption)) (by assumption)
         first
         | exact ⟨congrArg bD (decide_eq_true q3)⟩
         | exact absurd q2 hb
         | (rw [q1] at hb; exact Bool.noConfusion hb))
end Go.Proofs.YtkkohadkpogdfaaGreat.Dx

