/- The walk of the law of courses with less. -/
import Derived.Test.YtiejhmfeppflaaaGreatNl
namespace Go.Proofs.YtiejhmfeppflaaaGreat.Dx
open Go Go.RowKit
set_option linter.all false
set_option maxRecDepth 100000
set_option maxHeartbeats 16000000

theorem J_at2 {P : Program} {C : Cx} {st : SSt} {Q : Post} (n : Nat) {ops : Array Oper} {d : Bool} {y z : Code} (h : J P C (.seq (.seq (.region n ops d) y) z) Q st) : J P C (.seq (.seq (.region n ops d) y) z) Q st := h
theorem cut_post {P : Program} {T : List (Nat × TI)} {C : Cx} {st : SSt} (hT : TOk P T) (cf : Cfg) {x : Code} {Q : Post} (us : List (Nat × Base)) (h : match st with
    | ⟨L, O, p⟩ => forceL (us.map (·.1) ++ wrote x) fun w => upL w L fun L' =>
      vcC P T C cf x (fun e st' => match e with | .nrm => Rnd (SubSt st' ⟨us ++ L', O, p⟩) | .ret => Q .ret st' | .exit n => Q (.exit n) st' | .pan d => Q (.pan d) st') ⟨L, O, p⟩ ∧ Q .nrm ⟨us ++ L', O, p⟩) : J P C x Q st := by
  refine ⟨fun γ V a W hr => ?_⟩
  obtain ⟨L, O, p⟩ := st
  simp only at h
  rw [forceL_eq] at h
  obtain ⟨L', h⟩ := upL_ok _ _ h
  refine wp_mono ((vcC_run hT cf x h.1).run γ V a W hr) fun e a W hq => ?_
  cases e with
  | normal => obtain ⟨γ, st, V, h1, h2⟩ := hq; exact ⟨γ, _, V, sub_rel h1 h2.out, h.2⟩
  | ret => exact hq
  | exit n => exact hq
  | panic v => exact hq
  | goto l => exact hq.elim
  | outgrown => exact hq.elim
theorem getD_rem {α : Type} {xs : List α} (f : α → List D) {n : Int} {k : Nat} (hk : n % (xs.length : Int) = (k : Int)) (h : k < xs.length) : (xs.map f)[(n % ((xs.map f).length : Int)).toNat]? = some (f xs[k]) := by
  rw [List.length_map, hk, Int.toNat_natCast, List.getElem?_map, List.getElem?_eq_getElem h, Option.map_some]
theorem toNat_succ (k : Nat) : ((k : Int) + 1).toNat = k + 1 := by omega
theorem List.take_map_length {α β : Type} (f : α → β) (l : List α) : (l.map f).take l.length = l.map f := List.take_of_length_le (by simp)
abbrev uD (n : Int) : D := .v (.int .u64 n)

theorem less_prizes_meets (c : Course) (hc : c.small) (hz : courseE c = 0) (k : Nat) {ys : List (List D)} (h : ys = (cutL k c.prizes).map Prize.cells) : Meets Tryz.prog 12 [.agg [.str c.name, .sl (c.mats.map Mat.cells), .sl (c.legs.map Leg.cells), .sl (c.distances.map Distance.cells), .sl (c.waves.map Wave.cells), .sl (c.offences.map Offence.cells), .sl (c.categories.map Category.cells), .sl ys, .sl (c.ties.map Step.cells), iD c.faults.misses, iD c.faults.strays, iD c.faults.window, iD c.faults.residual, iD c.faults.drift, iD c.fee, iD c.deadline]] fun r => r = iD 0 := by
  have hs : Course.small { c with prizes := cutL k c.prizes } := ⟨hc.mats, hc.legs, hc.distances, hc.waves, hc.offences, hc.categories, Nat.le_trans (cut_sub k c.prizes).length_le hc.prizes, hc.ties, hc.route, hc.cutoffs⟩
  have := Course_meets _ hs
  rw [less_prize hz k] at this
  rw [h]
  exact this
theorem twice_prizes_meets (c : Course) (hc : c.small) (hz : courseE c = 0) {k : Nat} (hk : k < c.prizes.length) (hr : c.prizes.length < 32) {ys : List (List D)} (h : ys = (c.prizes ++ [c.prizes[k]]).map Prize.cells) : Meets Tryz.prog 12 [.agg [.str c.name, .sl (c.mats.map Mat.cells), .sl (c.legs.map Leg.cells), .sl (c.distances.map Distance.cells), .sl (c.waves.map Wave.cells), .sl (c.offences.map Offence.cells), .sl (c.categories.map Category.cells), .sl ys, .sl (c.ties.map Step.cells), iD c.faults.misses, iD c.faults.strays, iD c.faults.window, iD c.faults.residual, iD c.faults.drift, iD c.fee, iD c.deadline]] fun r => r = iD 71 := by
  have hs : Course.small { c with prizes := c.prizes ++ [c.prizes[k]] } := ⟨hc.mats, hc.legs, hc.distances, hc.waves, hc.offences, hc.categories, by show (c.prizes ++ [c.prizes[k]]).length ≤ 1048576; simp; omega, hc.ties, hc.route, hc.cutoffs⟩
  have := Course_meets _ hs
  rw [twice_prize hz hk hr] at this
  rw [h]
  exact this

theorem less_offences_meets (c : Course) (hc : c.small) (hz : courseE c = 0) (k : Nat) {ys : List (List D)} (h : ys = (cutL k c.offences).map Offence.cells) : Meets Tryz.prog 12 [.agg [.str c.name, .sl (c.mats.map Mat.cells), .sl (c.legs.map Leg.cells), .sl (c.distances.map Distance.cells), .sl (c.waves.map Wave.cells), .sl ys, .sl (c.categories.map Category.cells), .sl (c.prizes.map Prize.cells), .sl (c.ties.map Step.cells), iD c.faults.misses, iD c.faults.strays, iD c.faults.window, iD c.faults.residual, iD c.faults.drift, iD c.fee, iD c.deadline]] fun r => r = iD 0 := by
  have hs : Course.small { c with offences := cutL k c.offences } := ⟨hc.mats, hc.legs, hc.distances, hc.waves, Nat.le_trans (cut_sub k c.offences).length_le hc.offences, hc.categories, hc.prizes, hc.ties, hc.route, hc.cutoffs⟩
  have := Course_meets _ hs
  rw [less_offence hz k] at this
  rw [h]
  exact this
theorem twice_offences_meets (c : Course) (hc : c.small) (hz : courseE c = 0) {k : Nat} (hk : k < c.offences.length) (hr : c.offences.length < 32) {ys : List (List D)} (h : ys = (c.offences ++ [c.offences[k]]).map Offence.cells) : Meets Tryz.prog 12 [.agg [.str c.name, .sl (c.mats.map Mat.cells), .sl (c.legs.map Leg.cells), .sl (c.distances.map Distance.cells), .sl (c.waves.map Wave.cells), .sl ys, .sl (c.categories.map Category.cells), .sl (c.prizes.map Prize.cells), .sl (c.ties.map Step.cells), iD c.faults.misses, iD c.faults.strays, iD c.faults.window, iD c.faults.residual, iD c.faults.drift, iD c.fee, iD c.deadline]] fun r => r = iD 70 := by
  have hs : Course.small { c with offences := c.offences ++ [c.offences[k]] } := ⟨hc.mats, hc.legs, hc.distances, hc.waves, by show (c.offences ++ [c.offences[k]]).length ≤ 1048576; simp; omega, hc.categories, hc.prizes, hc.ties, hc.route, hc.cutoffs⟩
  have := Course_meets _ hs
  rw [twice_offence hz hk hr] at this
  rw [h]
  exact this

theorem less_waves_meets (c : Course) (hc : c.small) (hz : courseE c = 0) (k : Nat) {ys : List (List D)} (h : ys = (cutL k c.waves).map Wave.cells) : Meets Tryz.prog 12 [.agg [.str c.name, .sl (c.mats.map Mat.cells), .sl (c.legs.map Leg.cells), .sl (c.distances.map Distance.cells), .sl ys, .sl (c.offences.map Offence.cells), .sl (c.categories.map Category.cells), .sl (c.prizes.map Prize.cells), .sl (c.ties.map Step.cells), iD c.faults.misses, iD c.faults.strays, iD c.faults.window, iD c.faults.residual, iD c.faults.drift, iD c.fee, iD c.deadline]] fun r => r = iD 0 := by
  have hs : Course.small { c with waves := cutL k c.waves } := ⟨hc.mats, hc.legs, hc.distances, Nat.le_trans (cut_sub k c.waves).length_le hc.waves, hc.offences, hc.categories, hc.prizes, hc.ties, hc.route, hc.cutoffs⟩
  have := Course_meets _ hs
  rw [less_wave hz k] at this
  rw [h]
  exact this
theorem twice_waves_meets (c : Course) (hc : c.small) (hz : courseE c = 0) {k : Nat} (hk : k < c.waves.length) (hr : c.waves.length < 32) {ys : List (List D)} (h : ys = (c.waves ++ [c.waves[k]]).map Wave.cells) : Meets Tryz.prog 12 [.agg [.str c.name, .sl (c.mats.map Mat.cells), .sl (c.legs.map Leg.cells), .sl (c.distances.map Distance.cells), .sl ys, .sl (c.offences.map Offence.cells), .sl (c.categories.map Category.cells), .sl (c.prizes.map Prize.cells), .sl (c.ties.map Step.cells), iD c.faults.misses, iD c.faults.strays, iD c.faults.window, iD c.faults.residual, iD c.faults.drift, iD c.fee, iD c.deadline]] fun r => r = iD 70 := by
  have hs : Course.small { c with waves := c.waves ++ [c.waves[k]] } := ⟨hc.mats, hc.legs, hc.distances, by show (c.waves ++ [c.waves[k]]).length ≤ 1048576; simp; omega, hc.offences, hc.categories, hc.prizes, hc.ties, hc.route, hc.cutoffs⟩
  have := Course_meets _ hs
  rw [twice_wave hz hk hr] at this
  rw [h]
  exact this

theorem cutD_cells {l : List Distance} {i : Nat} (h : i < l.length) (k : Nat) : (cutD i k l).map Distance.cells = (l.map Distance.cells).set i [.str l[i].name, .sl (l[i].route.map Part.cells), iD l[i].timing, .sl ((cutL k l[i].cutoffs).map Cutoff.cells), iD l[i].extra] := by
  simp only [cutD, List.getElem?_eq_getElem h]
  rw [List.map_set]

theorem less_cutoffs_meets (c : Course) (hc : c.small) (hz : courseE c = 0) (i k : Nat) {ys : List (List D)} (h : ys = (cutD i k c.distances).map Distance.cells) : Meets Tryz.prog 12 [.agg [.str c.name, .sl (c.mats.map Mat.cells), .sl (c.legs.map Leg.cells), .sl ys, .sl (c.waves.map Wave.cells), .sl (c.offences.map Offence.cells), .sl (c.categories.map Category.cells), .sl (c.prizes.map Prize.cells), .sl (c.ties.map Step.cells), iD c.faults.misses, iD c.faults.strays, iD c.faults.window, iD c.faults.residual, iD c.faults.drift, iD c.fee, iD c.deadline]] fun r => r = iD 0 := by
  have hs : Course.small { c with distances := cutD i k c.distances } := by
    refine ⟨hc.mats, hc.legs, by show (cutD i k c.distances).length ≤ 1048576; rw [cutD_len]; exact hc.distances, hc.waves, hc.offences, hc.categories, hc.prizes, hc.ties, fun d hd => ?_, fun d hd => ?_⟩
    · obtain ⟨e, he, rfl | rfl⟩ := cutD_mem hd
      · exact hc.route _ he
      · exact hc.route e he
    · obtain ⟨e, he, rfl | rfl⟩ := cutD_mem hd
      · exact hc.cutoffs _ he
      · exact Nat.le_trans (cut_sub k e.cutoffs).length_le (hc.cutoffs e he)
  have := Course_meets _ hs
  rw [less_cutoff hz i k] at this
  rw [h]
  exact this

theorem TypingLess_meets (c : Course) (n : Int) (hc : c.small) : Meets Tryz.prog 7 [c.d, uD n] fun r => r = bD true := by
  refine enter tok { priv := [202] } Tryz.func7 rfl (by kernel_rfl) Tryz.ntmps7 (by simp) fun B0 W0 V0 lent g0 => ?_
  ((conv => whnf); repeat' ((fail_if_success (refine J_at 6 ?_)); (fail_if_success (refine J_at 13 ?_)); (fail_if_success (refine J_at 20 ?_)); refine vcC_go tok { priv := [202] } rfl ?_; conv => whnf))
  repeat' ((first | (intro hlq; (try simp only [List.length_map, maxLen] at hlq)) | refine Meets.k (sane_meets.bl) ?_ | (refine Meets.mono (FewCourse_meets c hc) ?_; rintro _ ⟨_, rfl⟩) | refine Meets.k (Course_meets c hc) ?_ | ((refine ⟨fun (hb : _ = true) => ?_, fun (hb : _ = false) => ?_⟩) <;> (try simp only [BB, List.length_map] at hb)) | refine ⟨fun h1 h2 => ⟨by have := h1.1; have := h1.2; have := h2.1; have := h2.2; (try dsimp only at *); first | omega | (simp only [List.length_map] at *; omega), by have := h1.1; have := h1.2; have := h2.1; have := h2.2; (try dsimp only at *); first | omega | (simp only [List.length_map] at *; omega)⟩, ?_⟩ | refine ⟨⟨(by (try dsimp only at *); omega : _ ≤ _), (by (try dsimp only at *); omega : _ < _)⟩, ?_⟩ | refine ⟨_, ⟨by (try dsimp only at *); omega, getD_at _ (by (try dsimp only at *); (try simp only [List.length_map] at *); omega) (rfl), rfl⟩, ?_⟩ | refine ⟨_, ⟨by (try dsimp only at *); omega, getD_at _ (by (try dsimp only at *); (try simp only [List.length_map] at *); omega) (Cond.cells_eq _), rfl⟩, ?_⟩ | refine ⟨_, ⟨by (try dsimp only at *); omega, str_at (by (try dsimp only at *); (try simp only [List.length_map] at *); omega)⟩, ?_⟩ | refine ⟨(rfl : look _ _ = look _ _), ?_⟩ | fail) <;> ((conv => whnf); repeat' ((fail_if_success (refine J_at 6 ?_)); (fail_if_success (refine J_at 13 ?_)); (fail_if_success (refine J_at 20 ?_)); refine vcC_go tok { priv := [202] } rfl ?_; conv => whnf)))
  all_goals first
    | exact ⟨rfl⟩
    | (exfalso; contradiction)
    | (exfalso; simp_all; done)
    | skip
  have hz : courseE c = 0 := Decidable.not_not.1 (by assumption)
  have hlp := hc.prizes
  have hlo := hc.offences
  have hlw := hc.waves
  refine ⟨fun _ => ⟨by omega, by simp only [List.length_map]; omega⟩, ?_⟩
  ((conv => whnf); repeat' ((fail_if_success (refine J_at 6 ?_)); (fail_if_success (refine J_at 13 ?_)); (fail_if_success (refine J_at 20 ?_)); refine vcC_go tok { priv := [202] } rfl ?_; conv => whnf))
  refine cut_post tok { priv := [202] } [] ?_
  conv => whnf
  refine And.intro ?_ ?_
  · ((conv => whnf); repeat' ((fail_if_success (refine J_at 13 ?_)); (fail_if_success (refine J_at 20 ?_)); refine vcC_go tok { priv := [202] } rfl ?_; conv => whnf))
    refine ⟨fun h1 => ?_, fun h1 => ?_⟩ <;> (try simp only [BB, List.length_map] at h1) <;> ((conv => whnf); repeat' ((fail_if_success (refine J_at 13 ?_)); (fail_if_success (refine J_at 20 ?_)); refine vcC_go tok { priv := [202] } rfl ?_; conv => whnf))
    · have hpos : 0 < c.prizes.length := by omega
      have hcp : ∀ ds ∈ c.prizes.map Prize.cells, ds.length = 4 := fun ds hds => by obtain ⟨s, _, rfl⟩ := List.mem_map.1 hds; rfl
      obtain ⟨k, hk⟩ : ∃ k : Nat, n % (c.prizes.length : Int) = (k : Int) := ⟨(n % (c.prizes.length : Int)).toNat, (Int.toNat_of_nonneg (Int.emod_nonneg _ (by omega))).symm⟩
      have hm1 : 0 ≤ n % (c.prizes.length : Int) := Int.emod_nonneg _ (by omega)
      have hm2 : n % (c.prizes.length : Int) < c.prizes.length := Int.emod_lt_of_pos _ (by omega)
      have hk2 : k < c.prizes.length := by omega
      refine draw_rule2 (cf := { priv := [202] }) tok (by kernel_rfl) [0, 1] [(2, [], [.s 3 [], .s 4 [0], .s 5 [1]]), (3, [], [.s 2 [], .s 4 [0], .s 5 [1]])] (by kernel_rfl) ?_
      conv => whnf
      refine And.intro ?_ (And.intro ?_ True.intro)
      · ((conv => whnf); repeat' ((fail_if_success (refine J_at 13 ?_)); (fail_if_success (refine J_at 20 ?_)); refine vcC_go tok { priv := [202] } rfl ?_; conv => whnf))
        repeat' (first | (refine ⟨(rfl : look _ _ = look _ _), ?_⟩; ((conv => whnf); repeat' ((fail_if_success (refine J_at 13 ?_)); (fail_if_success (refine J_at 20 ?_)); refine vcC_go tok { priv := [202] } rfl ?_; conv => whnf))) | fail)
        refine draw_rule tok (cf := { priv := [202] }) (by kernel_rfl) [.p 0, .p 1, .p 2, .p 3, .p 4, .p 5, .p 6, .p 8, .p 9, .p 10, .p 11, .p 12, .p 13, .p 14, .s 7 [0,6,2,5,1,3,4], .s 15 [14,9,13,8,12,10,11], .p 16, .s 17 [16]] (by kernel_rfl) ?_
        ((conv => whnf); repeat' ((fail_if_success (refine J_at 13 ?_)); (fail_if_success (refine J_at 20 ?_)); refine vcC_go tok { priv := [202] } rfl ?_; conv => whnf))
        refine ⟨fun hu _ => ⟨hu.1, by simp only [List.length_map]; omega⟩, ?_⟩
        ((conv => whnf); repeat' ((fail_if_success (refine J_at 13 ?_)); (fail_if_success (refine J_at 20 ?_)); refine vcC_go tok { priv := [202] } rfl ?_; conv => whnf))
        refine ⟨fun _ => ⟨by omega, by simp only [List.length_map]; omega, by simp only [List.length_map]; omega, hcp⟩, ?_⟩
        ((conv => whnf); repeat' ((fail_if_success (refine J_at 13 ?_)); (fail_if_success (refine J_at 20 ?_)); refine vcC_go tok { priv := [202] } rfl ?_; conv => whnf))
        refine ⟨fun hu _ => ⟨hu.1, by simp only [List.length_map]; omega⟩, ?_⟩
        ((conv => whnf); repeat' ((fail_if_success (refine J_at 13 ?_)); (fail_if_success (refine J_at 20 ?_)); refine vcC_go tok { priv := [202] } rfl ?_; conv => whnf))
        refine ⟨fun _ _ => ⟨by simp only [List.length_map]; omega, by simp only [List.length_map]; omega⟩, ?_⟩
        ((conv => whnf); repeat' ((fail_if_success (refine J_at 13 ?_)); (fail_if_success (refine J_at 20 ?_)); refine vcC_go tok { priv := [202] } rfl ?_; conv => whnf))
        refine ⟨fun _ => ⟨by simp only [List.length_map]; omega, by simp only [List.length_map]; omega, by omega, hcp⟩, ?_⟩
        ((conv => whnf); repeat' ((fail_if_success (refine J_at 13 ?_)); (fail_if_success (refine J_at 20 ?_)); refine vcC_go tok { priv := [202] } rfl ?_; conv => whnf))
        refine ⟨fun ds hds => hcp ds (List.mem_of_mem_take (List.mem_of_mem_drop hds)), ?_⟩
        ((conv => whnf); repeat' ((fail_if_success (refine J_at 13 ?_)); (fail_if_success (refine J_at 20 ?_)); refine vcC_go tok { priv := [202] } rfl ?_; conv => whnf))
        refine ⟨⟨fun _ _ => ?_, fun ds hds => (by cases hds)⟩, ?_⟩
        · simp only [List.length_nil, List.length_take, List.length_drop, List.length_map]
          constructor <;> omega
        ((conv => whnf); repeat' ((fail_if_success (refine J_at 13 ?_)); (fail_if_success (refine J_at 20 ?_)); refine vcC_go tok { priv := [202] } rfl ?_; conv => whnf))
        repeat' (first | (refine ⟨(rfl : look _ _ = look _ _), ?_⟩; ((conv => whnf); repeat' ((fail_if_success (refine J_at 13 ?_)); (fail_if_success (refine J_at 20 ?_)); refine vcC_go tok { priv := [202] } rfl ?_; conv => whnf))) | fail)
        refine ⟨fun ds hds => hcp ds (List.mem_of_mem_take (List.mem_of_mem_drop hds)), ?_⟩
        ((conv => whnf); repeat' ((fail_if_success (refine J_at 13 ?_)); (fail_if_success (refine J_at 20 ?_)); refine vcC_go tok { priv := [202] } rfl ?_; conv => whnf))
        repeat' (first | (refine ⟨(rfl : look _ _ = look _ _), ?_⟩; ((conv => whnf); repeat' ((fail_if_success (refine J_at 13 ?_)); (fail_if_success (refine J_at 20 ?_)); refine vcC_go tok { priv := [202] } rfl ?_; conv => whnf))) | fail)
        refine ⟨fun _ _ => ?_, ?_⟩
        · simp only [List.length_nil, List.nil_append, List.length_append, List.length_take, List.length_drop, List.length_map]
          constructor <;> omega
        ((conv => whnf); repeat' ((fail_if_success (refine J_at 13 ?_)); (fail_if_success (refine J_at 20 ?_)); refine vcC_go tok { priv := [202] } rfl ?_; conv => whnf))
        repeat' (first | (refine ⟨(rfl : look _ _ = look _ _), ?_⟩; ((conv => whnf); repeat' ((fail_if_success (refine J_at 13 ?_)); (fail_if_success (refine J_at 20 ?_)); refine vcC_go tok { priv := [202] } rfl ?_; conv => whnf))) | fail)
        refine draw_rule tok (cf := { priv := [202] }) (by kernel_rfl) [.p 0, .p 1, .p 2, .p 4, .p 5, .p 6, .p 7, .p 8, .p 9, .p 10, .p 11, .s 3 [0,2,1], .s 12 [11,10,9,5,8,4,6,7], .p 13, .s 14 [13]] (by kernel_rfl) ?_
        ((conv => whnf); repeat' ((fail_if_success (refine J_at 13 ?_)); (fail_if_success (refine J_at 20 ?_)); refine vcC_go tok { priv := [202] } rfl ?_; conv => whnf))
        refine ⟨fun hu _ => ⟨hu.1, by simp only [List.length_map]; omega⟩, ?_⟩
        ((conv => whnf); repeat' ((fail_if_success (refine J_at 13 ?_)); (fail_if_success (refine J_at 20 ?_)); refine vcC_go tok { priv := [202] } rfl ?_; conv => whnf))
        repeat' (first | (refine ⟨(rfl : look _ _ = look _ _), ?_⟩; ((conv => whnf); repeat' ((fail_if_success (refine J_at 13 ?_)); (fail_if_success (refine J_at 20 ?_)); refine vcC_go tok { priv := [202] } rfl ?_; conv => whnf))) | fail)
        refine ⟨_, ⟨by simp only [List.length_map]; omega, getD_rem Prize.cells hk hk2, rfl⟩, ?_⟩
        ((conv => whnf); repeat' ((fail_if_success (refine J_at 13 ?_)); (fail_if_success (refine J_at 20 ?_)); refine vcC_go tok { priv := [202] } rfl ?_; conv => whnf))
        repeat' (first | (refine ⟨(rfl : look _ _ = look _ _), ?_⟩; ((conv => whnf); repeat' ((fail_if_success (refine J_at 13 ?_)); (fail_if_success (refine J_at 20 ?_)); refine vcC_go tok { priv := [202] } rfl ?_; conv => whnf))) | fail)
        refine ⟨hcp, ?_⟩
        ((conv => whnf); repeat' ((fail_if_success (refine J_at 13 ?_)); (fail_if_success (refine J_at 20 ?_)); refine vcC_go tok { priv := [202] } rfl ?_; conv => whnf))
        repeat' (first | (refine ⟨(rfl : look _ _ = look _ _), ?_⟩; ((conv => whnf); repeat' ((fail_if_success (refine J_at 13 ?_)); (fail_if_success (refine J_at 20 ?_)); refine vcC_go tok { priv := [202] } rfl ?_; conv => whnf))) | fail)
        refine ⟨⟨fun _ _ => ?_, fun ds hds => (by cases hds)⟩, ?_⟩
        · simp only [List.length_nil, List.length_map]
          constructor <;> omega
        ((conv => whnf); repeat' ((fail_if_success (refine J_at 13 ?_)); (fail_if_success (refine J_at 20 ?_)); refine vcC_go tok { priv := [202] } rfl ?_; conv => whnf))
        repeat' (first | (refine ⟨(rfl : look _ _ = look _ _), ?_⟩; ((conv => whnf); repeat' ((fail_if_success (refine J_at 13 ?_)); (fail_if_success (refine J_at 20 ?_)); refine vcC_go tok { priv := [202] } rfl ?_; conv => whnf))) | fail)
        refine ⟨fun ds hds => (by simp only [List.mem_singleton] at hds; subst hds; rfl), ?_⟩
        ((conv => whnf); repeat' ((fail_if_success (refine J_at 13 ?_)); (fail_if_success (refine J_at 20 ?_)); refine vcC_go tok { priv := [202] } rfl ?_; conv => whnf))
        repeat' (first | (refine ⟨(rfl : look _ _ = look _ _), ?_⟩; ((conv => whnf); repeat' ((fail_if_success (refine J_at 13 ?_)); (fail_if_success (refine J_at 20 ?_)); refine vcC_go tok { priv := [202] } rfl ?_; conv => whnf))) | fail)
        refine ⟨fun _ _ => ?_, ?_⟩
        · simp only [List.nil_append, List.length_singleton, List.length_map]
          constructor <;> omega
        ((conv => whnf); repeat' ((fail_if_success (refine J_at 13 ?_)); (fail_if_success (refine J_at 20 ?_)); refine vcC_go tok { priv := [202] } rfl ?_; conv => whnf))
        repeat' (first | (refine ⟨(rfl : look _ _ = look _ _), ?_⟩; ((conv => whnf); repeat' ((fail_if_success (refine J_at 13 ?_)); (fail_if_success (refine J_at 20 ?_)); refine vcC_go tok { priv := [202] } rfl ?_; conv => whnf))) | fail)
        refine Meets.k (less_prizes_meets c hc hz k ?_) ?_
        · simp only [cutL, List.map_append, List.map_take, List.map_drop, List.length_map, hk, List.nil_append, Int.toNat_natCast, Int.toNat_zero, List.drop_zero, List.take_length, toNat_succ, List.take_map_length]
        ((conv => whnf); repeat' ((fail_if_success (refine J_at 13 ?_)); (fail_if_success (refine J_at 20 ?_)); refine vcC_go tok { priv := [202] } rfl ?_; conv => whnf))
        refine ⟨fun h2 => ?_, fun h2 => ?_⟩ <;> (try simp only [BB, List.length_map] at h2) <;> ((conv => whnf); repeat' ((fail_if_success (refine J_at 13 ?_)); (fail_if_success (refine J_at 20 ?_)); refine vcC_go tok { priv := [202] } rfl ?_; conv => whnf))
        · exact absurd rfl h2
        refine ⟨fun h3 => ?_, fun h3 => ?_⟩ <;> (try simp only [BB, List.length_map] at h3) <;> ((conv => whnf); repeat' ((fail_if_success (refine J_at 13 ?_)); (fail_if_success (refine J_at 20 ?_)); refine vcC_go tok { priv := [202] } rfl ?_; conv => whnf))
        · refine Meets.k (twice_prizes_meets c hc hz hk2 (by omega) ?_) ?_
          · simp
          ((conv => whnf); repeat' ((fail_if_success (refine J_at 13 ?_)); (fail_if_success (refine J_at 20 ?_)); refine vcC_go tok { priv := [202] } rfl ?_; conv => whnf))
          repeat' ((first | (intro hlq; (try simp only [List.length_map, maxLen] at hlq)) | ((refine ⟨fun (hb : _ = true) => ?_, fun (hb : _ = false) => ?_⟩) <;> (try simp only [BB, List.length_map] at hb)) | refine ⟨fun h1 h2 => ⟨by have := h1.1; have := h1.2; have := h2.1; have := h2.2; (try dsimp only at *); first | omega | (simp only [List.length_map] at *; omega), by have := h1.1; have := h1.2; have := h2.1; have := h2.2; (try dsimp only at *); first | omega | (simp only [List.length_map] at *; omega)⟩, ?_⟩ | refine ⟨⟨(by (try dsimp only at *); omega : _ ≤ _), (by (try dsimp only at *); omega : _ < _)⟩, ?_⟩ | refine ⟨_, ⟨by (try dsimp only at *); omega, getD_at _ (by (try dsimp only at *); (try simp only [List.length_map] at *); omega) (rfl), rfl⟩, ?_⟩ | refine ⟨_, ⟨by (try dsimp only at *); omega, getD_at _ (by (try dsimp only at *); (try simp only [List.length_map] at *); omega) (Cond.cells_eq _), rfl⟩, ?_⟩ | refine ⟨_, ⟨by (try dsimp only at *); omega, str_at (by (try dsimp only at *); (try simp only [List.length_map] at *); omega)⟩, ?_⟩ | refine ⟨(rfl : look _ _ = look _ _), ?_⟩ | fail) <;> ((conv => whnf); repeat' ((fail_if_success (refine J_at 13 ?_)); (fail_if_success (refine J_at 20 ?_)); refine vcC_go tok { priv := [202] } rfl ?_; conv => whnf)))
          all_goals first
            | (exfalso; contradiction)
            | (exfalso; revert hb; decide)
            | skip
          refine ⟨?_⟩
          repeat' (first | exact True.intro | exact rfl | refine And.intro ?_ ?_)
        · repeat' ((first | (intro hlq; (try simp only [List.length_map, maxLen] at hlq)) | ((refine ⟨fun (hb : _ = true) => ?_, fun (hb : _ = false) => ?_⟩) <;> (try simp only [BB, List.length_map] at hb)) | refine ⟨fun h1 h2 => ⟨by have := h1.1; have := h1.2; have := h2.1; have := h2.2; (try dsimp only at *); first | omega | (simp only [List.length_map] at *; omega), by have := h1.1; have := h1.2; have := h2.1; have := h2.2; (try dsimp only at *); first | omega | (simp only [List.length_map] at *; omega)⟩, ?_⟩ | refine ⟨⟨(by (try dsimp only at *); omega : _ ≤ _), (by (try dsimp only at *); omega : _ < _)⟩, ?_⟩ | refine ⟨_, ⟨by (try dsimp only at *); omega, getD_at _ (by (try dsimp only at *); (try simp only [List.length_map] at *); omega) (rfl), rfl⟩, ?_⟩ | refine ⟨_, ⟨by (try dsimp only at *); omega, getD_at _ (by (try dsimp only at *); (try simp only [List.length_map] at *); omega) (Cond.cells_eq _), rfl⟩, ?_⟩ | refine ⟨_, ⟨by (try dsimp only at *); omega, str_at (by (try dsimp only at *); (try simp only [List.length_map] at *); omega)⟩, ?_⟩ | refine ⟨(rfl : look _ _ = look _ _), ?_⟩ | fail) <;> ((conv => whnf); repeat' ((fail_if_success (refine J_at 13 ?_)); (fail_if_success (refine J_at 20 ?_)); refine vcC_go tok { priv := [202] } rfl ?_; conv => whnf)))
          refine ⟨?_⟩
          repeat' (first | exact True.intro | exact rfl | refine And.intro ?_ ?_)
      · ((conv => whnf); repeat' ((fail_if_success (refine J_at 13 ?_)); (fail_if_success (refine J_at 20 ?_)); refine vcC_go tok { priv := [202] } rfl ?_; conv => whnf))
        repeat' (first | (refine ⟨(rfl : look _ _ = look _ _), ?_⟩; ((conv => whnf); repeat' ((fail_if_success (refine J_at 13 ?_)); (fail_if_success (refine J_at 20 ?_)); refine vcC_go tok { priv := [202] } rfl ?_; conv => whnf))) | fail)
        refine draw_rule tok (cf := { priv := [202] }) (by kernel_rfl) [.p 0, .p 1, .p 2, .p 3, .p 4, .p 5, .p 6, .p 8, .p 9, .p 10, .p 11, .p 12, .p 13, .p 14, .s 7 [0,6,2,5,1,3,4], .s 15 [14,9,13,8,12,10,11], .p 16, .s 17 [16]] (by kernel_rfl) ?_
        ((conv => whnf); repeat' ((fail_if_success (refine J_at 13 ?_)); (fail_if_success (refine J_at 20 ?_)); refine vcC_go tok { priv := [202] } rfl ?_; conv => whnf))
        refine ⟨fun hu _ => ⟨hu.1, by simp only [List.length_map]; omega⟩, ?_⟩
        ((conv => whnf); repeat' ((fail_if_success (refine J_at 13 ?_)); (fail_if_success (refine J_at 20 ?_)); refine vcC_go tok { priv := [202] } rfl ?_; conv => whnf))
        refine ⟨fun _ => ⟨by omega, by simp only [List.length_map]; omega, by simp only [List.length_map]; omega, hcp⟩, ?_⟩
        ((conv => whnf); repeat' ((fail_if_success (refine J_at 13 ?_)); (fail_if_success (refine J_at 20 ?_)); refine vcC_go tok { priv := [202] } rfl ?_; conv => whnf))
        refine ⟨fun hu _ => ⟨hu.1, by simp only [List.length_map]; omega⟩, ?_⟩
        ((conv => whnf); repeat' ((fail_if_success (refine J_at 13 ?_)); (fail_if_success (refine J_at 20 ?_)); refine vcC_go tok { priv := [202] } rfl ?_; conv => whnf))
        refine ⟨fun _ _ => ⟨by simp only [List.length_map]; omega, by simp only [List.length_map]; omega⟩, ?_⟩
        ((conv => whnf); repeat' ((fail_if_success (refine J_at 13 ?_)); (fail_if_success (refine J_at 20 ?_)); refine vcC_go tok { priv := [202] } rfl ?_; conv => whnf))
        refine ⟨fun _ => ⟨by simp only [List.length_map]; omega, by simp only [List.length_map]; omega, by omega, hcp⟩, ?_⟩
        ((conv => whnf); repeat' ((fail_if_success (refine J_at 13 ?_)); (fail_if_success (refine J_at 20 ?_)); refine vcC_go tok { priv := [202] } rfl ?_; conv => whnf))
        refine ⟨fun ds hds => hcp ds (List.mem_of_mem_take (List.mem_of_mem_drop hds)), ?_⟩
        ((conv => whnf); repeat' ((fail_if_success (refine J_at 13 ?_)); (fail_if_success (refine J_at 20 ?_)); refine vcC_go tok { priv := [202] } rfl ?_; conv => whnf))
        refine ⟨⟨fun _ _ => ?_, fun ds hds => (by cases hds)⟩, ?_⟩
        · simp only [List.length_nil, List.length_take, List.length_drop, List.length_map]
          constructor <;> omega
        ((conv => whnf); repeat' ((fail_if_success (refine J_at 13 ?_)); (fail_if_success (refine J_at 20 ?_)); refine vcC_go tok { priv := [202] } rfl ?_; conv => whnf))
        repeat' (first | (refine ⟨(rfl : look _ _ = look _ _), ?_⟩; ((conv => whnf); repeat' ((fail_if_success (refine J_at 13 ?_)); (fail_if_success (refine J_at 20 ?_)); refine vcC_go tok { priv := [202] } rfl ?_; conv => whnf))) | fail)
        refine ⟨fun ds hds => hcp ds (List.mem_of_mem_take (List.mem_of_mem_drop hds)), ?_⟩
        ((conv => whnf); repeat' ((fail_if_success (refine J_at 13 ?_)); (fail_if_success (refine J_at 20 ?_)); refine vcC_go tok { priv := [202] } rfl ?_; conv => whnf))
        repeat' (first | (refine ⟨(rfl : look _ _ = look _ _), ?_⟩; ((conv => whnf); repeat' ((fail_if_success (refine J_at 13 ?_)); (fail_if_success (refine J_at 20 ?_)); refine vcC_go tok { priv := [202] } rfl ?_; conv => whnf))) | fail)
        refine ⟨fun _ _ => ?_, ?_⟩
        · simp only [List.length_nil, List.nil_append, List.length_append, List.length_take, List.length_drop, List.length_map]
          constructor <;> omega
        ((conv => whnf); repeat' ((fail_if_success (refine J_at 13 ?_)); (fail_if_success (refine J_at 20 ?_)); refine vcC_go tok { priv := [202] } rfl ?_; conv => whnf))
        repeat' (first | (refine ⟨(rfl : look _ _ = look _ _), ?_⟩; ((conv => whnf); repeat' ((fail_if_success (refine J_at 13 ?_)); (fail_if_success (refine J_at 20 ?_)); refine vcC_go tok { priv := [202] } rfl ?_; conv => whnf))) | fail)
        refine draw_rule tok (cf := { priv := [202] }) (by kernel_rfl) [.p 0, .p 1, .p 2, .p 4, .p 5, .p 6, .p 7, .p 8, .p 9, .p 10, .p 11, .s 3 [0,2,1], .s 12 [11,10,9,5,8,4,6,7], .p 13, .s 14 [13]] (by kernel_rfl) ?_
        ((conv => whnf); repeat' ((fail_if_success (refine J_at 13 ?_)); (fail_if_success (refine J_at 20 ?_)); refine vcC_go tok { priv := [202] } rfl ?_; conv => whnf))
        refine ⟨fun hu _ => ⟨hu.1, by simp only [List.length_map]; omega⟩, ?_⟩
        ((conv => whnf); repeat' ((fail_if_success (refine J_at 13 ?_)); (fail_if_success (refine J_at 20 ?_)); refine vcC_go tok { priv := [202] } rfl ?_; conv => whnf))
        repeat' (first | (refine ⟨(rfl : look _ _ = look _ _), ?_⟩; ((conv => whnf); repeat' ((fail_if_success (refine J_at 13 ?_)); (fail_if_success (refine J_at 20 ?_)); refine vcC_go tok { priv := [202] } rfl ?_; conv => whnf))) | fail)
        refine ⟨_, ⟨by simp only [List.length_map]; omega, getD_rem Prize.cells hk hk2, rfl⟩, ?_⟩
        ((conv => whnf); repeat' ((fail_if_success (refine J_at 13 ?_)); (fail_if_success (refine J_at 20 ?_)); refine vcC_go tok { priv := [202] } rfl ?_; conv => whnf))
        repeat' (first | (refine ⟨(rfl : look _ _ = look _ _), ?_⟩; ((conv => whnf); repeat' ((fail_if_success (refine J_at 13 ?_)); (fail_if_success (refine J_at 20 ?_)); refine vcC_go tok { priv := [202] } rfl ?_; conv => whnf))) | fail)
        refine ⟨hcp, ?_⟩
        ((conv => whnf); repeat' ((fail_if_success (refine J_at 13 ?_)); (fail_if_success (refine J_at 20 ?_)); refine vcC_go tok { priv := [202] } rfl ?_; conv => whnf))
        repeat' (first | (refine ⟨(rfl : look _ _ = look _ _), ?_⟩; ((conv => whnf); repeat' ((fail_if_success (refine J_at 13 ?_)); (fail_if_success (refine J_at 20 ?_)); refine vcC_go tok { priv := [202] } rfl ?_; conv => whnf))) | fail)
        refine ⟨⟨fun _ _ => ?_, fun ds hds => (by cases hds)⟩, ?_⟩
        · simp only [List.length_nil, List.length_map]
          constructor <;> omega
        ((conv => whnf); repeat' ((fail_if_success (refine J_at 13 ?_)); (fail_if_success (refine J_at 20 ?_)); refine vcC_go tok { priv := [202] } rfl ?_; conv => whnf))
        repeat' (first | (refine ⟨(rfl : look _ _ = look _ _), ?_⟩; ((conv => whnf); repeat' ((fail_if_success (refine J_at 13 ?_)); (fail_if_success (refine J_at 20 ?_)); refine vcC_go tok { priv := [202] } rfl ?_; conv => whnf))) | fail)
        refine ⟨fun ds hds => (by simp only [List.mem_singleton] at hds; subst hds; rfl), ?_⟩
        ((conv => whnf); repeat' ((fail_if_success (refine J_at 13 ?_)); (fail_if_success (refine J_at 20 ?_)); refine vcC_go tok { priv := [202] } rfl ?_; conv => whnf))
        repeat' (first | (refine ⟨(rfl : look _ _ = look _ _), ?_⟩; ((conv => whnf); repeat' ((fail_if_success (refine J_at 13 ?_)); (fail_if_success (refine J_at 20 ?_)); refine vcC_go tok { priv := [202] } rfl ?_; conv => whnf))) | fail)
        refine ⟨fun _ _ => ?_, ?_⟩
        · simp only [List.nil_append, List.length_singleton, List.length_map]
          constructor <;> omega
        ((conv => whnf); repeat' ((fail_if_success (refine J_at 13 ?_)); (fail_if_success (refine J_at 20 ?_)); refine vcC_go tok { priv := [202] } rfl ?_; conv => whnf))
        repeat' (first | (refine ⟨(rfl : look _ _ = look _ _), ?_⟩; ((conv => whnf); repeat' ((fail_if_success (refine J_at 13 ?_)); (fail_if_success (refine J_at 20 ?_)); refine vcC_go tok { priv := [202] } rfl ?_; conv => whnf))) | fail)
        refine Meets.k (less_prizes_meets c hc hz k ?_) ?_
        · simp only [cutL, List.map_append, List.map_take, List.map_drop, List.length_map, hk, List.nil_append, Int.toNat_natCast, Int.toNat_zero, List.drop_zero, List.take_length, toNat_succ, List.take_map_length]
        ((conv => whnf); repeat' ((fail_if_success (refine J_at 13 ?_)); (fail_if_success (refine J_at 20 ?_)); refine vcC_go tok { priv := [202] } rfl ?_; conv => whnf))
        refine ⟨fun h2 => ?_, fun h2 => ?_⟩ <;> (try simp only [BB, List.length_map] at h2) <;> ((conv => whnf); repeat' ((fail_if_success (refine J_at 13 ?_)); (fail_if_success (refine J_at 20 ?_)); refine vcC_go tok { priv := [202] } rfl ?_; conv => whnf))
        · exact absurd rfl h2
        refine ⟨fun h3 => ?_, fun h3 => ?_⟩ <;> (try simp only [BB, List.length_map] at h3) <;> ((conv => whnf); repeat' ((fail_if_success (refine J_at 13 ?_)); (fail_if_success (refine J_at 20 ?_)); refine vcC_go tok { priv := [202] } rfl ?_; conv => whnf))
        · refine Meets.k (twice_prizes_meets c hc hz hk2 (by omega) ?_) ?_
          · simp
          ((conv => whnf); repeat' ((fail_if_success (refine J_at 13 ?_)); (fail_if_success (refine J_at 20 ?_)); refine vcC_go tok { priv := [202] } rfl ?_; conv => whnf))
          repeat' ((first | (intro hlq; (try simp only [List.length_map, maxLen] at hlq)) | ((refine ⟨fun (hb : _ = true) => ?_, fun (hb : _ = false) => ?_⟩) <;> (try simp only [BB, List.length_map] at hb)) | refine ⟨fun h1 h2 => ⟨by have := h1.1; have := h1.2; have := h2.1; have := h2.2; (try dsimp only at *); first | omega | (simp only [List.length_map] at *; omega), by have := h1.1; have := h1.2; have := h2.1; have := h2.2; (try dsimp only at *); first | omega | (simp only [List.length_map] at *; omega)⟩, ?_⟩ | refine ⟨⟨(by (try dsimp only at *); omega : _ ≤ _), (by (try dsimp only at *); omega : _ < _)⟩, ?_⟩ | refine ⟨_, ⟨by (try dsimp only at *); omega, getD_at _ (by (try dsimp only at *); (try simp only [List.length_map] at *); omega) (rfl), rfl⟩, ?_⟩ | refine ⟨_, ⟨by (try dsimp only at *); omega, getD_at _ (by (try dsimp only at *); (try simp only [List.length_map] at *); omega) (Cond.cells_eq _), rfl⟩, ?_⟩ | refine ⟨_, ⟨by (try dsimp only at *); omega, str_at (by (try dsimp only at *); (try simp only [List.length_map] at *); omega)⟩, ?_⟩ | refine ⟨(rfl : look _ _ = look _ _), ?_⟩ | fail) <;> ((conv => whnf); repeat' ((fail_if_success (refine J_at 13 ?_)); (fail_if_success (refine J_at 20 ?_)); refine vcC_go tok { priv := [202] } rfl ?_; conv => whnf)))
          all_goals first
            | (exfalso; contradiction)
            | (exfalso; revert hb; decide)
            | skip
          refine ⟨?_⟩
          repeat' (first | exact True.intro | exact rfl | refine And.intro ?_ ?_)
        · repeat' ((first | (intro hlq; (try simp only [List.length_map, maxLen] at hlq)) | ((refine ⟨fun (hb : _ = true) => ?_, fun (hb : _ = false) => ?_⟩) <;> (try simp only [BB, List.length_map] at hb)) | refine ⟨fun h1 h2 => ⟨by have := h1.1; have := h1.2; have := h2.1; have := h2.2; (try dsimp only at *); first | omega | (simp only [List.length_map] at *; omega), by have := h1.1; have := h1.2; have := h2.1; have := h2.2; (try dsimp only at *); first | omega | (simp only [List.length_map] at *; omega)⟩, ?_⟩ | refine ⟨⟨(by (try dsimp only at *); omega : _ ≤ _), (by (try dsimp only at *); omega : _ < _)⟩, ?_⟩ | refine ⟨_, ⟨by (try dsimp only at *); omega, getD_at _ (by (try dsimp only at *); (try simp only [List.length_map] at *); omega) (rfl), rfl⟩, ?_⟩ | refine ⟨_, ⟨by (try dsimp only at *); omega, getD_at _ (by (try dsimp only at *); (try simp only [List.length_map] at *); omega) (Cond.cells_eq _), rfl⟩, ?_⟩ | refine ⟨_, ⟨by (try dsimp only at *); omega, str_at (by (try dsimp only at *); (try simp only [List.length_map] at *); omega)⟩, ?_⟩ | refine ⟨(rfl : look _ _ = look _ _), ?_⟩ | fail) <;> ((conv => whnf); repeat' ((fail_if_success (refine J_at 13 ?_)); (fail_if_success (refine J_at 20 ?_)); refine vcC_go tok { priv := [202] } rfl ?_; conv => whnf)))
          refine ⟨?_⟩
          repeat' (first | exact True.intro | exact rfl | refine And.intro ?_ ?_)
    · refine ⟨?_⟩
      repeat' (first | exact True.intro | exact rfl | refine And.intro ?_ ?_)
  ((conv => whnf); repeat' ((fail_if_success (refine J_at 13 ?_)); (fail_if_success (refine J_at 20 ?_)); refine vcC_go tok { priv := [202] } rfl ?_; conv => whnf))
  intro hlq
  ((conv => whnf); repeat' ((fail_if_success (refine J_at 13 ?_)); (fail_if_success (refine J_at 20 ?_)); refine vcC_go tok { priv := [202] } rfl ?_; conv => whnf))
  refine ⟨fun _ => ⟨by omega, by simp only [List.length_map]; omega⟩, ?_⟩
  ((conv => whnf); repeat' ((fail_if_success (refine J_at 13 ?_)); (fail_if_success (refine J_at 20 ?_)); refine vcC_go tok { priv := [202] } rfl ?_; conv => whnf))
  refine cut_post tok { priv := [202] } [] ?_
  conv => whnf
  refine And.intro ?_ ?_
  · ((conv => whnf); repeat' ((fail_if_success (refine J_at 20 ?_)); refine vcC_go tok { priv := [202] } rfl ?_; conv => whnf))
    refine ⟨fun h1 => ?_, fun h1 => ?_⟩ <;> (try simp only [BB, List.length_map] at h1) <;> ((conv => whnf); repeat' ((fail_if_success (refine J_at 20 ?_)); refine vcC_go tok { priv := [202] } rfl ?_; conv => whnf))
    · have hpos : 0 < c.offences.length := by omega
      have hcp : ∀ ds ∈ c.offences.map Offence.cells, ds.length = 4 := fun ds hds => by obtain ⟨s, _, rfl⟩ := List.mem_map.1 hds; rfl
      obtain ⟨k, hk⟩ : ∃ k : Nat, n % (c.offences.length : Int) = (k : Int) := ⟨(n % (c.offences.length : Int)).toNat, (Int.toNat_of_nonneg (Int.emod_nonneg _ (by omega))).symm⟩
      have hm1 : 0 ≤ n % (c.offences.length : Int) := Int.emod_nonneg _ (by omega)
      have hm2 : n % (c.offences.length : Int) < c.offences.length := Int.emod_lt_of_pos _ (by omega)
      have hk2 : k < c.offences.length := by omega
      refine draw_rule2 (cf := { priv := [202] }) tok (by kernel_rfl) [0, 1] [(2, [], [.s 3 [], .s 4 [0], .s 5 [1]]), (3, [], [.s 2 [], .s 4 [0], .s 5 [1]])] (by kernel_rfl) ?_
      conv => whnf
      refine And.intro ?_ (And.intro ?_ True.intro)
      · ((conv => whnf); repeat' ((fail_if_success (refine J_at 20 ?_)); refine vcC_go tok { priv := [202] } rfl ?_; conv => whnf))
        repeat' (first | (refine ⟨(rfl : look _ _ = look _ _), ?_⟩; ((conv => whnf); repeat' ((fail_if_success (refine J_at 20 ?_)); refine vcC_go tok { priv := [202] } rfl ?_; conv => whnf))) | fail)
        refine draw_rule tok (cf := { priv := [202] }) (by kernel_rfl) [.p 0, .p 1, .p 2, .p 3, .p 4, .p 5, .p 6, .p 8, .p 9, .p 10, .p 11, .p 12, .p 13, .p 14, .s 7 [0,6,2,5,1,3,4], .s 15 [14,9,13,8,12,10,11], .p 16, .s 17 [16]] (by kernel_rfl) ?_
        ((conv => whnf); repeat' ((fail_if_success (refine J_at 20 ?_)); refine vcC_go tok { priv := [202] } rfl ?_; conv => whnf))
        refine ⟨fun hu _ => ⟨hu.1, by simp only [List.length_map]; omega⟩, ?_⟩
        ((conv => whnf); repeat' ((fail_if_success (refine J_at 20 ?_)); refine vcC_go tok { priv := [202] } rfl ?_; conv => whnf))
        refine ⟨fun _ => ⟨by omega, by simp only [List.length_map]; omega, by simp only [List.length_map]; omega, hcp⟩, ?_⟩
        ((conv => whnf); repeat' ((fail_if_success (refine J_at 20 ?_)); refine vcC_go tok { priv := [202] } rfl ?_; conv => whnf))
        refine ⟨fun hu _ => ⟨hu.1, by simp only [List.length_map]; omega⟩, ?_⟩
        ((conv => whnf); repeat' ((fail_if_success (refine J_at 20 ?_)); refine vcC_go tok { priv := [202] } rfl ?_; conv => whnf))
        refine ⟨fun _ _ => ⟨by simp only [List.length_map]; omega, by simp only [List.length_map]; omega⟩, ?_⟩
        ((conv => whnf); repeat' ((fail_if_success (refine J_at 20 ?_)); refine vcC_go tok { priv := [202] } rfl ?_; conv => whnf))
        refine ⟨fun _ => ⟨by simp only [List.length_map]; omega, by simp only [List.length_map]; omega, by omega, hcp⟩, ?_⟩
        ((conv => whnf); repeat' ((fail_if_success (refine J_at 20 ?_)); refine vcC_go tok { priv := [202] } rfl ?_; conv => whnf))
        refine ⟨fun ds hds => hcp ds (List.mem_of_mem_take (List.mem_of_mem_drop hds)), ?_⟩
        ((conv => whnf); repeat' ((fail_if_success (refine J_at 20 ?_)); refine vcC_go tok { priv := [202] } rfl ?_; conv => whnf))
        refine ⟨⟨fun _ _ => ?_, fun ds hds => (by cases hds)⟩, ?_⟩
        · simp only [List.length_nil, List.length_take, List.length_drop, List.length_map]
          constructor <;> omega
        ((conv => whnf); repeat' ((fail_if_success (refine J_at 20 ?_)); refine vcC_go tok { priv := [202] } rfl ?_; conv => whnf))
        repeat' (first | (refine ⟨(rfl : look _ _ = look _ _), ?_⟩; ((conv => whnf); repeat' ((fail_if_success (refine J_at 20 ?_)); refine vcC_go tok { priv := [202] } rfl ?_; conv => whnf))) | fail)
        refine ⟨fun ds hds => hcp ds (List.mem_of_mem_take (List.mem_of_mem_drop hds)), ?_⟩
        ((conv => whnf); repeat' ((fail_if_success (refine J_at 20 ?_)); refine vcC_go tok { priv := [202] } rfl ?_; conv => whnf))
        repeat' (first | (refine ⟨(rfl : look _ _ = look _ _), ?_⟩; ((conv => whnf); repeat' ((fail_if_success (refine J_at 20 ?_)); refine vcC_go tok { priv := [202] } rfl ?_; conv => whnf))) | fail)
        refine ⟨fun _ _ => ?_, ?_⟩
        · simp only [List.length_nil, List.nil_append, List.length_append, List.length_take, List.length_drop, List.length_map]
          constructor <;> omega
        ((conv => whnf); repeat' ((fail_if_success (refine J_at 20 ?_)); refine vcC_go tok { priv := [202] } rfl ?_; conv => whnf))
        repeat' (first | (refine ⟨(rfl : look _ _ = look _ _), ?_⟩; ((conv => whnf); repeat' ((fail_if_success (refine J_at 20 ?_)); refine vcC_go tok { priv := [202] } rfl ?_; conv => whnf))) | fail)
        refine draw_rule tok (cf := { priv := [202] }) (by kernel_rfl) [.p 0, .p 1, .p 2, .p 4, .p 5, .p 6, .p 7, .p 8, .p 9, .p 10, .p 11, .s 3 [0,2,1], .s 12 [11,10,9,5,8,4,6,7], .p 13, .s 14 [13]] (by kernel_rfl) ?_
        ((conv => whnf); repeat' ((fail_if_success (refine J_at 20 ?_)); refine vcC_go tok { priv := [202] } rfl ?_; conv => whnf))
        refine ⟨fun hu _ => ⟨hu.1, by simp only [List.length_map]; omega⟩, ?_⟩
        ((conv => whnf); repeat' ((fail_if_success (refine J_at 20 ?_)); refine vcC_go tok { priv := [202] } rfl ?_; conv => whnf))
        repeat' (first | (refine ⟨(rfl : look _ _ = look _ _), ?_⟩; ((conv => whnf); repeat' ((fail_if_success (refine J_at 20 ?_)); refine vcC_go tok { priv := [202] } rfl ?_; conv => whnf))) | fail)
        refine ⟨_, ⟨by simp only [List.length_map]; omega, getD_rem Offence.cells hk hk2, rfl⟩, ?_⟩
        ((conv => whnf); repeat' ((fail_if_success (refine J_at 20 ?_)); refine vcC_go tok { priv := [202] } rfl ?_; conv => whnf))
        repeat' (first | (refine ⟨(rfl : look _ _ = look _ _), ?_⟩; ((conv => whnf); repeat' ((fail_if_success (refine J_at 20 ?_)); refine vcC_go tok { priv := [202] } rfl ?_; conv => whnf))) | fail)
        refine ⟨hcp, ?_⟩
        ((conv => whnf); repeat' ((fail_if_success (refine J_at 20 ?_)); refine vcC_go tok { priv := [202] } rfl ?_; conv => whnf))
        repeat' (first | (refine ⟨(rfl : look _ _ = look _ _), ?_⟩; ((conv => whnf); repeat' ((fail_if_success (refine J_at 20 ?_)); refine vcC_go tok { priv := [202] } rfl ?_; conv => whnf))) | fail)
        refine ⟨⟨fun _ _ => ?_, fun ds hds => (by cases hds)⟩, ?_⟩
        · simp only [List.length_nil, List.length_map]
          constructor <;> omega
        ((conv => whnf); repeat' ((fail_if_success (refine J_at 20 ?_)); refine vcC_go tok { priv := [202] } rfl ?_; conv => whnf))
        repeat' (first | (refine ⟨(rfl : look _ _ = look _ _), ?_⟩; ((conv => whnf); repeat' ((fail_if_success (refine J_at 20 ?_)); refine vcC_go tok { priv := [202] } rfl ?_; conv => whnf))) | fail)
        refine ⟨fun ds hds => (by simp only [List.mem_singleton] at hds; subst hds; rfl), ?_⟩
        ((conv => whnf); repeat' ((fail_if_success (refine J_at 20 ?_)); refine vcC_go tok { priv := [202] } rfl ?_; conv => whnf))
        repeat' (first | (refine ⟨(rfl : look _ _ = look _ _), ?_⟩; ((conv => whnf); repeat' ((fail_if_success (refine J_at 20 ?_)); refine vcC_go tok { priv := [202] } rfl ?_; conv => whnf))) | fail)
        refine ⟨fun _ _ => ?_, ?_⟩
        · simp only [List.nil_append, List.length_singleton, List.length_map]
          constructor <;> omega
        ((conv => whnf); repeat' ((fail_if_success (refine J_at 20 ?_)); refine vcC_go tok { priv := [202] } rfl ?_; conv => whnf))
        repeat' (first | (refine ⟨(rfl : look _ _ = look _ _), ?_⟩; ((conv => whnf); repeat' ((fail_if_success (refine J_at 20 ?_)); refine vcC_go tok { priv := [202] } rfl ?_; conv => whnf))) | fail)
        refine Meets.k (less_offences_meets c hc hz k ?_) ?_
        · simp only [cutL, List.map_append, List.map_take, List.map_drop, List.length_map, hk, List.nil_append, Int.toNat_natCast, Int.toNat_zero, List.drop_zero, List.take_length, toNat_succ, List.take_map_length]
        ((conv => whnf); repeat' ((fail_if_success (refine J_at 20 ?_)); refine vcC_go tok { priv := [202] } rfl ?_; conv => whnf))
        refine ⟨fun h2 => ?_, fun h2 => ?_⟩ <;> (try simp only [BB, List.length_map] at h2) <;> ((conv => whnf); repeat' ((fail_if_success (refine J_at 20 ?_)); refine vcC_go tok { priv := [202] } rfl ?_; conv => whnf))
        · exact absurd rfl h2
        refine ⟨fun h3 => ?_, fun h3 => ?_⟩ <;> (try simp only [BB, List.length_map] at h3) <;> ((conv => whnf); repeat' ((fail_if_success (refine J_at 20 ?_)); refine vcC_go tok { priv := [202] } rfl ?_; conv => whnf))
        · refine Meets.k (twice_offences_meets c hc hz hk2 (by omega) ?_) ?_
          · simp
          ((conv => whnf); repeat' ((fail_if_success (refine J_at 20 ?_)); refine vcC_go tok { priv := [202] } rfl ?_; conv => whnf))
          repeat' ((first | (intro hlq; (try simp only [List.length_map, maxLen] at hlq)) | ((refine ⟨fun (hb : _ = true) => ?_, fun (hb : _ = false) => ?_⟩) <;> (try simp only [BB, List.length_map] at hb)) | refine ⟨fun h1 h2 => ⟨by have := h1.1; have := h1.2; have := h2.1; have := h2.2; (try dsimp only at *); first | omega | (simp only [List.length_map] at *; omega), by have := h1.1; have := h1.2; have := h2.1; have := h2.2; (try dsimp only at *); first | omega | (simp only [List.length_map] at *; omega)⟩, ?_⟩ | refine ⟨⟨(by (try dsimp only at *); omega : _ ≤ _), (by (try dsimp only at *); omega : _ < _)⟩, ?_⟩ | refine ⟨_, ⟨by (try dsimp only at *); omega, getD_at _ (by (try dsimp only at *); (try simp only [List.length_map] at *); omega) (rfl), rfl⟩, ?_⟩ | refine ⟨_, ⟨by (try dsimp only at *); omega, getD_at _ (by (try dsimp only at *); (try simp only [List.length_map] at *); omega) (Cond.cells_eq _), rfl⟩, ?_⟩ | refine ⟨_, ⟨by (try dsimp only at *); omega, str_at (by (try dsimp only at *); (try simp only [List.length_map] at *); omega)⟩, ?_⟩ | refine ⟨(rfl : look _ _ = look _ _), ?_⟩ | fail) <;> ((conv => whnf); repeat' ((fail_if_success (refine J_at 20 ?_)); refine vcC_go tok { priv := [202] } rfl ?_; conv => whnf)))
          all_goals first
            | (exfalso; contradiction)
            | (exfalso; revert hb; decide)
            | skip
          refine ⟨?_⟩
          repeat' (first | exact True.intro | exact rfl | refine And.intro ?_ ?_)
        · repeat' ((first | (intro hlq; (try simp only [List.length_map, maxLen] at hlq)) | ((refine ⟨fun (hb : _ = true) => ?_, fun (hb : _ = false) => ?_⟩) <;> (try simp only [BB, List.length_map] at hb)) | refine ⟨fun h1 h2 => ⟨by have := h1.1; have := h1.2; have := h2.1; have := h2.2; (try dsimp only at *); first | omega | (simp only [List.length_map] at *; omega), by have := h1.1; have := h1.2; have := h2.1; have := h2.2; (try dsimp only at *); first | omega | (simp only [List.length_map] at *; omega)⟩, ?_⟩ | refine ⟨⟨(by (try dsimp only at *); omega : _ ≤ _), (by (try dsimp only at *); omega : _ < _)⟩, ?_⟩ | refine ⟨_, ⟨by (try dsimp only at *); omega, getD_at _ (by (try dsimp only at *); (try simp only [List.length_map] at *); omega) (rfl), rfl⟩, ?_⟩ | refine ⟨_, ⟨by (try dsimp only at *); omega, getD_at _ (by (try dsimp only at *); (try simp only [List.length_map] at *); omega) (Cond.cells_eq _), rfl⟩, ?_⟩ | refine ⟨_, ⟨by (try dsimp only at *); omega, str_at (by (try dsimp only at *); (try simp only [List.length_map] at *); omega)⟩, ?_⟩ | refine ⟨(rfl : look _ _ = look _ _), ?_⟩ | fail) <;> ((conv => whnf); repeat' ((fail_if_success (refine J_at 20 ?_)); refine vcC_go tok { priv := [202] } rfl ?_; conv => whnf)))
          refine ⟨?_⟩
          repeat' (first | exact True.intro | exact rfl | refine And.intro ?_ ?_)
      · ((conv => whnf); repeat' ((fail_if_success (refine J_at 20 ?_)); refine vcC_go tok { priv := [202] } rfl ?_; conv => whnf))
        repeat' (first | (refine ⟨(rfl : look _ _ = look _ _), ?_⟩; ((conv => whnf); repeat' ((fail_if_success (refine J_at 20 ?_)); refine vcC_go tok { priv := [202] } rfl ?_; conv => whnf))) | fail)
        refine draw_rule tok (cf := { priv := [202] }) (by kernel_rfl) [.p 0, .p 1, .p 2, .p 3, .p 4, .p 5, .p 6, .p 8, .p 9, .p 10, .p 11, .p 12, .p 13, .p 14, .s 7 [0,6,2,5,1,3,4], .s 15 [14,9,13,8,12,10,11], .p 16, .s 17 [16]] (by kernel_rfl) ?_
        ((conv => whnf); repeat' ((fail_if_success (refine J_at 20 ?_)); refine vcC_go tok { priv := [202] } rfl ?_; conv => whnf))
        refine ⟨fun hu _ => ⟨hu.1, by simp only [List.length_map]; omega⟩, ?_⟩
        ((conv => whnf); repeat' ((fail_if_success (refine J_at 20 ?_)); refine vcC_go tok { priv := [202] } rfl ?_; conv => whnf))
        refine ⟨fun _ => ⟨by omega, by simp only [List.length_map]; omega, by simp only [List.length_map]; omega, hcp⟩, ?_⟩
        ((conv => whnf); repeat' ((fail_if_success (refine J_at 20 ?_)); refine vcC_go tok { priv := [202] } rfl ?_; conv => whnf))
        refine ⟨fun hu _ => ⟨hu.1, by simp only [List.length_map]; omega⟩, ?_⟩
        ((conv => whnf); repeat' ((fail_if_success (refine J_at 20 ?_)); refine vcC_go tok { priv := [202] } rfl ?_; conv => whnf))
        refine ⟨fun _ _ => ⟨by simp only [List.length_map]; omega, by simp only [List.length_map]; omega⟩, ?_⟩
        ((conv => whnf); repeat' ((fail_if_success (refine J_at 20 ?_)); refine vcC_go tok { priv := [202] } rfl ?_; conv => whnf))
        refine ⟨fun _ => ⟨by simp only [List.length_map]; omega, by simp only [List.length_map]; omega, by omega, hcp⟩, ?_⟩
        ((conv => whnf); repeat' ((fail_if_success (refine J_at 20 ?_)); refine vcC_go tok { priv := [202] } rfl ?_; conv => whnf))
        refine ⟨fun ds hds => hcp ds (List.mem_of_mem_take (List.mem_of_mem_drop hds)), ?_⟩
        ((conv => whnf); repeat' ((fail_if_success (refine J_at 20 ?_)); refine vcC_go tok { priv := [202] } rfl ?_; conv => whnf))
        refine ⟨⟨fun _ _ => ?_, fun ds hds => (by cases hds)⟩, ?_⟩
        · simp only [List.length_nil, List.length_take, List.length_drop, List.length_map]
          constructor <;> omega
        ((conv => whnf); repeat' ((fail_if_success (refine J_at 20 ?_)); refine vcC_go tok { priv := [202] } rfl ?_; conv => whnf))
        repeat' (first | (refine ⟨(rfl : look _ _ = look _ _), ?_⟩; ((conv => whnf); repeat' ((fail_if_success (refine J_at 20 ?_)); refine vcC_go tok { priv := [202] } rfl ?_; conv => whnf))) | fail)
        refine ⟨fun ds hds => hcp ds (List.mem_of_mem_take (List.mem_of_mem_drop hds)), ?_⟩
        ((conv => whnf); repeat' ((fail_if_success (refine J_at 20 ?_)); refine vcC_go tok { priv := [202] } rfl ?_; conv => whnf))
        repeat' (first | (refine ⟨(rfl : look _ _ = look _ _), ?_⟩; ((conv => whnf); repeat' ((fail_if_success (refine J_at 20 ?_)); refine vcC_go tok { priv := [202] } rfl ?_; conv => whnf))) | fail)
        refine ⟨fun _ _ => ?_, ?_⟩
        · simp only [List.length_nil, List.nil_append, List.length_append, List.length_take, List.length_drop, List.length_map]
          constructor <;> omega
        ((conv => whnf); repeat' ((fail_if_success (refine J_at 20 ?_)); refine vcC_go tok { priv := [202] } rfl ?_; conv => whnf))
        repeat' (first | (refine ⟨(rfl : look _ _ = look _ _), ?_⟩; ((conv => whnf); repeat' ((fail_if_success (refine J_at 20 ?_)); refine vcC_go tok { priv := [202] } rfl ?_; conv => whnf))) | fail)
        refine draw_rule tok (cf := { priv := [202] }) (by kernel_rfl) [.p 0, .p 1, .p 2, .p 4, .p 5, .p 6, .p 7, .p 8, .p 9, .p 10, .p 11, .s 3 [0,2,1], .s 12 [11,10,9,5,8,4,6,7], .p 13, .s 14 [13]] (by kernel_rfl) ?_
        ((conv => whnf); repeat' ((fail_if_success (refine J_at 20 ?_)); refine vcC_go tok { priv := [202] } rfl ?_; conv => whnf))
        refine ⟨fun hu _ => ⟨hu.1, by simp only [List.length_map]; omega⟩, ?_⟩
        ((conv => whnf); repeat' ((fail_if_success (refine J_at 20 ?_)); refine vcC_go tok { priv := [202] } rfl ?_; conv => whnf))
        repeat' (first | (refine ⟨(rfl : look _ _ = look _ _), ?_⟩; ((conv => whnf); repeat' ((fail_if_success (refine J_at 20 ?_)); refine vcC_go tok { priv := [202] } rfl ?_; conv => whnf))) | fail)
        refine ⟨_, ⟨by simp only [List.length_map]; omega, getD_rem Offence.cells hk hk2, rfl⟩, ?_⟩
        ((conv => whnf); repeat' ((fail_if_success (refine J_at 20 ?_)); refine vcC_go tok { priv := [202] } rfl ?_; conv => whnf))
        repeat' (first | (refine ⟨(rfl : look _ _ = look _ _), ?_⟩; ((conv => whnf); repeat' ((fail_if_success (refine J_at 20 ?_)); refine vcC_go tok { priv := [202] } rfl ?_; conv => whnf))) | fail)
        refine ⟨hcp, ?_⟩
        ((conv => whnf); repeat' ((fail_if_success (refine J_at 20 ?_)); refine vcC_go tok { priv := [202] } rfl ?_; conv => whnf))
        repeat' (first | (refine ⟨(rfl : look _ _ = look _ _), ?_⟩; ((conv => whnf); repeat' ((fail_if_success (refine J_at 20 ?_)); refine vcC_go tok { priv := [202] } rfl ?_; conv => whnf))) | fail)
        refine ⟨⟨fun _ _ => ?_, fun ds hds => (by cases hds)⟩, ?_⟩
        · simp only [List.length_nil, List.length_map]
          constructor <;> omega
        ((conv => whnf); repeat' ((fail_if_success (refine J_at 20 ?_)); refine vcC_go tok { priv := [202] } rfl ?_; conv => whnf))
        repeat' (first | (refine ⟨(rfl : look _ _ = look _ _), ?_⟩; ((conv => whnf); repeat' ((fail_if_success (refine J_at 20 ?_)); refine vcC_go tok { priv := [202] } rfl ?_; conv => whnf))) | fail)
        refine ⟨fun ds hds => (by simp only [List.mem_singleton] at hds; subst hds; rfl), ?_⟩
        ((conv => whnf); repeat' ((fail_if_success (refine J_at 20 ?_)); refine vcC_go tok { priv := [202] } rfl ?_; conv => whnf))
        repeat' (first | (refine ⟨(rfl : look _ _ = look _ _), ?_⟩; ((conv => whnf); repeat' ((fail_if_success (refine J_at 20 ?_)); refine vcC_go tok { priv := [202] } rfl ?_; conv => whnf))) | fail)
        refine ⟨fun _ _ => ?_, ?_⟩
        · simp only [List.nil_append, List.length_singleton, List.length_map]
          constructor <;> omega
        ((conv => whnf); repeat' ((fail_if_success (refine J_at 20 ?_)); refine vcC_go tok { priv := [202] } rfl ?_; conv => whnf))
        repeat' (first | (refine ⟨(rfl : look _ _ = look _ _), ?_⟩; ((conv => whnf); repeat' ((fail_if_success (refine J_at 20 ?_)); refine vcC_go tok { priv := [202] } rfl ?_; conv => whnf))) | fail)
        refine Meets.k (less_offences_meets c hc hz k ?_) ?_
        · simp only [cutL, List.map_append, List.map_take, List.map_drop, List.length_map, hk, List.nil_append, Int.toNat_natCast, Int.toNat_zero, List.drop_zero, List.take_length, toNat_succ, List.take_map_length]
        ((conv => whnf); repeat' ((fail_if_success (refine J_at 20 ?_)); refine vcC_go tok { priv := [202] } rfl ?_; conv => whnf))
        refine ⟨fun h2 => ?_, fun h2 => ?_⟩ <;> (try simp only [BB, List.length_map] at h2) <;> ((conv => whnf); repeat' ((fail_if_success (refine J_at 20 ?_)); refine vcC_go tok { priv := [202] } rfl ?_; conv => whnf))
        · exact absurd rfl h2
        refine ⟨fun h3 => ?_, fun h3 => ?_⟩ <;> (try simp only [BB, List.length_map] at h3) <;> ((conv => whnf); repeat' ((fail_if_success (refine J_at 20 ?_)); refine vcC_go tok { priv := [202] } rfl ?_; conv => whnf))
        · refine Meets.k (twice_offences_meets c hc hz hk2 (by omega) ?_) ?_
          · simp
          ((conv => whnf); repeat' ((fail_if_success (refine J_at 20 ?_)); refine vcC_go tok { priv := [202] } rfl ?_; conv => whnf))
          repeat' ((first | (intro hlq; (try simp only [List.length_map, maxLen] at hlq)) | ((refine ⟨fun (hb : _ = true) => ?_, fun (hb : _ = false) => ?_⟩) <;> (try simp only [BB, List.length_map] at hb)) | refine ⟨fun h1 h2 => ⟨by have := h1.1; have := h1.2; have := h2.1; have := h2.2; (try dsimp only at *); first | omega | (simp only [List.length_map] at *; omega), by have := h1.1; have := h1.2; have := h2.1; have := h2.2; (try dsimp only at *); first | omega | (simp only [List.length_map] at *; omega)⟩, ?_⟩ | refine ⟨⟨(by (try dsimp only at *); omega : _ ≤ _), (by (try dsimp only at *); omega : _ < _)⟩, ?_⟩ | refine ⟨_, ⟨by (try dsimp only at *); omega, getD_at _ (by (try dsimp only at *); (try simp only [List.length_map] at *); omega) (rfl), rfl⟩, ?_⟩ | refine ⟨_, ⟨by (try dsimp only at *); omega, getD_at _ (by (try dsimp only at *); (try simp only [List.length_map] at *); omega) (Cond.cells_eq _), rfl⟩, ?_⟩ | refine ⟨_, ⟨by (try dsimp only at *); omega, str_at (by (try dsimp only at *); (try simp only [List.length_map] at *); omega)⟩, ?_⟩ | refine ⟨(rfl : look _ _ = look _ _), ?_⟩ | fail) <;> ((conv => whnf); repeat' ((fail_if_success (refine J_at 20 ?_)); refine vcC_go tok { priv := [202] } rfl ?_; conv => whnf)))
          all_goals first
            | (exfalso; contradiction)
            | (exfalso; revert hb; decide)
            | skip
          refine ⟨?_⟩
          repeat' (first | exact True.intro | exact rfl | refine And.intro ?_ ?_)
        · repeat' ((first | (intro hlq; (try simp only [List.length_map, maxLen] at hlq)) | ((refine ⟨fun (hb : _ = true) => ?_, fun (hb : _ = false) => ?_⟩) <;> (try simp only [BB, List.length_map] at hb)) | refine ⟨fun h1 h2 => ⟨by have := h1.1; have := h1.2; have := h2.1; have := h2.2; (try dsimp only at *); first | omega | (simp only [List.length_map] at *; omega), by have := h1.1; have := h1.2; have := h2.1; have := h2.2; (try dsimp only at *); first | omega | (simp only [List.length_map] at *; omega)⟩, ?_⟩ | refine ⟨⟨(by (try dsimp only at *); omega : _ ≤ _), (by (try dsimp only at *); omega : _ < _)⟩, ?_⟩ | refine ⟨_, ⟨by (try dsimp only at *); omega, getD_at _ (by (try dsimp only at *); (try simp only [List.length_map] at *); omega) (rfl), rfl⟩, ?_⟩ | refine ⟨_, ⟨by (try dsimp only at *); omega, getD_at _ (by (try dsimp only at *); (try simp only [List.length_map] at *); omega) (Cond.cells_eq _), rfl⟩, ?_⟩ | refine ⟨_, ⟨by (try dsimp only at *); omega, str_at (by (try dsimp only at *); (try simp only [List.length_map] at *); omega)⟩, ?_⟩ | refine ⟨(rfl : look _ _ = look _ _), ?_⟩ | fail) <;> ((conv => whnf); repeat' ((fail_if_success (refine J_at 20 ?_)); refine vcC_go tok { priv := [202] } rfl ?_; conv => whnf)))
          refine ⟨?_⟩
          repeat' (first | exact True.intro | exact rfl | refine And.intro ?_ ?_)
    · refine ⟨?_⟩
      repeat' (first | exact True.intro | exact rfl | refine And.intro ?_ ?_)
  ((conv => whnf); repeat' ((fail_if_success (refine J_at 20 ?_)); refine vcC_go tok { priv := [202] } rfl ?_; conv => whnf))
  intro hlq
  ((conv => whnf); repeat' ((fail_if_success (refine J_at 20 ?_)); refine vcC_go tok { priv := [202] } rfl ?_; conv => whnf))
  refine ⟨fun _ => ⟨by omega, by simp only [List.length_map]; omega⟩, ?_⟩
  ((conv => whnf); repeat' ((fail_if_success (refine J_at 20 ?_)); refine vcC_go tok { priv := [202] } rfl ?_; conv => whnf))
  refine cut_post tok { priv := [202] } [] ?_
  conv => whnf
  refine And.intro ?_ ?_
  · ((conv => whnf); repeat' (refine vcC_go tok { priv := [202] } rfl ?_; conv => whnf))
    refine ⟨fun h1 => ?_, fun h1 => ?_⟩ <;> (try simp only [BB, List.length_map] at h1) <;> ((conv => whnf); repeat' (refine vcC_go tok { priv := [202] } rfl ?_; conv => whnf))
    · have hpos : 0 < c.waves.length := by omega
      have hcp : ∀ ds ∈ c.waves.map Wave.cells, ds.length = 2 := fun ds hds => by obtain ⟨s, _, rfl⟩ := List.mem_map.1 hds; rfl
      obtain ⟨k, hk⟩ : ∃ k : Nat, n % (c.waves.length : Int) = (k : Int) := ⟨(n % (c.waves.length : Int)).toNat, (Int.toNat_of_nonneg (Int.emod_nonneg _ (by omega))).symm⟩
      have hm1 : 0 ≤ n % (c.waves.length : Int) := Int.emod_nonneg _ (by omega)
      have hm2 : n % (c.waves.length : Int) < c.waves.length := Int.emod_lt_of_pos _ (by omega)
      have hk2 : k < c.waves.length := by omega
      refine draw_rule2 (cf := { priv := [202] }) tok (by kernel_rfl) [0, 1] [(2, [], [.s 3 [], .s 4 [0], .s 5 [1]]), (3, [], [.s 2 [], .s 4 [0], .s 5 [1]])] (by kernel_rfl) ?_
      conv => whnf
      refine And.intro ?_ (And.intro ?_ True.intro)
      · ((conv => whnf); repeat' (refine vcC_go tok { priv := [202] } rfl ?_; conv => whnf))
        repeat' (first | (refine ⟨(rfl : look _ _ = look _ _), ?_⟩; ((conv => whnf); repeat' (refine vcC_go tok { priv := [202] } rfl ?_; conv => whnf))) | fail)
        refine draw_rule tok (cf := { priv := [202] }) (by kernel_rfl) [.p 0, .p 1, .p 2, .p 3, .p 4, .p 5, .p 6, .p 8, .p 9, .p 10, .p 11, .p 12, .p 13, .p 14, .s 7 [0,6,2,5,1,3,4], .s 15 [14,9,13,8,12,10,11], .p 16, .s 17 [16]] (by kernel_rfl) ?_
        ((conv => whnf); repeat' (refine vcC_go tok { priv := [202] } rfl ?_; conv => whnf))
        refine ⟨fun hu _ => ⟨hu.1, by simp only [List.length_map]; omega⟩, ?_⟩
        ((conv => whnf); repeat' (refine vcC_go tok { priv := [202] } rfl ?_; conv => whnf))
        refine ⟨fun _ => ⟨by omega, by simp only [List.length_map]; omega, by simp only [List.length_map]; omega, hcp⟩, ?_⟩
        ((conv => whnf); repeat' (refine vcC_go tok { priv := [202] } rfl ?_; conv => whnf))
        refine ⟨fun hu _ => ⟨hu.1, by simp only [List.length_map]; omega⟩, ?_⟩
        ((conv => whnf); repeat' (refine vcC_go tok { priv := [202] } rfl ?_; conv => whnf))
        refine ⟨fun _ _ => ⟨by simp only [List.length_map]; omega, by simp only [List.length_map]; omega⟩, ?_⟩
        ((conv => whnf); repeat' (refine vcC_go tok { priv := [202] } rfl ?_; conv => whnf))
        refine ⟨fun _ => ⟨by simp only [List.length_map]; omega, by simp only [List.length_map]; omega, by omega, hcp⟩, ?_⟩
        ((conv => whnf); repeat' (refine vcC_go tok { priv := [202] } rfl ?_; conv => whnf))
        refine ⟨fun ds hds => hcp ds (List.mem_of_mem_take (List.mem_of_mem_drop hds)), ?_⟩
        ((conv => whnf); repeat' (refine vcC_go tok { priv := [202] } rfl ?_; conv => whnf))
        refine ⟨⟨fun _ _ => ?_, fun ds hds => (by cases hds)⟩, ?_⟩
        · simp only [List.length_nil, List.length_take, List.length_drop, List.length_map]
          constructor <;> omega
        ((conv => whnf); repeat' (refine vcC_go tok { priv := [202] } rfl ?_; conv => whnf))
        repeat' (first | (refine ⟨(rfl : look _ _ = look _ _), ?_⟩; ((conv => whnf); repeat' (refine vcC_go tok { priv := [202] } rfl ?_; conv => whnf))) | fail)
        refine ⟨fun ds hds => hcp ds (List.mem_of_mem_take (List.mem_of_mem_drop hds)), ?_⟩
        ((conv => whnf); repeat' (refine vcC_go tok { priv := [202] } rfl ?_; conv => whnf))
        repeat' (first | (refine ⟨(rfl : look _ _ = look _ _), ?_⟩; ((conv => whnf); repeat' (refine vcC_go tok { priv := [202] } rfl ?_; conv => whnf))) | fail)
        refine ⟨fun _ _ => ?_, ?_⟩
        · simp only [List.length_nil, List.nil_append, List.length_append, List.length_take, List.length_drop, List.length_map]
          constructor <;> omega
        ((conv => whnf); repeat' (refine vcC_go tok { priv := [202] } rfl ?_; conv => whnf))
        repeat' (first | (refine ⟨(rfl : look _ _ = look _ _), ?_⟩; ((conv => whnf); repeat' (refine vcC_go tok { priv := [202] } rfl ?_; conv => whnf))) | fail)
        refine draw_rule tok (cf := { priv := [202] }) (by kernel_rfl) [.p 0, .p 1, .p 2, .p 4, .p 5, .p 6, .p 7, .p 8, .p 9, .p 10, .p 11, .s 3 [0,2,1], .s 12 [11,10,9,5,8,4,6,7], .p 13, .s 14 [13]] (by kernel_rfl) ?_
        ((conv => whnf); repeat' (refine vcC_go tok { priv := [202] } rfl ?_; conv => whnf))
        refine ⟨fun hu _ => ⟨hu.1, by simp only [List.length_map]; omega⟩, ?_⟩
        ((conv => whnf); repeat' (refine vcC_go tok { priv := [202] } rfl ?_; conv => whnf))
        repeat' (first | (refine ⟨(rfl : look _ _ = look _ _), ?_⟩; ((conv => whnf); repeat' (refine vcC_go tok { priv := [202] } rfl ?_; conv => whnf))) | fail)
        refine ⟨_, ⟨by simp only [List.length_map]; omega, getD_rem Wave.cells hk hk2, rfl⟩, ?_⟩
        ((conv => whnf); repeat' (refine vcC_go tok { priv := [202] } rfl ?_; conv => whnf))
        repeat' (first | (refine ⟨(rfl : look _ _ = look _ _), ?_⟩; ((conv => whnf); repeat' (refine vcC_go tok { priv := [202] } rfl ?_; conv => whnf))) | fail)
        refine ⟨hcp, ?_⟩
        ((conv => whnf); repeat' (refine vcC_go tok { priv := [202] } rfl ?_; conv => whnf))
        repeat' (first | (refine ⟨(rfl : look _ _ = look _ _), ?_⟩; ((conv => whnf); repeat' (refine vcC_go tok { priv := [202] } rfl ?_; conv => whnf))) | fail)
        refine ⟨⟨fun _ _ => ?_, fun ds hds => (by cases hds)⟩, ?_⟩
        · simp only [List.length_nil, List.length_map]
          constructor <;> omega
        ((conv => whnf); repeat' (refine vcC_go tok { priv := [202] } rfl ?_; conv => whnf))
        repeat' (first | (refine ⟨(rfl : look _ _ = look _ _), ?_⟩; ((conv => whnf); repeat' (refine vcC_go tok { priv := [202] } rfl ?_; conv => whnf))) | fail)
        refine ⟨fun ds hds => (by simp only [List.mem_singleton] at hds; subst hds; rfl), ?_⟩
        ((conv => whnf); repeat' (refine vcC_go tok { priv := [202] } rfl ?_; conv => whnf))
        repeat' (first | (refine ⟨(rfl : look _ _ = look _ _), ?_⟩; ((conv => whnf); repeat' (refine vcC_go tok { priv := [202] } rfl ?_; conv => whnf))) | fail)
        refine ⟨fun _ _ => ?_, ?_⟩
        · simp only [List.nil_append, List.length_singleton, List.length_map]
          constructor <;> omega
        ((conv => whnf); repeat' (refine vcC_go tok { priv := [202] } rfl ?_; conv => whnf))
        repeat' (first | (refine ⟨(rfl : look _ _ = look _ _), ?_⟩; ((conv => whnf); repeat' (refine vcC_go tok { priv := [202] } rfl ?_; conv => whnf))) | fail)
        refine Meets.k (less_waves_meets c hc hz k ?_) ?_
        · simp only [cutL, List.map_append, List.map_take, List.map_drop, List.length_map, hk, List.nil_append, Int.toNat_natCast, Int.toNat_zero, List.drop_zero, List.take_length, toNat_succ, List.take_map_length]
        ((conv => whnf); repeat' (refine vcC_go tok { priv := [202] } rfl ?_; conv => whnf))
        refine ⟨fun h2 => ?_, fun h2 => ?_⟩ <;> (try simp only [BB, List.length_map] at h2) <;> ((conv => whnf); repeat' (refine vcC_go tok { priv := [202] } rfl ?_; conv => whnf))
        · exact absurd rfl h2
        refine ⟨fun h3 => ?_, fun h3 => ?_⟩ <;> (try simp only [BB, List.length_map] at h3) <;> ((conv => whnf); repeat' (refine vcC_go tok { priv := [202] } rfl ?_; conv => whnf))
        · refine Meets.k (twice_waves_meets c hc hz hk2 (by omega) ?_) ?_
          · simp
          ((conv => whnf); repeat' (refine vcC_go tok { priv := [202] } rfl ?_; conv => whnf))
          repeat' ((first | (intro hlq; (try simp only [List.length_map, maxLen] at hlq)) | ((refine ⟨fun (hb : _ = true) => ?_, fun (hb : _ = false) => ?_⟩) <;> (try simp only [BB, List.length_map] at hb)) | refine ⟨fun h1 h2 => ⟨by have := h1.1; have := h1.2; have := h2.1; have := h2.2; (try dsimp only at *); first | omega | (simp only [List.length_map] at *; omega), by have := h1.1; have := h1.2; have := h2.1; have := h2.2; (try dsimp only at *); first | omega | (simp only [List.length_map] at *; omega)⟩, ?_⟩ | refine ⟨⟨(by (try dsimp only at *); omega : _ ≤ _), (by (try dsimp only at *); omega : _ < _)⟩, ?_⟩ | refine ⟨_, ⟨by (try dsimp only at *); omega, getD_at _ (by (try dsimp only at *); (try simp only [List.length_map] at *); omega) (rfl), rfl⟩, ?_⟩ | refine ⟨_, ⟨by (try dsimp only at *); omega, getD_at _ (by (try dsimp only at *); (try simp only [List.length_map] at *); omega) (Cond.cells_eq _), rfl⟩, ?_⟩ | refine ⟨_, ⟨by (try dsimp only at *); omega, str_at (by (try dsimp only at *); (try simp only [List.length_map] at *); omega)⟩, ?_⟩ | refine ⟨(rfl : look _ _ = look _ _), ?_⟩ | fail) <;> ((conv => whnf); repeat' (refine vcC_go tok { priv := [202] } rfl ?_; conv => whnf)))
          all_goals first
            | (exfalso; contradiction)
            | (exfalso; revert hb; decide)
            | skip
          refine ⟨?_⟩
          repeat' (first | exact True.intro | exact rfl | refine And.intro ?_ ?_)
        · repeat' ((first | (intro hlq; (try simp only [List.length_map, maxLen] at hlq)) | ((refine ⟨fun (hb : _ = true) => ?_, fun (hb : _ = false) => ?_⟩) <;> (try simp only [BB, List.length_map] at hb)) | refine ⟨fun h1 h2 => ⟨by have := h1.1; have := h1.2; have := h2.1; have := h2.2; (try dsimp only at *); first | omega | (simp only [List.length_map] at *; omega), by have := h1.1; have := h1.2; have := h2.1; have := h2.2; (try dsimp only at *); first | omega | (simp only [List.length_map] at *; omega)⟩, ?_⟩ | refine ⟨⟨(by (try dsimp only at *); omega : _ ≤ _), (by (try dsimp only at *); omega : _ < _)⟩, ?_⟩ | refine ⟨_, ⟨by (try dsimp only at *); omega, getD_at _ (by (try dsimp only at *); (try simp only [List.length_map] at *); omega) (rfl), rfl⟩, ?_⟩ | refine ⟨_, ⟨by (try dsimp only at *); omega, getD_at _ (by (try dsimp only at *); (try simp only [List.length_map] at *); omega) (Cond.cells_eq _), rfl⟩, ?_⟩ | refine ⟨_, ⟨by (try dsimp only at *); omega, str_at (by (try dsimp only at *); (try simp only [List.length_map] at *); omega)⟩, ?_⟩ | refine ⟨(rfl : look _ _ = look _ _), ?_⟩ | fail) <;> ((conv => whnf); repeat' (refine vcC_go tok { priv := [202] } rfl ?_; conv => whnf)))
          refine ⟨?_⟩
          repeat' (first | exact True.intro | exact rfl | refine And.intro ?_ ?_)
      · ((conv => whnf); repeat' (refine vcC_go tok { priv := [202] } rfl ?_; conv => whnf))
        repeat' (first | (refine ⟨(rfl : look _ _ = look _ _), ?_⟩; ((conv => whnf); repeat' (refine vcC_go tok { priv := [202] } rfl ?_; conv => whnf))) | fail)
        refine draw_rule tok (cf := { priv := [202] }) (by kernel_rfl) [.p 0, .p 1, .p 2, .p 3, .p 4, .p 5, .p 6, .p 8, .p 9, .p 10, .p 11, .p 12, .p 13, .p 14, .s 7 [0,6,2,5,1,3,4], .s 15 [14,9,13,8,12,10,11], .p 16, .s 17 [16]] (by kernel_rfl) ?_
        ((conv => whnf); repeat' (refine vcC_go tok { priv := [202] } rfl ?_; conv => whnf))
        refine ⟨fun hu _ => ⟨hu.1, by simp only [List.length_map]; omega⟩, ?_⟩
        ((conv => whnf); repeat' (refine vcC_go tok { priv := [202] } rfl ?_; conv => whnf))
        refine ⟨fun _ => ⟨by omega, by simp only [List.length_map]; omega, by simp only [List.length_map]; omega, hcp⟩, ?_⟩
        ((conv => whnf); repeat' (refine vcC_go tok { priv := [202] } rfl ?_; conv => whnf))
        refine ⟨fun hu _ => ⟨hu.1, by simp only [List.length_map]; omega⟩, ?_⟩
        ((conv => whnf); repeat' (refine vcC_go tok { priv := [202] } rfl ?_; conv => whnf))
        refine ⟨fun _ _ => ⟨by simp only [List.length_map]; omega, by simp only [List.length_map]; omega⟩, ?_⟩
        ((conv => whnf); repeat' (refine vcC_go tok { priv := [202] } rfl ?_; conv => whnf))
        refine ⟨fun _ => ⟨by simp only [List.length_map]; omega, by simp only [List.length_map]; omega, by omega, hcp⟩, ?_⟩
        ((conv => whnf); repeat' (refine vcC_go tok { priv := [202] } rfl ?_; conv => whnf))
        refine ⟨fun ds hds => hcp ds (List.mem_of_mem_take (List.mem_of_mem_drop hds)), ?_⟩
        ((conv => whnf); repeat' (refine vcC_go tok { priv := [202] } rfl ?_; conv => whnf))
        refine ⟨⟨fun _ _ => ?_, fun ds hds => (by cases hds)⟩, ?_⟩
        · simp only [List.length_nil, List.length_take, List.length_drop, List.length_map]
          constructor <;> omega
        ((conv => whnf); repeat' (refine vcC_go tok { priv := [202] } rfl ?_; conv => whnf))
        repeat' (first | (refine ⟨(rfl : look _ _ = look _ _), ?_⟩; ((conv => whnf); repeat' (refine vcC_go tok { priv := [202] } rfl ?_; conv => whnf))) | fail)
        refine ⟨fun ds hds => hcp ds (List.mem_of_mem_take (List.mem_of_mem_drop hds)), ?_⟩
        ((conv => whnf); repeat' (refine vcC_go tok { priv := [202] } rfl ?_; conv => whnf))
        repeat' (first | (refine ⟨(rfl : look _ _ = look _ _), ?_⟩; ((conv => whnf); repeat' (refine vcC_go tok { priv := [202] } rfl ?_; conv => whnf))) | fail)
        refine ⟨fun _ _ => ?_, ?_⟩
        · simp only [List.length_nil, List.nil_append, List.length_append, List.length_take, List.length_drop, List.length_map]
          constructor <;> omega
        ((conv => whnf); repeat' (refine vcC_go tok { priv := [202] } rfl ?_; conv => whnf))
        repeat' (first | (refine ⟨(rfl : look _ _ = look _ _), ?_⟩; ((conv => whnf); repeat' (refine vcC_go tok { priv := [202] } rfl ?_; conv => whnf))) | fail)
        refine draw_rule tok (cf := { priv := [202] }) (by kernel_rfl) [.p 0, .p 1, .p 2, .p 4, .p 5, .p 6, .p 7, .p 8, .p 9, .p 10, .p 11, .s 3 [0,2,1], .s 12 [11,10,9,5,8,4,6,7], .p 13, .s 14 [13]] (by kernel_rfl) ?_
        ((conv => whnf); repeat' (refine vcC_go tok { priv := [202] } rfl ?_; conv => whnf))
        refine ⟨fun hu _ => ⟨hu.1, by simp only [List.length_map]; omega⟩, ?_⟩
        ((conv => whnf); repeat' (refine vcC_go tok { priv := [202] } rfl ?_; conv => whnf))
        repeat' (first | (refine ⟨(rfl : look _ _ = look _ _), ?_⟩; ((conv => whnf); repeat' (refine vcC_go tok { priv := [202] } rfl ?_; conv => whnf))) | fail)
        refine ⟨_, ⟨by simp only [List.length_map]; omega, getD_rem Wave.cells hk hk2, rfl⟩, ?_⟩
        ((conv => whnf); repeat' (refine vcC_go tok { priv := [202] } rfl ?_; conv => whnf))
        repeat' (first | (refine ⟨(rfl : look _ _ = look _ _), ?_⟩; ((conv => whnf); repeat' (refine vcC_go tok { priv := [202] } rfl ?_; conv => whnf))) | fail)
        refine ⟨hcp, ?_⟩
        ((conv => whnf); repeat' (refine vcC_go tok { priv := [202] } rfl ?_; conv => whnf))
        repeat' (first | (refine ⟨(rfl : look _ _ = look _ _), ?_⟩; ((conv => whnf); repeat' (refine vcC_go tok { priv := [202] } rfl ?_; conv => whnf))) | fail)
        refine ⟨⟨fun _ _ => ?_, fun ds hds => (by cases hds)⟩, ?_⟩
        · simp only [List.length_nil, List.length_map]
          constructor <;> omega
        ((conv => whnf); repeat' (refine vcC_go tok { priv := [202] } rfl ?_; conv => whnf))
        repeat' (first | (refine ⟨(rfl : look _ _ = look _ _), ?_⟩; ((conv => whnf); repeat' (refine vcC_go tok { priv := [202] } rfl ?_; conv => whnf))) | fail)
        refine ⟨fun ds hds => (by simp only [List.mem_singleton] at hds; subst hds; rfl), ?_⟩
        ((conv => whnf); repeat' (refine vcC_go tok { priv := [202] } rfl ?_; conv => whnf))
        repeat' (first | (refine ⟨(rfl : look _ _ = look _ _), ?_⟩; ((conv => whnf); repeat' (refine vcC_go tok { priv := [202] } rfl ?_; conv => whnf))) | fail)
        refine ⟨fun _ _ => ?_, ?_⟩
        · simp only [List.nil_append, List.length_singleton, List.length_map]
          constructor <;> omega
        ((conv => whnf); repeat' (refine vcC_go tok { priv := [202] } rfl ?_; conv => whnf))
        repeat' (first | (refine ⟨(rfl : look _ _ = look _ _), ?_⟩; ((conv => whnf); repeat' (refine vcC_go tok { priv := [202] } rfl ?_; conv => whnf))) | fail)
        refine Meets.k (less_waves_meets c hc hz k ?_) ?_
        · simp only [cutL, List.map_append, List.map_take, List.map_drop, List.length_map, hk, List.nil_append, Int.toNat_natCast, Int.toNat_zero, List.drop_zero, List.take_length, toNat_succ, List.take_map_length]
        ((conv => whnf); repeat' (refine vcC_go tok { priv := [202] } rfl ?_; conv => whnf))
        refine ⟨fun h2 => ?_, fun h2 => ?_⟩ <;> (try simp only [BB, List.length_map] at h2) <;> ((conv => whnf); repeat' (refine vcC_go tok { priv := [202] } rfl ?_; conv => whnf))
        · exact absurd rfl h2
        refine ⟨fun h3 => ?_, fun h3 => ?_⟩ <;> (try simp only [BB, List.length_map] at h3) <;> ((conv => whnf); repeat' (refine vcC_go tok { priv := [202] } rfl ?_; conv => whnf))
        · refine Meets.k (twice_waves_meets c hc hz hk2 (by omega) ?_) ?_
          · simp
          ((conv => whnf); repeat' (refine vcC_go tok { priv := [202] } rfl ?_; conv => whnf))
          repeat' ((first | (intro hlq; (try simp only [List.length_map, maxLen] at hlq)) | ((refine ⟨fun (hb : _ = true) => ?_, fun (hb : _ = false) => ?_⟩) <;> (try simp only [BB, List.length_map] at hb)) | refine ⟨fun h1 h2 => ⟨by have := h1.1; have := h1.2; have := h2.1; have := h2.2; (try dsimp only at *); first | omega | (simp only [List.length_map] at *; omega), by have := h1.1; have := h1.2; have := h2.1; have := h2.2; (try dsimp only at *); first | omega | (simp only [List.length_map] at *; omega)⟩, ?_⟩ | refine ⟨⟨(by (try dsimp only at *); omega : _ ≤ _), (by (try dsimp only at *); omega : _ < _)⟩, ?_⟩ | refine ⟨_, ⟨by (try dsimp only at *); omega, getD_at _ (by (try dsimp only at *); (try simp only [List.length_map] at *); omega) (rfl), rfl⟩, ?_⟩ | refine ⟨_, ⟨by (try dsimp only at *); omega, getD_at _ (by (try dsimp only at *); (try simp only [List.length_map] at *); omega) (Cond.cells_eq _), rfl⟩, ?_⟩ | refine ⟨_, ⟨by (try dsimp only at *); omega, str_at (by (try dsimp only at *); (try simp only [List.length_map] at *); omega)⟩, ?_⟩ | refine ⟨(rfl : look _ _ = look _ _), ?_⟩ | fail) <;> ((conv => whnf); repeat' (refine vcC_go tok { priv := [202] } rfl ?_; conv => whnf)))
          all_goals first
            | (exfalso; contradiction)
            | (exfalso; revert hb; decide)
            | skip
          refine ⟨?_⟩
          repeat' (first | exact True.intro | exact rfl | refine And.intro ?_ ?_)
        · repeat' ((first | (intro hlq; (try simp only [List.length_map, maxLen] at hlq)) | ((refine ⟨fun (hb : _ = true) => ?_, fun (hb : _ = false) => ?_⟩) <;> (try simp only [BB, List.length_map] at hb)) | refine ⟨fun h1 h2 => ⟨by have := h1.1; have := h1.2; have := h2.1; have := h2.2; (try dsimp only at *); first | omega | (simp only [List.length_map] at *; omega), by have := h1.1; have := h1.2; have := h2.1; have := h2.2; (try dsimp only at *); first | omega | (simp only [List.length_map] at *; omega)⟩, ?_⟩ | refine ⟨⟨(by (try dsimp only at *); omega : _ ≤ _), (by (try dsimp only at *); omega : _ < _)⟩, ?_⟩ | refine ⟨_, ⟨by (try dsimp only at *); omega, getD_at _ (by (try dsimp only at *); (try simp only [List.length_map] at *); omega) (rfl), rfl⟩, ?_⟩ | refine ⟨_, ⟨by (try dsimp only at *); omega, getD_at _ (by (try dsimp only at *); (try simp only [List.length_map] at *); omega) (Cond.cells_eq _), rfl⟩, ?_⟩ | refine ⟨_, ⟨by (try dsimp only at *); omega, str_at (by (try dsimp only at *); (try simp only [List.length_map] at *); omega)⟩, ?_⟩ | refine ⟨(rfl : look _ _ = look _ _), ?_⟩ | fail) <;> ((conv => whnf); repeat' (refine vcC_go tok { priv := [202] } rfl ?_; conv => whnf)))
          refine ⟨?_⟩
          repeat' (first | exact True.intro | exact rfl | refine And.intro ?_ ?_)
    · refine ⟨?_⟩
      repeat' (first | exact True.intro | exact rfl | refine And.intro ?_ ?_)
  ((conv => whnf); repeat' (refine vcC_go tok { priv := [202] } rfl ?_; conv => whnf))
  have hld := hc.distances
  refine loop_upd tok { priv := [202] } [] (X := Nat) (fun i => [(14, iB i)]) (fun _ => []) [] (fun i => i ≤ c.distances.length) (fun i => c.distances.length - i) 0 ?_
  ((conv => whnf); repeat' (refine vcC_go tok { priv := [202] } rfl ?_; conv => whnf))
  refine And.intro ?_ ⟨by omega, fun i hi => ?_⟩
  · repeat' (first | exact True.intro | exact rfl | refine And.intro ?_ ?_)
  ((conv => whnf); repeat' (refine vcC_go tok { priv := [202] } rfl ?_; conv => whnf))
  repeat' ((first | (intro hlq; (try simp only [List.length_map, maxLen] at hlq)) | refine ⟨fun h1 h2 => ⟨by have := h1.1; have := h1.2; have := h2.1; have := h2.2; (try dsimp only at *); first | omega | (simp only [List.length_map] at *; omega), by have := h1.1; have := h1.2; have := h2.1; have := h2.2; (try dsimp only at *); first | omega | (simp only [List.length_map] at *; omega)⟩, ?_⟩ | refine ⟨⟨(by (try dsimp only at *); omega : _ ≤ _), (by (try dsimp only at *); omega : _ < _)⟩, ?_⟩ | refine ⟨_, ⟨by (try dsimp only at *); omega, getD_at _ (by (try dsimp only at *); (try simp only [List.length_map] at *); omega) (rfl), rfl⟩, ?_⟩ | refine ⟨_, ⟨by (try dsimp only at *); omega, getD_at _ (by (try dsimp only at *); (try simp only [List.length_map] at *); omega) (Cond.cells_eq _), rfl⟩, ?_⟩ | refine ⟨_, ⟨by (try dsimp only at *); omega, str_at (by (try dsimp only at *); (try simp only [List.length_map] at *); omega)⟩, ?_⟩ | refine ⟨(rfl : look _ _ = look _ _), ?_⟩ | fail) <;> ((conv => whnf); repeat' (refine vcC_go tok { priv := [202] } rfl ?_; conv => whnf)))
  refine ⟨fun h1 => ?_, fun h1 => ?_⟩ <;> (try simp only [BB, List.length_map] at h1) <;> ((conv => whnf); repeat' (refine vcC_go tok { priv := [202] } rfl ?_; conv => whnf))
  · have h1' : i < c.distances.length := by omega
    have hd := List.getElem_mem h1'
    have hcu := hc.cutoffs _ hd
    repeat' ((first | (intro hlq; (try simp only [List.length_map, maxLen] at hlq)) | refine ⟨fun h1 h2 => ⟨by have := h1.1; have := h1.2; have := h2.1; have := h2.2; (try dsimp only at *); first | omega | (simp only [List.length_map] at *; omega), by have := h1.1; have := h1.2; have := h2.1; have := h2.2; (try dsimp only at *); first | omega | (simp only [List.length_map] at *; omega)⟩, ?_⟩ | refine ⟨⟨(by (try dsimp only at *); omega : _ ≤ _), (by (try dsimp only at *); omega : _ < _)⟩, ?_⟩ | refine ⟨_, ⟨by (try dsimp only at *); omega, getD_at _ (by (try dsimp only at *); (try simp only [List.length_map] at *); omega) (rfl), rfl⟩, ?_⟩ | refine ⟨_, ⟨by (try dsimp only at *); omega, getD_at _ (by (try dsimp only at *); (try simp only [List.length_map] at *); omega) (Distance.cells_eq _), rfl⟩, ?_⟩ | refine ⟨_, ⟨by (try dsimp only at *); omega, str_at (by (try dsimp only at *); (try simp only [List.length_map] at *); omega)⟩, ?_⟩ | refine ⟨(rfl : look _ _ = look _ _), ?_⟩ | fail) <;> ((conv => whnf); repeat' (refine vcC_go tok { priv := [202] } rfl ?_; conv => whnf)))
    refine ⟨fun _ => ⟨by omega, by simp only [List.length_map]; omega⟩, ?_⟩
    ((conv => whnf); repeat' (refine vcC_go tok { priv := [202] } rfl ?_; conv => whnf))
    refine ⟨fun h2 => ?_, fun h2 => ?_⟩ <;> (try simp only [BB, List.length_map] at h2) <;> ((conv => whnf); repeat' (refine vcC_go tok { priv := [202] } rfl ?_; conv => whnf))
    · repeat' ((first | (intro hlq; (try simp only [List.length_map, maxLen] at hlq)) | refine ⟨fun h1 h2 => ⟨by have := h1.1; have := h1.2; have := h2.1; have := h2.2; (try dsimp only at *); first | omega | (simp only [List.length_map] at *; omega), by have := h1.1; have := h1.2; have := h2.1; have := h2.2; (try dsimp only at *); first | omega | (simp only [List.length_map] at *; omega)⟩, ?_⟩ | refine ⟨⟨(by (try dsimp only at *); omega : _ ≤ _), (by (try dsimp only at *); omega : _ < _)⟩, ?_⟩ | refine ⟨_, ⟨by (try dsimp only at *); omega, getD_at _ (by (try dsimp only at *); (try simp only [List.length_map] at *); omega) (rfl), rfl⟩, ?_⟩ | refine ⟨_, ⟨by (try dsimp only at *); omega, getD_at _ (by (try dsimp only at *); (try simp only [List.length_map] at *); omega) (Cond.cells_eq _), rfl⟩, ?_⟩ | refine ⟨_, ⟨by (try dsimp only at *); omega, str_at (by (try dsimp only at *); (try simp only [List.length_map] at *); omega)⟩, ?_⟩ | refine ⟨(rfl : look _ _ = look _ _), ?_⟩ | fail) <;> ((conv => whnf); repeat' (refine vcC_go tok { priv := [202] } rfl ?_; conv => whnf)))
      refine ⟨⟨i + 1, ?_, by omega, by omega⟩⟩
      repeat' (first | exact True.intro | exact rfl | refine And.intro ?_ ?_)
    have hpos : 0 < c.distances[i].cutoffs.length := by omega
    have hcd : ∀ ds ∈ c.distances.map Distance.cells, ds.length = 5 := fun ds hds => by obtain ⟨s, _, rfl⟩ := List.mem_map.1 hds; rfl
    have hcp : ∀ ds ∈ c.distances[i].cutoffs.map Cutoff.cells, ds.length = 3 := fun ds hds => by obtain ⟨s, _, rfl⟩ := List.mem_map.1 hds; rfl
    obtain ⟨k, hk⟩ : ∃ k : Nat, n % (c.distances[i].cutoffs.length : Int) = (k : Int) := ⟨(n % (c.distances[i].cutoffs.length : Int)).toNat, (Int.toNat_of_nonneg (Int.emod_nonneg _ (by omega))).symm⟩
    have hm1 : 0 ≤ n % (c.distances[i].cutoffs.length : Int) := Int.emod_nonneg _ (by omega)
    have hm2 : n % (c.distances[i].cutoffs.length : Int) < c.distances[i].cutoffs.length := Int.emod_lt_of_pos _ (by omega)
    have hk2 : k < c.distances[i].cutoffs.length := by omega
    refine ⟨hcd, ?_⟩
    ((conv => whnf); repeat' (refine vcC_go tok { priv := [202] } rfl ?_; conv => whnf))
    refine ⟨⟨fun _ _ => ?_, fun ds hds => (by cases hds)⟩, ?_⟩
    · simp only [List.length_nil, List.length_map]
      constructor <;> omega
    ((conv => whnf); repeat' (refine vcC_go tok { priv := [202] } rfl ?_; conv => whnf))
    refine ⟨fun e => (by have := congrArg List.length e; simp only [List.length_map, List.length_nil] at this; omega), ?_⟩
    ((conv => whnf); repeat' (refine vcC_go tok { priv := [202] } rfl ?_; conv => whnf))
    repeat' ((first | (intro hlq; (try simp only [List.length_map, maxLen] at hlq)) | refine ⟨fun h1 h2 => ⟨by have := h1.1; have := h1.2; have := h2.1; have := h2.2; (try dsimp only at *); first | omega | (simp only [List.length_map] at *; omega), by have := h1.1; have := h1.2; have := h2.1; have := h2.2; (try dsimp only at *); first | omega | (simp only [List.length_map] at *; omega)⟩, ?_⟩ | refine ⟨⟨(by (try dsimp only at *); omega : _ ≤ _), (by (try dsimp only at *); omega : _ < _)⟩, ?_⟩ | refine ⟨_, ⟨by (try dsimp only at *); omega, getD_at _ (by (try dsimp only at *); (try simp only [List.length_map] at *); omega) (rfl), rfl⟩, ?_⟩ | refine ⟨_, ⟨by (try dsimp only at *); omega, getD_at _ (by (try dsimp only at *); (try simp only [List.length_map] at *); omega) (Distance.cells_eq _), rfl⟩, ?_⟩ | refine ⟨_, ⟨by (try dsimp only at *); omega, str_at (by (try dsimp only at *); (try simp only [List.length_map] at *); omega)⟩, ?_⟩ | refine ⟨(rfl : look _ _ = look _ _), ?_⟩ | fail) <;> ((conv => whnf); repeat' (refine vcC_go tok { priv := [202] } rfl ?_; conv => whnf)))
    refine draw_rule tok (cf := { priv := [202] }) (by kernel_rfl) [.p 0, .p 1, .p 2, .p 3, .p 4, .p 5, .p 6, .p 7, .p 8, .p 10, .p 11, .p 12, .p 13, .p 14, .p 15, .s 9 [3,8,4,7,5,6], .s 16 [15,10,14,13,11,12], .p 17, .p 18, .s 19 [18,0,1,2,17]] (by kernel_rfl) ?_
    ((conv => whnf); repeat' (refine vcC_go tok { priv := [202] } rfl ?_; conv => whnf))
    repeat' (first | (refine ⟨(rfl : look _ _ = look _ _), ?_⟩; ((conv => whnf); repeat' (refine vcC_go tok { priv := [202] } rfl ?_; conv => whnf))) | fail)
    refine ⟨fun hu _ => ⟨hu.1, by simp only [List.length_map]; omega⟩, ?_⟩
    ((conv => whnf); repeat' (refine vcC_go tok { priv := [202] } rfl ?_; conv => whnf))
    refine ⟨fun _ => ⟨by omega, by simp only [List.length_map]; omega, by simp only [List.length_map]; omega, hcp⟩, ?_⟩
    ((conv => whnf); repeat' (refine vcC_go tok { priv := [202] } rfl ?_; conv => whnf))
    refine ⟨fun hu _ => ⟨hu.1, by simp only [List.length_map]; omega⟩, ?_⟩
    ((conv => whnf); repeat' (refine vcC_go tok { priv := [202] } rfl ?_; conv => whnf))
    refine ⟨fun _ _ => ⟨by simp only [List.length_map]; omega, by simp only [List.length_map]; omega⟩, ?_⟩
    ((conv => whnf); repeat' (refine vcC_go tok { priv := [202] } rfl ?_; conv => whnf))
    refine ⟨fun _ => ⟨by simp only [List.length_map]; omega, by simp only [List.length_map]; omega, by omega, hcp⟩, ?_⟩
    ((conv => whnf); repeat' (refine vcC_go tok { priv := [202] } rfl ?_; conv => whnf))
    refine ⟨fun ds hds => hcp ds (List.mem_of_mem_take (List.mem_of_mem_drop hds)), ?_⟩
    ((conv => whnf); repeat' (refine vcC_go tok { priv := [202] } rfl ?_; conv => whnf))
    refine ⟨⟨fun _ _ => ?_, fun ds hds => (by cases hds)⟩, ?_⟩
    · simp only [List.length_nil, List.length_take, List.length_drop, List.length_map]
      constructor <;> omega
    ((conv => whnf); repeat' (refine vcC_go tok { priv := [202] } rfl ?_; conv => whnf))
    repeat' (first | (refine ⟨(rfl : look _ _ = look _ _), ?_⟩; ((conv => whnf); repeat' (refine vcC_go tok { priv := [202] } rfl ?_; conv => whnf))) | fail)
    refine ⟨fun ds hds => hcp ds (List.mem_of_mem_take (List.mem_of_mem_drop hds)), ?_⟩
    ((conv => whnf); repeat' (refine vcC_go tok { priv := [202] } rfl ?_; conv => whnf))
    repeat' (first | (refine ⟨(rfl : look _ _ = look _ _), ?_⟩; ((conv => whnf); repeat' (refine vcC_go tok { priv := [202] } rfl ?_; conv => whnf))) | fail)
    refine ⟨fun _ _ => ?_, ?_⟩
    · simp only [List.length_nil, List.nil_append, List.length_append, List.length_take, List.length_drop, List.length_map]
      constructor <;> omega
    ((conv => whnf); repeat' (refine vcC_go tok { priv := [202] } rfl ?_; conv => whnf))
    repeat' (first | (refine ⟨(rfl : look _ _ = look _ _), ?_⟩; ((conv => whnf); repeat' (refine vcC_go tok { priv := [202] } rfl ?_; conv => whnf))) | fail)
    refine ⟨⟨by omega, by simp only [List.nil_append, List.length_map]; omega, rfl⟩, ?_⟩
    ((conv => whnf); repeat' (refine vcC_go tok { priv := [202] } rfl ?_; conv => whnf))
    repeat' (first | (refine ⟨(rfl : look _ _ = look _ _), ?_⟩; ((conv => whnf); repeat' (refine vcC_go tok { priv := [202] } rfl ?_; conv => whnf))) | fail)
    refine ⟨Distance.cells c.distances[i], ⟨by simp [List.getElem?_eq_getElem h1'], rfl, by simp⟩, ?_⟩
    ((conv => whnf); repeat' ((fail_if_success (refine J_at 35 ?_)); (fail_if_success (refine J_at2 35 ?_)); refine vcC_go tok { priv := [202] } rfl ?_; conv => whnf))
    repeat' (first | (refine ⟨(rfl : look _ _ = look _ _), ?_⟩; ((conv => whnf); repeat' ((fail_if_success (refine J_at 35 ?_)); (fail_if_success (refine J_at2 35 ?_)); refine vcC_go tok { priv := [202] } rfl ?_; conv => whnf))) | fail)
    refine J_frz [202] ?_
    ((conv => whnf); repeat' (refine vcC_go tok { priv := [202] } rfl ?_; conv => whnf))
    refine Meets.k (less_cutoffs_meets c hc hz i k (h := ?_)) ?_
    · refine Eq.trans ?_ (cutD_cells h1' k).symm
      refine Eq.trans (b := (c.distances.map Distance.cells).set i [.str c.distances[i].name, .sl (c.distances[i].route.map Part.cells), iD c.distances[i].timing, .sl (([] ++ List.drop (Int.toNat 0) (List.take (n % ((c.distances[i].cutoffs.map Cutoff.cells).length : Int)).toNat (c.distances[i].cutoffs.map Cutoff.cells))) ++ List.drop (n % ((c.distances[i].cutoffs.map Cutoff.cells).length : Int) + 1).toNat (List.take (((c.distances[i].cutoffs.map Cutoff.cells).length : Int)).toNat (c.distances[i].cutoffs.map Cutoff.cells))), iD c.distances[i].extra]) rfl ?_
      have hz : (([] ++ List.drop (Int.toNat 0) (List.take (n % ((c.distances[i].cutoffs.map Cutoff.cells).length : Int)).toNat (c.distances[i].cutoffs.map Cutoff.cells))) ++ List.drop (n % ((c.distances[i].cutoffs.map Cutoff.cells).length : Int) + 1).toNat (List.take (((c.distances[i].cutoffs.map Cutoff.cells).length : Int)).toNat (c.distances[i].cutoffs.map Cutoff.cells))) = (cutL k c.distances[i].cutoffs).map Cutoff.cells := by
        simp only [cutL, List.map_append, List.map_take, List.map_drop, List.length_map, hk, List.nil_append, Int.toNat_natCast, Int.toNat_zero, List.drop_zero, List.take_length, toNat_succ, List.take_map_length]
      rw [hz]
    ((conv => whnf); repeat' (refine vcC_go tok { priv := [202] } rfl ?_; conv => whnf))
    refine ⟨fun h3 => ?_, fun h3 => ?_⟩ <;> (try simp only [BB, List.length_map] at h3) <;> ((conv => whnf); repeat' (refine vcC_go tok { priv := [202] } rfl ?_; conv => whnf))
    · exact absurd rfl h3
    repeat' ((first | (intro hlq; (try simp only [List.length_map, maxLen] at hlq)) | refine ⟨fun h1 h2 => ⟨by have := h1.1; have := h1.2; have := h2.1; have := h2.2; (try dsimp only at *); first | omega | (simp only [List.length_map] at *; omega), by have := h1.1; have := h1.2; have := h2.1; have := h2.2; (try dsimp only at *); first | omega | (simp only [List.length_map] at *; omega)⟩, ?_⟩ | refine ⟨⟨(by (try dsimp only at *); omega : _ ≤ _), (by (try dsimp only at *); omega : _ < _)⟩, ?_⟩ | refine ⟨_, ⟨by (try dsimp only at *); omega, getD_at _ (by (try dsimp only at *); (try simp only [List.length_map] at *); omega) (rfl), rfl⟩, ?_⟩ | refine ⟨_, ⟨by (try dsimp only at *); omega, getD_at _ (by (try dsimp only at *); (try simp only [List.length_map] at *); omega) (Cond.cells_eq _), rfl⟩, ?_⟩ | refine ⟨_, ⟨by (try dsimp only at *); omega, str_at (by (try dsimp only at *); (try simp only [List.length_map] at *); omega)⟩, ?_⟩ | refine ⟨(rfl : look _ _ = look _ _), ?_⟩ | fail) <;> ((conv => whnf); repeat' (refine vcC_go tok { priv := [202] } rfl ?_; conv => whnf)))
    refine ⟨⟨i + 1, ?_, by omega, by omega⟩⟩
    repeat' (first | exact True.intro | exact rfl | refine And.intro ?_ ?_)
  · exact ⟨rfl⟩
end Go.Proofs.YtiejhmfeppflaaaGreat.Dx
