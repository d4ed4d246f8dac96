/- Course, in the code and in the reference. -/
import Derived.Test.YtiejhmfeppflaaaGreatNa
namespace Go.Proofs.YtiejhmfeppflaaaGreat.Dx
open Go Go.RowKit
set_option linter.all false
set_option maxRecDepth 100000
set_option maxHeartbeats 16000000

def courseE (c : Course) : Int := if c.fits = false then 2 else if c.named = false then 70 else if c.nums = false then 71 else if tiesE c.ties = 0 then (if c.distances.all (routeOk c) then 0 else 72) else tiesE c.ties

theorem course1_meets (c : Course) (d : Distance) (hc : c.small) (hn : NumsOk c) (hd : d ∈ c.distances) : Meets Tryz.prog 41 [d.d, .ptr c.cells 0, .ptr [.mp c.legMap] 0] fun r => r = bD (routeOk c d) := by
  refine enter tok {} Tryz.func41 rfl (by kernel_rfl) Tryz.ntmps41 (by simp) fun B0 W0 V0 lent g0 => ?_
  ((conv => whnf); repeat' (refine vcC_go tok {} rfl ?_; conv => whnf))
  refine Meets.k (isRoute_meets c d hc hn hd) ?_
  ((conv => whnf); repeat' (refine vcC_go tok {} rfl ?_; conv => whnf))
  exact ⟨rfl⟩

theorem Course_meets (c : Course) (hc : c.small) : Meets Tryz.prog 12 [c.d] fun r => r = iD (courseE c) := by
  refine enter tok {} Tryz.func12 rfl (by kernel_rfl) Tryz.ntmps12 (by simp) fun B0 W0 V0 lent g0 => ?_
  ((conv => whnf); repeat' (refine vcC_go tok {} rfl ?_; conv => whnf))
  repeat' ((first | (intro hlq; (try simp only [List.length_map, maxLen] at hlq)) | refine Meets.k (fits_meets c hc.route) ?_ | refine Meets.k (names_meets c hc) ?_ | refine Meets.k (numbers_meets c hc) ?_ | refine Meets.k (tTies c.ties hc.ties.1 hc.ties.2) ?_ | ((refine ⟨fun (hb : _ = true) => ?_, fun (hb : _ = false) => ?_⟩) <;> (try simp only [BB, List.length_map] at hb)) | refine ⟨fun h1 h2 => ⟨by have := h1.1; have := h1.2; have := h2.1; have := h2.2; (try dsimp only at *); first | omega | (simp only [List.length_map] at *; omega), by have := h1.1; have := h1.2; have := h2.1; have := h2.2; (try dsimp only at *); first | omega | (simp only [List.length_map] at *; omega)⟩, ?_⟩ | refine ⟨⟨(by (try dsimp only at *); omega : _ ≤ _), (by (try dsimp only at *); omega : _ < _)⟩, ?_⟩ | refine ⟨_, ⟨by (try dsimp only at *); omega, getD_at _ (by (try dsimp only at *); (try simp only [List.length_map] at *); omega) (rfl), rfl⟩, ?_⟩ | refine ⟨_, ⟨by (try dsimp only at *); omega, getD_at _ (by (try dsimp only at *); (try simp only [List.length_map] at *); omega) (Cond.cells_eq _), rfl⟩, ?_⟩ | refine ⟨_, ⟨by (try dsimp only at *); omega, str_at (by (try dsimp only at *); (try simp only [List.length_map] at *); omega)⟩, ?_⟩ | refine ⟨(rfl : look _ _ = look _ _), ?_⟩ | fail) <;> ((conv => whnf); repeat' (refine vcC_go tok {} rfl ?_; conv => whnf)))
  · exact ⟨congrArg iD (by rw [courseE, if_pos (by assumption)])⟩
  · exact ⟨congrArg iD (by rw [courseE, if_neg (by simp [*]), if_pos (by assumption)])⟩
  · exact ⟨congrArg iD (by rw [courseE, if_neg (by simp [*]), if_neg (by simp [*]), if_pos (by assumption)])⟩
  · exact ⟨congrArg iD (by rw [courseE, if_neg (by simp [*]), if_neg (by simp [*]), if_neg (by simp [*]), if_neg (by assumption)])⟩
  have hE : courseE c = if c.distances.all (routeOk c) then 0 else 72 := by
    rw [courseE, if_neg (by simp [*]), if_neg (by simp [*]), if_neg (by simp [*]), if_pos (by simpa using (by assumption : ¬ tiesE c.ties ≠ 0))]
  have hn : NumsOk c := (nums_iff c).1 (by assumption)
  have hll := hc.legs
  have hkey : ∀ x ∈ c.legs.map Leg.key, KInts 2 x := by
    intro k hk
    obtain ⟨x, _, rfl⟩ := List.mem_map.1 hk
    exact ⟨[x.src, x.dst], rfl, rfl⟩
  refine loop_upd tok {} [] (X := Nat) (fun i => [(28, iB i)]) (fun i => [(24, .mp (kmap ((c.legs.map Leg.key).take i)))]) [5] (fun i => i ≤ c.legs.length) (fun i => c.legs.length - i) 0 ?_
  ((conv => whnf); repeat' (refine vcC_go tok {} rfl ?_; conv => whnf))
  refine And.intro ?_ ⟨by omega, fun i hi => ?_⟩
  · repeat' (first | exact True.intro | exact rfl | refine And.intro ?_ ?_)
  ((conv => whnf); repeat' (refine vcC_go tok {} rfl ?_; conv => whnf))
  refine ⟨fun h1 => ?_, fun h1 => ?_⟩ <;> (try simp only [BB, List.length_map] at h1) <;> ((conv => whnf); repeat' (refine vcC_go tok {} rfl ?_; conv => whnf))
  · have h1' : i < c.legs.length := by omega
    repeat' ((first | (intro hlq; (try simp only [List.length_map, maxLen] at hlq)) | refine ⟨fun h1 h2 => ⟨by have := h1.1; have := h1.2; have := h2.1; have := h2.2; (try dsimp only at *); first | omega | (simp only [List.length_map] at *; omega), by have := h1.1; have := h1.2; have := h2.1; have := h2.2; (try dsimp only at *); first | omega | (simp only [List.length_map] at *; omega)⟩, ?_⟩ | refine ⟨⟨(by (try dsimp only at *); omega : _ ≤ _), (by (try dsimp only at *); omega : _ < _)⟩, ?_⟩ | refine ⟨_, ⟨by (try dsimp only at *); omega, getD_at _ (by (try dsimp only at *); (try simp only [List.length_map] at *); omega) (rfl), rfl⟩, ?_⟩ | refine ⟨_, ⟨by (try dsimp only at *); omega, getD_at _ (by (try dsimp only at *); (try simp only [List.length_map] at *); omega) (Leg.cells_eq _), rfl⟩, ?_⟩ | refine ⟨_, ⟨by (try dsimp only at *); omega, str_at (by (try dsimp only at *); (try simp only [List.length_map] at *); omega)⟩, ?_⟩ | refine ⟨(rfl : look _ _ = look _ _), ?_⟩ | fail) <;> ((conv => whnf); repeat' (refine vcC_go tok {} rfl ?_; conv => whnf)))
    refine ⟨⟨hkey c.legs[i].key (List.mem_map.2 ⟨_, List.getElem_mem h1', rfl⟩), kmap_keyed fun k hk => hkey k (List.mem_of_mem_take hk)⟩, ?_⟩
    rw [show mput (kmap (List.take i (List.map Leg.key c.legs))) c.legs[i].key (bD true) = kmap (List.take (i + 1) (List.map Leg.key c.legs)) from by
      rw [List.take_succ_eq_append_getElem (by simpa using h1'), kmap_snoc, List.getElem_map]]
    ((conv => whnf); repeat' (refine vcC_go tok {} rfl ?_; conv => whnf))
    repeat' ((first | (intro hlq; (try simp only [List.length_map, maxLen] at hlq)) | refine ⟨fun h1 h2 => ⟨by have := h1.1; have := h1.2; have := h2.1; have := h2.2; (try dsimp only at *); first | omega | (simp only [List.length_map] at *; omega), by have := h1.1; have := h1.2; have := h2.1; have := h2.2; (try dsimp only at *); first | omega | (simp only [List.length_map] at *; omega)⟩, ?_⟩ | refine ⟨⟨(by (try dsimp only at *); omega : _ ≤ _), (by (try dsimp only at *); omega : _ < _)⟩, ?_⟩ | refine ⟨_, ⟨by (try dsimp only at *); omega, getD_at _ (by (try dsimp only at *); (try simp only [List.length_map] at *); omega) (rfl), rfl⟩, ?_⟩ | refine ⟨_, ⟨by (try dsimp only at *); omega, getD_at _ (by (try dsimp only at *); (try simp only [List.length_map] at *); omega) (Cond.cells_eq _), rfl⟩, ?_⟩ | refine ⟨_, ⟨by (try dsimp only at *); omega, str_at (by (try dsimp only at *); (try simp only [List.length_map] at *); omega)⟩, ?_⟩ | refine ⟨(rfl : look _ _ = look _ _), ?_⟩ | fail) <;> ((conv => whnf); repeat' (refine vcC_go tok {} rfl ?_; conv => whnf)))
    refine ⟨⟨i + 1, ?_, by omega, by omega⟩⟩
    repeat' (first | exact True.intro | exact rfl | refine And.intro ?_ ?_)
  have e : (c.legs.map Leg.key).take i = c.legs.map Leg.key := List.take_of_length_le (by simp; omega)
  rw [e]
  refine Meets.k (all_dist c.distances 41 [] [.ptr c.cells 0, .ptr [.mp c.legMap] 0] (routeOk c) fun x hx => course1_meets c x hc hn hx) ?_
  ((conv => whnf); repeat' (refine vcC_go tok {} rfl ?_; conv => whnf))
  rw [hE]
  repeat' ((first | (intro hlq; (try simp only [List.length_map, maxLen] at hlq)) | ((refine ⟨fun (hb : _ = true) => ?_, fun (hb : _ = false) => ?_⟩) <;> (try simp only [BB, List.length_map] at hb)) | refine ⟨fun h1 h2 => ⟨by have := h1.1; have := h1.2; have := h2.1; have := h2.2; (try dsimp only at *); first | omega | (simp only [List.length_map] at *; omega), by have := h1.1; have := h1.2; have := h2.1; have := h2.2; (try dsimp only at *); first | omega | (simp only [List.length_map] at *; omega)⟩, ?_⟩ | refine ⟨⟨(by (try dsimp only at *); omega : _ ≤ _), (by (try dsimp only at *); omega : _ < _)⟩, ?_⟩ | refine ⟨_, ⟨by (try dsimp only at *); omega, getD_at _ (by (try dsimp only at *); (try simp only [List.length_map] at *); omega) (rfl), rfl⟩, ?_⟩ | refine ⟨_, ⟨by (try dsimp only at *); omega, getD_at _ (by (try dsimp only at *); (try simp only [List.length_map] at *); omega) (Cond.cells_eq _), rfl⟩, ?_⟩ | refine ⟨_, ⟨by (try dsimp only at *); omega, str_at (by (try dsimp only at *); (try simp only [List.length_map] at *); omega)⟩, ?_⟩ | refine ⟨(rfl : look _ _ = look _ _), ?_⟩ | fail) <;> ((conv => whnf); repeat' (refine vcC_go tok {} rfl ?_; conv => whnf)))
  all_goals exact ⟨congrArg iD (by simp only [*]; simp)⟩

theorem rCourse_meets (c : Course) (hc : c.small) : Meets Tryz.prog 13 [c.d] fun r => r = iD (courseE c) := by
  refine enter tok {} Tryz.func13 rfl (by kernel_rfl) Tryz.ntmps13 (by simp) fun B0 W0 V0 lent g0 => ?_
  ((conv => whnf); repeat' (refine vcC_go tok {} rfl ?_; conv => whnf))
  repeat' ((first | (intro hlq; (try simp only [List.length_map, maxLen] at hlq)) | refine Meets.k (rcounts_meets c hc.route) ?_ | refine Meets.k (rnamed_meets c hc) ?_ | refine Meets.k (ranges_meets c) ?_ | refine Meets.k (rTies c.ties) ?_ | ((refine ⟨fun (hb : _ = true) => ?_, fun (hb : _ = false) => ?_⟩) <;> (try simp only [BB, List.length_map] at hb)) | refine ⟨fun h1 h2 => ⟨by have := h1.1; have := h1.2; have := h2.1; have := h2.2; (try dsimp only at *); first | omega | (simp only [List.length_map] at *; omega), by have := h1.1; have := h1.2; have := h2.1; have := h2.2; (try dsimp only at *); first | omega | (simp only [List.length_map] at *; omega)⟩, ?_⟩ | refine ⟨⟨(by (try dsimp only at *); omega : _ ≤ _), (by (try dsimp only at *); omega : _ < _)⟩, ?_⟩ | refine ⟨_, ⟨by (try dsimp only at *); omega, getD_at _ (by (try dsimp only at *); (try simp only [List.length_map] at *); omega) (rfl), rfl⟩, ?_⟩ | refine ⟨_, ⟨by (try dsimp only at *); omega, getD_at _ (by (try dsimp only at *); (try simp only [List.length_map] at *); omega) (Cond.cells_eq _), rfl⟩, ?_⟩ | refine ⟨_, ⟨by (try dsimp only at *); omega, str_at (by (try dsimp only at *); (try simp only [List.length_map] at *); omega)⟩, ?_⟩ | refine ⟨(rfl : look _ _ = look _ _), ?_⟩ | fail) <;> ((conv => whnf); repeat' (refine vcC_go tok {} rfl ?_; conv => whnf)))
  · exact ⟨congrArg iD (by rw [courseE, if_pos (by assumption)])⟩
  · exact ⟨congrArg iD (by rw [courseE, if_neg (by simp [*]), if_pos (by assumption)])⟩
  · exact ⟨congrArg iD (by rw [courseE, if_neg (by simp [*]), if_neg (by simp [*]), if_pos (by assumption)])⟩
  · exact ⟨congrArg iD (by rw [courseE, if_neg (by simp [*]), if_neg (by simp [*]), if_neg (by simp [*]), if_neg (by assumption)])⟩
  have hE : courseE c = if c.distances.all (routeOk c) then 0 else 72 := by
    rw [courseE, if_neg (by simp [*]), if_neg (by simp [*]), if_neg (by simp [*]), if_pos (by simpa using (by assumption : ¬ tiesE c.ties ≠ 0))]
  have hn : NumsOk c := (nums_iff c).1 (by assumption)
  rw [hE]
  refine loop_upd tok {} [] (X := Nat) (fun i => [(4, iB i)]) (fun _ => []) [] (fun i => i ≤ c.distances.length ∧ ∀ x ∈ c.distances.take i, routeOk c x = true) (fun i => c.distances.length - i) 0 ?_
  ((conv => whnf); repeat' (refine vcC_go tok {} rfl ?_; conv => whnf))
  refine And.intro ?_ ⟨⟨by omega, by simp⟩, fun i hΦ => ?_⟩
  · repeat' (first | exact True.intro | exact rfl | refine And.intro ?_ ?_)
  obtain ⟨hi, hp⟩ := hΦ
  ((conv => whnf); repeat' (refine vcC_go tok {} rfl ?_; conv => whnf))
  repeat' ((first | (intro hlq; (try simp only [List.length_map, maxLen] at hlq)) | refine ⟨fun h1 h2 => ⟨by have := h1.1; have := h1.2; have := h2.1; have := h2.2; (try dsimp only at *); first | omega | (simp only [List.length_map] at *; omega), by have := h1.1; have := h1.2; have := h2.1; have := h2.2; (try dsimp only at *); first | omega | (simp only [List.length_map] at *; omega)⟩, ?_⟩ | refine ⟨⟨(by (try dsimp only at *); omega : _ ≤ _), (by (try dsimp only at *); omega : _ < _)⟩, ?_⟩ | refine ⟨_, ⟨by (try dsimp only at *); omega, getD_at _ (by (try dsimp only at *); (try simp only [List.length_map] at *); omega) (rfl), rfl⟩, ?_⟩ | refine ⟨_, ⟨by (try dsimp only at *); omega, getD_at _ (by (try dsimp only at *); (try simp only [List.length_map] at *); omega) (Cond.cells_eq _), rfl⟩, ?_⟩ | refine ⟨_, ⟨by (try dsimp only at *); omega, str_at (by (try dsimp only at *); (try simp only [List.length_map] at *); omega)⟩, ?_⟩ | refine ⟨(rfl : look _ _ = look _ _), ?_⟩ | fail) <;> ((conv => whnf); repeat' (refine vcC_go tok {} rfl ?_; conv => whnf)))
  refine ⟨fun h1 => ?_, fun h1 => ?_⟩ <;> (try simp only [BB, List.length_map] at h1) <;> ((conv => whnf); repeat' (refine vcC_go tok {} rfl ?_; conv => whnf))
  · have h1' : i < c.distances.length := by omega
    refine draw_rule tok (cf := {}) (by kernel_rfl) [.p 0, .p 1, .p 2, .p 3, .p 4, .p 5, .s 6 [0,5,4,2,3,1], .p 7] (by kernel_rfl) ?_
    ((conv => whnf); repeat' (refine vcC_go tok {} rfl ?_; conv => whnf))
    repeat' ((first | (intro hlq; (try simp only [List.length_map, maxLen] at hlq)) | refine Meets.k (rroute_meets c c.distances[i] hc hn (List.getElem_mem h1')) ?_ | ((refine ⟨fun (hb : _ = true) => ?_, fun (hb : _ = false) => ?_⟩) <;> (try simp only [BB, List.length_map] at hb)) | refine ⟨fun h1 h2 => ⟨by have := h1.1; have := h1.2; have := h2.1; have := h2.2; (try dsimp only at *); first | omega | (simp only [List.length_map] at *; omega), by have := h1.1; have := h1.2; have := h2.1; have := h2.2; (try dsimp only at *); first | omega | (simp only [List.length_map] at *; omega)⟩, ?_⟩ | refine ⟨⟨(by (try dsimp only at *); omega : _ ≤ _), (by (try dsimp only at *); omega : _ < _)⟩, ?_⟩ | refine ⟨_, ⟨by (try dsimp only at *); omega, getD_at _ (by (try dsimp only at *); (try simp only [List.length_map] at *); omega) (rfl), rfl⟩, ?_⟩ | refine ⟨_, ⟨by (try dsimp only at *); omega, getD_at _ (by (try dsimp only at *); (try simp only [List.length_map] at *); omega) (Distance.cells_eq _), rfl⟩, ?_⟩ | refine ⟨_, ⟨by (try dsimp only at *); omega, str_at (by (try dsimp only at *); (try simp only [List.length_map] at *); omega)⟩, ?_⟩ | refine ⟨(rfl : look _ _ = look _ _), ?_⟩ | fail) <;> ((conv => whnf); repeat' (refine vcC_go tok {} rfl ?_; conv => whnf)))
    · refine ⟨congrArg iD ?_⟩
      rw [all_false (List.getElem_mem h1') (by assumption)]; rfl
    · refine ⟨⟨i + 1, ?_, ⟨by omega, take_snoc h1' hp (by assumption)⟩, by omega⟩⟩
      repeat' (first | exact True.intro | exact rfl | refine And.intro ?_ ?_)
  · refine ⟨congrArg iD ?_⟩
    rw [all_true (by omega) hp]; rfl
end Go.Proofs.YtiejhmfeppflaaaGreat.Dx

/- The examples of the chapter. -/
namespace Go.Proofs.YtiejhmfeppflaaaGreat.Dx
open Go Go.RowKit
set_option linter.all false
set_option maxRecDepth 100000
set_option maxHeartbeats 16000000

def c0 : Cond := ⟨0, 0, 0, []⟩
def exBy (n : Int) : Step := ⟨1, n, c0, [], []⟩
def exL0 : List Step := [exBy 1, ⟨2, 0, ⟨1, 2, 100, []⟩, [exBy 4], [exBy 5]⟩, exBy 1]
def exCourse (n : List UInt8) (l : List Step) : Course := ⟨n, [], [], [], [], [], [], [], l, ⟨0, 0, 0, 0, 0⟩, 0, 0⟩
theorem ok_c0 : c0.ok := Cond.ok_iff.2 ⟨by decide, by simp [c0]⟩
theorem ok_by (n : Int) : (exBy n).ok := Step.ok_iff.2 ⟨ok_c0, ⟨by simp [exBy], by simp [exBy]⟩, by simp [exBy], by simp [exBy]⟩
theorem ok_ex : ∀ s ∈ exL0, s.ok := by
  intro s hs
  simp only [exL0, List.mem_cons, List.not_mem_nil, or_false] at hs
  rcases hs with rfl | rfl | rfl
  · exact ok_by 1
  · exact Step.ok_iff.2 ⟨Cond.ok_iff.2 ⟨by simp, by simp⟩, ⟨by simp, by simp [ok_by]⟩, by simp, by simp [ok_by]⟩
  · exact ok_by 1
theorem small_ex (n : List UInt8) (l : List Step) (hl : l.length ≤ 1048576) (h : ∀ s ∈ l, s.ok) : (exCourse n l).small :=
  ⟨by simp [exCourse], by simp [exCourse], by simp [exCourse], by simp [exCourse], by simp [exCourse], by simp [exCourse], by simp [exCourse], ⟨hl, h⟩, by simp [exCourse], by simp [exCourse]⟩

theorem exD1 : directE exL0 ⟨0, 100, 0⟩ = ([1, 4], 0) := by kernel_rfl
theorem exD2 : directE exL0 ⟨0, 99, 0⟩ = ([1, 5], 0) := by kernel_rfl
theorem exC1 : courseE (exCourse [97] exL0) = 0 := by kernel_rfl
theorem exC2 : courseE (exCourse [] []) = 70 := by kernel_rfl
theorem exD1_meets : Meets Tryz.prog 23 [.sl (exL0.map Step.cells), (⟨0, 100, 0⟩ : Env).d] fun d => d = .tup [.sl [[iD 1], [iD 4]], iD 0] := by
  have := Direct_meets exL0 ⟨0, 100, 0⟩ (by decide) ok_ex
  rw [exD1] at this
  exact this
theorem exD2_meets : Meets Tryz.prog 23 [.sl (exL0.map Step.cells), (⟨0, 99, 0⟩ : Env).d] fun d => d = .tup [.sl [[iD 1], [iD 5]], iD 0] := by
  have := Direct_meets exL0 ⟨0, 99, 0⟩ (by decide) ok_ex
  rw [exD2] at this
  exact this
theorem exC1_meets : Meets Tryz.prog 12 [(exCourse [97] exL0).d] fun d => d = iD 0 := by
  have := Course_meets (exCourse [97] exL0) (small_ex _ _ (by decide) ok_ex)
  rw [exC1] at this
  exact this
theorem exC2_meets : Meets Tryz.prog 12 [(exCourse [] []).d] fun d => d = iD 70 := by
  have := Course_meets (exCourse [] []) (small_ex _ _ (by simp) (by simp))
  rw [exC2] at this
  exact this

theorem sane_meets : Meets Tryz.prog 10 [] fun r => r = bD true := by
  refine enter tok {} Tryz.func10 rfl (by kernel_rfl) Tryz.ntmps10 (by simp) fun B0 W0 V0 lent g0 => ?_
  ((conv => whnf); repeat' (refine vcC_go tok {} rfl ?_; conv => whnf))
  repeat' ((first | (intro hlq; (try simp only [List.length_map, maxLen] at hlq)) | refine Meets.k (by_meets 1) ?_ | refine Meets.k (atLeast_meets 2 100) ?_ | refine Meets.k (by_meets 4) ?_ | refine Meets.k (by_meets 5) ?_ | refine Meets.k (exD1_meets) ?_ | refine Meets.k (exD2_meets) ?_ | refine Meets.k (Same_meets [1, 4] [1, 4]) ?_ | refine Meets.k (Same_meets [1, 5] [1, 5]) ?_ | refine Meets.k (exC1_meets) ?_ | refine Meets.k (exC2_meets) ?_ | refine Meets.k (atLeast_meets 4 1) ?_ | refine Meets.k (Cond_meets ⟨1, 4, 1, []⟩ (Cond.ok_iff.2 ⟨by simp, by simp⟩)) ?_ | refine Meets.k (Cond_meets ⟨2, 0, 0, []⟩ (Cond.ok_iff.2 ⟨by simp, by simp⟩)) ?_ | refine Meets.k (Ties_meets [] (by simp) (by simp)) ?_ | refine Meets.k (Env_meets ⟨0, 4001, 0⟩) ?_ | ((refine ⟨fun (hb : _ = true) => ?_, fun (hb : _ = false) => ?_⟩) <;> (try simp only [BB, List.length_map] at hb)) | refine ⟨fun h1 h2 => ⟨by have := h1.1; have := h1.2; have := h2.1; have := h2.2; (try dsimp only at *); first | omega | (simp only [List.length_map] at *; omega), by have := h1.1; have := h1.2; have := h2.1; have := h2.2; (try dsimp only at *); first | omega | (simp only [List.length_map] at *; omega)⟩, ?_⟩ | refine ⟨⟨(by (try dsimp only at *); omega : _ ≤ _), (by (try dsimp only at *); omega : _ < _)⟩, ?_⟩ | refine ⟨_, ⟨by (try dsimp only at *); omega, getD_at _ (by (try dsimp only at *); (try simp only [List.length_map] at *); omega) (rfl), rfl⟩, ?_⟩ | refine ⟨_, ⟨by (try dsimp only at *); omega, getD_at _ (by (try dsimp only at *); (try simp only [List.length_map] at *); omega) (Cond.cells_eq _), rfl⟩, ?_⟩ | refine ⟨_, ⟨by (try dsimp only at *); omega, str_at (by (try dsimp only at *); (try simp only [List.length_map] at *); omega)⟩, ?_⟩ | refine ⟨(rfl : look _ _ = look _ _), ?_⟩ | fail) <;> ((conv => whnf); repeat' (refine vcC_go tok {} rfl ?_; conv => whnf)))
  all_goals first
    | exact ⟨congrArg bD (by decide)⟩
    | (exfalso; revert hb; decide)
end Go.Proofs.YtiejhmfeppflaaaGreat.Dx
