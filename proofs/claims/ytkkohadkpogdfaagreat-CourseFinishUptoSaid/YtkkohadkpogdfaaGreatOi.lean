/- The chapter's examples. -/
import Derived.Test.YtkkohadkpogdfaaGreatOf
import Derived.Test.YtkkohadkpogdfaaGreatOh
namespace Go.Proofs.YtkkohadkpogdfaaGreat.Dx
open Go Go.RowKit
set_option linter.all false
set_option maxRecDepth 100000
set_option maxHeartbeats 16000000

def smC0 : Cond := ⟨0, 0, 0, []⟩
def smD (cuts : List Cutoff) : Distance := ⟨[98, 114, 105, 101, 102], [⟨0, 0, []⟩, ⟨0, 2, [⟨1, 0, []⟩]⟩, ⟨2, 0, []⟩], 1, cuts, 1⟩
def smC (cuts : List Cutoff) : Course :=
  ⟨[115, 97, 109, 112, 108, 101], [⟨[108, 105, 110, 101], 1⟩, ⟨[116, 117, 114, 110], 2⟩, ⟨[102, 105, 110, 105, 115, 104], 3⟩], [⟨0, 1, 10, 100⟩, ⟨1, 1, 20, 200⟩, ⟨1, 2, 30, 300⟩], [smD cuts], [⟨[101, 108, 105, 116, 101], 0⟩], [], [], [], [⟨1, 4, smC0, [], []⟩], ⟨0, 0, 0, 0, 0⟩, 0, 0⟩
abbrev smPre : List D := [.str (smC []).name, .sl ((smC []).mats.map Mat.cells), .sl ((smC []).legs.map Leg.cells)]
abbrev smPost : List D := [.sl ((smC []).waves.map Wave.cells), .sl [], .sl [], .sl [], .sl ((smC []).ties.map Step.cells), iD 0, iD 0, iD 0, iD 0, iD 0, iD 0, iD 0]
abbrev smB : Base := .ag smPre 16 smPost

theorem sm_small (cuts : List Cutoff) (h : cuts.length ≤ 1048576) : (smC cuts).small := by
  refine ⟨by simp [smC], by simp [smC], by simp [smC], by simp [smC], by simp [smC], by simp [smC], by simp [smC], ⟨by simp [smC], ?_⟩, ?_, ?_⟩
  · intro s hs
    simp only [smC, List.mem_cons, List.not_mem_nil, or_false] at hs
    subst hs
    exact Step.ok_iff.2 ⟨Cond.ok_iff.2 ⟨by decide, by simp [smC0]⟩, ⟨by simp, by simp⟩, by simp, by simp⟩
  · intro d hd
    simp only [smC, List.mem_cons, List.not_mem_nil, or_false] at hd
    subst hd
    exact (by decide : Part.cntL (smD []).route ≤ 1048576)
  · intro d hd
    simp only [smC, List.mem_cons, List.not_mem_nil, or_false] at hd
    subst hd
    exact h

theorem sm1 : buildE (smC []) 0 1 = 0 := by kernel_rfl
theorem sm2 : routeM (smC []) 0 1 = [0, 1, 1, 1, 2] := by kernel_rfl
theorem sm3 : positionR (smC []) 0 1 1 3 = (3, 0) := by kernel_rfl
theorem sm4 : betweenE (smC []) 0 0 1 3 = 0 := by kernel_rfl
theorem sm5 : betweenS (smC []) 0 0 1 3 = (50, 500) := by kernel_rfl
theorem sm6 : finishR (smC []) 0 = (((60, 600), true), 0) := by kernel_rfl
theorem sm7 : courseE (smC []) = 0 := by kernel_rfl
theorem sm8 : unusedM (smC []) = [] := by kernel_rfl
theorem sm9 : buildE (smC []) (-1) 0 = 90 := by kernel_rfl
theorem sm10 : routeM (smC []) (-1) 0 = [] := by kernel_rfl
theorem sm11 : positionR (smC []) 0 0 1 0 = (0, 90) := by kernel_rfl
theorem sm12 : finishR (smC [⟨1, 2, 29⟩]) 0 = (((0, 0), false), 0) := by kernel_rfl

theorem sample_meets : MeetsR Tryz.prog 23 [] [] fun o O' => o = .ret smB ∧ O' = [(16, .sl ⟨58, 5, [(smD []).cells], false⟩)] := by
  refine enterR tok {priv := [16]} Tryz.func23 rfl (by kernel_rfl) Tryz.ntmps23 (by simp) fun B0 W0 V0 lent g0 => ?_
  ((conv => whnf); repeat' (refine vcC_go tok {priv := [16]} rfl ?_; conv => whnf))
  refine ⟨[(16, .sl ⟨58, 5, [(smD []).cells], false⟩)], smB, ⟨?_, ?_, rfl⟩, ⟨rfl, rfl⟩⟩
  · repeat' (first | exact True.intro | exact rfl | refine And.intro ?_ ?_)
  · repeat' (first | exact True.intro | exact rfl | refine And.intro ?_ ?_)

abbrev smO (cuts : List Cutoff) : List (Nat × Blk) :=
  [(1, .box [.d (.str (smC []).name), .d (.sl ((smC []).mats.map Mat.cells)), .d (.sl ((smC []).legs.map Leg.cells)), .own 16, .d (.sl ((smC []).waves.map Wave.cells)), .d (.sl []), .d (.sl []), .d (.sl []), .d (.sl ((smC []).ties.map Step.cells)), iB 0, iB 0, iB 0, iB 0, iB 0, iB 0, iB 0] 33), (16, .sl ⟨58, 5, [(smD cuts).cells], false⟩)]
abbrev lent9 (F : Nat) (bs : List Base) (cuts : List Cutoff) (r : D) : Prop := MeetsR Tryz.prog F (smB :: bs) (smO cuts) fun o O' => ∃ d, o = .ret (.d d) ∧ O' = smO cuts ∧ d = r

theorem smL1 : lent9 10 [iB 0, iB 1] [] (.tup [.sl ([0, 1, 1, 1, 2].map icells), iD 0]) :=
  lend_meets (n := 16) (by have := Route_meets (smC []) (sm_small [] (by simp)) 0 1; rw [sm1, sm2] at this; exact this) (smO []) rfl rfl (by simp) (fun d hd => by subst hd; kernel_rfl)
theorem smL2 : lent9 13 [iB 0, iB 1, iB 1, iB 3] [] (.tup [iD 3, iD 0]) :=
  lend_meets (n := 16) (by have := Position_meets (smC []) (sm_small [] (by simp)) 0 1 1 3; rw [sm3] at this; exact this) (smO []) rfl rfl (by simp) (fun d hd => by subst hd; kernel_rfl)
theorem smL3 : lent9 15 [iB 0, iB 0, iB 1, iB 3] [] (.tup [.agg [iD 50, iD 500], iD 0]) :=
  lend_meets (n := 16) (by have := Between_meets (smC []) (sm_small [] (by simp)) 0 0 1 3; rw [sm4, sm5] at this; exact this) (smO []) rfl rfl (by simp) (fun d hd => by subst hd; kernel_rfl)
theorem smL4 : lent9 17 [iB 0] [] (.tup [.agg [iD 60, iD 600], bD true, iD 0]) :=
  lend_meets (n := 16) (by have := Finish_meets (smC []) (sm_small [] (by simp)) 0; rw [sm6] at this; exact this) (smO []) rfl rfl (by simp) (fun d hd => by subst hd; kernel_rfl)
theorem smL5 : lent9 19 [] [] (.tup [.sl [], iD 0]) :=
  lend_meets (n := 16) (by have := Unused_meets (smC []) (sm_small [] (by simp)); rw [sm7, sm8] at this; exact this) (smO []) rfl rfl (by simp) (fun d hd => by subst hd; kernel_rfl)
theorem smL6 : lent9 10 [iB (-1), iB 0] [] (.tup [.sl [], iD 90]) :=
  lend_meets (n := 16) (by have := Route_meets (smC []) (sm_small [] (by simp)) (-1) 0; rw [sm9, sm10] at this; exact this) (smO []) rfl rfl (by simp) (fun d hd => by subst hd; kernel_rfl)
theorem smL7 : lent9 13 [iB 0, iB 0, iB 1, iB 0] [] (.tup [iD 0, iD 90]) :=
  lend_meets (n := 16) (by have := Position_meets (smC []) (sm_small [] (by simp)) 0 0 1 0; rw [sm11] at this; exact this) (smO []) rfl rfl (by simp) (fun d hd => by subst hd; kernel_rfl)
theorem smL8 : lent9 17 [iB 0] [⟨1, 2, 29⟩] (.tup [.agg [iD 0, iD 0], bD false, iD 0]) :=
  lend_meets (n := 16) (by have := Finish_meets (smC [⟨1, 2, 29⟩]) (sm_small [⟨1, 2, 29⟩] (by simp)) 0; rw [sm12] at this; exact this) (smO [⟨1, 2, 29⟩]) rfl rfl (by simp) (fun d hd => by subst hd; kernel_rfl)

theorem sane9_meets : Meets Tryz.prog 8 [] fun r => r = bD true := by
  refine enter tok {rs := [21, 24, 29, 34, 39, 45, 50, 55, 66], priv := [16]} Tryz.func8 rfl (by kernel_rfl) Tryz.ntmps8 (by simp) fun B0 W0 V0 lent g0 => ?_
  ((conv => whnf); repeat' (refine vcC_go tok {rs := [21, 24, 29, 34, 39, 45, 50, 55, 66], priv := [16]} rfl ?_; conv => whnf))
  refine ⟨[], [], ⟨?_, ?_⟩, sample_meets.mono ?_⟩
  · repeat' (first | exact True.intro | exact rfl | refine And.intro ?_ ?_)
  · repeat' (first | exact True.intro | exact rfl | refine And.intro ?_ ?_)
  rintro o O' ⟨rfl, rfl⟩
  ((conv => whnf); repeat' (refine vcC_go tok {rs := [21, 24, 29, 34, 39, 45, 50, 55, 66], priv := [16]} rfl ?_; conv => whnf))
  refine ⟨_, _, ⟨?_, ?_⟩, smL1.mono ?_⟩
  · repeat' (first | exact True.intro | exact rfl | refine And.intro ?_ ?_)
  · repeat' (first | exact True.intro | exact rfl | refine And.intro ?_ ?_)
  rintro o O' ⟨d, rfl, rfl, rfl⟩
  ((conv => whnf); repeat' (refine vcC_go tok {rs := [21, 24, 29, 34, 39, 45, 50, 55, 66], priv := [16]} rfl ?_; conv => whnf))
  refine ⟨_, _, ⟨?_, ?_⟩, smL2.mono ?_⟩
  · repeat' (first | exact True.intro | exact rfl | refine And.intro ?_ ?_)
  · repeat' (first | exact True.intro | exact rfl | refine And.intro ?_ ?_)
  rintro o O' ⟨d, rfl, rfl, rfl⟩
  ((conv => whnf); repeat' (refine vcC_go tok {rs := [21, 24, 29, 34, 39, 45, 50, 55, 66], priv := [16]} rfl ?_; conv => whnf))
  refine ⟨_, _, ⟨?_, ?_⟩, smL3.mono ?_⟩
  · repeat' (first | exact True.intro | exact rfl | refine And.intro ?_ ?_)
  · repeat' (first | exact True.intro | exact rfl | refine And.intro ?_ ?_)
  rintro o O' ⟨d, rfl, rfl, rfl⟩
  ((conv => whnf); repeat' (refine vcC_go tok {rs := [21, 24, 29, 34, 39, 45, 50, 55, 66], priv := [16]} rfl ?_; conv => whnf))
  refine ⟨_, _, ⟨?_, ?_⟩, smL4.mono ?_⟩
  · repeat' (first | exact True.intro | exact rfl | refine And.intro ?_ ?_)
  · repeat' (first | exact True.intro | exact rfl | refine And.intro ?_ ?_)
  rintro o O' ⟨d, rfl, rfl, rfl⟩
  ((conv => whnf); repeat' (refine vcC_go tok {rs := [21, 24, 29, 34, 39, 45, 50, 55, 66], priv := [16]} rfl ?_; conv => whnf))
  refine ⟨_, _, ⟨?_, ?_⟩, smL5.mono ?_⟩
  · repeat' (first | exact True.intro | exact rfl | refine And.intro ?_ ?_)
  · repeat' (first | exact True.intro | exact rfl | refine And.intro ?_ ?_)
  rintro o O' ⟨d, rfl, rfl, rfl⟩
  ((conv => whnf); repeat' (refine vcC_go tok {rs := [21, 24, 29, 34, 39, 45, 50, 55, 66], priv := [16]} rfl ?_; conv => whnf))
  refine ⟨_, _, ⟨?_, ?_⟩, smL6.mono ?_⟩
  · repeat' (first | exact True.intro | exact rfl | refine And.intro ?_ ?_)
  · repeat' (first | exact True.intro | exact rfl | refine And.intro ?_ ?_)
  rintro o O' ⟨d, rfl, rfl, rfl⟩
  ((conv => whnf); repeat' (refine vcC_go tok {rs := [21, 24, 29, 34, 39, 45, 50, 55, 66], priv := [16]} rfl ?_; conv => whnf))
  refine ⟨_, _, ⟨?_, ?_⟩, smL7.mono ?_⟩
  · repeat' (first | exact True.intro | exact rfl | refine And.intro ?_ ?_)
  · repeat' (first | exact True.intro | exact rfl | refine And.intro ?_ ?_)
  rintro o O' ⟨d, rfl, rfl, rfl⟩
  ((conv => whnf); repeat' (refine vcC_go tok {rs := [21, 24, 29, 34, 39, 45, 50, 55, 66], priv := [16]} rfl ?_; conv => whnf))
  refine ⟨⟨by omega, by (try dsimp only [List.length_singleton]); omega, rfl⟩, ?_⟩
  ((conv => whnf); repeat' (refine vcC_go tok {rs := [21, 24, 29, 34, 39, 45, 50, 55, 66], priv := [16]} rfl ?_; conv => whnf))
  refine ⟨_, ⟨rfl, rfl, by decide⟩, ?_⟩
  ((conv => whnf); repeat' (refine vcC_go tok {rs := [21, 24, 29, 34, 39, 45, 50, 55, 66], priv := [16]} rfl ?_; conv => whnf))
  refine ⟨_, _, ⟨?_, ?_⟩, smL8.mono ?_⟩
  · repeat' (first | exact True.intro | exact rfl | refine And.intro ?_ ?_)
  · repeat' (first | exact True.intro | exact rfl | refine And.intro ?_ ?_)
  rintro o O' ⟨d, rfl, rfl, rfl⟩
  ((conv => whnf); repeat' (refine vcC_go tok {rs := [21, 24, 29, 34, 39, 45, 50, 55, 66], priv := [16]} rfl ?_; conv => whnf))
  repeat' ((first | (intro hlq; (try simp only [List.length_map, maxLen] at hlq)) | refine Meets.k (Same_meets [0, 1, 1, 1, 2] [0, 1, 1, 1, 2]) ?_ | ((refine ⟨fun (hb : _ = true) => ?_, fun (hb : _ = false) => ?_⟩) <;> (try simp only [BB, List.length_map] at hb)) | refine Ka ?_ | refine Kb ?_ | refine Kc (hd := rfl) (e := ?_) | refine Kc (hd := Cond.cells_eq _) (e := ?_) | refine Kd (e := ?_) | refine ⟨(rfl : look _ _ = look _ _), ?_⟩ | fail) <;> ((conv => whnf); repeat' (refine vcC_go tok {rs := [21, 24, 29, 34, 39, 45, 50, 55, 66], priv := [16]} rfl ?_; conv => whnf)))
  all_goals (try (exfalso; revert hb; decide))
  refine ⟨⟨⟨[50, 500], rfl, rfl⟩, ⟨[50, 500], rfl, rfl⟩⟩, ?_⟩
  ((conv => whnf); repeat' (refine vcC_go tok {rs := [21, 24, 29, 34, 39, 45, 50, 55, 66], priv := [16]} rfl ?_; conv => whnf))
  repeat' ((first | (intro hlq; (try simp only [List.length_map, maxLen] at hlq)) | ((refine ⟨fun (hb : _ = true) => ?_, fun (hb : _ = false) => ?_⟩) <;> (try simp only [BB, List.length_map] at hb)) | refine Ka ?_ | refine Kb ?_ | refine Kc (hd := rfl) (e := ?_) | refine Kc (hd := Cond.cells_eq _) (e := ?_) | refine Kd (e := ?_) | refine ⟨(rfl : look _ _ = look _ _), ?_⟩ | fail) <;> ((conv => whnf); repeat' (refine vcC_go tok {rs := [21, 24, 29, 34, 39, 45, 50, 55, 66], priv := [16]} rfl ?_; conv => whnf)))
  all_goals (try (exfalso; revert hb; decide))
  refine ⟨⟨⟨[60, 600], rfl, rfl⟩, ⟨[60, 600], rfl, rfl⟩⟩, ?_⟩
  ((conv => whnf); repeat' (refine vcC_go tok {rs := [21, 24, 29, 34, 39, 45, 50, 55, 66], priv := [16]} rfl ?_; conv => whnf))
  repeat' ((first | (intro hlq; (try simp only [List.length_map, maxLen] at hlq)) | ((refine ⟨fun (hb : _ = true) => ?_, fun (hb : _ = false) => ?_⟩) <;> (try simp only [BB, List.length_map] at hb)) | refine Ka ?_ | refine Kb ?_ | refine Kc (hd := rfl) (e := ?_) | refine Kc (hd := Cond.cells_eq _) (e := ?_) | refine Kd (e := ?_) | refine ⟨(rfl : look _ _ = look _ _), ?_⟩ | fail) <;> ((conv => whnf); repeat' (refine vcC_go tok {rs := [21, 24, 29, 34, 39, 45, 50, 55, 66], priv := [16]} rfl ?_; conv => whnf)))
  all_goals (try (exfalso; revert hb; decide))
  all_goals exact ⟨congrArg bD (by decide)⟩
end Go.Proofs.YtkkohadkpogdfaaGreat.Dx

