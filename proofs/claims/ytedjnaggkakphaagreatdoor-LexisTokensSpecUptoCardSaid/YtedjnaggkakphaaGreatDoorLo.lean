/- The reference's Time. -/
import Derived.Test.YtedjnaggkakphaaGreatDoorLb
set_option linter.all false
namespace Go.Proofs.YtedjnaggkakphaaGreatDoor.Dx
open Go Go.RowKit Go.Proofs
set_option linter.all false
set_option maxRecDepth 100000
set_option maxHeartbeats 8000000

theorem rcut_at {s : List UInt8} {c : UInt8} {w r : List UInt8} {p : Bool} (h : cutB c s = (w, r, p)) : Meets Tryz.prog 50 [.str s, .v (.int .u8 (c.toNat : Int))] fun d => d = .tup [.str w, .str r, .bl p] := by
  have := rcut_meets s c
  rw [h] at this
  exact this.as fun _ _ => tup3_as
theorem rTime_meets (s : List UInt8) : Meets Tryz.prog 23 [.str s] fun d => d = timeD s := by
  obtain ⟨sg, u, hs⟩ : ∃ sg u, signS s = (sg, u) := ⟨_, _, rfl⟩
  have hsg : sg = 1 ∨ sg = -1 := by
    have : (signS s).1 = sg := by rw [hs]
    unfold signS at this
    split at this <;> (dsimp only at this; omega)
  rw [timeD_sign, hs]
  refine enter tok {} Tryz.func23 rfl (by kernel_rfl) Tryz.ntmps23 (by simp) fun B0 W0 V0 lent g0 => ?_
  ((conv => whnf); repeat' ((fail_if_success (refine J_at2 2 ?_)); refine vcC_go tok {} rfl ?_; conv => whnf))
  refine J_seq (cut_post tok {} [(4, iB sg), (0, .d (.str u))] ?_)
  conv => whnf
  refine And.intro ?_ ?_
  · clear hsg
    rcases s with _ | ⟨b, s⟩
    · cases hs
      ((conv => whnf); repeat' (refine vcC_go tok {} rfl ?_; conv => whnf))
      repeat' ((first | (intro hlq; (try simp only [List.length_map, maxLen] at hlq)) | refine Ks ?_ | refine Kq ?_ | refine Kt ?_ | ((refine ⟨fun (hb : _ = true) => ?_, fun (hb : _ = false) => ?_⟩) <;> (try simp only [BB, List.length_map] at hb)) | refine Ka ?_ | refine Kb ?_ | refine Kc (hd := rfl) (e := ?_) | refine Kc (hd := icells_eq _) (e := ?_) | refine Kd (e := ?_) | refine ⟨(rfl : look _ _ = look _ _), ?_⟩ | fail) <;> ((conv => whnf); repeat' (refine vcC_go tok {} rfl ?_; conv => whnf)))
      all_goals first
        | (exfalso
           have h9 := (by assumption : (([] : List UInt8).length : Int) > 0)
           simp at h9)
        | (refine ⟨?_⟩; (repeat' (first | exact True.intro | exact rfl | refine And.intro ?_ ?_)); done)
    · by_cases hb : b = 45
      · subst hb
        cases hs
        ((conv => whnf); repeat' (refine vcC_go tok {} rfl ?_; conv => whnf))
        repeat' ((first | (intro hlq; (try simp only [List.length_map, maxLen] at hlq)) | refine ⟨45, ⟨by omega, rfl⟩, ?_⟩ | refine Ks ?_ | refine Kq ?_ | refine Kt ?_ | ((refine ⟨fun (hb : _ = true) => ?_, fun (hb : _ = false) => ?_⟩) <;> (try simp only [BB, List.length_map] at hb)) | refine Ka ?_ | refine Kb ?_ | refine Kc (hd := rfl) (e := ?_) | refine Kc (hd := icells_eq _) (e := ?_) | refine Kd (e := ?_) | refine ⟨(rfl : look _ _ = look _ _), ?_⟩ | fail) <;> ((conv => whnf); repeat' (refine vcC_go tok {} rfl ?_; conv => whnf)))
        all_goals first
          | (exfalso
             have h9 := (by assumption : ¬ ((UInt8.toNat 45 : Int) = 45))
             exact h9 rfl)
          | (exfalso
             have h9 := (by assumption : ¬ ((45 :: u).length : Int) > 0)
             simp only [List.length_cons] at h9; omega)
          | (refine ⟨?_⟩; (repeat' (first | exact True.intro | exact rfl | refine And.intro ?_ ?_ | (refine congrArg D.str ?_; simp; done))); done)
      · rw [signS_pos (by simpa using hb)] at hs
        cases hs
        have hb' : ¬ (b.toNat : Int) = 45 := fun e => hb (UInt8.toNat_inj.1 (by have : (45 : UInt8).toNat = 45 := rfl; omega))
        ((conv => whnf); repeat' (refine vcC_go tok {} rfl ?_; conv => whnf))
        repeat' ((first | (intro hlq; (try simp only [List.length_map, maxLen] at hlq)) | refine ⟨b, ⟨by omega, rfl⟩, ?_⟩ | refine Ks ?_ | refine Kq ?_ | refine Kt ?_ | ((refine ⟨fun (hb : _ = true) => ?_, fun (hb : _ = false) => ?_⟩) <;> (try simp only [BB, List.length_map] at hb)) | refine Ka ?_ | refine Kb ?_ | refine Kc (hd := rfl) (e := ?_) | refine Kc (hd := icells_eq _) (e := ?_) | refine Kd (e := ?_) | refine ⟨(rfl : look _ _ = look _ _), ?_⟩ | fail) <;> ((conv => whnf); repeat' (refine vcC_go tok {} rfl ?_; conv => whnf)))
        all_goals first
          | contradiction
          | (exfalso
             have h9 := (by assumption : ¬ ((b :: s).length : Int) > 0)
             simp only [List.length_cons] at h9; omega)
          | (refine ⟨?_⟩; (repeat' (first | exact True.intro | exact rfl | refine And.intro ?_ ?_)); done)
  clear hs
  rcases hp : cutB 46 u with ⟨w, f, p⟩
  rcases hq : cutB 58 w with ⟨a, r, c⟩
  rcases hr : cutB 58 r with ⟨b, r2, c2⟩
  have k1 : Meets Tryz.prog 50 [.str u, .v (.int .u8 46)] _ := rcut_at hp
  have k2 : Meets Tryz.prog 50 [.str w, .v (.int .u8 58)] _ := rcut_at hq
  have k3 : Meets Tryz.prog 50 [.str r, .v (.int .u8 58)] _ := rcut_at hr
  rw [timeU_of hp hq, moreN_of hr]
  clear hp hq hr
  have hS := sixN_lt b
  have hS' := sixN_lt r2
  have hF := fracN_lt f
  have k4 := (rNumeral_meets a).bl
  have hnum : numB a = true → a.length ≤ 13 → Meets Tryz.prog 53 [.str a] (fun d => d = iD (numN a)) ∧ numN a < 10000000000000 := fun h1 h2 =>
    ⟨number_meets _ (numB_digits h1).1 (numB_digits h1).2, by
      have hl := numN_lt _ _ rfl (numB_digits h1).1
      have hl2 : 10 ^ a.length ≤ 10 ^ 13 := Nat.pow_le_pow_right (by omega) h2
      omega⟩
  generalize numB a = nb at *
  have k5 := fraction_meets f
  have k6 := sixty_meets b
  have k7 := sixty_meets r2
  generalize fracN f = fr at *
  generalize sixN b = sb at *
  generalize sixN r2 = sr at *
  generalize hna : (numN a : Int) = na at *
  by_cases hA : nb = true ∧ a.length ≤ 13
  · obtain ⟨k8, hl⟩ := hnum hA.1 hA.2
    obtain ⟨rfl, hA2⟩ := hA
    have h0 : 0 ≤ na ∧ na < 10000000000000 := by omega
    clear hnum hl hna
    cases c
    · cases p
      all_goals
        ((conv => whnf); repeat' (refine vcC_go tok {} rfl ?_; conv => whnf))
        repeat' ((first | (intro hlq; (try simp only [List.length_map, maxLen] at hlq)) | refine Meets.k (k1) ?_ | refine Meets.k (k2) ?_ | refine Meets.k (k4) ?_ | refine Meets.k (k5) ?_ | refine Meets.k (k8) ?_ | refine ⟨fun _ _ => i64 (by omega) (by omega), ?_⟩ | refine ⟨fun _ _ => i64 (by cases hsg <;> subst_vars <;> omega) (by cases hsg <;> subst_vars <;> omega), ?_⟩ | refine Ks ?_ | refine Kq ?_ | refine Kt ?_ | ((refine ⟨fun (hb : _ = true) => ?_, fun (hb : _ = false) => ?_⟩) <;> (try simp only [BB, List.length_map] at hb)) | refine Ka ?_ | refine Kb ?_ | refine Kc (hd := rfl) (e := ?_) | refine Kc (hd := icells_eq _) (e := ?_) | refine Kd (e := ?_) | refine ⟨(rfl : look _ _ = look _ _), ?_⟩ | fail) <;> ((conv => whnf); repeat' (refine vcC_go tok {} rfl ?_; conv => whnf)))
        all_goals first
          | contradiction
          | (clear k1 k2 k3 k4 k5 k6 k7 k8
             refine ⟨?_⟩
             simp only [timeV, timeO, reduceCtorEq, Bool.false_eq_true, if_false, if_true, false_or, or_false, true_or, or_true, and_true, true_and, and_false, false_and]
             (repeat (first | rw [if_pos (by omega)] | rw [if_neg (by omega)] | dsimp only)))
    · cases c2 <;> cases p
      all_goals
        ((conv => whnf); repeat' (refine vcC_go tok {} rfl ?_; conv => whnf))
        repeat' ((first | (intro hlq; (try simp only [List.length_map, maxLen] at hlq)) | refine Meets.k (k1) ?_ | refine Meets.k (k2) ?_ | refine Meets.k (k3) ?_ | refine Meets.k (k4) ?_ | refine Meets.k (k5) ?_ | refine Meets.k (k6) ?_ | refine Meets.k (k7) ?_ | refine Meets.k (k8) ?_ | refine ⟨fun _ _ => i64 (by omega) (by omega), ?_⟩ | refine ⟨fun _ _ => i64 (by cases hsg <;> subst_vars <;> omega) (by cases hsg <;> subst_vars <;> omega), ?_⟩ | refine Ks ?_ | refine Kq ?_ | refine Kt ?_ | ((refine ⟨fun (hb : _ = true) => ?_, fun (hb : _ = false) => ?_⟩) <;> (try simp only [BB, List.length_map] at hb)) | refine Ka ?_ | refine Kb ?_ | refine Kc (hd := rfl) (e := ?_) | refine Kc (hd := icells_eq _) (e := ?_) | refine Kd (e := ?_) | refine ⟨(rfl : look _ _ = look _ _), ?_⟩ | fail) <;> ((conv => whnf); repeat' (refine vcC_go tok {} rfl ?_; conv => whnf)))
        all_goals first
          | contradiction
          | (clear k1 k2 k3 k4 k5 k6 k7 k8
             refine ⟨?_⟩
             simp only [timeV, timeO, reduceCtorEq, Bool.false_eq_true, if_false, if_true, false_or, or_false, true_or, or_true, and_true, true_and, and_false, false_and]
             (repeat (first | rw [if_pos (by omega)] | rw [if_neg (by omega)] | dsimp only)))
  · clear hnum
    have hA' : nb = false ∨ (a.length : Int) > 13 := by
      cases nb
      · exact .inl rfl
      · by_cases h : a.length ≤ 13
        · exact absurd ⟨rfl, h⟩ hA
        · exact .inr (by omega)
    clear hA hna
    have hV : ∀ f p c m, timeO sg (timeV nb a.length f p c m) = errD := by
      intro f p c m
      unfold timeV
      rw [if_pos (hA'.elim .inl fun h => .inr (.inl h))]
      rfl
    dsimp only
    rw [hV]
    cases p <;> cases c <;> cases nb
    all_goals
      ((conv => whnf); repeat' (refine vcC_go tok {} rfl ?_; conv => whnf))
      repeat' ((first | (intro hlq; (try simp only [List.length_map, maxLen] at hlq)) | refine Meets.k (k1) ?_ | refine Meets.k (k2) ?_ | refine Meets.k (k4) ?_ | refine Meets.k (k5) ?_ | refine Ks ?_ | refine Kq ?_ | refine Kt ?_ | ((refine ⟨fun (hb : _ = true) => ?_, fun (hb : _ = false) => ?_⟩) <;> (try simp only [BB, List.length_map] at hb)) | refine Ka ?_ | refine Kb ?_ | refine Kc (hd := rfl) (e := ?_) | refine Kc (hd := icells_eq _) (e := ?_) | refine Kd (e := ?_) | refine ⟨(rfl : look _ _ = look _ _), ?_⟩ | fail) <;> ((conv => whnf); repeat' (refine vcC_go tok {} rfl ?_; conv => whnf)))
      all_goals first
        | contradiction
        | exact ⟨rfl⟩
        | (exfalso; rcases hA' with h9 | h9; (· cases h9); omega)
end Go.Proofs.YtedjnaggkakphaaGreatDoor.Dx

