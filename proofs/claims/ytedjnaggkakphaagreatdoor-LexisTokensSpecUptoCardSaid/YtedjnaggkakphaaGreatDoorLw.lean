/- The reference's scanner: token. -/
import Derived.Test.YtedjnaggkakphaaGreatDoorLv
set_option linter.all false
namespace Go.Proofs.YtedjnaggkakphaaGreatDoor.Dx
open Go Go.RowKit Go.Proofs
set_option linter.all false
set_option maxRecDepth 100000
set_option maxHeartbeats 8000000

theorem run_step (p : Bool) {src : List UInt8} {j : Nat} (hj : j < src.length) : runN p (src.drop j) = if inB src[j] || (p && ptB src[j] (src.drop (j + 1))) then runN p (src.drop (j + 1)) + 1 else 0 := by
  rw [List.drop_eq_getElem_cons hj, runN]
theorem run_end (p : Bool) (src : List UInt8) : runN p (src.drop src.length) = 0 := by rw [List.drop_length]; rfl
theorem rtoken_word (src : List UInt8) (a : Nat) (ha : a < src.length) (hl : src.length ≤ 65536) (hc : isLt src[a] = true) : Meets Tryz.prog 30 [.sl (byteCells src), iD a] fun d => d = .tup [tkA a (readT (src.drop a)), iD (readT (src.drop a)).2.2] := by
  have hr : readT (src.drop a) = (1, (src.drop a).take (runN false (src.drop a)), runN false (src.drop a)) := by
    have e : runN false (src.drop a) = runN false (src.drop (a + 1)) + 1 := by
      rw [List.drop_eq_getElem_cons ha, runN, inB, hc]; rfl
    rw [e, List.drop_eq_getElem_cons ha, readT, if_pos hc]
  have hle := runN_le false (src.drop a)
  rw [List.length_drop] at hle
  rw [hr]
  generalize hn : runN false (src.drop a) = n at *
  have k := (rletter_meets src[a]).bl
  rw [hc] at k
  have e := dt_eq src a n
  clear hr
  refine enter tok {} Tryz.func30 rfl (by kernel_rfl) Tryz.ntmps30 (by simp) fun B0 W0 V0 lent g0 => ?_
  ((conv => whnf); repeat' (refine vcC_go tok {} rfl ?_; conv => whnf))
  repeat' ((first | (intro hlq; (try simp only [List.length_map, maxLen] at hlq)) | refine Meets.k (k) ?_ | refine Ks ?_ | refine Kq ?_ | refine Kt ?_ | ((refine ⟨fun (hb : _ = true) => ?_, fun (hb : _ = false) => ?_⟩) <;> (try simp only [BB, List.length_map] at hb)) | refine Ka ?_ | refine Kb ?_ | refine Kc (hd := rfl) (e := ?_) | refine Kc (hd := rfl) (e := ?_) | refine Kd (e := ?_) | refine ⟨(rfl : look _ _ = look _ _), ?_⟩ | fail) <;> ((conv => whnf); repeat' (refine vcC_go tok {} rfl ?_; conv => whnf)))
  refine loop_upd tok {} [] (X := Nat) (fun j => [(7, iB j)]) (fun _ => []) [] (fun j => a ≤ j ∧ j ≤ src.length ∧ j + runN false (src.drop j) = a + n) (fun j => src.length - j) a ?_
  ((conv => whnf); repeat' (refine vcC_go tok {} rfl ?_; conv => whnf))
  refine And.intro ?_ ⟨⟨by omega, by omega, by rw [hn]⟩, fun j hΦ => ?_⟩
  · repeat' (first | exact True.intro | exact rfl | refine And.intro ?_ ?_)
  obtain ⟨h1, h2, he⟩ := hΦ
  ((conv => whnf); repeat' (refine vcC_go tok {} rfl ?_; conv => whnf))
  repeat' ((first | (intro hlq; (try simp only [List.length_map, maxLen] at hlq)) | refine Ks ?_ | refine Kq ?_ | refine Kt ?_ | refine Ka ?_ | refine Kb ?_ | refine Kc (hd := rfl) (e := ?_) | refine Kc (hd := icells_eq _) (e := ?_) | refine Kd (e := ?_) | refine ⟨(rfl : look _ _ = look _ _), ?_⟩ | fail) <;> ((conv => whnf); repeat' (refine vcC_go tok {} rfl ?_; conv => whnf)))
  by_cases h3 : j < src.length
  · have hs := run_step false h3
    have k2 := rinner_meets src[j]
    simp only [Bool.false_and, Bool.or_false] at hs
    repeat' ((first | (intro hlq; (try simp only [List.length_map, maxLen] at hlq)) | refine Meets.k (k2) ?_ | refine Ky ?_ | refine ⟨_, bc_eq _ _ _, ?_⟩ | refine Ks ?_ | refine Kq ?_ | refine Kt ?_ | ((refine ⟨fun (hb : _ = true) => ?_, fun (hb : _ = false) => ?_⟩) <;> (try simp only [BB, List.length_map] at hb)) | refine Ka ?_ | refine Kb ?_ | refine Kc (hd := rfl) (e := ?_) | refine Kc (hd := rfl) (e := ?_) | refine Kd (e := ?_) | refine ⟨(rfl : look _ _ = look _ _), ?_⟩ | fail) <;> ((conv => whnf); repeat' (refine vcC_go tok {} rfl ?_; conv => whnf)))
    · refine ⟨⟨j + 1, ?_, ⟨by omega, by omega, ?_⟩, by omega⟩⟩
      · repeat' (first | exact True.intro | exact rfl | refine And.intro ?_ ?_)
      · rw [if_pos (by assumption)] at hs; omega
    · have hb : ¬ inB src[j] = true := by
        have hb' := (by assumption : inB src[j] = false)
        rw [hb']; decide
      rw [if_neg hb] at hs
      obtain rfl : j = a + n := by omega
      refine ⟨?_⟩
      rw [e, show ((a + n : Nat) : Int) - (a : Int) = (n : Int) by omega]
      rfl
    · exfalso; omega
  · obtain rfl : j = src.length := by omega
    rw [run_end] at he
    repeat' ((first | (intro hlq; (try simp only [List.length_map, maxLen] at hlq)) | refine Ky ?_ | refine ⟨_, bc_eq _ _ _, ?_⟩ | refine Ks ?_ | refine Kq ?_ | refine Kt ?_ | ((refine ⟨fun (hb : _ = true) => ?_, fun (hb : _ = false) => ?_⟩) <;> (try simp only [BB, List.length_map] at hb)) | refine Ka ?_ | refine Kb ?_ | refine Kc (hd := rfl) (e := ?_) | refine Kc (hd := icells_eq _) (e := ?_) | refine Kd (e := ?_) | refine ⟨(rfl : look _ _ = look _ _), ?_⟩ | fail) <;> ((conv => whnf); repeat' (refine vcC_go tok {} rfl ?_; conv => whnf)))
    · exfalso; omega
    · rw [← (show src.length = a + n by omega)] at e
      refine ⟨?_⟩
      rw [e, show ((src.length : Nat) : Int) - (a : Int) = (n : Int) by omega]
      rfl
abbrev RTimeOk : Prop := ∀ s : List UInt8, Meets Tryz.prog 23 [.str s] fun d => d = timeD s
theorem numT_cases (w : List UInt8) (n : Nat) : (intgB w = true → numT w n = (2, w, n)) ∧ (intgB w = false → (timeN w).isSome = true → numT w n = (3, w, n)) ∧ (intgB w = false → timeN w = none → numT w n = (0, [], n)) := by
  unfold numT
  exact ⟨fun h => by rw [if_pos h], fun h h2 => by rw [if_neg (by rw [h]; decide), if_pos h2], fun h h2 => by rw [if_neg (by rw [h]; decide), h2]; rfl⟩
theorem rtoken_num (hR : RTimeOk) (src : List UInt8) (a : Nat) (ha : a < src.length) (hl : src.length ≤ 65536) (hc : isLt src[a] = false) (hd : (isDg src[a] || (src[a] == 45 && hdDg (src.drop (a + 1)))) = true) :
    Meets Tryz.prog 30 [.sl (byteCells src), iD a] fun d => d = .tup [tkA a (readT (src.drop a)), iD (readT (src.drop a)).2.2] := by
  have hle := runN_le true (src.drop (a + 1))
  rw [List.length_drop] at hle
  have hr : readT (src.drop a) = numT ((src.drop a).take (runN true (src.drop (a + 1)) + 1)) (runN true (src.drop (a + 1)) + 1) := by
    rw [List.drop_eq_getElem_cons ha, readT, hc, if_neg (by decide), if_pos hd]
  rw [hr, numT_n]
  generalize hn : runN true (src.drop (a + 1)) + 1 = n at *
  have k := (rletter_meets src[a]).bl
  rw [hc] at k
  have e := dt_eq src a n
  have kI := rInteger_meets ((src.drop a).take n)
  have kT := hR ((src.drop a).take n)
  rw [← e] at kI kT
  obtain ⟨n1, n2, n3⟩ := numT_cases ((src.drop a).take n) n
  rw [beq_c] at hd
  have kd := rdigit_meets src[a]
  have hdd : (isDg src[a] = true) ∨ (isDg src[a] = false ∧ (src[a].toNat : Int) = 45 ∧ ∃ h : a + 1 < src.length, isDg src[a + 1] = true) := by
    cases hx : isDg src[a]
    · refine .inr ⟨rfl, ?_⟩
      rw [hx] at hd
      simp only [Bool.false_or, Bool.and_eq_true, decide_eq_true_eq] at hd
      refine ⟨hd.1, ?_⟩
      by_cases h : a + 1 < src.length
      · rw [List.drop_eq_getElem_cons h] at hd
        exact ⟨h, hd.2⟩
      · rw [List.drop_eq_nil_of_le (by omega)] at hd
        exact absurd hd.2 (by decide)
    · exact .inl rfl
  clear hr hd hc
  have kT' : (∃ v, timeN ((src.drop a).take n) = some v ∧ Meets Tryz.prog 23 [.str (List.drop ((a : Nat) : Int).toNat (List.take ((a + n : Nat) : Int).toNat src))] fun d => d = .tup [iD v, .v (.int .i64 0)]) ∨ (timeN ((src.drop a).take n) = none ∧ Meets Tryz.prog 23 [.str (List.drop ((a : Nat) : Int).toNat (List.take ((a + n : Nat) : Int).toNat src))] fun d => d = .tup [iD 0, .v (.int .i64 50)]) := by
    rw [e] at kT ⊢
    unfold timeD at kT
    cases hT : timeN ((src.drop a).take n) with
    | none => rw [hT] at kT; exact .inr ⟨rfl, kT⟩
    | some v => rw [hT] at kT; exact .inl ⟨v, rfl, kT⟩
  clear kT
  have hal : (a : Int) + n ≤ 65536 := by omega
  rcases hdd with hdd | ⟨hdd, h45, hlt, hd2⟩
  · rw [hdd] at kd
    refine enter tok {} Tryz.func30 rfl (by kernel_rfl) Tryz.ntmps30 (by simp) fun B0 W0 V0 lent g0 => ?_
    ((conv => whnf); repeat' (refine vcC_go tok {} rfl ?_; conv => whnf))
    repeat' ((first | (intro hlq; (try simp only [List.length_map, maxLen] at hlq)) | refine Meets.k (k) ?_ | refine Meets.k (kd.bl) ?_ | refine Ks ?_ | refine Kq ?_ | refine Kt ?_ | ((refine ⟨fun (hb : _ = true) => ?_, fun (hb : _ = false) => ?_⟩) <;> (try simp only [BB, List.length_map] at hb)) | refine Ka ?_ | refine Kb ?_ | refine Kc (hd := rfl) (e := ?_) | refine Kc (hd := rfl) (e := ?_) | refine Kd (e := ?_) | refine ⟨(rfl : look _ _ = look _ _), ?_⟩ | fail) <;> ((conv => whnf); repeat' (refine vcC_go tok {} rfl ?_; conv => whnf)))
    clear kd k
    refine loop_upd tok {} [] (X := Nat) (fun j => [(7, iB j)]) (fun _ => []) [] (fun j => a + 1 ≤ j ∧ j ≤ src.length ∧ j + runN true (src.drop j) = a + n) (fun j => src.length - j) (a + 1) ?_
    ((conv => whnf); repeat' (refine vcC_go tok {} rfl ?_; conv => whnf))
    refine And.intro ?_ ⟨⟨by omega, by omega, by omega⟩, fun j hΦ => ?_⟩
    · repeat' (first | exact True.intro | exact rfl | refine And.intro ?_ ?_)
    obtain ⟨h1, h2, he⟩ := hΦ
    ((conv => whnf); repeat' (refine vcC_go tok {} rfl ?_; conv => whnf))
    repeat' ((first | (intro hlq; (try simp only [List.length_map, maxLen] at hlq)) | refine Ks ?_ | refine Kq ?_ | refine Kt ?_ | refine Ka ?_ | refine Kb ?_ | refine Kc (hd := rfl) (e := ?_) | refine Kc (hd := icells_eq _) (e := ?_) | refine Kd (e := ?_) | refine ⟨(rfl : look _ _ = look _ _), ?_⟩ | fail) <;> ((conv => whnf); repeat' (refine vcC_go tok {} rfl ?_; conv => whnf)))
    have hexit : j = a + n ∨ (j < src.length ∧ ¬ j = a + n) := by
      by_cases h3 : j = a + n
      · exact .inl h3
      · refine .inr ⟨?_, h3⟩
        by_cases h4 : j < src.length
        · exact h4
        · exfalso
          obtain rfl : j = src.length := by omega
          rw [run_end] at he; omega
    have hs := fun (h3 : j < src.length) => run_step true h3
    simp only [ptB, beq_c, Bool.true_and] at hs
    by_cases h4 : j + 1 < src.length
    · have hd1 : hdDg (src.drop (j + 1)) = isDg src[j + 1] := by rw [List.drop_eq_getElem_cons h4]; rfl
      rw [hd1] at hs
      have h3 : j < src.length := by omega
      have hs := hs h3
      have k2 := rinner_meets src[j]
      have kd2 := rdigit_meets src[j + 1]
      repeat' ((first | (intro hlq; (try simp only [List.length_map, maxLen] at hlq)) | refine Meets.k (k2) ?_ | refine Meets.k (kd2) ?_ | refine Ky ?_ | refine ⟨_, bc_eq _ _ _, ?_⟩ | refine Ks ?_ | refine Kq ?_ | refine Kt ?_ | ((refine ⟨fun (hb : _ = true) => ?_, fun (hb : _ = false) => ?_⟩) <;> (try simp only [BB, List.length_map] at hb)) | refine Ka ?_ | refine Kb ?_ | refine Kc (hd := rfl) (e := ?_) | refine Kc (hd := rfl) (e := ?_) | refine Kd (e := ?_) | refine ⟨(rfl : look _ _ = look _ _), ?_⟩ | fail) <;> ((conv => whnf); repeat' (refine vcC_go tok {} rfl ?_; conv => whnf)))
      all_goals try first
        | (exfalso; omega)
        | (refine ⟨⟨j + 1, ?_, ⟨by omega, by omega, ?_⟩, by omega⟩⟩
           · repeat' (first | exact True.intro | exact rfl | refine And.intro ?_ ?_)
           · rw [if_pos (by simp_all)] at hs; omega)
      all_goals
        have hj0 : j = a + n := by
          first
            | (rw [if_neg (by simp_all)] at hs; omega)
            | omega
        subst hj0
        rcases kT' with ⟨v, hv, kT⟩ | ⟨hv, kT⟩
        all_goals
          repeat' ((first | (intro hlq; (try simp only [List.length_map, maxLen] at hlq)) | refine Meets.k (kI) ?_ | refine Meets.k (kT) ?_ | refine Ks ?_ | refine Kq ?_ | refine Kt ?_ | ((refine ⟨fun (hb : _ = true) => ?_, fun (hb : _ = false) => ?_⟩) <;> (try simp only [BB, List.length_map] at hb)) | refine Ka ?_ | refine Kb ?_ | refine Kc (hd := rfl) (e := ?_) | refine Kc (hd := icells_eq _) (e := ?_) | refine Kd (e := ?_) | refine ⟨(rfl : look _ _ = look _ _), ?_⟩ | fail) <;> ((conv => whnf); repeat' (refine vcC_go tok {} rfl ?_; conv => whnf)))
          all_goals first
            | (exfalso; omega)
            | (exfalso; exact absurd True.intro (by assumption))
            | (refine ⟨?_⟩; rw [n1 (by rw [← e]; assumption), e, show ((a + n : Nat) : Int) - (a : Int) = (n : Int) by omega]; rfl)
            | (refine ⟨?_⟩; rw [n2 (by rw [← e]; assumption) (by simp [hv]), e, show ((a + n : Nat) : Int) - (a : Int) = (n : Int) by omega]; rfl)
            | (refine ⟨?_⟩; rw [n3 (by rw [← e]; assumption) hv, show ((a + n : Nat) : Int) - (a : Int) = (n : Int) by omega]; rfl)
    · have hd1 : hdDg (src.drop (j + 1)) = false := by rw [List.drop_eq_nil_of_le (by omega)]; rfl
      rw [hd1] at hs
      by_cases h3 : j < src.length
      · have hs := hs h3
        have k2 := rinner_meets src[j]
        repeat' ((first | (intro hlq; (try simp only [List.length_map, maxLen] at hlq)) | refine Meets.k (k2) ?_ | refine Ky ?_ | refine ⟨_, bc_eq _ _ _, ?_⟩ | refine Ks ?_ | refine Kq ?_ | refine Kt ?_ | ((refine ⟨fun (hb : _ = true) => ?_, fun (hb : _ = false) => ?_⟩) <;> (try simp only [BB, List.length_map] at hb)) | refine Ka ?_ | refine Kb ?_ | refine Kc (hd := rfl) (e := ?_) | refine Kc (hd := rfl) (e := ?_) | refine Kd (e := ?_) | refine ⟨(rfl : look _ _ = look _ _), ?_⟩ | fail) <;> ((conv => whnf); repeat' (refine vcC_go tok {} rfl ?_; conv => whnf)))
        all_goals try first
          | (exfalso; omega)
          | (refine ⟨⟨j + 1, ?_, ⟨by omega, by omega, ?_⟩, by omega⟩⟩
             · repeat' (first | exact True.intro | exact rfl | refine And.intro ?_ ?_)
             · rw [if_pos (by simp_all)] at hs; omega)
        all_goals
          have hj0 : j = a + n := by
            first
              | (rw [if_neg (by simp_all)] at hs; omega)
              | omega
          subst hj0
          rcases kT' with ⟨v, hv, kT⟩ | ⟨hv, kT⟩
          all_goals
            repeat' ((first | (intro hlq; (try simp only [List.length_map, maxLen] at hlq)) | refine Meets.k (kI) ?_ | refine Meets.k (kT) ?_ | refine Ks ?_ | refine Kq ?_ | refine Kt ?_ | ((refine ⟨fun (hb : _ = true) => ?_, fun (hb : _ = false) => ?_⟩) <;> (try simp only [BB, List.length_map] at hb)) | refine Ka ?_ | refine Kb ?_ | refine Kc (hd := rfl) (e := ?_) | refine Kc (hd := icells_eq _) (e := ?_) | refine Kd (e := ?_) | refine ⟨(rfl : look _ _ = look _ _), ?_⟩ | fail) <;> ((conv => whnf); repeat' (refine vcC_go tok {} rfl ?_; conv => whnf)))
            all_goals first
              | (exfalso; omega)
              | (exfalso; exact absurd True.intro (by assumption))
              | (refine ⟨?_⟩; rw [n1 (by rw [← e]; assumption), e, show ((a + n : Nat) : Int) - (a : Int) = (n : Int) by omega]; rfl)
              | (refine ⟨?_⟩; rw [n2 (by rw [← e]; assumption) (by simp [hv]), e, show ((a + n : Nat) : Int) - (a : Int) = (n : Int) by omega]; rfl)
              | (refine ⟨?_⟩; rw [n3 (by rw [← e]; assumption) hv, show ((a + n : Nat) : Int) - (a : Int) = (n : Int) by omega]; rfl)
      · repeat' ((first | (intro hlq; (try simp only [List.length_map, maxLen] at hlq)) | refine Ky ?_ | refine ⟨_, bc_eq _ _ _, ?_⟩ | refine Ks ?_ | refine Kq ?_ | refine Kt ?_ | ((refine ⟨fun (hb : _ = true) => ?_, fun (hb : _ = false) => ?_⟩) <;> (try simp only [BB, List.length_map] at hb)) | refine Ka ?_ | refine Kb ?_ | refine Kc (hd := rfl) (e := ?_) | refine Kc (hd := rfl) (e := ?_) | refine Kd (e := ?_) | refine ⟨(rfl : look _ _ = look _ _), ?_⟩ | fail) <;> ((conv => whnf); repeat' (refine vcC_go tok {} rfl ?_; conv => whnf)))
        all_goals try first
          | (exfalso; omega)
        all_goals
          have hj0 : j = a + n := by omega
          subst hj0
          rcases kT' with ⟨v, hv, kT⟩ | ⟨hv, kT⟩
          all_goals
            repeat' ((first | (intro hlq; (try simp only [List.length_map, maxLen] at hlq)) | refine Meets.k (kI) ?_ | refine Meets.k (kT) ?_ | refine Ks ?_ | refine Kq ?_ | refine Kt ?_ | ((refine ⟨fun (hb : _ = true) => ?_, fun (hb : _ = false) => ?_⟩) <;> (try simp only [BB, List.length_map] at hb)) | refine Ka ?_ | refine Kb ?_ | refine Kc (hd := rfl) (e := ?_) | refine Kc (hd := icells_eq _) (e := ?_) | refine Kd (e := ?_) | refine ⟨(rfl : look _ _ = look _ _), ?_⟩ | fail) <;> ((conv => whnf); repeat' (refine vcC_go tok {} rfl ?_; conv => whnf)))
            all_goals first
              | (exfalso; omega)
              | (exfalso; exact absurd True.intro (by assumption))
              | (refine ⟨?_⟩; rw [n1 (by rw [← e]; assumption), e, show ((a + n : Nat) : Int) - (a : Int) = (n : Int) by omega]; rfl)
              | (refine ⟨?_⟩; rw [n2 (by rw [← e]; assumption) (by simp [hv]), e, show ((a + n : Nat) : Int) - (a : Int) = (n : Int) by omega]; rfl)
              | (refine ⟨?_⟩; rw [n3 (by rw [← e]; assumption) hv, show ((a + n : Nat) : Int) - (a : Int) = (n : Int) by omega]; rfl)
  · rw [hdd] at kd
    have kd2 := rdigit_meets src[a + 1]
    rw [hd2] at kd2
    refine enter tok {} Tryz.func30 rfl (by kernel_rfl) Tryz.ntmps30 (by simp) fun B0 W0 V0 lent g0 => ?_
    ((conv => whnf); repeat' (refine vcC_go tok {} rfl ?_; conv => whnf))
    repeat' ((first | (intro hlq; (try simp only [List.length_map, maxLen] at hlq)) | refine Meets.k (k) ?_ | refine Meets.k (kd.bl) ?_ | refine Meets.k (kd2.bl) ?_ | refine Ks ?_ | refine Kq ?_ | refine Kt ?_ | ((refine ⟨fun (hb : _ = true) => ?_, fun (hb : _ = false) => ?_⟩) <;> (try simp only [BB, List.length_map] at hb)) | refine Ka ?_ | refine Kb ?_ | refine Kc (hd := rfl) (e := ?_) | refine Kc (hd := rfl) (e := ?_) | refine Kd (e := ?_) | refine ⟨(rfl : look _ _ = look _ _), ?_⟩ | fail) <;> ((conv => whnf); repeat' (refine vcC_go tok {} rfl ?_; conv => whnf)))
    all_goals try (exfalso; omega)
    clear kd k
    refine loop_upd tok {} [] (X := Nat) (fun j => [(7, iB j)]) (fun _ => []) [] (fun j => a + 1 ≤ j ∧ j ≤ src.length ∧ j + runN true (src.drop j) = a + n) (fun j => src.length - j) (a + 1) ?_
    ((conv => whnf); repeat' (refine vcC_go tok {} rfl ?_; conv => whnf))
    refine And.intro ?_ ⟨⟨by omega, by omega, by omega⟩, fun j hΦ => ?_⟩
    · repeat' (first | exact True.intro | exact rfl | refine And.intro ?_ ?_)
    obtain ⟨h1, h2, he⟩ := hΦ
    ((conv => whnf); repeat' (refine vcC_go tok {} rfl ?_; conv => whnf))
    repeat' ((first | (intro hlq; (try simp only [List.length_map, maxLen] at hlq)) | refine Ks ?_ | refine Kq ?_ | refine Kt ?_ | refine Ka ?_ | refine Kb ?_ | refine Kc (hd := rfl) (e := ?_) | refine Kc (hd := icells_eq _) (e := ?_) | refine Kd (e := ?_) | refine ⟨(rfl : look _ _ = look _ _), ?_⟩ | fail) <;> ((conv => whnf); repeat' (refine vcC_go tok {} rfl ?_; conv => whnf)))
    have hexit : j = a + n ∨ (j < src.length ∧ ¬ j = a + n) := by
      by_cases h3 : j = a + n
      · exact .inl h3
      · refine .inr ⟨?_, h3⟩
        by_cases h4 : j < src.length
        · exact h4
        · exfalso
          obtain rfl : j = src.length := by omega
          rw [run_end] at he; omega
    have hs := fun (h3 : j < src.length) => run_step true h3
    simp only [ptB, beq_c, Bool.true_and] at hs
    by_cases h4 : j + 1 < src.length
    · have hd1 : hdDg (src.drop (j + 1)) = isDg src[j + 1] := by rw [List.drop_eq_getElem_cons h4]; rfl
      rw [hd1] at hs
      have h3 : j < src.length := by omega
      have hs := hs h3
      have k2 := rinner_meets src[j]
      have kd2 := rdigit_meets src[j + 1]
      repeat' ((first | (intro hlq; (try simp only [List.length_map, maxLen] at hlq)) | refine Meets.k (k2) ?_ | refine Meets.k (kd2) ?_ | refine Ky ?_ | refine ⟨_, bc_eq _ _ _, ?_⟩ | refine Ks ?_ | refine Kq ?_ | refine Kt ?_ | ((refine ⟨fun (hb : _ = true) => ?_, fun (hb : _ = false) => ?_⟩) <;> (try simp only [BB, List.length_map] at hb)) | refine Ka ?_ | refine Kb ?_ | refine Kc (hd := rfl) (e := ?_) | refine Kc (hd := rfl) (e := ?_) | refine Kd (e := ?_) | refine ⟨(rfl : look _ _ = look _ _), ?_⟩ | fail) <;> ((conv => whnf); repeat' (refine vcC_go tok {} rfl ?_; conv => whnf)))
      all_goals try first
        | (exfalso; omega)
        | (refine ⟨⟨j + 1, ?_, ⟨by omega, by omega, ?_⟩, by omega⟩⟩
           · repeat' (first | exact True.intro | exact rfl | refine And.intro ?_ ?_)
           · rw [if_pos (by simp_all)] at hs; omega)
      all_goals
        have hj0 : j = a + n := by
          first
            | (rw [if_neg (by simp_all)] at hs; omega)
            | omega
        subst hj0
        rcases kT' with ⟨v, hv, kT⟩ | ⟨hv, kT⟩
        all_goals
          repeat' ((first | (intro hlq; (try simp only [List.length_map, maxLen] at hlq)) | refine Meets.k (kI) ?_ | refine Meets.k (kT) ?_ | refine Ks ?_ | refine Kq ?_ | refine Kt ?_ | ((refine ⟨fun (hb : _ = true) => ?_, fun (hb : _ = false) => ?_⟩) <;> (try simp only [BB, List.length_map] at hb)) | refine Ka ?_ | refine Kb ?_ | refine Kc (hd := rfl) (e := ?_) | refine Kc (hd := icells_eq _) (e := ?_) | refine Kd (e := ?_) | refine ⟨(rfl : look _ _ = look _ _), ?_⟩ | fail) <;> ((conv => whnf); repeat' (refine vcC_go tok {} rfl ?_; conv => whnf)))
          all_goals first
            | (exfalso; omega)
            | (exfalso; exact absurd True.intro (by assumption))
            | (refine ⟨?_⟩; rw [n1 (by rw [← e]; assumption), e, show ((a + n : Nat) : Int) - (a : Int) = (n : Int) by omega]; rfl)
            | (refine ⟨?_⟩; rw [n2 (by rw [← e]; assumption) (by simp [hv]), e, show ((a + n : Nat) : Int) - (a : Int) = (n : Int) by omega]; rfl)
            | (refine ⟨?_⟩; rw [n3 (by rw [← e]; assumption) hv, show ((a + n : Nat) : Int) - (a : Int) = (n : Int) by omega]; rfl)
    · have hd1 : hdDg (src.drop (j + 1)) = false := by rw [List.drop_eq_nil_of_le (by omega)]; rfl
      rw [hd1] at hs
      by_cases h3 : j < src.length
      · have hs := hs h3
        have k2 := rinner_meets src[j]
        repeat' ((first | (intro hlq; (try simp only [List.length_map, maxLen] at hlq)) | refine Meets.k (k2) ?_ | refine Ky ?_ | refine ⟨_, bc_eq _ _ _, ?_⟩ | refine Ks ?_ | refine Kq ?_ | refine Kt ?_ | ((refine ⟨fun (hb : _ = true) => ?_, fun (hb : _ = false) => ?_⟩) <;> (try simp only [BB, List.length_map] at hb)) | refine Ka ?_ | refine Kb ?_ | refine Kc (hd := rfl) (e := ?_) | refine Kc (hd := rfl) (e := ?_) | refine Kd (e := ?_) | refine ⟨(rfl : look _ _ = look _ _), ?_⟩ | fail) <;> ((conv => whnf); repeat' (refine vcC_go tok {} rfl ?_; conv => whnf)))
        all_goals try first
          | (exfalso; omega)
          | (refine ⟨⟨j + 1, ?_, ⟨by omega, by omega, ?_⟩, by omega⟩⟩
             · repeat' (first | exact True.intro | exact rfl | refine And.intro ?_ ?_)
             · rw [if_pos (by simp_all)] at hs; omega)
        all_goals
          have hj0 : j = a + n := by
            first
              | (rw [if_neg (by simp_all)] at hs; omega)
              | omega
          subst hj0
          rcases kT' with ⟨v, hv, kT⟩ | ⟨hv, kT⟩
          all_goals
            repeat' ((first | (intro hlq; (try simp only [List.length_map, maxLen] at hlq)) | refine Meets.k (kI) ?_ | refine Meets.k (kT) ?_ | refine Ks ?_ | refine Kq ?_ | refine Kt ?_ | ((refine ⟨fun (hb : _ = true) => ?_, fun (hb : _ = false) => ?_⟩) <;> (try simp only [BB, List.length_map] at hb)) | refine Ka ?_ | refine Kb ?_ | refine Kc (hd := rfl) (e := ?_) | refine Kc (hd := icells_eq _) (e := ?_) | refine Kd (e := ?_) | refine ⟨(rfl : look _ _ = look _ _), ?_⟩ | fail) <;> ((conv => whnf); repeat' (refine vcC_go tok {} rfl ?_; conv => whnf)))
            all_goals first
              | (exfalso; omega)
              | (exfalso; exact absurd True.intro (by assumption))
              | (refine ⟨?_⟩; rw [n1 (by rw [← e]; assumption), e, show ((a + n : Nat) : Int) - (a : Int) = (n : Int) by omega]; rfl)
              | (refine ⟨?_⟩; rw [n2 (by rw [← e]; assumption) (by simp [hv]), e, show ((a + n : Nat) : Int) - (a : Int) = (n : Int) by omega]; rfl)
              | (refine ⟨?_⟩; rw [n3 (by rw [← e]; assumption) hv, show ((a + n : Nat) : Int) - (a : Int) = (n : Int) by omega]; rfl)
      · repeat' ((first | (intro hlq; (try simp only [List.length_map, maxLen] at hlq)) | refine Ky ?_ | refine ⟨_, bc_eq _ _ _, ?_⟩ | refine Ks ?_ | refine Kq ?_ | refine Kt ?_ | ((refine ⟨fun (hb : _ = true) => ?_, fun (hb : _ = false) => ?_⟩) <;> (try simp only [BB, List.length_map] at hb)) | refine Ka ?_ | refine Kb ?_ | refine Kc (hd := rfl) (e := ?_) | refine Kc (hd := rfl) (e := ?_) | refine Kd (e := ?_) | refine ⟨(rfl : look _ _ = look _ _), ?_⟩ | fail) <;> ((conv => whnf); repeat' (refine vcC_go tok {} rfl ?_; conv => whnf)))
        all_goals try first
          | (exfalso; omega)
        all_goals
          have hj0 : j = a + n := by omega
          subst hj0
          rcases kT' with ⟨v, hv, kT⟩ | ⟨hv, kT⟩
          all_goals
            repeat' ((first | (intro hlq; (try simp only [List.length_map, maxLen] at hlq)) | refine Meets.k (kI) ?_ | refine Meets.k (kT) ?_ | refine Ks ?_ | refine Kq ?_ | refine Kt ?_ | ((refine ⟨fun (hb : _ = true) => ?_, fun (hb : _ = false) => ?_⟩) <;> (try simp only [BB, List.length_map] at hb)) | refine Ka ?_ | refine Kb ?_ | refine Kc (hd := rfl) (e := ?_) | refine Kc (hd := icells_eq _) (e := ?_) | refine Kd (e := ?_) | refine ⟨(rfl : look _ _ = look _ _), ?_⟩ | fail) <;> ((conv => whnf); repeat' (refine vcC_go tok {} rfl ?_; conv => whnf)))
            all_goals first
              | (exfalso; omega)
              | (exfalso; exact absurd True.intro (by assumption))
              | (refine ⟨?_⟩; rw [n1 (by rw [← e]; assumption), e, show ((a + n : Nat) : Int) - (a : Int) = (n : Int) by omega]; rfl)
              | (refine ⟨?_⟩; rw [n2 (by rw [← e]; assumption) (by simp [hv]), e, show ((a + n : Nat) : Int) - (a : Int) = (n : Int) by omega]; rfl)
              | (refine ⟨?_⟩; rw [n3 (by rw [← e]; assumption) hv, show ((a + n : Nat) : Int) - (a : Int) = (n : Int) by omega]; rfl)
end Go.Proofs.YtedjnaggkakphaaGreatDoor.Dx

