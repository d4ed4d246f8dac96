/- The reference's small functions: letter, inner, Sign, Integer. -/
import Derived.Test.YtedjnaggkakphaaGreatDoorLg
set_option linter.all false
namespace Go.Proofs.YtedjnaggkakphaaGreatDoor.Dx
open Go Go.RowKit Go.Proofs
set_option linter.all false
set_option maxRecDepth 100000
set_option maxHeartbeats 8000000

theorem rletter_meets (b : UInt8) : Meets Tryz.prog 76 [.v (.int .u8 (b.toNat : Int))] fun d => d = bD (isLt b) := by
  refine enter tok {} Tryz.func76 rfl (by kernel_rfl) Tryz.ntmps76 (by simp) fun B0 W0 V0 lent g0 => ?_
  ((conv => whnf); repeat' (refine vcC_go tok {} rfl ?_; conv => whnf))
  repeat' ((first | (intro hlq; (try simp only [List.length_map, maxLen] at hlq)) | refine Ks ?_ | refine Kq ?_ | refine Kt ?_ | ((refine ⟨fun (hb : _ = true) => ?_, fun (hb : _ = false) => ?_⟩) <;> (try simp only [BB, List.length_map] at hb)) | refine Ka ?_ | refine Kb ?_ | refine Kc (hd := rfl) (e := ?_) | refine Kc (hd := icells_eq _) (e := ?_) | refine Kd (e := ?_) | refine ⟨(rfl : look _ _ = look _ _), ?_⟩ | fail) <;> ((conv => whnf); repeat' (refine vcC_go tok {} rfl ?_; conv => whnf)))
  all_goals
    refine ⟨congrArg bD ?_⟩
    simp only [isLt]
    first
      | (simp_all; done)
      | (rw [Bool.eq_iff_iff]; simp; omega)
theorem rinner_meets (b : UInt8) : Meets Tryz.prog 77 [.v (.int .u8 (b.toNat : Int))] fun d => d = bD (inB b) := by
  have h := beq_c b 95
  refine enter tok {} Tryz.func77 rfl (by kernel_rfl) Tryz.ntmps77 (by simp) fun B0 W0 V0 lent g0 => ?_
  ((conv => whnf); repeat' (refine vcC_go tok {} rfl ?_; conv => whnf))
  repeat' ((first | (intro hlq; (try simp only [List.length_map, maxLen] at hlq)) | refine Meets.k (rletter_meets b) ?_ | refine Meets.k (rdigit_meets b) ?_ | refine Ks ?_ | refine Kq ?_ | refine Kt ?_ | ((refine ⟨fun (hb : _ = true) => ?_, fun (hb : _ = false) => ?_⟩) <;> (try simp only [BB, List.length_map] at hb)) | refine Ka ?_ | refine Kb ?_ | refine Kc (hd := rfl) (e := ?_) | refine Kc (hd := icells_eq _) (e := ?_) | refine Kd (e := ?_) | refine ⟨(rfl : look _ _ = look _ _), ?_⟩ | fail) <;> ((conv => whnf); repeat' (refine vcC_go tok {} rfl ?_; conv => whnf)))
  all_goals
    refine ⟨congrArg bD ?_⟩
    rw [inB, h]
    simp_all
def sgnL (s : List UInt8) : Bool := [[123], [125], [40], [41], [91], [93], [59], [44], [46, 46], [61], [60], [62], [60, 61], [62, 61]].contains s
theorem rSign_meets (s : List UInt8) : Meets Tryz.prog 42 [.str s] fun d => d = bD (sgnL s) := by
  refine enter tok {} Tryz.func42 rfl (by kernel_rfl) Tryz.ntmps42 (by simp) fun B0 W0 V0 lent g0 => ?_
  ((conv => whnf); repeat' (refine vcC_go tok {} rfl ?_; conv => whnf))
  repeat' ((first | (intro hlq; (try simp only [List.length_map, maxLen] at hlq)) | refine Ks ?_ | refine Kq ?_ | refine Kt ?_ | ((refine ⟨fun (hb : _ = true) => ?_, fun (hb : _ = false) => ?_⟩) <;> (try simp only [BB, List.length_map] at hb)) | refine Ka ?_ | refine Kb ?_ | refine Kc (hd := rfl) (e := ?_) | refine Kc (hd := icells_eq _) (e := ?_) | refine Kd (e := ?_) | refine ⟨(rfl : look _ _ = look _ _), ?_⟩ | fail) <;> ((conv => whnf); repeat' (refine vcC_go tok {} rfl ?_; conv => whnf)))
  all_goals refine ⟨congrArg bD ?_⟩
  all_goals first
    | (subst hb; decide)
    | (simp only [sgnL, List.contains_eq_mem]; simp; (repeat' (first | assumption | refine And.intro ?_ ?_)))
theorem rInteger_meets (s : List UInt8) : Meets Tryz.prog 39 [.str s] fun d => d = bD (intgB s) := by
  rcases s with _ | ⟨b, r⟩
  · refine enter tok {} Tryz.func39 rfl (by kernel_rfl) Tryz.ntmps39 (by simp) fun B0 W0 V0 lent g0 => ?_
    ((conv => whnf); repeat' (refine vcC_go tok {} rfl ?_; conv => whnf))
    repeat' ((first | (intro hlq; (try simp only [List.length_map, maxLen] at hlq)) | refine Meets.k (rNumeral_meets []) ?_ | refine Ks ?_ | refine Kq ?_ | refine Kt ?_ | ((refine ⟨fun (hb : _ = true) => ?_, fun (hb : _ = false) => ?_⟩) <;> (try simp only [BB, List.length_map] at hb)) | refine Ka ?_ | refine Kb ?_ | refine Kc (hd := rfl) (e := ?_) | refine Kc (hd := icells_eq _) (e := ?_) | refine Kd (e := ?_) | refine ⟨(rfl : look _ _ = look _ _), ?_⟩ | fail) <;> ((conv => whnf); repeat' (refine vcC_go tok {} rfl ?_; conv => whnf)))
    all_goals first
      | (exfalso
         have h9 := (by assumption : (([] : List UInt8).length : Int) > 0)
         simp at h9)
      | exact ⟨rfl⟩
  · by_cases hb45 : b = 45
    · subst hb45
      have e : List.drop (Int.toNat 1) (List.take (Int.toNat ((45 :: r).length : Int)) (45 :: r)) = r := by
        rw [Int.toNat_natCast, List.take_of_length_le (Nat.le_refl _)]; rfl
      have k : Meets Tryz.prog 52 [.str (List.drop (Int.toNat 1) (List.take (Int.toNat ((45 :: r).length : Int)) (45 :: r)))] fun d => d = bD (numB r) := by
        rw [e]; exact rNumeral_meets r
      refine enter tok {} Tryz.func39 rfl (by kernel_rfl) Tryz.ntmps39 (by simp) fun B0 W0 V0 lent g0 => ?_
      ((conv => whnf); repeat' (refine vcC_go tok {} rfl ?_; conv => whnf))
      repeat' ((first | (intro hlq; (try simp only [List.length_map, maxLen] at hlq)) | refine ⟨45, ⟨by omega, rfl⟩, ?_⟩ | refine Meets.k (k) ?_ | refine Ks ?_ | refine Kq ?_ | refine Kt ?_ | ((refine ⟨fun (hb : _ = true) => ?_, fun (hb : _ = false) => ?_⟩) <;> (try simp only [BB, List.length_map] at hb)) | refine Ka ?_ | refine Kb ?_ | refine Kc (hd := rfl) (e := ?_) | refine Kc (hd := icells_eq _) (e := ?_) | refine Kd (e := ?_) | refine ⟨(rfl : look _ _ = look _ _), ?_⟩ | fail) <;> ((conv => whnf); repeat' (refine vcC_go tok {} rfl ?_; conv => whnf)))
      all_goals first
        | (exfalso
           have h9 := (by assumption : ¬ ((UInt8.toNat 45 : Int) = 45))
           exact h9 rfl)
        | (exfalso
           have h9 := (by assumption : ¬ ((45 :: r).length : Int) > 0)
           simp only [List.length_cons] at h9; omega)
        | (refine ⟨congrArg bD ?_⟩; simp_all [intgB]; done)
    · have hb' : ¬ (b.toNat : Int) = 45 := fun e => hb45 (UInt8.toNat_inj.1 (by have : (45 : UInt8).toNat = 45 := rfl; omega))
      have hp : intgB (b :: r) = numB (b :: r) := intgB_plus (by rintro r' e; cases e; exact hb45 rfl)
      refine enter tok {} Tryz.func39 rfl (by kernel_rfl) Tryz.ntmps39 (by simp) fun B0 W0 V0 lent g0 => ?_
      ((conv => whnf); repeat' (refine vcC_go tok {} rfl ?_; conv => whnf))
      repeat' ((first | (intro hlq; (try simp only [List.length_map, maxLen] at hlq)) | refine ⟨b, ⟨by omega, rfl⟩, ?_⟩ | refine Meets.k (rNumeral_meets (b :: r)) ?_ | refine Ks ?_ | refine Kq ?_ | refine Kt ?_ | ((refine ⟨fun (hb : _ = true) => ?_, fun (hb : _ = false) => ?_⟩) <;> (try simp only [BB, List.length_map] at hb)) | refine Ka ?_ | refine Kb ?_ | refine Kc (hd := rfl) (e := ?_) | refine Kc (hd := icells_eq _) (e := ?_) | refine Kd (e := ?_) | refine ⟨(rfl : look _ _ = look _ _), ?_⟩ | fail) <;> ((conv => whnf); repeat' (refine vcC_go tok {} rfl ?_; conv => whnf)))
      all_goals first
        | contradiction
        | (rw [hp]; exact ⟨rfl⟩)
        | (exfalso
           have h9 := (by assumption : ¬ ((b :: r).length : Int) > 0)
           simp only [List.length_cons] at h9; omega)
/-- the reference's quoted text -/
theorem rQuoted_none (l : List UInt8) (hl : l.length ≤ 65536) (h : ∀ t, l ≠ 34 :: t) : Meets Tryz.prog 79 [.sl (byteCells l)] fun d => d = .tup [.str [], iD 0] := by
  rcases l with _ | ⟨c, t⟩
  · refine enter tok {} Tryz.func79 rfl (by kernel_rfl) Tryz.ntmps79 (by simp) fun B0 W0 V0 lent g0 => ?_
    ((conv => whnf); repeat' (refine vcC_go tok {} rfl ?_; conv => whnf))
    repeat' ((first | (intro hlq; (try simp only [List.length_map, maxLen] at hlq)) | refine Ks ?_ | refine Kq ?_ | refine Kt ?_ | ((refine ⟨fun (hb : _ = true) => ?_, fun (hb : _ = false) => ?_⟩) <;> (try simp only [BB, List.length_map] at hb)) | refine Ka ?_ | refine Kb ?_ | refine Kc (hd := rfl) (e := ?_) | refine Kc (hd := icells_eq _) (e := ?_) | refine Kd (e := ?_) | refine ⟨(rfl : look _ _ = look _ _), ?_⟩ | fail) <;> ((conv => whnf); repeat' (refine vcC_go tok {} rfl ?_; conv => whnf)))
    all_goals first
      | exact ⟨rfl⟩
      | (exfalso
         have h9 := (by assumption : ¬ (([] : List UInt8).length : Int) = 0)
         exact h9 rfl)
  · have hc : ¬ (c.toNat : Int) = 34 := fun e => h t (by rw [(u8_eq (n := 34) (by decide)).2 e]; rfl)
    refine enter tok {} Tryz.func79 rfl (by kernel_rfl) Tryz.ntmps79 (by simp) fun B0 W0 V0 lent g0 => ?_
    ((conv => whnf); repeat' (refine vcC_go tok {} rfl ?_; conv => whnf))
    repeat' ((first | (intro hlq; (try simp only [List.length_map, maxLen] at hlq)) | refine ⟨[cD (c.toNat : Int)], ⟨by omega, rfl, rfl⟩, ?_⟩ | refine Ks ?_ | refine Kq ?_ | refine Kt ?_ | ((refine ⟨fun (hb : _ = true) => ?_, fun (hb : _ = false) => ?_⟩) <;> (try simp only [BB, List.length_map] at hb)) | refine Ka ?_ | refine Kb ?_ | refine Kc (hd := rfl) (e := ?_) | refine Kc (hd := icells_eq _) (e := ?_) | refine Kd (e := ?_) | refine ⟨(rfl : look _ _ = look _ _), ?_⟩ | fail) <;> ((conv => whnf); repeat' (refine vcC_go tok {} rfl ?_; conv => whnf)))
    all_goals first
      | exact ⟨rfl⟩
      | contradiction
      | (exfalso; simp only [List.length_cons] at *; omega)
theorem rQuoted_meets (t : List UInt8) (hl : (34 :: t).length ≤ 65536) : Meets Tryz.prog 79 [.sl (byteCells (34 :: t))] fun d => d = quoD (quoR [] 1 (quoN t)) := by
  obtain ⟨l, hl34⟩ : ∃ l, l = 34 :: t := ⟨_, rfl⟩
  have h0 : (byteCells l)[Int.toNat 0]? = some [cD 34] := by rw [hl34]; rfl
  have hn : 0 < l.length := by rw [hl34]; simp
  have ht : l.drop 1 = t := by rw [hl34]; rfl
  rw [← hl34] at hl ⊢
  rw [← ht]
  clear hl34
  refine enter tok {} Tryz.func79 rfl (by kernel_rfl) Tryz.ntmps79 (by simp) fun B0 W0 V0 lent g0 => ?_
  ((conv => whnf); repeat' (refine vcC_go tok {} rfl ?_; conv => whnf))
  repeat' ((first | (intro hlq; (try simp only [List.length_map, maxLen] at hlq)) | refine ⟨[cD 34], ⟨by omega, h0, rfl⟩, ?_⟩ | refine Ks ?_ | refine Kq ?_ | refine Kt ?_ | ((refine ⟨fun (hb : _ = true) => ?_, fun (hb : _ = false) => ?_⟩) <;> (try simp only [BB, List.length_map] at hb)) | refine Ka ?_ | refine Kb ?_ | refine Kc (hd := rfl) (e := ?_) | refine Kc (hd := icells_eq _) (e := ?_) | refine Kd (e := ?_) | refine ⟨(rfl : look _ _ = look _ _), ?_⟩ | fail) <;> ((conv => whnf); repeat' (refine vcC_go tok {} rfl ?_; conv => whnf)))
  · exfalso; omega
  · exfalso; exact absurd rfl (by assumption)
  refine loop_upd tok {} [(.inl 4, 4, 5, 1)] (X := Nat × List UInt8) (fun x => [(5, iB x.1), (4, .own 4)]) (fun x => [(4, .sl ⟨5, 1, byteCells x.2, true⟩)]) [] (fun x => 1 ≤ x.1 ∧ x.1 ≤ l.length + 1 ∧ x.2.length ≤ x.1 ∧ quoR x.2 x.1 (quoN (l.drop x.1)) = quoR [] 1 (quoN (l.drop 1))) (fun x => l.length + 1 - x.1) (1, []) ?_
  ((conv => whnf); repeat' (refine vcC_go tok {} rfl ?_; conv => whnf))
  refine ⟨by simp, ?_⟩
  ((conv => whnf); repeat' (refine vcC_go tok {} rfl ?_; conv => whnf))
  refine And.intro ?_ ⟨⟨by omega, by dsimp only; omega, by simp, rfl⟩, fun x hΦ => ?_⟩
  · repeat' (first | exact True.intro | exact rfl | refine And.intro ?_ ?_)
  obtain ⟨i, acc⟩ := x
  dsimp only at hΦ ⊢
  obtain ⟨hi, hj, hk, he⟩ := hΦ
  rw [← he]
  ((conv => whnf); repeat' (refine vcC_go tok {} rfl ?_; conv => whnf))
  repeat' ((first | (intro hlq; (try simp only [List.length_map, maxLen] at hlq)) | refine Ks ?_ | refine Kq ?_ | refine Kt ?_ | refine Ka ?_ | refine Kb ?_ | refine Kc (hd := rfl) (e := ?_) | refine Kc (hd := icells_eq _) (e := ?_) | refine Kd (e := ?_) | refine ⟨(rfl : look _ _ = look _ _), ?_⟩ | fail) <;> ((conv => whnf); repeat' (refine vcC_go tok {} rfl ?_; conv => whnf)))
  refine ⟨fun h1 => ?_, fun h1 => ?_⟩ <;> (try simp only [BB, List.length_map] at h1) <;> ((conv => whnf); repeat' (refine vcC_go tok {} rfl ?_; conv => whnf))
  · have h1' : i < l.length := by omega
    have e := List.drop_eq_getElem_cons h1'
    rw [e] at he ⊢
    obtain ⟨c1, c2, c3, c4, c5⟩ := quo_cases l[i] (l.drop (i + 1)) acc i
    have hk' : acc.length ≤ 65537 := by omega
    have hfin : ∀ {x : UInt8} {j : Nat}, j ≤ l.length → i < j → quoR acc i (quoN (l[i] :: l.drop (i + 1))) = quoR (acc ++ [x]) j (quoN (l.drop j)) → 1 ≤ j ∧ j ≤ l.length + 1 ∧ (acc ++ [x]).length ≤ j ∧ quoR (acc ++ [x]) j (quoN (l.drop j)) = quoR acc i (quoN (l[i] :: l.drop (i + 1))) := by
      intro x j h1 h2 h3
      refine ⟨by omega, by omega, by rw [List.length_append, List.length_singleton]; omega, h3.symm⟩
    by_cases he92 : (l[i].toNat : Int) = 92
    · by_cases hlt : i + 1 < l.length
      · have e2 := List.drop_eq_getElem_cons hlt
        obtain ⟨d1, d2, d3⟩ := c5 _ _ he92 e2
        repeat' ((first | (intro hlq; (try simp only [List.length_map, maxLen] at hlq)) | refine Kar ?_ | refine Kap ?_ | refine Ks ?_ | refine Kq ?_ | refine Kt ?_ | ((refine ⟨fun (hb : _ = true) => ?_, fun (hb : _ = false) => ?_⟩) <;> (try simp only [BB, List.length_map] at hb)) | refine Ka ?_ | refine Kb ?_ | refine Kc (hd := rfl) (e := ?_) | refine Kc (hd := rfl) (e := ?_) | refine Kd (e := ?_) | refine ⟨(rfl : look _ _ = look _ _), ?_⟩ | fail) <;> ((conv => whnf); repeat' (refine vcC_go tok {} rfl ?_; conv => whnf)))
        all_goals first
          | (exfalso; omega)
          | (refine ⟨?_⟩; rw [d3 (by assumption) (by assumption) (by assumption)]; rfl)
          | (refine ⟨⟨(i + 2, acc ++ [l[i + 1]]), ?_, hfin (j := i + 2) (by omega) (by omega) (d1 (by first | exact .inl (by assumption) | exact .inr (by assumption))), by dsimp only; omega⟩⟩
             dsimp only
             rw [← bcs]
             repeat' (first | exact True.intro | exact rfl | refine And.intro ?_ ?_))
          | (refine ⟨⟨(i + 2, acc ++ [10]), ?_, hfin (j := i + 2) (by omega) (by omega) (d2 (by assumption)), by dsimp only; omega⟩⟩
             dsimp only
             rw [← bcs]
             repeat' (first | exact True.intro | exact rfl | refine And.intro ?_ ?_))
      · have e2 : List.drop (i + 1) l = [] := List.drop_eq_nil_of_le (by omega)
        rw [c4 he92 e2]
        repeat' ((first | (intro hlq; (try simp only [List.length_map, maxLen] at hlq)) | refine Ks ?_ | refine Kq ?_ | refine Kt ?_ | ((refine ⟨fun (hb : _ = true) => ?_, fun (hb : _ = false) => ?_⟩) <;> (try simp only [BB, List.length_map] at hb)) | refine Ka ?_ | refine Kb ?_ | refine Kc (hd := rfl) (e := ?_) | refine Kc (hd := rfl) (e := ?_) | refine Kd (e := ?_) | refine ⟨(rfl : look _ _ = look _ _), ?_⟩ | fail) <;> ((conv => whnf); repeat' (refine vcC_go tok {} rfl ?_; conv => whnf)))
        all_goals first
          | exact ⟨rfl⟩
          | (exfalso; omega)
    · repeat' ((first | (intro hlq; (try simp only [List.length_map, maxLen] at hlq)) | refine ⟨acc, rfl, ?_⟩ | refine Kar ?_ | refine Kap ?_ | refine Ks ?_ | refine Kq ?_ | refine Kt ?_ | ((refine ⟨fun (hb : _ = true) => ?_, fun (hb : _ = false) => ?_⟩) <;> (try simp only [BB, List.length_map] at hb)) | refine Ka ?_ | refine Kb ?_ | refine Kc (hd := rfl) (e := ?_) | refine Kc (hd := rfl) (e := ?_) | refine Kd (e := ?_) | refine ⟨(rfl : look _ _ = look _ _), ?_⟩ | fail) <;> ((conv => whnf); repeat' (refine vcC_go tok {} rfl ?_; conv => whnf)))
      all_goals first
        | (exfalso; omega)
        | (refine ⟨?_⟩; rw [c1 (by assumption)]; rfl)
        | (refine ⟨?_⟩; rw [c2 (by assumption) (.inl (by assumption))]; rfl)
        | (refine ⟨?_⟩; rw [c2 (by assumption) (.inr (by assumption))]; rfl)
        | (refine ⟨⟨(i + 1, acc ++ [l[i]]), ?_, hfin (by omega) (by omega) (c3 (by omega) (by omega) (by omega) he92), by dsimp only; omega⟩⟩
           dsimp only
           rw [← bcs]
           repeat' (first | exact True.intro | exact rfl | refine And.intro ?_ ?_))
  · refine ⟨?_⟩
    rw [List.drop_eq_nil_of_le (by omega)]
    rfl
end Go.Proofs.YtedjnaggkakphaaGreatDoor.Dx

