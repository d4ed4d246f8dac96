/- The walk of the law of times. -/
import Derived.Test.YtedjnaggkakphaaGreatDoorRk
set_option linter.all false
namespace Go.Proofs.YtedjnaggkakphaaGreatDoor.Dx
open Go Go.RowKit Go.Proofs
set_option linter.all false
set_option maxRecDepth 100000
set_option maxHeartbeats 1000000

theorem LTimes_meets (s : List UInt8) (t : Int) : Meets Tryz.prog 10 [.str s, iD t] fun r => r = bD true := by
  have kS := sane_meets.bl
  have kX := TimeText_meets t
  have kXt : inTime t = true → Meets Tryz.prog 22 [.str (timeS t)] (fun d => d = .tup [iD t, .v (.int .i64 0)]) ∧ Meets Tryz.prog 12 [.sl (byteCells (timeS t))] fun d => d = .tup [.sl ([⟨3, timeS t, 0⟩, ⟨6, [], (timeS t).length⟩].map tkC), .sl ([].map prC), iD 0] := by
    intro h
    have hN := timeN_timeS h
    have hl := timeS_le t
    exact ⟨cTime_at (by omega) (by rw [timeD, hN]), cTok_at (by omega) (toks_time hN)⟩
  have hE : timeE t = if inTime t then 0 else 1 := rfl
  rw [hE] at kX
  clear hE
  by_cases hl : (s.length : Int) > 1000
  · refine enter tok {} Tryz.func10 rfl (by kernel_rfl) Tryz.ntmps10 (by simp) fun B0 W0 V0 lent g0 => ?_
    ((conv => whnf); repeat' (refine vcC_go tok {} rfl ?_; conv => whnf))
    repeat' ((first | (intro hlq; (try simp only [List.length_map, maxLen] at hlq)) | refine Meets.k (kS) ?_ | refine Ks ?_ | refine Kq ?_ | refine Kt ?_ | ((refine ⟨fun (hb : _ = true) => ?_, fun (hb : _ = false) => ?_⟩) <;> (try simp only [BB, List.length_map] at hb)) | refine Ka ?_ | refine Kb ?_ | refine Kc (hd := rfl) (e := ?_) | refine Kc (hd := icells_eq _) (e := ?_) | refine Kd (e := ?_) | refine ⟨(rfl : look _ _ = look _ _), ?_⟩ | fail) <;> ((conv => whnf); repeat' (refine vcC_go tok {} rfl ?_; conv => whnf)))
    all_goals first
      | exact ⟨rfl⟩
      | (exfalso; omega)
      | contradiction
  have kT := cTime_meets s (by omega)
  cases hN : timeN s with
  | none =>
    rw [timeD, hN] at kT
    have kT : Meets Tryz.prog 22 [.str s] fun d => d = .tup [iD 0, .v (.int .i64 50)] := kT
    clear hN
    cases ht : inTime t with
    | false =>
      rw [ht] at kX
      have kX : Meets Tryz.prog 24 [iD t] fun d => d = .tup [.str (timeS t), iD 1] := kX
      refine enter tok {} Tryz.func10 rfl (by kernel_rfl) Tryz.ntmps10 (by simp) fun B0 W0 V0 lent g0 => ?_
      ((conv => whnf); repeat' (refine vcC_go tok {} rfl ?_; conv => whnf))
      repeat' ((first | (intro hlq; (try simp only [List.length_map, maxLen] at hlq)) | refine Meets.k (kS) ?_ | refine Meets.k (kX) ?_ | refine Meets.k (kT) ?_ | refine Ks ?_ | refine Kq ?_ | refine Kt ?_ | ((refine ⟨fun (hb : _ = true) => ?_, fun (hb : _ = false) => ?_⟩) <;> (try simp only [BB, List.length_map] at hb)) | refine Ka ?_ | refine Kb ?_ | refine Kc (hd := rfl) (e := ?_) | refine Kc (hd := icells_eq _) (e := ?_) | refine Kd (e := ?_) | refine ⟨(rfl : look _ _ = look _ _), ?_⟩ | fail) <;> ((conv => whnf); repeat' (refine vcC_go tok {} rfl ?_; conv => whnf)))
      all_goals first
        | exact ⟨rfl⟩
        | contradiction
        | (exfalso; omega)
    | true =>
      rw [ht] at kX
      have kX : Meets Tryz.prog 24 [iD t] fun d => d = .tup [.str (timeS t), iD 0] := kX
      obtain ⟨kX2, kX3⟩ := kXt ht
      clear kXt
      generalize timeS t = x at *
      refine enter tok {} Tryz.func10 rfl (by kernel_rfl) Tryz.ntmps10 (by simp) fun B0 W0 V0 lent g0 => ?_
      ((conv => whnf); repeat' (refine vcC_go tok {} rfl ?_; conv => whnf))
      repeat' ((first | (intro hlq; (try simp only [List.length_map, maxLen] at hlq)) | refine Meets.k (kS) ?_ | refine Meets.k (kX) ?_ | refine Meets.k (kX2) ?_ | refine Meets.k (kX3) ?_ | refine Meets.k (kT) ?_ | refine ⟨[iD 3, .str x, iD 0], ⟨by decide, rfl, rfl⟩, ?_⟩ | refine Ks ?_ | refine Kq ?_ | refine Kt ?_ | ((refine ⟨fun (hb : _ = true) => ?_, fun (hb : _ = false) => ?_⟩) <;> (try simp only [BB, List.length_map] at hb)) | refine Ka ?_ | refine Kb ?_ | refine Kc (hd := rfl) (e := ?_) | refine Kc (hd := icells_eq _) (e := ?_) | refine Kd (e := ?_) | refine ⟨(rfl : look _ _ = look _ _), ?_⟩ | fail) <;> ((conv => whnf); repeat' (refine vcC_go tok {} rfl ?_; conv => whnf)))
      all_goals first
        | exact ⟨rfl⟩
        | contradiction
        | (exfalso; omega)
        | (exfalso; simp at *; done)
  | some v =>
    have hv := timeN_in hN
    have hvN := timeN_timeS hv
    rw [timeD, hN] at kT
    have kT : Meets Tryz.prog 22 [.str s] fun d => d = .tup [iD v, .v (.int .i64 0)] := kT
    have kV := TimeText_meets v
    rw [timeE, if_pos hv] at kV
    have kV2 : Meets Tryz.prog 22 [.str (timeS v)] fun d => d = .tup [iD v, .v (.int .i64 0)] := cTime_at (by have := timeS_le v; omega) (by rw [timeD, hvN])
    clear hN hvN
    generalize timeS v = y at *
    cases ht : inTime t with
    | false =>
      rw [ht] at kX
      have kX : Meets Tryz.prog 24 [iD t] fun d => d = .tup [.str (timeS t), iD 1] := kX
      refine enter tok {} Tryz.func10 rfl (by kernel_rfl) Tryz.ntmps10 (by simp) fun B0 W0 V0 lent g0 => ?_
      ((conv => whnf); repeat' (refine vcC_go tok {} rfl ?_; conv => whnf))
      repeat' ((first | (intro hlq; (try simp only [List.length_map, maxLen] at hlq)) | refine Meets.k (kS) ?_ | refine Meets.k (kX) ?_ | refine Meets.k (kT) ?_ | refine Meets.k (kV) ?_ | refine Meets.k (kV2) ?_ | refine Ks ?_ | refine Kq ?_ | refine Kt ?_ | ((refine ⟨fun (hb : _ = true) => ?_, fun (hb : _ = false) => ?_⟩) <;> (try simp only [BB, List.length_map] at hb)) | refine Ka ?_ | refine Kb ?_ | refine Kc (hd := rfl) (e := ?_) | refine Kc (hd := icells_eq _) (e := ?_) | refine Kd (e := ?_) | refine ⟨(rfl : look _ _ = look _ _), ?_⟩ | fail) <;> ((conv => whnf); repeat' (refine vcC_go tok {} rfl ?_; conv => whnf)))
      all_goals first
        | exact ⟨rfl⟩
        | contradiction
        | (exfalso; omega)
        | (refine ⟨congrArg bD ?_⟩; simp; done)
    | true =>
      rw [ht] at kX
      have kX : Meets Tryz.prog 24 [iD t] fun d => d = .tup [.str (timeS t), iD 0] := kX
      obtain ⟨kX2, kX3⟩ := kXt ht
      clear kXt
      generalize timeS t = x at *
      refine enter tok {} Tryz.func10 rfl (by kernel_rfl) Tryz.ntmps10 (by simp) fun B0 W0 V0 lent g0 => ?_
      ((conv => whnf); repeat' (refine vcC_go tok {} rfl ?_; conv => whnf))
      repeat' ((first | (intro hlq; (try simp only [List.length_map, maxLen] at hlq)) | refine Meets.k (kS) ?_ | refine Meets.k (kX) ?_ | refine Meets.k (kX2) ?_ | refine Meets.k (kX3) ?_ | refine Meets.k (kT) ?_ | refine Meets.k (kV) ?_ | refine Meets.k (kV2) ?_ | refine ⟨[iD 3, .str x, iD 0], ⟨by decide, rfl, rfl⟩, ?_⟩ | refine Ks ?_ | refine Kq ?_ | refine Kt ?_ | ((refine ⟨fun (hb : _ = true) => ?_, fun (hb : _ = false) => ?_⟩) <;> (try simp only [BB, List.length_map] at hb)) | refine Ka ?_ | refine Kb ?_ | refine Kc (hd := rfl) (e := ?_) | refine Kc (hd := icells_eq _) (e := ?_) | refine Kd (e := ?_) | refine ⟨(rfl : look _ _ = look _ _), ?_⟩ | fail) <;> ((conv => whnf); repeat' (refine vcC_go tok {} rfl ?_; conv => whnf)))
      all_goals first
        | exact ⟨rfl⟩
        | contradiction
        | (exfalso; omega)
        | (exfalso; simp at *; done)
        | (refine ⟨congrArg bD ?_⟩; simp; done)
end Go.Proofs.YtedjnaggkakphaaGreatDoor.Dx

