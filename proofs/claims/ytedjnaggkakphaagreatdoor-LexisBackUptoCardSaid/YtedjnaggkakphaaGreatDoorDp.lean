/- Numbers in the reference: digit, Numeral, number, sixty, fraction. -/
import Derived.Test.YtedjnaggkakphaaGreatDoorDo
set_option linter.all false
namespace Go.Proofs.YtedjnaggkakphaaGreatDoor.Dx
open Go Go.RowKit Go.Proofs
set_option maxRecDepth 100000
set_option maxHeartbeats 8000000
theorem rdigit_meets (b : UInt8) : Meets Tryz.prog 78 [.v (.int .u8 (b.toNat : Int))] fun d => d = bD (isDg b) := by
 refine enter tok {} Tryz.func78 rfl (by kernel_rfl) Tryz.ntmps78 (by simp) fun B0 W0 V0 lent g0 => ?_
 ((conv => whnf); repeat' (refine Z rfl ?_; conv => whnf))
 repeat' ((first | (intro hlq; (try simp only [SL] at hlq)) | refine Ks ?_ | refine Kq ?_ | refine Kt ?_ | ((refine Kh (fun hb => ?_) fun hb => ?_) <;> (try simp only [BL] at hb)) | refine Ka ?_ | refine Kb ?_ | refine Kc (hd := rfl) (e := ?_) | refine Kc (hd := icells_eq _) (e := ?_) | refine Kd (e := ?_) | refine Kl rfl ?_ | fail) <;> ((conv => whnf); repeat' (refine Z rfl ?_; conv => whnf)))
 all_goals
  refine ⟨congrArg bD ?_⟩
  first
   | (simp_all [isDg]; done)
   | (simp only [isDg]; rw [decide_eq_false (by omega)]; rfl)
theorem rNumeral_meets (s : List UInt8) : Meets Tryz.prog 52 [.str s] fun d => d = bD (numB s) := by
 refine enter tok {} Tryz.func52 rfl (by kernel_rfl) Tryz.ntmps52 (by simp) fun B0 W0 V0 lent g0 => ?_
 ((conv => whnf); repeat' (refine Z rfl ?_; conv => whnf))
 refine loop_upd tok {} [] (X := Nat) (fun i => [(3, iB i)]) (fun _ => []) [] (fun i => i ≤ s.length ∧ ∀ x ∈ s.take i, isDg x = true) (fun i => s.length - i) 0 ?_
 ((conv => whnf); repeat' (refine Z rfl ?_; conv => whnf))
 refine And.intro ?_ ⟨⟨by omega, by simp⟩, fun i hΦ => ?_⟩
 · exact Kr
 obtain ⟨hi, hp⟩ := hΦ
 ((conv => whnf); repeat' (refine Z rfl ?_; conv => whnf))
 repeat' ((first | (intro hlq; (try simp only [SL] at hlq)) | refine Ks ?_ | refine Kq ?_ | refine Kt ?_ | refine Ka ?_ | refine Kb ?_ | refine Kc (hd := rfl) (e := ?_) | refine Kc (hd := icells_eq _) (e := ?_) | refine Kd (e := ?_) | refine Kl rfl ?_ | fail) <;> ((conv => whnf); repeat' (refine Z rfl ?_; conv => whnf)))
 refine ⟨fun h1 => ?_, fun h1 => ?_⟩ <;> (try simp only [BL] at h1) <;> ((conv => whnf); repeat' (refine Z rfl ?_; conv => whnf))
 · have h1' : i < s.length := by omega
   repeat' ((first | (intro hlq; (try simp only [SL] at hlq)) | refine Meets.k (rdigit_meets s[i]) ?_ | refine Ks ?_ | refine Kq ?_ | refine Kt ?_ | ((refine Kh (fun hb => ?_) fun hb => ?_) <;> (try simp only [BL] at hb)) | refine Ka ?_ | refine Kb ?_ | refine Kc (hd := rfl) (e := ?_) | refine Kc (hd := icells_eq _) (e := ?_) | refine Kd (e := ?_) | refine Kl rfl ?_ | fail) <;> ((conv => whnf); repeat' (refine Z rfl ?_; conv => whnf)))
   · refine ⟨congrArg bD ?_⟩
     have : s.all isDg = false := all_false (List.getElem_mem h1') (by assumption)
     simp [numB, digitsB, this]
   · refine ⟨⟨i + 1, ?_, ⟨by omega, take_snoc h1' hp (by assumption)⟩, by omega⟩⟩
     repeat' (first | exact True.intro | exact rfl | refine And.intro ?_ ?_)
 have hall : s.all isDg = true := all_true (by omega) hp
 rcases s with _ | ⟨b, r⟩
 · repeat' ((first | (intro hlq; (try simp only [SL] at hlq)) | refine Ks ?_ | refine Kq ?_ | refine Kt ?_ | ((refine Kh (fun hb => ?_) fun hb => ?_) <;> (try simp only [BL] at hb)) | refine Ka ?_ | refine Kb ?_ | refine Kc (hd := rfl) (e := ?_) | refine Kc (hd := icells_eq _) (e := ?_) | refine Kd (e := ?_) | refine Kl rfl ?_ | fail) <;> ((conv => whnf); repeat' (refine Z rfl ?_; conv => whnf)))
   all_goals first
    | exact ⟨rfl⟩
    | (exfalso
       have h9 := (by assumption : (([] : List UInt8).length : Int) > 0)
       simp at h9)
 · have h48 : (b = 48) = ((b.toNat : Int) = 48) := by
    rw [← UInt8.toNat_inj]
    exact propext ⟨fun h => by rw [h]; rfl, fun h => by have : (48 : UInt8).toNat = 48 := rfl; omega⟩
   repeat' ((first | (intro hlq; (try simp only [SL] at hlq)) | refine ⟨b, ⟨by omega, rfl⟩, ?_⟩ | refine Ks ?_ | refine Kq ?_ | refine Kt ?_ | ((refine Kh (fun hb => ?_) fun hb => ?_) <;> (try simp only [BL] at hb)) | refine Ka ?_ | refine Kb ?_ | refine Kc (hd := rfl) (e := ?_) | refine Kc (hd := icells_eq _) (e := ?_) | refine Kd (e := ?_) | refine Kl rfl ?_ | fail) <;> ((conv => whnf); repeat' (refine Z rfl ?_; conv => whnf)))
   all_goals
    refine ⟨congrArg bD ?_⟩
    simp only [numB, digitsB, hall, List.head?_cons, Option.some.injEq, h48, ne_eq, Bool.and_true]
    first
     | (rw [decide_eq_true (by omega : ((b :: r).length : Int) ≥ 1), decide_eq_true (by assumption : ((b :: r).length : Int) ≤ 18), decide_eq_false (by assumption : ¬ (b :: r = [48]))]; rfl)
     | (simp_all; done)
     | (simp_all; omega)
     | (rw [decide_eq_true (by omega), decide_eq_true (by omega)]; simp_all; done)
     | (rw [decide_eq_false (by omega : ¬ ((b :: r).length : Int) ≤ 18)]; simp; done)
     | (rw [decide_eq_false (by omega : ¬ ((b :: r).length : Int) ≥ 1)]; rfl)
def numN (s : List UInt8) : Nat := s.foldl (fun a b => 10 * a + (b.toNat - 48)) 0
theorem numN_snoc (s : List UInt8) (b : UInt8) : numN (s ++ [b]) = 10 * numN s + (b.toNat - 48) := by simp [numN, List.foldl_append]
theorem isDg_iff {b : UInt8} : isDg b = true ↔ 48 ≤ b.toNat ∧ b.toNat ≤ 57 := by
 simp only [isDg, Bool.and_eq_true, decide_eq_true_eq]; omega
theorem numN_lt : ∀ (n : Nat) (s : List UInt8), s.length = n → s.all isDg = true → numN s < 10 ^ n
 | 0, s, h, _ => by rw [List.eq_nil_of_length_eq_zero h]; decide
 | n + 1, s, h, hd => by
   rcases List.eq_nil_or_concat s with rfl | ⟨s, b, rfl⟩
   · cases h
   rw [List.concat_eq_append] at *
   rw [List.length_append, List.length_singleton] at h
   rw [List.all_append, Bool.and_eq_true] at hd
   have ih := numN_lt n s (by omega) hd.1
   have hb := isDg_iff.1 (by simpa using hd.2 : isDg b = true)
   rw [numN_snoc, Nat.pow_succ]
   omega
theorem numN_le {s : List UInt8} (hd : s.all isDg = true) (hl : s.length ≤ 18) : numN s < 1000000000000000000 := by
 have h := numN_lt _ s rfl hd
 have : 10 ^ s.length ≤ 10 ^ 18 := Nat.pow_le_pow_right (by omega) hl
 omega
theorem number_meets (s : List UInt8) (hd : s.all isDg = true) (hl : s.length ≤ 18) : Meets Tryz.prog 53 [.str s] fun d => d = iD (numN s) := by
 refine enter tok {} Tryz.func53 rfl (by kernel_rfl) Tryz.ntmps53 (by simp) fun B0 W0 V0 lent g0 => ?_
 ((conv => whnf); repeat' (refine Z rfl ?_; conv => whnf))
 refine loop_upd tok {} [] (X := Nat) (fun i => [(4, iB i), (3, iB (numN (s.take i)))]) (fun _ => []) [] (fun i => i ≤ s.length) (fun i => s.length - i) 0 ?_
 ((conv => whnf); repeat' (refine Z rfl ?_; conv => whnf))
 refine And.intro ?_ ⟨by omega, fun i hi => ?_⟩
 · exact Kr
 ((conv => whnf); repeat' (refine Z rfl ?_; conv => whnf))
 repeat' ((first | (intro hlq; (try simp only [SL] at hlq)) | refine Ks ?_ | refine Kq ?_ | refine Kt ?_ | refine Ka ?_ | refine Kb ?_ | refine Kc (hd := rfl) (e := ?_) | refine Kc (hd := icells_eq _) (e := ?_) | refine Kd (e := ?_) | refine Kl rfl ?_ | fail) <;> ((conv => whnf); repeat' (refine Z rfl ?_; conv => whnf)))
 refine ⟨fun h1 => ?_, fun h1 => ?_⟩ <;> (try simp only [BL] at h1) <;> ((conv => whnf); repeat' (refine Z rfl ?_; conv => whnf))
 · have h1' : i < s.length := by omega
   have hb := isDg_iff.1 (List.all_eq_true.1 hd _ (List.getElem_mem h1'))
   have hn := numN_le (s := s.take (i + 1)) (List.all_eq_true.2 fun x hx => List.all_eq_true.1 hd x (List.mem_of_mem_take hx)) (by rw [List.length_take]; omega)
   have he : numN (s.take (i + 1)) = 10 * numN (s.take i) + (s[i].toNat - 48) := by rw [List.take_succ_eq_append_getElem h1', numN_snoc]
   refine ⟨fun _ _ => i64 (by omega) (by omega), ?_⟩
   ((conv => whnf); repeat' (refine Z rfl ?_; conv => whnf))
   repeat' ((first | (intro hlq; (try simp only [SL] at hlq)) | refine Ks ?_ | refine Kq ?_ | refine Kt ?_ | refine Ka ?_ | refine Kb ?_ | refine Kc (hd := rfl) (e := ?_) | refine Kc (hd := icells_eq _) (e := ?_) | refine Kd (e := ?_) | refine Kl rfl ?_ | fail) <;> ((conv => whnf); repeat' (refine Z rfl ?_; conv => whnf)))
   refine ⟨fun _ => i64 (by omega) (by omega), ?_⟩
   ((conv => whnf); repeat' (refine Z rfl ?_; conv => whnf))
   repeat' ((first | (intro hlq; (try simp only [SL] at hlq)) | refine Ks ?_ | refine Kq ?_ | refine Kt ?_ | refine Ka ?_ | refine Kb ?_ | refine Kc (hd := rfl) (e := ?_) | refine Kc (hd := icells_eq _) (e := ?_) | refine Kd (e := ?_) | refine Kl rfl ?_ | fail) <;> ((conv => whnf); repeat' (refine Z rfl ?_; conv => whnf)))
   refine ⟨⟨i + 1, ?_, by omega, by omega⟩⟩
   rw [show ((numN (s.take (i + 1)) : Nat) : Int) = 10 * ((numN (s.take i) : Nat) : Int) + ((s[i].toNat : Int) - 48) by omega]
   repeat' (first | exact True.intro | exact rfl | refine And.intro ?_ ?_)
 · rw [List.take_of_length_le (by omega)]
   exact ⟨rfl⟩
/-- two digits below sixty: their number; else -1 -/
def sixN (s : List UInt8) : Int := match s with
 | [a, b] => if isDg a && (isDg b && decide ((a.toNat : Int) ≤ 53)) then (numN [a, b] : Nat) else -1
 | _ => -1
theorem sixty_meets (s : List UInt8) : Meets Tryz.prog 54 [.str s] fun d => d = iD (sixN s) := by
 rcases s with _ | ⟨a, _ | ⟨b, _ | ⟨c, r⟩⟩⟩
 · refine enter tok {} Tryz.func54 rfl (by kernel_rfl) Tryz.ntmps54 (by simp) fun B0 W0 V0 lent g0 => ?_
   ((conv => whnf); repeat' (refine Z rfl ?_; conv => whnf))
   repeat' ((first | (intro hlq; (try simp only [SL] at hlq)) | refine Ks ?_ | refine Kq ?_ | refine Kt ?_ | ((refine Kh (fun hb => ?_) fun hb => ?_) <;> (try simp only [BL] at hb)) | refine Ka ?_ | refine Kb ?_ | refine Kc (hd := rfl) (e := ?_) | refine Kc (hd := icells_eq _) (e := ?_) | refine Kd (e := ?_) | refine Kl rfl ?_ | fail) <;> ((conv => whnf); repeat' (refine Z rfl ?_; conv => whnf)))
   all_goals first | exact ⟨rfl⟩ | (exfalso; simp at *; done)
 · refine enter tok {} Tryz.func54 rfl (by kernel_rfl) Tryz.ntmps54 (by simp) fun B0 W0 V0 lent g0 => ?_
   ((conv => whnf); repeat' (refine Z rfl ?_; conv => whnf))
   repeat' ((first | (intro hlq; (try simp only [SL] at hlq)) | refine Ks ?_ | refine Kq ?_ | refine Kt ?_ | ((refine Kh (fun hb => ?_) fun hb => ?_) <;> (try simp only [BL] at hb)) | refine Ka ?_ | refine Kb ?_ | refine Kc (hd := rfl) (e := ?_) | refine Kc (hd := icells_eq _) (e := ?_) | refine Kd (e := ?_) | refine Kl rfl ?_ | fail) <;> ((conv => whnf); repeat' (refine Z rfl ?_; conv => whnf)))
   all_goals first | exact ⟨rfl⟩ | (exfalso; simp at *; done)
 · have hn : isDg a = true → isDg b = true → Meets Tryz.prog 53 [.str [a, b]] fun d => d = iD (numN [a, b]) := fun h1 h2 => number_meets [a, b] (by simp [h1, h2]) (by simp)
   refine enter tok {} Tryz.func54 rfl (by kernel_rfl) Tryz.ntmps54 (by simp) fun B0 W0 V0 lent g0 => ?_
   ((conv => whnf); repeat' (refine Z rfl ?_; conv => whnf))
   repeat' ((first | (intro hlq; (try simp only [SL] at hlq)) | refine ⟨a, ⟨by omega, rfl⟩, ?_⟩ | refine ⟨b, ⟨by omega, rfl⟩, ?_⟩ | refine Meets.k (rdigit_meets a) ?_ | refine Meets.k (rdigit_meets b) ?_ | refine Meets.k (hn (by assumption) (by assumption)) ?_ | refine Ks ?_ | refine Kq ?_ | refine Kt ?_ | ((refine Kh (fun hb => ?_) fun hb => ?_) <;> (try simp only [BL] at hb)) | refine Ka ?_ | refine Kb ?_ | refine Kc (hd := rfl) (e := ?_) | refine Kc (hd := icells_eq _) (e := ?_) | refine Kd (e := ?_) | refine Kl rfl ?_ | fail) <;> ((conv => whnf); repeat' (refine Z rfl ?_; conv => whnf)))
   all_goals (refine ⟨congrArg iD ?_⟩; first | (exfalso; simp at *; done) | (simp_all [sixN]; done) | (simp [sixN, *]; omega))
 · refine enter tok {} Tryz.func54 rfl (by kernel_rfl) Tryz.ntmps54 (by simp) fun B0 W0 V0 lent g0 => ?_
   ((conv => whnf); repeat' (refine Z rfl ?_; conv => whnf))
   repeat' ((first | (intro hlq; (try simp only [SL] at hlq)) | refine Ks ?_ | refine Kq ?_ | refine Kt ?_ | ((refine Kh (fun hb => ?_) fun hb => ?_) <;> (try simp only [BL] at hb)) | refine Ka ?_ | refine Kb ?_ | refine Kc (hd := rfl) (e := ?_) | refine Kc (hd := icells_eq _) (e := ?_) | refine Kd (e := ?_) | refine Kl rfl ?_ | fail) <;> ((conv => whnf); repeat' (refine Z rfl ?_; conv => whnf)))
   all_goals first | exact ⟨rfl⟩ | (exfalso; simp only [List.length_cons] at *; omega)
/-- the millionths that a text of at most six digits names; else -1 -/
def fracN (s : List UInt8) : Int := if decide (1 ≤ s.length) && (decide (s.length ≤ 6) && s.all isDg) then ((numN s * 10 ^ (6 - s.length) : Nat) : Int) else -1
theorem fraction_meets (s : List UInt8) : Meets Tryz.prog 51 [.str s] fun d => d = iD (fracN s) := by
 refine enter tok {} Tryz.func51 rfl (by kernel_rfl) Tryz.ntmps51 (by simp) fun B0 W0 V0 lent g0 => ?_
 ((conv => whnf); repeat' (refine Z rfl ?_; conv => whnf))
 repeat' ((first | (intro hlq; (try simp only [SL] at hlq)) | refine Ks ?_ | refine Kq ?_ | refine Kt ?_ | ((refine Kh (fun hb => ?_) fun hb => ?_) <;> (try simp only [BL] at hb)) | refine Ka ?_ | refine Kb ?_ | refine Kc (hd := rfl) (e := ?_) | refine Kc (hd := icells_eq _) (e := ?_) | refine Kd (e := ?_) | refine Kl rfl ?_ | fail) <;> ((conv => whnf); repeat' (refine Z rfl ?_; conv => whnf)))
 · exact ⟨congrArg iD (by simp only [fracN]; rw [decide_eq_false (by omega)]; rfl)⟩
 · exact ⟨congrArg iD (by simp only [fracN]; rw [decide_eq_false (by omega : ¬ s.length ≤ 6)]; simp)⟩
 refine loop_upd tok {} [] (X := Nat) (fun i => [(3, iB i)]) (fun _ => []) [] (fun i => i ≤ s.length ∧ ∀ x ∈ s.take i, isDg x = true) (fun i => s.length - i) 0 ?_
 ((conv => whnf); repeat' (refine Z rfl ?_; conv => whnf))
 refine And.intro ?_ ⟨⟨by omega, by simp⟩, fun i hΦ => ?_⟩
 · exact Kr
 obtain ⟨hi, hp⟩ := hΦ
 ((conv => whnf); repeat' (refine Z rfl ?_; conv => whnf))
 repeat' ((first | (intro hlq; (try simp only [SL] at hlq)) | refine Ks ?_ | refine Kq ?_ | refine Kt ?_ | refine Ka ?_ | refine Kb ?_ | refine Kc (hd := rfl) (e := ?_) | refine Kc (hd := icells_eq _) (e := ?_) | refine Kd (e := ?_) | refine Kl rfl ?_ | fail) <;> ((conv => whnf); repeat' (refine Z rfl ?_; conv => whnf)))
 refine ⟨fun h1 => ?_, fun h1 => ?_⟩ <;> (try simp only [BL] at h1) <;> ((conv => whnf); repeat' (refine Z rfl ?_; conv => whnf))
 · have h1' : i < s.length := by omega
   repeat' ((first | (intro hlq; (try simp only [SL] at hlq)) | refine Meets.k (rdigit_meets s[i]) ?_ | refine Ks ?_ | refine Kq ?_ | refine Kt ?_ | ((refine Kh (fun hb => ?_) fun hb => ?_) <;> (try simp only [BL] at hb)) | refine Ka ?_ | refine Kb ?_ | refine Kc (hd := rfl) (e := ?_) | refine Kc (hd := icells_eq _) (e := ?_) | refine Kd (e := ?_) | refine Kl rfl ?_ | fail) <;> ((conv => whnf); repeat' (refine Z rfl ?_; conv => whnf)))
   · refine ⟨congrArg iD ?_⟩
     have : s.all isDg = false := all_false (List.getElem_mem h1') (by assumption)
     simp [fracN, this]
   · refine ⟨⟨i + 1, ?_, ⟨by omega, take_snoc h1' hp (by assumption)⟩, by omega⟩⟩
     repeat' (first | exact True.intro | exact rfl | refine And.intro ?_ ?_)
 have hall : s.all isDg = true := all_true (by omega) hp
 have hn := number_meets s hall (by omega)
 have hlt := numN_lt _ s rfl hall
 repeat' ((first | (intro hlq; (try simp only [SL] at hlq)) | refine Meets.k (hn) ?_ | refine Ks ?_ | refine Kq ?_ | refine Kt ?_ | ((refine Kh (fun hb => ?_) fun hb => ?_) <;> (try simp only [BL] at hb)) | refine Ka ?_ | refine Kb ?_ | refine Kc (hd := rfl) (e := ?_) | refine Kc (hd := icells_eq _) (e := ?_) | refine Kd (e := ?_) | refine Kl rfl ?_ | fail) <;> ((conv => whnf); repeat' (refine Z rfl ?_; conv => whnf)))
 refine loop_upd tok {} [] (X := Nat) (fun j => [(4, iB ((numN s * 10 ^ j : Nat) : Int)), (5, iB ((s.length + j : Nat) : Int))]) (fun _ => []) [] (fun j => s.length + j ≤ 6) (fun j => 6 - (s.length + j)) 0 ?_
 ((conv => whnf); repeat' (refine Z rfl ?_; conv => whnf))
 refine And.intro ?_ ⟨by omega, fun j hj => ?_⟩
 · rw [show ((numN s * 10 ^ 0 : Nat) : Int) = (numN s : Int) by simp, show ((s.length + 0 : Nat) : Int) = (s.length : Int) by simp]
   repeat' (first | exact True.intro | exact rfl | refine And.intro ?_ ?_)
 ((conv => whnf); repeat' (refine Z rfl ?_; conv => whnf))
 repeat' ((first | (intro hlq; (try simp only [SL] at hlq)) | refine Ks ?_ | refine Kq ?_ | refine Kt ?_ | refine Ka ?_ | refine Kb ?_ | refine Kc (hd := rfl) (e := ?_) | refine Kc (hd := icells_eq _) (e := ?_) | refine Kd (e := ?_) | refine Kl rfl ?_ | fail) <;> ((conv => whnf); repeat' (refine Z rfl ?_; conv => whnf)))
 refine ⟨fun h2 => ?_, fun h2 => ?_⟩ <;> (try simp only [BL] at h2) <;> ((conv => whnf); repeat' (refine Z rfl ?_; conv => whnf))
 · have hm : numN s * 10 ^ j < 1000000 := by
    have h3 : numN s * 10 ^ j < 10 ^ s.length * 10 ^ j := Nat.mul_lt_mul_of_pos_right hlt (Nat.pow_pos (by omega))
    rw [← Nat.pow_add] at h3
    have : 10 ^ (s.length + j) ≤ 10 ^ 6 := Nat.pow_le_pow_right (by omega) hj
    omega
   refine ⟨fun _ _ => i64 (by omega) (by omega), ?_⟩
   ((conv => whnf); repeat' (refine Z rfl ?_; conv => whnf))
   repeat' ((first | (intro hlq; (try simp only [SL] at hlq)) | refine Ks ?_ | refine Kq ?_ | refine Kt ?_ | refine Ka ?_ | refine Kb ?_ | refine Kc (hd := rfl) (e := ?_) | refine Kc (hd := icells_eq _) (e := ?_) | refine Kd (e := ?_) | refine Kl rfl ?_ | fail) <;> ((conv => whnf); repeat' (refine Z rfl ?_; conv => whnf)))
   refine ⟨⟨j + 1, ?_, by omega, by omega⟩⟩
   rw [show ((numN s * 10 ^ (j + 1) : Nat) : Int) = 10 * ((numN s * 10 ^ j : Nat) : Int) by rw [Nat.pow_succ, ← Nat.mul_assoc]; omega, show ((s.length + (j + 1) : Nat) : Int) = ((s.length + j : Nat) : Int) + 1 by omega]
   repeat' (first | exact True.intro | exact rfl | refine And.intro ?_ ?_)
 · have hj' : j = 6 - s.length := by omega
   subst hj'
   refine ⟨congrArg iD ?_⟩
   simp only [fracN]
   rw [decide_eq_true (by omega : 1 ≤ s.length), decide_eq_true (by omega : s.length ≤ 6), hall]
   rfl
end Go.Proofs.YtedjnaggkakphaaGreatDoor.Dx
/- Cuts at a byte: the reference's cut; the shelf's strings.Cut. -/
namespace Go.Proofs.YtedjnaggkakphaaGreatDoor.Dx
open Go Go.RowKit Go.Proofs
set_option maxRecDepth 100000
set_option maxHeartbeats 8000000
/-- what lies ahead of the first c, what lies behind it, whether there is one -/
def cutB (c : UInt8) (s : List UInt8) : List UInt8 × List UInt8 × Bool := (s.takeWhile (· != c), (s.dropWhile (· != c)).drop 1, s.any (· == c))
theorem take_no {c : UInt8} : ∀ {s : List UInt8} {i : Nat} (hi : i < s.length), (∀ x ∈ s.take i, x ≠ c) → s[i] = c → s.takeWhile (· != c) = s.take i ∧ (s.dropWhile (· != c)).drop 1 = s.drop (i + 1) ∧ s.any (· == c) = true
 | x :: s, 0, _, _, h => by
   have : x = c := h
   subst this
   simp
 | x :: s, i + 1, hi, hp, h => by
   have hx : x ≠ c := hp x (by simp)
   obtain ⟨h1, h2, h3⟩ := take_no (s := s) (i := i) (by simpa using hi) (fun y hy => hp y (by simp [hy])) (by simpa using h)
   have hx' : (x != c) = true := by simpa using hx
   rw [List.takeWhile_cons, List.dropWhile_cons, if_pos hx', if_pos hx', h1, h2, List.any_cons, h3]
   simp
theorem none_no {c : UInt8} : ∀ {s : List UInt8}, (∀ x ∈ s, x ≠ c) → cutB c s = (s, [], false)
 | [], _ => rfl
 | x :: s, hp => by
   have hx : x ≠ c := hp x (by simp)
   have hx' : (x != c) = true := by simpa using hx
   have ih := none_no (s := s) fun y hy => hp y (by simp [hy])
   simp only [cutB, Prod.mk.injEq] at ih ⊢
   obtain ⟨h1, h2, h3⟩ := ih
   rw [List.takeWhile_cons, List.dropWhile_cons, if_pos hx', if_pos hx', h1, h2, List.any_cons, h3]
   simp [hx]
theorem toNat_eq {x c : UInt8} : ((x.toNat : Int) = (c.toNat : Int)) ↔ x = c := by
 rw [← UInt8.toNat_inj]; omega
theorem rcut_meets (s : List UInt8) (c : UInt8) : Meets Tryz.prog 50 [.str s, .v (.int .u8 (c.toNat : Int))] fun d => d = .tup [.str (cutB c s).1, .str (cutB c s).2.1, bD (cutB c s).2.2] := by
 refine enter tok {} Tryz.func50 rfl (by kernel_rfl) Tryz.ntmps50 (by simp) fun B0 W0 V0 lent g0 => ?_
 ((conv => whnf); repeat' (refine Z rfl ?_; conv => whnf))
 refine loop_upd tok {} [] (X := Nat) (fun i => [(7, iB i)]) (fun _ => []) [] (fun i => i ≤ s.length ∧ ∀ x ∈ s.take i, x ≠ c) (fun i => s.length - i) 0 ?_
 ((conv => whnf); repeat' (refine Z rfl ?_; conv => whnf))
 refine And.intro ?_ ⟨⟨by omega, by simp⟩, fun i hΦ => ?_⟩
 · exact Kr
 obtain ⟨hi, hp⟩ := hΦ
 ((conv => whnf); repeat' (refine Z rfl ?_; conv => whnf))
 repeat' ((first | (intro hlq; (try simp only [SL] at hlq)) | refine Ks ?_ | refine Kq ?_ | refine Kt ?_ | refine Ka ?_ | refine Kb ?_ | refine Kc (hd := rfl) (e := ?_) | refine Kc (hd := icells_eq _) (e := ?_) | refine Kd (e := ?_) | refine Kl rfl ?_ | fail) <;> ((conv => whnf); repeat' (refine Z rfl ?_; conv => whnf)))
 refine ⟨fun h1 => ?_, fun h1 => ?_⟩ <;> (try simp only [BL] at h1) <;> ((conv => whnf); repeat' (refine Z rfl ?_; conv => whnf))
 · have h1' : i < s.length := by omega
   repeat' ((first | (intro hlq; (try simp only [SL] at hlq)) | refine Ks ?_ | refine Kq ?_ | refine Kt ?_ | refine Ka ?_ | refine Kb ?_ | refine Kc (hd := rfl) (e := ?_) | refine Kc (hd := icells_eq _) (e := ?_) | refine Kd (e := ?_) | refine Kl rfl ?_ | fail) <;> ((conv => whnf); repeat' (refine Z rfl ?_; conv => whnf)))
   refine ⟨fun h2 => ?_, fun h2 => ?_⟩ <;> (try simp only [BL] at h2) <;> ((conv => whnf); repeat' (refine Z rfl ?_; conv => whnf))
   · obtain ⟨e1, e2, e3⟩ := take_no h1' hp (toNat_eq.1 h2)
     refine draw_rule tok (cf := {}) (by kernel_rfl) [.p 0, .p 1, .p 2, .p 3, .p 4, .p 5, .p 6, .p 7, .p 8, .p 9] (by kernel_rfl) ?_
     ((conv => whnf); repeat' (refine Z rfl ?_; conv => whnf))
     repeat' ((first | (intro hlq; (try simp only [SL] at hlq)) | refine Ks ?_ | refine Kq ?_ | refine Kt ?_ | refine Ka ?_ | refine Kb ?_ | refine Kc (hd := rfl) (e := ?_) | refine Kc (hd := icells_eq _) (e := ?_) | refine Kd (e := ?_) | refine Kl rfl ?_ | fail) <;> ((conv => whnf); repeat' (refine Z rfl ?_; conv => whnf)))
     refine ⟨?_⟩
     simp only [cutB]
     rw [e1, e2, e3]
     show D.tup [.str (s.take (i : Int).toNat), .str ((s.take (s.length : Int).toNat).drop ((i : Int) + 1).toNat), _] = _
     rw [show ((i : Int) + 1).toNat = i + 1 by omega, show (s.length : Int).toNat = s.length by omega, List.take_of_length_le (Nat.le_refl _)]
     rfl
   · refine ⟨fun _ _ => i64 (by omega) (by omega), ?_⟩
     ((conv => whnf); repeat' (refine Z rfl ?_; conv => whnf))
     repeat' ((first | (intro hlq; (try simp only [SL] at hlq)) | refine Ks ?_ | refine Kq ?_ | refine Kt ?_ | refine Ka ?_ | refine Kb ?_ | refine Kc (hd := rfl) (e := ?_) | refine Kc (hd := icells_eq _) (e := ?_) | refine Kd (e := ?_) | refine Kl rfl ?_ | fail) <;> ((conv => whnf); repeat' (refine Z rfl ?_; conv => whnf)))
     refine ⟨⟨i + 1, ?_, ⟨by omega, take_snoc (p := fun x => x ≠ c) h1' hp (fun e => h2 (toNat_eq.2 e))⟩, by omega⟩⟩
     repeat' (first | exact True.intro | exact rfl | refine And.intro ?_ ?_)
 have hall : ∀ x ∈ s, x ≠ c := by rw [List.take_of_length_le (by omega)] at hp; exact hp
 rw [none_no hall]
 exact ⟨rfl⟩
end Go.Proofs.YtedjnaggkakphaaGreatDoor.Dx
/- A time's text: the plain function. -/
namespace Go.Proofs.YtedjnaggkakphaaGreatDoor.Dx
open Go Go.RowKit Go.Proofs
set_option maxRecDepth 100000
set_option maxHeartbeats 8000000
/-- the seconds that the parts behind the first colon add -/
def moreN (colon : Bool) (rest : List UInt8) (t : Int) : Option Int :=
 if colon then
  if sixN (cutB 58 rest).1 < 0 then none
  else if (cutB 58 rest).2.2 then
   if sixN (cutB 58 rest).2.1 < 0 then none
   else some (60 * (60 * t + sixN (cutB 58 rest).1) + sixN (cutB 58 rest).2.1)
  else some (60 * t + sixN (cutB 58 rest).1)
 else some t
/-- a time without its sign, in millionths -/
def timeU (s : List UInt8) : Option Int :=
 let p := cutB 46 s
 let f := if p.2.2 then fracN p.2.1 else 0
 let q := cutB 58 p.1
 if numB q.1 = false ∨ (q.1.length : Int) > 13 ∨ f < 0 ∨ (q.2.2 = false ∧ p.2.2 = false) then none
 else match moreN q.2.2 q.2.1 (numN q.1) with
  | none => none
  | some t => if t > 1099511627776 ∨ 1000000 * t + f > 1099511627776 then none else some (1000000 * t + f)
/-- a time, in millionths -/
def timeN (s : List UInt8) : Option Int :=
 match s with
 | 45 :: r => match timeU r with
   | some v => if v = 0 then none else some (-v)
   | none => none
 | r => timeU r
def timeD (s : List UInt8) : D := match timeN s with
 | some v => .tup [iD v, .v (.int .i64 0)]
 | none => .tup [iD 0, .v (.int .i64 50)]
theorem sixN_lt (s : List UInt8) : -1 ≤ sixN s ∧ sixN s < 60 := by
 unfold sixN
 split
 · rename_i a b
   split
   · rename_i h
     simp only [Bool.and_eq_true, decide_eq_true_eq] at h
     have h1 := isDg_iff.1 h.1
     have h2 := isDg_iff.1 h.2.1
     have : numN [a, b] = 10 * (10 * 0 + (a.toNat - 48)) + (b.toNat - 48) := rfl
     omega
   · omega
 · omega
theorem fracN_lt (s : List UInt8) : -1 ≤ fracN s ∧ fracN s < 1000000 := by
 unfold fracN
 split
 · rename_i h
   simp only [Bool.and_eq_true, decide_eq_true_eq] at h
   obtain ⟨h1, h2, h3⟩ := h
   have hlt := numN_lt _ s rfl h3
   have h4 : numN s * 10 ^ (6 - s.length) < 10 ^ s.length * 10 ^ (6 - s.length) := Nat.mul_lt_mul_of_pos_right hlt (Nat.pow_pos (by omega))
   rw [← Nat.pow_add, show s.length + (6 - s.length) = 6 by omega] at h4
   omega
 · omega
theorem numB_digits {s : List UInt8} (h : numB s = true) : s.all isDg = true ∧ s.length ≤ 18 := by
 simp only [numB, digitsB, Bool.and_eq_true, decide_eq_true_eq] at h
 exact ⟨by simp_all, by omega⟩
theorem timeN_neg (r : List UInt8) : timeN (45 :: r) = match timeU r with
 | some v => if v = 0 then none else some (-v)
 | none => none := rfl
theorem timeN_pos {s : List UInt8} (h : s.head? ≠ some 45) : timeN s = timeU s := by
 unfold timeN
 split
 · simp at h
 · rfl
/-- a time's sign, and the rest -/
def signS (s : List UInt8) : Int × List UInt8 := match s with | 45 :: r => (-1, r) | r => (1, r)
theorem signS_pos {s : List UInt8} (h : s.head? ≠ some 45) : signS s = (1, s) := by
 unfold signS
 split
 · simp at h
 · rfl
abbrev errD : D := .tup [iD 0, .v (.int .i64 50)]
def timeO (sg : Int) (o : Option Int) : D := match o with
 | some v => if sg < 0 ∧ v = 0 then errD else .tup [iD (sg * v), .v (.int .i64 0)]
 | none => errD
theorem timeD_sign (s : List UInt8) : timeD s = timeO (signS s).1 (timeU (signS s).2) := by
 unfold timeD timeO
 rcases s with _ | ⟨b, s⟩
 · rfl
 by_cases hb : b = 45
 · subst hb
   rw [timeN_neg, show signS (45 :: s) = (-1, s) from rfl]
   cases timeU s with
   | none => rfl
   | some v =>
     dsimp only
     by_cases h : v = 0
     · rw [if_pos h, if_pos ⟨by omega, h⟩]
     · rw [if_neg h, if_neg (fun e => h e.2), Int.neg_one_mul]
 · have h : (b :: s).head? ≠ some 45 := by simpa using hb
   rw [timeN_pos h, signS_pos h]
   cases timeU (b :: s) with
   | none => rfl
   | some v =>
     dsimp only
     rw [if_neg (by omega), Int.one_mul]
/-- a time from its parts -/
def timeV (num : Bool) (len f : Int) (p c : Bool) (m : Option Int) : Option Int :=
 if num = false ∨ len > 13 ∨ f < 0 ∨ (c = false ∧ p = false) then none
 else match m with
  | none => none
  | some t => if t > 1099511627776 ∨ 1000000 * t + f > 1099511627776 then none else some (1000000 * t + f)
theorem timeU_of {s w f a r : List UInt8} {p c : Bool} (hp : cutB 46 s = (w, f, p)) (hq : cutB 58 w = (a, r, c)) : timeU s = timeV (numB a) a.length (if p then fracN f else 0) p c (moreN c r (numN a)) := by
 simp only [timeU, hp, hq]
 rfl
theorem moreN_of {r b r2 : List UInt8} {c2 : Bool} (hr : cutB 58 r = (b, r2, c2)) (c : Bool) (t : Int) : moreN c r t = if c then (if sixN b < 0 then none else if c2 then if sixN r2 < 0 then none else some (60 * (60 * t + sixN b) + sixN r2) else some (60 * t + sixN b)) else some t := by
 simp only [moreN, hr]
end Go.Proofs.YtedjnaggkakphaaGreatDoor.Dx
/- Small laws: sections that meet again; what is returned reads otherwise. -/
namespace Go.Proofs.YtedjnaggkakphaaGreatDoor.Dx
open Go Go.RowKit Go.Proofs
set_option maxRecDepth 100000
set_option maxHeartbeats 8000000
theorem J_at2 {P : Program} {C : Cx} {st : SSt} {Q : Post} (n : Nat) {ops : Array Oper} {d : Bool} {y z : Code} (h : J P C (.seq (.seq (.region n ops d) y) z) Q st) : J P C (.seq (.seq (.region n ops d) y) z) Q st := h
theorem cut_post {P : Program} {T : List (Nat × TI)} {C : Cx} {st : SSt} (hT : TOk P T) (cf : Cfg) {x : Code} {Q : Post} (us : List (Nat × Base)) (h : match st with
 | ⟨L, O, p⟩ => forceL (us.map (·.1) ++ wrote x) fun w => upL w L fun L' =>
   vcC P T C cf x (fun e st' => match e with | .nrm => Rnd (SubSt st' ⟨us ++ L', O, p⟩) | .ret => Q .ret st' | .exit n => Q (.exit n) st' | .pan d => Q (.pan d) st') ⟨L, O, p⟩ ∧ Q .nrm ⟨us ++ L', O, p⟩) : J P C x Q st := by
 refine ⟨fun γ V a W hr => ?_⟩
 obtain ⟨L, O, p⟩ := st
 simp only at h
 rw [forceL_eq] at h
 obtain ⟨L', h⟩ := upL_ok _ _ h
 refine Go.wpIn_mono ((vcC_run hT cf x h.1).run γ V a W hr) fun e a W hq => ?_
 cases e with
 | normal => obtain ⟨γ, st, V, h1, h2⟩ := hq; exact ⟨γ, _, V, sub_rel h1 h2.out, h.2⟩
 | ret => exact hq
 | exit n => exact hq
 | panic v => exact hq
 | goto l => exact hq.elim
 | outgrown => exact hq.elim
theorem J_seq {P : Program} {C : Cx} {st : SSt} {x y : Code} {Q : Post} (h : J P C x (fun e st => match e with | .nrm => J P C y Q st | .ret => Q .ret st | .exit n => Q (.exit n) st | .pan d => Q (.pan d) st) st) : J P C (.seq x y) Q st := by
 refine ⟨fun γ V a W hr => wpIn_seq (Go.wpIn_mono (h.run γ V a W hr) fun e a W hq => ?_)⟩
 cases e with
 | normal => obtain ⟨γ, st, V, h1, h2⟩ := hq; exact h2.run γ V a W h1
 | ret => exact hq
 | exit n => exact hq
 | panic c => exact hq
 | goto l => exact hq.elim
 | outgrown => exact hq.elim
/-- what is returned reads otherwise, too -/
theorem Meets.as {P : Program} {f : FuncId} {ds : List D} {d d' : D} (h : Meets P f ds fun r => r = d) (hd : ∀ V x, Rep V x d → Rep V x d') : Meets P f ds fun r => r = d' := by
 refine ⟨⟨h.out.fn, fun γ V W xs h1 h2 h3 h4 => (h.out.run γ V W xs h1 h2 h3 h4).mono ?_⟩⟩
 rintro e W' ⟨γ', V', o, O', a1, a2, a3, a4, a5, a6, a7, a8, d, rfl, rfl, rfl⟩
 refine ⟨γ', V', _, [], ?_, a2, a3, a4, a5, a6, a7, a8, d', rfl, rfl, rfl⟩
 cases e with
 | returned v => exact hd V' v a1
 | _ => exact a1
theorem bl_rep {V : Know} {x : Value} {b : Bool} (h : Rep V x (.v (.bool b))) : Rep V x (.bl b) := by
 obtain ⟨rfl, _⟩ := Rep.v_inv h
 exact Rep.bl b
theorem tup_as {V : Know} {x : Value} {cs cs' : List D} (hl : cs.length = cs'.length) (hd : ∀ (i : Nat) d d' x, cs[i]? = some d → cs'[i]? = some d' → Rep V x d → Rep V x d') (h : Rep V x (.tup cs)) : Rep V x (.tup cs') := by
 obtain ⟨us, rfl, hu⟩ := h.tup_inv
 refine .tup us cs' (hu.len.trans hl) fun i u d' h1 h2 => ?_
 have h3 : i < cs.length := by rw [hl]; exact (List.getElem?_eq_some_iff.1 h2).1
 exact hd i _ d' u (List.getElem?_eq_getElem h3) h2 (hu.get i u _ h1 (List.getElem?_eq_getElem h3))
theorem tup3_as {V : Know} {x : Value} {a b : D} {p : Bool} (h : Rep V x (.tup [a, b, bD p])) : Rep V x (.tup [a, b, .bl p]) := by
 refine tup_as (cs := [a, b, bD p]) rfl (fun i d d' x h1 h2 h3 => ?_) h
 match i with
 | 0 => cases h1; cases h2; exact h3
 | 1 => cases h1; cases h2; exact h3
 | 2 => cases h1; cases h2; exact bl_rep h3
 | i + 3 => simp at h1
/-! scopes and labels -/
theorem stepR_scope {P : Program} {b : Frame} {a : Act} {k : List Item} {cs : List Frame} {w : World} {c : Code} : step P (lone (b.atR a (.code (.scope c) :: k)) cs w) = .next (lone (b.atR a (.code c :: .inScope c :: k)) cs w) :=
 step_lone_go (by simp [stepG, stepG.exec, Frame.atR])
theorem stepR_inScope {P : Program} {b : Frame} {a : Act} {k : List Item} {cs : List Frame} {w : World} {c : Code} : step P (lone (b.atR a (.inScope c :: k)) cs w) = .next (lone (b.atR a k) cs w) :=
 step_lone_go (by simp [stepG, stepG.exec, Frame.atR])
theorem wpIn_scope_straight {F : Fence} {n : Nat} {P : Program} {Q : Exit → Act → World → Prop} {a : Act} {w : World} {c : Code} (h : c.wpIn F n P (Exit.noGoto Q) a w) : (Code.scope c).wpIn F n P Q a w := by
 intro b k cs hro hb hr
 have h0 : (lone (b.atR a (.code (.scope c) :: k)) cs w).fenced P F := fenced_calm hb hr rfl
 obtain ⟨e, a₁, w₁, hq, harr⟩ := h b (.inScope c :: k) cs hro hb hr
 cases e with
 | normal => exact ⟨.normal, a₁, w₁, hq, .head h0 stepR_scope (StepsIn.trans harr (.one (fenced_calm hb hr rfl) stepR_inScope))⟩
 | exit id =>
   have hx : exitTo id (.inScope c :: k) = exitTo id k := by simp [exitTo]
   exact ⟨.exit id, a₁, w₁, hq, fun k' hk => .head h0 stepR_scope (harr.1 k' (by rw [hx]; exact hk)),
    fun hr' hk => let ⟨k₁, h1, h2⟩ := harr.2 hr' (by rw [hx]; exact hk); ⟨k₁, h1, .head h0 stepR_scope h2⟩⟩
 | goto l => exact hq.elim
 | ret => exact ⟨_, a₁, w₁, hq, .of_steps (.one h0 stepR_scope) harr⟩
 | panic ch => exact ⟨_, a₁, w₁, hq, .of_steps (.one h0 stepR_scope) harr⟩
 | outgrown => exact ⟨_, a₁, w₁, hq, .of_steps (.one h0 stepR_scope) harr⟩
theorem J_scope {P : Program} {C : Cx} {st : SSt} {x : Code} {Q : Post} (h : J P C x Q st) : J P C (.scope x) Q st := by
 refine ⟨fun γ V a W hr => wpIn_scope_straight (Go.wpIn_mono (h.run γ V a W hr) fun e a W hq => ?_)⟩
 cases e with
 | goto l => exact hq.elim
 | _ => exact hq
theorem J_label {P : Program} {C : Cx} {st : SSt} {l : Nat} {Q : Post} (h : Q .nrm st) : J P C (.label l) Q st :=
 ⟨fun γ V a W hr => wpIn_label ⟨γ, st, V, hr, h⟩⟩
end Go.Proofs.YtedjnaggkakphaaGreatDoor.Dx
