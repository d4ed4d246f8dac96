/- Names. -/
import Derived.Test.YteckbkljaneppaaGreatDoorMr
import Derived.Test.YteckbkljaneppaaGreatDoorMn
set_option linter.all false
namespace Go.Proofs.YteckbkljaneppaaGreatDoor.Dx
open Go Go.RowKit
set_option maxRecDepth 100000
set_option maxHeartbeats 8000000
def nameCh (b : UInt8) : Bool := (decide (97 ≤ (b.toNat : Int)) && decide ((b.toNat : Int) ≤ 122)) || ((decide (48 ≤ (b.toNat : Int)) && decide ((b.toNat : Int) ≤ 57)) || decide ((b.toNat : Int) = 95))
def nameFst (s : List UInt8) : Bool := match s with | [] => false | b :: _ => decide (97 ≤ (b.toNat : Int)) && decide ((b.toNat : Int) ≤ 122)
theorem nameFst_eq {s : List UInt8} (h : 0 < s.length) : nameFst s = (decide (97 ≤ (s[0].toNat : Int)) && decide ((s[0].toNat : Int) ≤ 122)) := by
 cases s with
 | nil => simp at h
 | cons b r => rfl
def isNm (kw : List UInt8 → Bool) (s : List UInt8) : Bool := decide (s.length ≤ 24) && (nameFst s && (s.all nameCh && !kw s))
theorem isName_of (kw : List UInt8 → Bool) (s : List UInt8) (hK : s.length ≤ 24 → Meets Tryz.prog 157 [.str s] fun d => d = bD (kw s)) : Meets Tryz.prog 99 [.str s] fun d => d = bD (isNm kw s) := by
 refine enter tok {} Tryz.func99 rfl (by kernel_rfl) Tryz.ntmps99 (by simp) fun B0 W0 V0 lent g0 => ?_
 ((conv => whnf); repeat' (refine Z rfl ?_; conv => whnf))
 repeat' ((first | (intro hlq; (try simp only [SL] at hlq)) | ((refine Kh (fun hb => ?_) fun hb => ?_) <;> (try simp only [BL] at hb)) | refine Ka ?_ | refine Kb ?_ | refine Kc (hd := rfl) (e := ?_) | refine Kc (hd := Cond.cells_eq _) (e := ?_) | refine Kd (e := ?_) | refine Kl rfl ?_ | fail) <;> ((conv => whnf); repeat' (refine Z rfl ?_; conv => whnf)))
 · refine ⟨congrArg bD ?_⟩
   have : s = [] := List.eq_nil_of_length_eq_zero (by omega)
   subst this
   simp [isNm, nameFst]
 · refine ⟨congrArg bD ?_⟩
   rw [isNm, decide_eq_false (by omega)]; rfl
 · refine ⟨congrArg bD ?_⟩
   rw [isNm, nameFst_eq (by omega), decide_eq_false (by omega : ¬ 97 ≤ (s[0].toNat : Int))]; simp
 · refine ⟨congrArg bD ?_⟩
   rw [isNm, nameFst_eq (by omega), decide_eq_false (by omega : ¬ (s[0].toNat : Int) ≤ 122)]; simp
 have hpos : 0 < s.length := by omega
 have hf : nameFst s = true := by rw [nameFst_eq hpos, Bool.and_eq_true, decide_eq_true_eq, decide_eq_true_eq]; omega
 have hl : s.length ≤ 24 := by omega
 refine loop_upd tok {} [] (X := Nat) (fun i => [(25, iB i)]) (fun _ => []) [] (fun i => i ≤ s.length ∧ ∀ x ∈ s.take i, nameCh x = true) (fun i => s.length - i) 0 ?_
 ((conv => whnf); repeat' (refine Z rfl ?_; conv => whnf))
 refine And.intro ?_ ⟨⟨by omega, by simp⟩, fun i hΦ => ?_⟩
 · exact Kr
 obtain ⟨hi, hp⟩ := hΦ
 ((conv => whnf); repeat' (refine Z rfl ?_; conv => whnf))
 refine ⟨fun h1 => ?_, fun h1 => ?_⟩ <;> (try simp only [BL] at h1) <;> ((conv => whnf); repeat' (refine Z rfl ?_; conv => whnf))
 · have h1' : i < s.length := by omega
   repeat' ((first | (intro hlq; (try simp only [SL] at hlq)) | ((refine Kh (fun hb => ?_) fun hb => ?_) <;> (try simp only [BL] at hb)) | refine Ka ?_ | refine Kb ?_ | refine Kc (hd := rfl) (e := ?_) | refine Kc (hd := Cond.cells_eq _) (e := ?_) | refine Kd (e := ?_) | refine Kl rfl ?_ | fail) <;> ((conv => whnf); repeat' (refine Z rfl ?_; conv => whnf)))
   all_goals first
    | (refine ⟨congrArg bD ?_⟩
       have hc : nameCh s[i] = false := by
        simp only [nameCh, Bool.or_eq_false_iff, Bool.and_eq_false_iff, decide_eq_false_iff_not]; omega
       simp only [isNm, all_false (List.getElem_mem h1') hc, Bool.false_and, Bool.and_false]
       done)
    | (skip
       refine ⟨⟨i + 1, ?_, ⟨by omega, take_snoc h1' hp ?_⟩, by omega⟩⟩
       · exact Kr
       simp only [nameCh, Bool.or_eq_true, Bool.and_eq_true, decide_eq_true_eq]; omega)
 · refine Meets.k (hK hl) ?_
   ((conv => whnf); repeat' (refine Z rfl ?_; conv => whnf))
   refine ⟨congrArg bD ?_⟩
   rw [isNm, hf, all_true (by omega) hp, decide_eq_true hl]
   simp
theorem Name_of (kw : List UInt8 → Bool) (s : List UInt8) (hK : s.length ≤ 24 → Meets Tryz.prog 183 [.str s] fun d => d = bD (kw s)) : Meets Tryz.prog 140 [.str s] fun d => d = bD (isNm kw s) := by
 refine enter tok {} Tryz.func140 rfl (by kernel_rfl) Tryz.ntmps140 (by simp) fun B0 W0 V0 lent g0 => ?_
 ((conv => whnf); repeat' (refine Z rfl ?_; conv => whnf))
 repeat' ((first | (intro hlq; (try simp only [SL] at hlq)) | ((refine Kh (fun hb => ?_) fun hb => ?_) <;> (try simp only [BL] at hb)) | refine Ka ?_ | refine Kb ?_ | refine Kc (hd := rfl) (e := ?_) | refine Kc (hd := Cond.cells_eq _) (e := ?_) | refine Kd (e := ?_) | refine Kl rfl ?_ | fail) <;> ((conv => whnf); repeat' (refine Z rfl ?_; conv => whnf)))
 · refine ⟨congrArg bD ?_⟩
   have : s = [] := List.eq_nil_of_length_eq_zero (by omega)
   subst this
   simp [isNm, nameFst]
 · refine ⟨congrArg bD ?_⟩
   rw [isNm, decide_eq_false (by omega)]; rfl
 · refine ⟨congrArg bD ?_⟩
   rw [isNm, nameFst_eq (by omega), decide_eq_false (by omega : ¬ 97 ≤ (s[0].toNat : Int))]; simp
 · refine ⟨congrArg bD ?_⟩
   rw [isNm, nameFst_eq (by omega), decide_eq_false (by omega : ¬ (s[0].toNat : Int) ≤ 122)]; simp
 have hpos : 0 < s.length := by omega
 have hf : nameFst s = true := by rw [nameFst_eq hpos, Bool.and_eq_true, decide_eq_true_eq, decide_eq_true_eq]; omega
 have hl : s.length ≤ 24 := by omega
 have h0 : ∀ x ∈ s.take 1, nameCh x = true := by
  intro x hx
  obtain rfl : x = s[0] := by
   rw [List.take_succ_eq_append_getElem hpos] at hx
   simpa using hx
  simp only [nameCh, Bool.or_eq_true, Bool.and_eq_true, decide_eq_true_eq]; omega
 have hl1 : 1 ≤ s.length := hpos
 refine loop_upd tok {} [] (X := Nat) (fun i => [(3, iB i)]) (fun _ => []) [] (fun i => i ≤ s.length ∧ ∀ x ∈ s.take i, nameCh x = true) (fun i => s.length - i) 1 ?_
 ((conv => whnf); repeat' (refine Z rfl ?_; conv => whnf))
 refine And.intro ?_ ⟨⟨hl1, h0⟩, fun i hΦ => ?_⟩
 · exact Kr
 obtain ⟨hi, hp⟩ := hΦ
 ((conv => whnf); repeat' (refine Z rfl ?_; conv => whnf))
 repeat' ((first | (intro hlq; (try simp only [SL] at hlq)) | refine Ka ?_ | refine Kb ?_ | refine Kc (hd := rfl) (e := ?_) | refine Kc (hd := Cond.cells_eq _) (e := ?_) | refine Kd (e := ?_) | refine Kl rfl ?_ | fail) <;> ((conv => whnf); repeat' (refine Z rfl ?_; conv => whnf)))
 refine ⟨fun h1 => ?_, fun h1 => ?_⟩ <;> (try simp only [BL] at h1) <;> ((conv => whnf); repeat' (refine Z rfl ?_; conv => whnf))
 · have h1' : i < s.length := by omega
   repeat' ((first | (intro hlq; (try simp only [SL] at hlq)) | ((refine Kh (fun hb => ?_) fun hb => ?_) <;> (try simp only [BL] at hb)) | refine Ka ?_ | refine Kb ?_ | refine Kc (hd := rfl) (e := ?_) | refine Kc (hd := Cond.cells_eq _) (e := ?_) | refine Kd (e := ?_) | refine Kl rfl ?_ | fail) <;> ((conv => whnf); repeat' (refine Z rfl ?_; conv => whnf)))
   all_goals first
    | (refine ⟨congrArg bD ?_⟩
       have hc : nameCh s[i] = false := by
        simp only [nameCh, Bool.or_eq_false_iff, Bool.and_eq_false_iff, decide_eq_false_iff_not]; omega
       simp only [isNm, all_false (List.getElem_mem h1') hc, Bool.false_and, Bool.and_false]
       done)
    | (refine ⟨⟨i + 1, ?_, ⟨by omega, take_snoc h1' hp ?_⟩, by omega⟩⟩
       · exact Kr
       simp only [nameCh, Bool.or_eq_true, Bool.and_eq_true, decide_eq_true_eq]; omega)
 · refine Meets.k (hK hl) ?_
   ((conv => whnf); repeat' (refine Z rfl ?_; conv => whnf))
   refine ⟨congrArg bD ?_⟩
   rw [isNm, hf, all_true (by omega) hp, decide_eq_true hl]
   simp
end Go.Proofs.YteckbkljaneppaaGreatDoor.Dx
/- Keywords, in the reference. -/
namespace Go.Proofs.YteckbkljaneppaaGreatDoor.Dx
open Go Go.RowKit
set_option maxRecDepth 100000
set_option maxHeartbeats 8000000
def words : List (List UInt8) := [
 [99, 111, 117, 114, 115, 101],
 [109, 97, 116, 115],
 [115, 116, 97, 114, 116],
 [112, 97, 115, 115],
 [101, 110, 100],
 [108, 101, 103],
 [116, 111],
 [100, 105, 115, 116, 97, 110, 99, 101],
 [103, 117, 110],
 [99, 104, 105, 112],
 [115, 108, 111, 116],
 [108, 97, 112, 115],
 [108, 97, 112],
 [99, 117, 116, 111, 102, 102],
 [101, 120, 116, 114, 97],
 [119, 97, 118, 101],
 [111, 102, 102, 101, 110, 99, 101],
 [111, 117, 116],
 [99, 97, 116, 101, 103, 111, 114, 121],
 [112, 114, 105, 122, 101],
 [97, 108, 108],
 [116, 105, 101, 115],
 [105, 102],
 [101, 108, 115, 101],
 [97, 110, 100],
 [111, 114],
 [110, 111, 116],
 [111, 108, 100, 101, 114],
 [121, 111, 117, 110, 103, 101, 114],
 [98, 105, 98],
 [100, 114, 97, 119],
 [102, 105, 101, 108, 100],
 [115, 104, 111, 114, 116],
 [102, 97, 117, 108, 116, 115],
 [109, 105, 115, 115, 101, 115],
 [115, 116, 114, 97, 121, 115],
 [119, 105, 110, 100, 111, 119],
 [114, 101, 115, 105, 100, 117, 97, 108],
 [100, 114, 105, 102, 116],
 [112, 114, 111, 116, 101, 115, 116],
 [102, 101, 101],
 [100, 101, 97, 100, 108, 105, 110, 101]]
def kw (s : List UInt8) : Bool := words.contains s
theorem rKeyword_meets (s : List UInt8) : Meets Tryz.prog 183 [.str s] fun d => d = bD (kw s) := by
 refine enter tok {} Tryz.func183 rfl (by kernel_rfl) Tryz.ntmps183 (by simp) fun B0 W0 V0 lent g0 => ?_
 ((conv => whnf); repeat' (refine Z rfl ?_; conv => whnf))
 repeat' ((first | (intro hlq; (try simp only [SL] at hlq)) | ((refine Kh (fun hb => ?_) fun hb => ?_) <;> (try simp only [BL] at hb)) | refine Ka ?_ | refine Kb ?_ | refine Kc (hd := rfl) (e := ?_) | refine Kc (hd := Cond.cells_eq _) (e := ?_) | refine Kd (e := ?_) | refine Kl rfl ?_ | fail) <;> ((conv => whnf); repeat' (refine Z rfl ?_; conv => whnf)))
 all_goals refine ⟨congrArg bD ?_⟩
 all_goals first
  | (subst hb; decide)
  | (simp only [kw, words, List.contains_eq_mem]; simp; (repeat' (first | assumption | refine And.intro ?_ ?_)))
end Go.Proofs.YteckbkljaneppaaGreatDoor.Dx
