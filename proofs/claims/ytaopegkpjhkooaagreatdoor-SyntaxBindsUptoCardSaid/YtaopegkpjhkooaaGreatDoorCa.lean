/- Chapter 06: the law of precedence and relations: its walk. -/
import Derived.Test.YtaopegkpjhkooaaGreatDoorC9
import Derived.Test.YtaopegkpjhkooaaGreatDoorC8
import Derived.Test.YtaopegkpjhkooaaGreatDoorBn
set_option linter.all false
namespace Go.Proofs.YtaopegkpjhkooaaGreatDoor.Dx
open Go Go.RowKit Go.Proofs
set_option maxRecDepth 100000
set_option maxHeartbeats 16000000
theorem and1023 (n : Int) : 0 ≤ IntKind.i64.wrap (BitVec.ofInt IntKind.i64.bits n &&& BitVec.ofInt IntKind.i64.bits 1023).toNat ∧ IntKind.i64.wrap (BitVec.ofInt IntKind.i64.bits n &&& BitVec.ofInt IntKind.i64.bits 1023).toNat ≤ 1023 := by
 have h : (BitVec.ofInt 64 n &&& BitVec.ofInt 64 1023).toNat ≤ 1023 := by
  rw [BitVec.toNat_and]
  exact Nat.and_le_right
 have e : IntKind.i64.wrap ((BitVec.ofInt 64 n &&& BitVec.ofInt 64 1023).toNat : Int) = ((BitVec.ofInt 64 n &&& BitVec.ofInt 64 1023).toNat : Int) := wrap_inKind (i64 (by omega) (by omega))
 show 0 ≤ IntKind.i64.wrap ((BitVec.ofInt 64 n &&& BitVec.ofInt 64 1023).toNat : Int) ∧ IntKind.i64.wrap ((BitVec.ofInt 64 n &&& BitVec.ofInt 64 1023).toNat : Int) ≤ 1023
 rw [e]
 omega
/-- the ten texts with what they mean -/
def tenTx (a b c : Int) : List (List UInt8 × Cond) := [
 (fS a ++ [32, 111, 114, 32] ++ dS b ++ [32, 97, 110, 100, 32] ++ sS c, ⟨3, 0, 0, [leC 2 a, ⟨2, 0, 0, [leC 1 b, leC 3 c]⟩]⟩),
 (fS a ++ [32, 97, 110, 100, 32] ++ dS b ++ [32, 111, 114, 32] ++ sS c, ⟨3, 0, 0, [⟨2, 0, 0, [leC 2 a, leC 1 b]⟩, leC 3 c]⟩),
 ([40] ++ fS a ++ [32, 111, 114, 32] ++ dS b ++ [41, 32, 97, 110, 100, 32] ++ sS c, ⟨2, 0, 0, [⟨3, 0, 0, [leC 2 a, leC 1 b]⟩, leC 3 c]⟩),
 ([110, 111, 116, 32] ++ fS a ++ [32, 97, 110, 100, 32] ++ dS b, ⟨2, 0, 0, [notC (leC 2 a), leC 1 b]⟩),
 ([110, 111, 116, 32, 40] ++ fS a ++ [32, 97, 110, 100, 32] ++ dS b ++ [41], notC ⟨2, 0, 0, [leC 2 a, leC 1 b]⟩),
 (fS a ++ [32, 111, 114, 32] ++ dS b ++ [32, 111, 114, 32] ++ sS c, ⟨3, 0, 0, [leC 2 a, leC 1 b, leC 3 c]⟩),
 ([102, 105, 101, 108, 100, 32, 60, 32] ++ Lib.itoa a, notC (leC 2 a)),
 ([102, 105, 101, 108, 100, 32, 62, 32] ++ Lib.itoa a, leC 2 (a + 1)),
 ([102, 105, 101, 108, 100, 32, 60, 61, 32] ++ Lib.itoa a, notC (leC 2 (a + 1))),
 ([40, 40, 102, 105, 101, 108, 100, 32, 61, 32] ++ Lib.itoa a ++ [41, 41], ⟨2, 0, 0, [leC 2 a, notC (leC 2 (a + 1))]⟩)]
theorem ten_all {a b c : Int} (ha : 0 ≤ a ∧ a ≤ 1023) (hb : 0 ≤ b ∧ b ≤ 1023) (hc : 0 ≤ c ∧ c ≤ 1023) : ∀ p ∈ tenTx a b c, condR p.1 = (p.2, 0, 0) ∧ p.1.length ≤ 65536 := by
 have l1 := itoa_len ha.1 (by omega)
 have l2 := itoa_len hb.1 (by omega)
 have l3 := itoa_len hc.1 (by omega)
 intro p hp
 simp only [tenTx, List.mem_cons, List.not_mem_nil, or_false] at hp
 rcases hp with rfl | rfl | rfl | rfl | rfl | rfl | rfl | rfl | rfl | rfl
 · exact ⟨tx1 ha hb hc, by simp only [List.length_append, List.length_cons, List.length_nil]; omega⟩
 · exact ⟨tx2 ha hb hc, by simp only [List.length_append, List.length_cons, List.length_nil]; omega⟩
 · exact ⟨tx3 ha hb hc, by simp only [List.length_append, List.length_cons, List.length_nil]; omega⟩
 · exact ⟨tx4 ha hb, by simp only [List.length_append, List.length_cons, List.length_nil]; omega⟩
 · exact ⟨tx5 ha hb, by simp only [List.length_append, List.length_cons, List.length_nil]; omega⟩
 · exact ⟨tx6 ha hb hc, by simp only [List.length_append, List.length_cons, List.length_nil]; omega⟩
 · exact ⟨tx7 ha, by simp only [List.length_append, List.length_cons, List.length_nil]; omega⟩
 · exact ⟨tx8 ha, by simp only [List.length_append, List.length_cons, List.length_nil]; omega⟩
 · exact ⟨tx9 ha, by simp only [List.length_append, List.length_cons, List.length_nil]; omega⟩
 · exact ⟨tx10 ha, by simp only [List.length_append, List.length_cons, List.length_nil]; omega⟩
theorem LBinds_meets (n m k : Int) : Meets Tryz.prog 3 [iD n, iD m, iD k] fun r => r = bD true := by
 have hs := sane_meets
 have hn := and1023 n
 have hm := and1023 m
 have hk := and1023 k
 refine enter tok {} Tryz.func3 rfl (by kernel_rfl) Tryz.ntmps3 (by simp) fun B0 W0 V0 lent g0 => ?_
 ((conv => whnf); repeat' ((fail_if_success (refine J_at 3 ?_)); refine Z rfl ?_; conv => whnf))
 refine Meets.k hs ?_
 ((conv => whnf); repeat' ((fail_if_success (refine J_at 3 ?_)); refine Z rfl ?_; conv => whnf))
 refine ⟨fun h => absurd h (by decide), fun _ => ?_⟩
 ((conv => whnf); repeat' ((fail_if_success (refine J_at 3 ?_)); refine Z rfl ?_; conv => whnf))
 refine J_seq (cut_rule tok (cf := {}) (X := Int × Int × Int) (fun x => ⟨[(0, iB x.1), (1, iB x.2.1), (2, iB x.2.2)], [], []⟩) (fun x => (0 ≤ x.1 ∧ x.1 ≤ 1023) ∧ (0 ≤ x.2.1 ∧ x.2.1 ≤ 1023) ∧ (0 ≤ x.2.2 ∧ x.2.2 ≤ 1023)) ?_ fun x hx => ?_)
 · conv => whnf
   refine ⟨⟨(_, _, _), ?_, hn, hm, hk⟩⟩
   repeat' (first | exact True.intro | exact rfl | refine And.intro ?_ ?_)
 clear hn hm hk hs
 obtain ⟨a, b, c⟩ := x
 obtain ⟨ha, hb, hc⟩ := hx
 dsimp only at ha hb hc
 dsimp only
 refine Z rfl ?_
 ((conv => whnf); repeat' (refine Z rfl ?_; conv => whnf))
 repeat' ((first | (intro hlq; (try simp only [SL] at hlq)) | refine Meets.k (Itoa_meets a) ?_ | refine Meets.k (Itoa_meets b) ?_ | refine Meets.k (Itoa_meets c) ?_ | refine Ks ?_ | refine Kq ?_ | refine Kt ?_ | ((refine Kh (fun hb => ?_) fun hb => ?_) <;> (try simp only [BL] at hb)) | refine Ka ?_ | refine Kb ?_ | refine Kc (hd := rfl) (e := ?_) | refine Kc (hd := icells_eq _) (e := ?_) | refine Kd (e := ?_) | refine Kl rfl ?_ | fail) <;> ((conv => whnf); repeat' (refine Z rfl ?_; conv => whnf)))
 have l1 := itoa_len ha.1 (by omega)
 have l2 := itoa_len hb.1 (by omega)
 have l3 := itoa_len hc.1 (by omega)
 repeat' ((first | (intro hlq; (try simp only [SL] at hlq)) | refine Meets.k (al_meets 2 a) ?_ | refine Meets.k (al_meets 1 b) ?_ | refine Meets.k (al_meets 3 c) ?_ | refine Ks ?_ | refine Kq ?_ | refine Kt ?_ | ((refine Kh (fun hb => ?_) fun hb => ?_) <;> (try simp only [BL] at hb)) | refine Ka ?_ | refine Kb ?_ | refine Kc (hd := rfl) (e := ?_) | refine Kc (hd := icells_eq _) (e := ?_) | refine Kd (e := ?_) | refine Kl rfl ?_ | fail) <;> ((conv => whnf); repeat' (refine Z rfl ?_; conv => whnf)))
 have c1 := jn_meets 2 [leC 1 b, leC 3 c]
 have c2 := jn_meets 3 [leC 2 a, ⟨2, 0, 0, [leC 1 b, leC 3 c]⟩]
 have c3 := jn_meets 2 [leC 2 a, leC 1 b]
 have c4 := jn_meets 3 [⟨2, 0, 0, [leC 2 a, leC 1 b]⟩, leC 3 c]
 have c5 := jn_meets 3 [leC 2 a, leC 1 b]
 have c6 := jn_meets 2 [⟨3, 0, 0, [leC 2 a, leC 1 b]⟩, leC 3 c]
 have c7 := nt_meets (leC 2 a)
 have c8 := jn_meets 2 [notC (leC 2 a), leC 1 b]
 have c9 := nt_meets ⟨2, 0, 0, [leC 2 a, leC 1 b]⟩
 have ca := jn_meets 3 [leC 2 a, leC 1 b, leC 3 c]
 have cb := al_meets 2 (a + 1)
 have cc := nt_meets (leC 2 (a + 1))
 have cd := jn_meets 2 [leC 2 a, notC (leC 2 (a + 1))]
 refine draw_rule tok (cf := {}) (by kernel_rfl) [.p 0, .p 1, .p 2, .p 3, .p 4, .p 5, .p 6, .p 7, .p 8, .p 9, .p 10, .p 15, .p 16, .p 17, .p 18, .p 19, .p 20, .p 21, .p 22, .p 23, .p 24, .p 26, .p 30, .p 31, .p 32, .p 33, .p 34, .p 35, .p 36, .p 37, .p 38, .p 39, .p 40, .p 42, .p 46, .p 47, .p 48, .p 49, .p 50, .p 51, .p 53, .p 57, .p 58, .p 59, .p 60, .p 61, .p 62, .p 63, .p 64, .p 65, .p 69, .p 70, .p 71, .p 72, .p 73, .p 74, .p 75, .p 76, .p 77, .p 78, .p 79, .p 82, .p 83, .p 84, .p 87, .p 88, .p 89, .p 90, .p 93, .p 94, .p 95, .p 96, .p 100, .p 101, .p 102, .p 103, .p 104, .p 105, .p 113, .s 11 [10,8,9], .p 12, .s 13 [12,7], .p 14, .s 25 [24,22,23], .p 27, .s 28 [27,26], .p 29, .s 41 [40,38,39], .p 43, .s 44 [43,42], .p 45, .s 52 [51], .p 54, .s 55 [54,53], .p 56, .s 66 [65,63,64], .s 67 [], .p 68, .s 80 [79,76,77,78], .p 81, .s 85 [84], .p 86, .s 91 [90,89], .p 92, .s 97 [96,95], .s 98 [], .p 99, .s 106 [105,104], .s 107 [], .p 108, .s 109 [108,103], .p 110, .p 111, .p 112] (by kernel_rfl) ?_
 ((conv => whnf); repeat' (refine Z rfl ?_; conv => whnf))
 repeat' ((first | (intro hlq; (try simp only [SL] at hlq)) | refine Meets.k (c1) ?_ | refine Meets.k (c2) ?_ | refine Meets.k (c3) ?_ | refine Meets.k (c4) ?_ | refine Meets.k (c5) ?_ | refine Meets.k (c6) ?_ | refine Meets.k (c7) ?_ | refine Meets.k (c8) ?_ | refine Meets.k (c9) ?_ | refine Meets.k (ca) ?_ | refine Meets.k (cb) ?_ | refine Meets.k (cc) ?_ | refine Meets.k (cd) ?_ | refine Ks ?_ | refine Kq ?_ | refine Kt ?_ | ((refine Kh (fun hb => ?_) fun hb => ?_) <;> (try simp only [BL] at hb)) | refine Ka ?_ | refine Kb ?_ | refine Kc (hd := rfl) (e := ?_) | refine Kc (hd := icells_eq _) (e := ?_) | refine Kd (e := ?_) | refine Kl rfl ?_ | fail) <;> ((conv => whnf); repeat' (refine Z rfl ?_; conv => whnf)))
 clear c1 c2 c3 c4 c5 c6 c7 c8 c9 ca cb cc cd
 refine loop_upd tok {} [] (X := Nat) (fun i => [(160, iB i)]) (fun _ => []) [] (fun i => i ≤ 10) (fun i => 10 - i) 0 ?_
 ((conv => whnf); repeat' (refine Z rfl ?_; conv => whnf))
 refine And.intro ?_ ⟨by omega, fun i hi => ?_⟩
 · exact Kr
 ((conv => whnf); repeat' (refine Z rfl ?_; conv => whnf))
 refine ⟨fun h1 => ?_, fun h1 => ?_⟩ <;> (try simp only [BL] at h1) <;> ((conv => whnf); repeat' (refine Z rfl ?_; conv => whnf))
 · have h10 : (i : Int) < 10 := h1
   have h1' : i < (tenTx a b c).length := by show i < 10; omega
   obtain ⟨hp, hpl⟩ := ten_all ha hb hc (tenTx a b c)[i] (List.getElem_mem h1')
   have k1 := cond_at hpl hp
   have k2 := sameC_at (a := (tenTx a b c)[i].2) rfl
   refine ⟨.str (tenTx a b c)[i].1 :: (tenTx a b c)[i].2.dc, ⟨by omega, ?_, rfl⟩, ?_⟩
   · show ((tenTx a b c).map fun p => D.str p.1 :: p.2.dc)[(i : Int).toNat]? = _
     rw [Int.toNat_natCast, List.getElem?_map, List.getElem?_eq_getElem h1']
     rfl
   revert k1 k2
   generalize (tenTx a b c)[i] = p
   obtain ⟨tx, cd⟩ := p
   intro k1 k2
   dsimp only at k1 k2
   ((conv => whnf); repeat' (refine Z rfl ?_; conv => whnf))
   repeat' ((first | (intro hlq; (try simp only [SL] at hlq)) | refine Meets.k (k1) ?_ | refine Meets.k (k2) ?_ | refine Ks ?_ | refine Kq ?_ | refine Kt ?_ | ((refine Kh (fun hb => ?_) fun hb => ?_) <;> (try simp only [BL] at hb)) | refine Ka ?_ | refine Kb ?_ | refine Kc (hd := rfl) (e := ?_) | refine Kc (hd := icells_eq _) (e := ?_) | refine Kd (e := ?_) | refine Kl rfl ?_ | fail) <;> ((conv => whnf); repeat' (refine Z rfl ?_; conv => whnf)))
   all_goals try (exact absurd (by assumption : (!true) = true) (by decide))
   all_goals try (exact absurd (by assumption : decide ((0 : Int) ≠ 0) = true) (by decide))
   all_goals try contradiction
   refine ⟨⟨i + 1, ?_, by omega, by omega⟩⟩
   repeat' (first | exact True.intro | exact rfl | refine And.intro ?_ ?_)
 · exact ⟨rfl⟩
end Go.Proofs.YtaopegkpjhkooaaGreatDoor.Dx
