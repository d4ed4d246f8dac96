/- The reference's Word, Contents, Quote; its signs are the code's. -/
import Derived.Test.YtedjnaggkakphaaGreatDoorEi
import Derived.Test.YtedjnaggkakphaaGreatDoorDp
import Derived.Test.YtedjnaggkakphaaGreatDoorDx
import Derived.Test.YtedjnaggkakphaaGreatDoorEj
set_option linter.all false
namespace Go.Proofs.YtedjnaggkakphaaGreatDoor.Dx
open Go Go.RowKit Go.Proofs
set_option maxRecDepth 100000
set_option maxHeartbeats 8000000
theorem isWd_lt (s : List UInt8) : isWd s = ((match s with | [] => false | b :: _ => isLt b) && s.all inB) := by
 unfold isWd wordFst
 have h1 : s.all wordCh = s.all inB := by
  rw [show wordCh = inB from funext chIn]
 rw [h1]
 cases s with
 | nil => rfl
 | cons b r => dsimp only; rw [cls2]
theorem rWord_meets (s : List UInt8) : Meets Tryz.prog 38 [.str s] fun d => d = bD (isWd s) := by
 rw [isWd_lt]
 refine enter tok {} Tryz.func38 rfl (by kernel_rfl) Tryz.ntmps38 (by simp) fun B0 W0 V0 lent g0 => ?_
 ((conv => whnf); repeat' (refine Z rfl ?_; conv => whnf))
 refine loop_upd tok {} [] (X := Nat) (fun i => [(3, iB i)]) (fun _ => []) [] (fun i => i ≤ s.length ∧ ∀ x ∈ s.take i, inB x = true) (fun i => s.length - i) 0 ?_
 ((conv => whnf); repeat' (refine Z rfl ?_; conv => whnf))
 refine And.intro ?_ ⟨⟨by omega, by simp⟩, fun i hΦ => ?_⟩
 · exact Kr
 obtain ⟨hi, hp⟩ := hΦ
 ((conv => whnf); repeat' (refine Z rfl ?_; conv => whnf))
 repeat' ((first | (intro hlq; (try simp only [SL] at hlq)) | refine Ks ?_ | refine Kq ?_ | refine Kt ?_ | refine Ka ?_ | refine Kb ?_ | refine Kc (hd := rfl) (e := ?_) | refine Kc (hd := icells_eq _) (e := ?_) | refine Kd (e := ?_) | refine Kl rfl ?_ | fail) <;> ((conv => whnf); repeat' (refine Z rfl ?_; conv => whnf)))
 refine ⟨fun h1 => ?_, fun h1 => ?_⟩ <;> (try simp only [BL] at h1) <;> ((conv => whnf); repeat' (refine Z rfl ?_; conv => whnf))
 · have h1' : i < s.length := by omega
   repeat' ((first | (intro hlq; (try simp only [SL] at hlq)) | refine Meets.k (rinner_meets s[i]) ?_ | refine Ks ?_ | refine Kq ?_ | refine Kt ?_ | ((refine Kh (fun hb => ?_) fun hb => ?_) <;> (try simp only [BL] at hb)) | refine Ka ?_ | refine Kb ?_ | refine Kc (hd := rfl) (e := ?_) | refine Kc (hd := icells_eq _) (e := ?_) | refine Kd (e := ?_) | refine Kl rfl ?_ | fail) <;> ((conv => whnf); repeat' (refine Z rfl ?_; conv => whnf)))
   · refine ⟨congrArg bD ?_⟩
     have : s.all inB = false := all_false (List.getElem_mem h1') (by assumption)
     rw [this, Bool.and_false]
   · refine ⟨⟨i + 1, ?_, ⟨by omega, take_snoc h1' hp (by assumption)⟩, by omega⟩⟩
     repeat' (first | exact True.intro | exact rfl | refine And.intro ?_ ?_)
 have hall : s.all inB = true := all_true (by omega) hp
 rcases s with _ | ⟨b, r⟩
 · repeat' ((first | (intro hlq; (try simp only [SL] at hlq)) | refine Ks ?_ | refine Kq ?_ | refine Kt ?_ | ((refine Kh (fun hb => ?_) fun hb => ?_) <;> (try simp only [BL] at hb)) | refine Ka ?_ | refine Kb ?_ | refine Kc (hd := rfl) (e := ?_) | refine Kc (hd := icells_eq _) (e := ?_) | refine Kd (e := ?_) | refine Kl rfl ?_ | fail) <;> ((conv => whnf); repeat' (refine Z rfl ?_; conv => whnf)))
   all_goals first
    | exact ⟨rfl⟩
    | (exfalso
       have h9 := (by assumption : (([] : List UInt8).length : Int) > 0)
       simp at h9)
 · repeat' ((first | (intro hlq; (try simp only [SL] at hlq)) | refine ⟨b, ⟨by omega, rfl⟩, ?_⟩ | refine Meets.k (rletter_meets b) ?_ | refine Ks ?_ | refine Kq ?_ | refine Kt ?_ | ((refine Kh (fun hb => ?_) fun hb => ?_) <;> (try simp only [BL] at hb)) | refine Ka ?_ | refine Kb ?_ | refine Kc (hd := rfl) (e := ?_) | refine Kc (hd := icells_eq _) (e := ?_) | refine Kd (e := ?_) | refine Kl rfl ?_ | fail) <;> ((conv => whnf); repeat' (refine Z rfl ?_; conv => whnf)))
   all_goals first
    | (refine ⟨congrArg bD ?_⟩; rw [hall]; simp_all; done)
    | (exfalso; simp only [List.length_cons] at *; omega)
theorem badR_u8 (b : UInt8) : badR b.toNat = (decide ((b.toNat : Int) ≠ 10) && (decide ((b.toNat : Int) < 32) || decide ((b.toNat : Int) > 126))) := by
 rw [badR_int, Bool.eq_iff_iff]
 simp only [Bool.and_eq_true, Bool.or_eq_true, decide_eq_true_eq, bne_iff_ne, ne_eq, gt_iff_lt]
theorem rContents_meets (s : List UInt8) : Meets Tryz.prog 40 [.str s] fun d => d = bD (txtB s) := by
 refine enter tok {} Tryz.func40 rfl (by kernel_rfl) Tryz.ntmps40 (by simp) fun B0 W0 V0 lent g0 => ?_
 ((conv => whnf); repeat' (refine Z rfl ?_; conv => whnf))
 refine loop_upd tok {} [] (X := Nat) (fun i => [(3, iB i)]) (fun _ => []) [] (fun i => i ≤ s.length ∧ ∀ x ∈ s.take i, (!badR x.toNat) = true) (fun i => s.length - i) 0 ?_
 ((conv => whnf); repeat' (refine Z rfl ?_; conv => whnf))
 refine And.intro ?_ ⟨⟨by omega, by simp⟩, fun i hΦ => ?_⟩
 · exact Kr
 obtain ⟨hi, hp⟩ := hΦ
 ((conv => whnf); repeat' (refine Z rfl ?_; conv => whnf))
 repeat' ((first | (intro hlq; (try simp only [SL] at hlq)) | refine Ks ?_ | refine Kq ?_ | refine Kt ?_ | refine Ka ?_ | refine Kb ?_ | refine Kc (hd := rfl) (e := ?_) | refine Kc (hd := icells_eq _) (e := ?_) | refine Kd (e := ?_) | refine Kl rfl ?_ | fail) <;> ((conv => whnf); repeat' (refine Z rfl ?_; conv => whnf)))
 refine ⟨fun h1 => ?_, fun h1 => ?_⟩ <;> (try simp only [BL] at h1) <;> ((conv => whnf); repeat' (refine Z rfl ?_; conv => whnf))
 · have h1' : i < s.length := by omega
   have hbr := badR_u8 s[i]
   repeat' ((first | (intro hlq; (try simp only [SL] at hlq)) | refine Ks ?_ | refine Kq ?_ | refine Kt ?_ | ((refine Kh (fun hb => ?_) fun hb => ?_) <;> (try simp only [BL] at hb)) | refine Ka ?_ | refine Kb ?_ | refine Kc (hd := rfl) (e := ?_) | refine Kc (hd := icells_eq _) (e := ?_) | refine Kd (e := ?_) | refine Kl rfl ?_ | fail) <;> ((conv => whnf); repeat' (refine Z rfl ?_; conv => whnf)))
   all_goals first
    | (refine ⟨⟨i + 1, ?_, ⟨by omega, take_snoc h1' hp ?_⟩, by omega⟩⟩
       · exact Kr
       · rw [hbr]; simp_all; done)
    | (refine ⟨congrArg bD ?_⟩
       have : txtB s = false := all_false (List.getElem_mem h1') (by rw [hbr]; simp_all; done)
       rw [this]; done)
    | (exfalso; omega)
 · have : txtB s = true := all_true (by omega) hp
   rw [this]
   exact ⟨rfl⟩
theorem Kar2 {n : Nat} {d1 d2 : List D} {E : Prop} (e : E) (h1 : d1.length = n := by rfl) (h2 : d2.length = n := by rfl) : (∀ x ∈ [d1, d2], x.length = n) ∧ E :=
 ⟨fun x hx => by
  rcases List.mem_cons.1 hx with rfl | hx
  · exact h1
  · rw [List.mem_singleton.1 hx]; exact h2, e⟩
theorem qt_more (s : List UInt8) {i : Nat} (h : i < s.length) : qtT (s.take (i + 1)) = qtT (s.take i) ++ qtB s[i] := by
 rw [List.take_succ_eq_append_getElem h, qtT, qtT, List.flatMap_append]
 simp
theorem rQuote_meets (s : List UInt8) (hs : s.length ≤ 1048576) : Meets Tryz.prog 41 [.str s] fun d => d = .str (34 :: (qtT s ++ [34])) := by
 have hq : ∀ i, (qtT (s.take i)).length ≤ 2097152 := fun i => by
  have := qt_len2 (s.take i)
  rw [List.length_take] at this
  omega
 refine enter tok {} Tryz.func41 rfl (by kernel_rfl) Tryz.ntmps41 (by simp) fun B0 W0 V0 lent g0 => ?_
 ((conv => whnf); repeat' (refine Z rfl ?_; conv => whnf))
 repeat' ((first | (intro hlq; (try simp only [SL] at hlq)) | refine Ks ?_ | refine Kq ?_ | refine Kt ?_ | refine Ka ?_ | refine Kb ?_ | refine Kc (hd := rfl) (e := ?_) | refine Kc (hd := icells_eq _) (e := ?_) | refine Kd (e := ?_) | refine Kl rfl ?_ | fail) <;> ((conv => whnf); repeat' (refine Z rfl ?_; conv => whnf)))
 refine loop_upd tok {} [(.inl 3, 3, 5, 1)] (X := Nat) (fun i => [(4, iB i), (3, .own 3)]) (fun i => [(3, .sl ⟨5, 1, byteCells (34 :: qtT (s.take i)), true⟩)]) [] (fun i => i ≤ s.length) (fun i => s.length - i) 0 ?_
 ((conv => whnf); repeat' (refine Z rfl ?_; conv => whnf))
 refine ⟨by simp, ?_⟩
 ((conv => whnf); repeat' (refine Z rfl ?_; conv => whnf))
 refine And.intro ?_ ⟨by omega, fun i hi => ?_⟩
 · exact Kr
 have hqi := hq i
 have hbl : (byteCells (34 :: qtT (s.take i))).length ≤ 2097153 := by simp only [List.length_map, List.length_cons]; omega
 ((conv => whnf); repeat' (refine Z rfl ?_; conv => whnf))
 repeat' ((first | (intro hlq; (try simp only [SL] at hlq)) | refine Ks ?_ | refine Kq ?_ | refine Kt ?_ | refine Ka ?_ | refine Kb ?_ | refine Kc (hd := rfl) (e := ?_) | refine Kc (hd := icells_eq _) (e := ?_) | refine Kd (e := ?_) | refine Kl rfl ?_ | fail) <;> ((conv => whnf); repeat' (refine Z rfl ?_; conv => whnf)))
 refine ⟨fun h1 => ?_, fun h1 => ?_⟩ <;> (try simp only [BL] at h1) <;> ((conv => whnf); repeat' (refine Z rfl ?_; conv => whnf))
 · have h1' : i < s.length := by omega
   have hb := s[i].toNat_lt
   have e10 : s[i] = 10 ↔ (s[i].toNat : Int) = 10 := u8_eq (n := 10) (by decide)
   have e34 : s[i] = 34 ↔ (s[i].toNat : Int) = 34 := u8_eq (n := 34) (by decide)
   have e92 : s[i] = 92 ↔ (s[i].toNat : Int) = 92 := u8_eq (n := 92) (by decide)
   have hm := qt_more s h1'
   have hx : ∀ y : List UInt8, qtB s[i] = y → byteCells (34 :: qtT (s.take i)) ++ byteCells y = byteCells (34 :: qtT (s.take (i + 1))) := fun y hy => by
    rw [hm, hy, byteCells, ← List.map_append]; rfl
   have hy10 : (s[i].toNat : Int) = 10 → qtB s[i] = [92, 110] := fun h => by rw [e10.2 h]; rfl
   have hy34 : (s[i].toNat : Int) = 34 → qtB s[i] = [92, s[i]] := fun h => by rw [e34.2 h]; rfl
   have hy92 : (s[i].toNat : Int) = 92 → qtB s[i] = [92, s[i]] := fun h => by rw [e92.2 h]; rfl
   have hyN : ¬ (s[i].toNat : Int) = 10 → ¬ (s[i].toNat : Int) = 34 → ¬ (s[i].toNat : Int) = 92 → qtB s[i] = [s[i]] := fun h1 h2 h3 => by
    unfold qtB
    rw [if_neg (fun e => h2 (e34.1 e)), if_neg (fun e => h3 (e92.1 e)), if_neg (fun e => h1 (e10.1 e))]
   clear hm e10 e34 e92
   repeat' ((first | (intro hlq; (try simp only [SL] at hlq)) | refine Kar ?_ | refine Kar2 ?_ | refine Kap ?_ | refine Ks ?_ | refine Kq ?_ | refine Kt ?_ | ((refine Kh (fun hb => ?_) fun hb => ?_) <;> (try simp only [BL] at hb)) | refine Ka ?_ | refine Kb ?_ | refine Kc (hd := rfl) (e := ?_) | refine Kc (hd := rfl) (e := ?_) | refine Kd (e := ?_) | refine Kl rfl ?_ | fail) <;> ((conv => whnf); repeat' (refine Z rfl ?_; conv => whnf)))
   all_goals
    refine ⟨⟨i + 1, ?_, by omega, by omega⟩⟩
    repeat' (first | exact True.intro | exact rfl | refine And.intro ?_ ?_ | exact hx _ (hy10 (by assumption)) | exact hx _ (hy34 (by assumption)) | exact hx _ (hy92 (by assumption)) | exact hx _ (hyN (by assumption) (by assumption) (by assumption)))
 · repeat' ((first | (intro hlq; (try simp only [SL] at hlq)) | refine ⟨34 :: (qtT (s.take i) ++ [34]), by simp [byteCells], ?_⟩ | refine Kar ?_ | refine Kap ?_ | refine Ks ?_ | refine Kq ?_ | refine Kt ?_ | ((refine Kh (fun hb => ?_) fun hb => ?_) <;> (try simp only [BL] at hb)) | refine Ka ?_ | refine Kb ?_ | refine Kc (hd := rfl) (e := ?_) | refine Kc (hd := rfl) (e := ?_) | refine Kd (e := ?_) | refine Kl rfl ?_ | fail) <;> ((conv => whnf); repeat' (refine Z rfl ?_; conv => whnf)))
   rw [List.take_of_length_le (by omega)]
   exact ⟨rfl⟩
theorem sgn_same (s : List UInt8) : sgnL s = sgnB s := by
 rw [Bool.eq_iff_iff]
 constructor
 · intro h
   unfold sgnL at h
   rw [List.contains_iff_mem] at h
   simp only [List.mem_cons, List.not_mem_nil, or_false] at h
   rcases h with h | h | h | h | h | h | h | h | h | h | h | h | h | h <;> (subst h; decide +kernel)
 · intro h
   unfold sgnB at h
   simp only [Bool.or_eq_true, Bool.and_eq_true, decide_eq_true_eq] at h
   rcases h with ((⟨h1, h2⟩ | rfl) | rfl) | rfl
   · match s, h1, h2 with
     | [c], _, h2 => exact (all_u8 (p := fun c => Lib.contains signL [c] = true → sgnL [c] = true) (by decide +kernel) c) h2
   · decide +kernel
   · decide +kernel
   · decide +kernel
end Go.Proofs.YtedjnaggkakphaaGreatDoor.Dx
/- The reference's Time. -/
namespace Go.Proofs.YtedjnaggkakphaaGreatDoor.Dx
open Go Go.RowKit Go.Proofs
set_option maxRecDepth 100000
set_option maxHeartbeats 8000000
theorem rcut_at {s : List UInt8} {c : UInt8} {w r : List UInt8} {p : Bool} (h : cutB c s = (w, r, p)) : Meets Tryz.prog 50 [.str s, .v (.int .u8 (c.toNat : Int))] fun d => d = .tup [.str w, .str r, .bl p] := by
 have := rcut_meets s c
 rw [h] at this
 exact this.as fun _ _ => tup3_as
theorem rTime_meets (s : List UInt8) : Meets Tryz.prog 23 [.str s] fun d => d = timeD s := by
 obtain ⟨sg, u, hs⟩ : ∃ sg u, signS s = (sg, u) := ⟨_, _, rfl⟩
 have hsg : sg = 1 ∨ sg = -1 := by
  have : (signS s).1 = sg := by rw [hs]
  unfold signS at this
  split at this <;> (dsimp only at this; omega)
 rw [timeD_sign, hs]
 refine enter tok {} Tryz.func23 rfl (by kernel_rfl) Tryz.ntmps23 (by simp) fun B0 W0 V0 lent g0 => ?_
 ((conv => whnf); repeat' ((fail_if_success (refine J_at2 2 ?_)); refine Z rfl ?_; conv => whnf))
 refine J_seq (cut_post tok {} [(4, iB sg), (0, .d (.str u))] ?_)
 conv => whnf
 refine And.intro ?_ ?_
 · clear hsg
   rcases s with _ | ⟨b, s⟩
   · cases hs
     ((conv => whnf); repeat' (refine Z rfl ?_; conv => whnf))
     repeat' ((first | (intro hlq; (try simp only [SL] at hlq)) | refine Ks ?_ | refine Kq ?_ | refine Kt ?_ | ((refine Kh (fun hb => ?_) fun hb => ?_) <;> (try simp only [BL] at hb)) | refine Ka ?_ | refine Kb ?_ | refine Kc (hd := rfl) (e := ?_) | refine Kc (hd := icells_eq _) (e := ?_) | refine Kd (e := ?_) | refine Kl rfl ?_ | fail) <;> ((conv => whnf); repeat' (refine Z rfl ?_; conv => whnf)))
     all_goals first
      | (exfalso
         have h9 := (by assumption : (([] : List UInt8).length : Int) > 0)
         simp at h9)
      | (refine ⟨?_⟩; (repeat' (first | exact True.intro | exact rfl | refine And.intro ?_ ?_)); done)
   · by_cases hb : b = 45
     · subst hb
       cases hs
       ((conv => whnf); repeat' (refine Z rfl ?_; conv => whnf))
       repeat' ((first | (intro hlq; (try simp only [SL] at hlq)) | refine ⟨45, ⟨by omega, rfl⟩, ?_⟩ | refine Ks ?_ | refine Kq ?_ | refine Kt ?_ | ((refine Kh (fun hb => ?_) fun hb => ?_) <;> (try simp only [BL] at hb)) | refine Ka ?_ | refine Kb ?_ | refine Kc (hd := rfl) (e := ?_) | refine Kc (hd := icells_eq _) (e := ?_) | refine Kd (e := ?_) | refine Kl rfl ?_ | fail) <;> ((conv => whnf); repeat' (refine Z rfl ?_; conv => whnf)))
       all_goals first
        | (exfalso
           have h9 := (by assumption : ¬ ((UInt8.toNat 45 : Int) = 45))
           exact h9 rfl)
        | (exfalso
           have h9 := (by assumption : ¬ ((45 :: u).length : Int) > 0)
           simp only [List.length_cons] at h9; omega)
        | (refine ⟨?_⟩; (repeat' (first | exact True.intro | exact rfl | refine And.intro ?_ ?_ | (refine congrArg D.str ?_; simp; done))); done)
     · rw [signS_pos (by simpa using hb)] at hs
       cases hs
       have hb' : ¬ (b.toNat : Int) = 45 := fun e => hb (UInt8.toNat_inj.1 (by have : (45 : UInt8).toNat = 45 := rfl; omega))
       ((conv => whnf); repeat' (refine Z rfl ?_; conv => whnf))
       repeat' ((first | (intro hlq; (try simp only [SL] at hlq)) | refine ⟨b, ⟨by omega, rfl⟩, ?_⟩ | refine Ks ?_ | refine Kq ?_ | refine Kt ?_ | ((refine Kh (fun hb => ?_) fun hb => ?_) <;> (try simp only [BL] at hb)) | refine Ka ?_ | refine Kb ?_ | refine Kc (hd := rfl) (e := ?_) | refine Kc (hd := icells_eq _) (e := ?_) | refine Kd (e := ?_) | refine Kl rfl ?_ | fail) <;> ((conv => whnf); repeat' (refine Z rfl ?_; conv => whnf)))
       all_goals first
        | contradiction
        | (exfalso
           have h9 := (by assumption : ¬ ((b :: s).length : Int) > 0)
           simp only [List.length_cons] at h9; omega)
        | (refine ⟨?_⟩; (repeat' (first | exact True.intro | exact rfl | refine And.intro ?_ ?_)); done)
 clear hs
 rcases hp : cutB 46 u with ⟨w, f, p⟩
 rcases hq : cutB 58 w with ⟨a, r, c⟩
 rcases hr : cutB 58 r with ⟨b, r2, c2⟩
 have k1 : Meets Tryz.prog 50 [.str u, .v (.int .u8 46)] _ := rcut_at hp
 have k2 : Meets Tryz.prog 50 [.str w, .v (.int .u8 58)] _ := rcut_at hq
 have k3 : Meets Tryz.prog 50 [.str r, .v (.int .u8 58)] _ := rcut_at hr
 rw [timeU_of hp hq, moreN_of hr]
 clear hp hq hr
 have hS := sixN_lt b
 have hS' := sixN_lt r2
 have hF := fracN_lt f
 have k4 := (rNumeral_meets a).bl
 have hnum : numB a = true → a.length ≤ 13 → Meets Tryz.prog 53 [.str a] (fun d => d = iD (numN a)) ∧ numN a < 10000000000000 := fun h1 h2 =>
  ⟨number_meets _ (numB_digits h1).1 (numB_digits h1).2, by
   have hl := numN_lt _ _ rfl (numB_digits h1).1
   have hl2 : 10 ^ a.length ≤ 10 ^ 13 := Nat.pow_le_pow_right (by omega) h2
   omega⟩
 generalize numB a = nb at *
 have k5 := fraction_meets f
 have k6 := sixty_meets b
 have k7 := sixty_meets r2
 generalize fracN f = fr at *
 generalize sixN b = sb at *
 generalize sixN r2 = sr at *
 generalize hna : (numN a : Int) = na at *
 by_cases hA : nb = true ∧ a.length ≤ 13
 · obtain ⟨k8, hl⟩ := hnum hA.1 hA.2
   obtain ⟨rfl, hA2⟩ := hA
   have h0 : 0 ≤ na ∧ na < 10000000000000 := by omega
   clear hnum hl hna
   cases c
   · cases p
     all_goals
      ((conv => whnf); repeat' (refine Z rfl ?_; conv => whnf))
      repeat' ((first | (intro hlq; (try simp only [SL] at hlq)) | refine Meets.k (k1) ?_ | refine Meets.k (k2) ?_ | refine Meets.k (k4) ?_ | refine Meets.k (k5) ?_ | refine Meets.k (k8) ?_ | refine ⟨fun _ _ => i64 (by omega) (by omega), ?_⟩ | refine ⟨fun _ _ => i64 (by cases hsg <;> subst_vars <;> omega) (by cases hsg <;> subst_vars <;> omega), ?_⟩ | refine Ks ?_ | refine Kq ?_ | refine Kt ?_ | ((refine Kh (fun hb => ?_) fun hb => ?_) <;> (try simp only [BL] at hb)) | refine Ka ?_ | refine Kb ?_ | refine Kc (hd := rfl) (e := ?_) | refine Kc (hd := icells_eq _) (e := ?_) | refine Kd (e := ?_) | refine Kl rfl ?_ | fail) <;> ((conv => whnf); repeat' (refine Z rfl ?_; conv => whnf)))
      all_goals first
       | contradiction
       | (clear k1 k2 k3 k4 k5 k6 k7 k8
          refine ⟨?_⟩
          simp only [timeV, timeO, reduceCtorEq, Bool.false_eq_true, if_false, if_true, false_or, or_false, true_or, or_true, and_true, true_and, and_false, false_and]
          (repeat (first | rw [if_pos (by omega)] | rw [if_neg (by omega)] | dsimp only)))
   · cases c2 <;> cases p
     all_goals
      ((conv => whnf); repeat' (refine Z rfl ?_; conv => whnf))
      repeat' ((first | (intro hlq; (try simp only [SL] at hlq)) | refine Meets.k (k1) ?_ | refine Meets.k (k2) ?_ | refine Meets.k (k3) ?_ | refine Meets.k (k4) ?_ | refine Meets.k (k5) ?_ | refine Meets.k (k6) ?_ | refine Meets.k (k7) ?_ | refine Meets.k (k8) ?_ | refine ⟨fun _ _ => i64 (by omega) (by omega), ?_⟩ | refine ⟨fun _ _ => i64 (by cases hsg <;> subst_vars <;> omega) (by cases hsg <;> subst_vars <;> omega), ?_⟩ | refine Ks ?_ | refine Kq ?_ | refine Kt ?_ | ((refine Kh (fun hb => ?_) fun hb => ?_) <;> (try simp only [BL] at hb)) | refine Ka ?_ | refine Kb ?_ | refine Kc (hd := rfl) (e := ?_) | refine Kc (hd := icells_eq _) (e := ?_) | refine Kd (e := ?_) | refine Kl rfl ?_ | fail) <;> ((conv => whnf); repeat' (refine Z rfl ?_; conv => whnf)))
      all_goals first
       | contradiction
       | (clear k1 k2 k3 k4 k5 k6 k7 k8
          refine ⟨?_⟩
          simp only [timeV, timeO, reduceCtorEq, Bool.false_eq_true, if_false, if_true, false_or, or_false, true_or, or_true, and_true, true_and, and_false, false_and]
          (repeat (first | rw [if_pos (by omega)] | rw [if_neg (by omega)] | dsimp only)))
 · clear hnum
   have hA' : nb = false ∨ (a.length : Int) > 13 := by
    cases nb
    · exact .inl rfl
    · by_cases h : a.length ≤ 13
      · exact absurd ⟨rfl, h⟩ hA
      · exact .inr (by omega)
   clear hA hna
   have hV : ∀ f p c m, timeO sg (timeV nb a.length f p c m) = errD := by
    intro f p c m
    unfold timeV
    rw [if_pos (hA'.elim .inl fun h => .inr (.inl h))]
    rfl
   dsimp only
   rw [hV]
   cases p <;> cases c <;> cases nb
   all_goals
    ((conv => whnf); repeat' (refine Z rfl ?_; conv => whnf))
    repeat' ((first | (intro hlq; (try simp only [SL] at hlq)) | refine Meets.k (k1) ?_ | refine Meets.k (k2) ?_ | refine Meets.k (k4) ?_ | refine Meets.k (k5) ?_ | refine Ks ?_ | refine Kq ?_ | refine Kt ?_ | ((refine Kh (fun hb => ?_) fun hb => ?_) <;> (try simp only [BL] at hb)) | refine Ka ?_ | refine Kb ?_ | refine Kc (hd := rfl) (e := ?_) | refine Kc (hd := icells_eq _) (e := ?_) | refine Kd (e := ?_) | refine Kl rfl ?_ | fail) <;> ((conv => whnf); repeat' (refine Z rfl ?_; conv => whnf)))
    all_goals first
     | contradiction
     | exact ⟨rfl⟩
     | (exfalso; rcases hA' with h9 | h9; (· cases h9); omega)
end Go.Proofs.YtedjnaggkakphaaGreatDoor.Dx
/- The reference's Join. -/
namespace Go.Proofs.YtedjnaggkakphaaGreatDoor.Dx
open Go Go.RowKit Go.Proofs
set_option maxRecDepth 100000
set_option maxHeartbeats 8000000
theorem joinR_at (i : List TkZ) (e : TkZ) : joinR (i ++ [e]) = if e.kind ≠ 6 ∨ e.text ≠ [] then ([], 1) else if i.all tkB = false then ([], 1) else if 65536 < (jn (i.map tkT)).length then ([], 2) else (jn (i.map tkT), 0) := by
 unfold joinR
 rw [List.getLast?_concat, List.dropLast_concat]
/-- whether a token may stand where it does -/
def okT (lst : Bool) (x : TkZ) : Bool := if x.kind = 6 then lst && decide (x.text = []) else tkB x
theorem rj_cases {i : List TkZ} {e x : TkZ} {k : Nat} {lst : Bool} {res : List UInt8 × Int} (hres : res = if e.kind ≠ 6 ∨ e.text ≠ [] then (([], 1) : List UInt8 × Int) else if i.all tkB = false then ([], 1) else if 65536 < (jn (i.map tkT)).length then ([], 2) else (jn (i.map tkT), 0))
 (hx : (i ++ [e])[k]? = some x) (hk : k < i.length + 1) (hall : ∀ t ∈ i.take k, tkB t = true) (hL : lst = decide (k = i.length)) :
 (okT lst x = false ∨ lst ≠ decide (x.kind = 6) → res = ([], 1)) ∧ (okT lst x = true → lst = decide (x.kind = 6) → (∀ t ∈ i.take (k + 1), tkB t = true) ∧ (k + 1 = i.length + 1 → e.kind = 6 ∧ e.text = []) ∧
   jn ((i.take (k + 1)).map tkT) = (if 0 < k ∧ lst = false then jn ((i.take k).map tkT) ++ [32] else jn ((i.take k).map tkT)) ++ tkT x) := by
 rcases Nat.lt_or_ge k i.length with h | h
 · have hx2 : i[k] = x := by
    rw [List.getElem?_append_left h, List.getElem?_eq_getElem h] at hx
    exact Option.some.inj hx
   obtain rfl : lst = false := by rw [hL]; exact decide_eq_false (by omega)
   have hb : okT false x = false ∨ false ≠ decide (x.kind = 6) → tkB x = false := by
    intro h
    by_cases h6 : x.kind = 6
    · unfold tkB; rw [h6]; rfl
    · unfold okT at h
      rw [if_neg h6, decide_eq_false h6] at h
      exact h.elim id (fun h => absurd rfl h)
   refine ⟨fun hq => ?_, fun h1 h2 => ⟨fun t ht => ?_, fun h2 => absurd h2 (by omega), ?_⟩⟩
   · have hna : i.all tkB = false := all_false (by rw [← hx2]; exact List.getElem_mem h) (hb hq)
     rw [hres]
     split
     · rfl
     · rfl
   · rw [List.take_succ_eq_append_getElem h] at ht
     rcases List.mem_append.1 ht with ht | ht
     · exact hall t ht
     · rw [List.mem_singleton.1 ht, hx2]
       have h6 : ¬ x.kind = 6 := of_decide_eq_false h2.symm
       unfold okT at h1
       rw [if_neg h6] at h1
       exact h1
   · rw [jn_step i h, hx2]
     by_cases h0 : k = 0
     · subst h0; simp [jn]
     · rw [if_neg h0, if_pos ⟨by omega, rfl⟩]
 · obtain rfl : k = i.length := by omega
   obtain rfl : e = x := by
    rw [List.getElem?_append_right (Nat.le_refl _), Nat.sub_self] at hx
    exact Option.some.inj hx
   obtain rfl : lst = true := by rw [hL]; exact decide_eq_true rfl
   rw [List.take_length] at hall
   refine ⟨fun hq => ?_, fun h1 h2 => ?_⟩
   · rw [hres, if_pos]
     by_cases h6 : e.kind = 6
     · refine .inr fun ht => ?_
       unfold okT at hq
       rw [if_pos h6, decide_eq_true h6, decide_eq_true ht] at hq
       exact hq.elim (fun h => by cases h) (fun h => absurd rfl h)
     · exact .inl h6
   · have h6 : e.kind = 6 := of_decide_eq_true h2.symm
     unfold okT at h1
     rw [if_pos h6, Bool.true_and] at h1
     have ht : e.text = [] := of_decide_eq_true h1
     have hT : tkT e = [] := by unfold tkT; rw [if_neg (by omega), ht]
     rw [List.take_of_length_le (Nat.le_succ _), hT, List.append_nil, if_neg (fun h => by cases h.2), List.take_length]
     exact ⟨hall, fun _ => ⟨h6, ht⟩, rfl⟩
theorem rJoin_meets (hR : ∀ s : List UInt8, Meets Tryz.prog 23 [.str s] fun d => d = timeD s) (l : List TkZ) (hn : l.length ≤ 1048576) (hl : ∀ t ∈ l, t.text.length ≤ 1048576) : Meets Tryz.prog 18 [.sl (l.map TkZ.cells)] fun d => d = .tup [.sl (byteCells (joinR l).1), iD (joinR l).2] := by
 rcases List.eq_nil_or_concat l with rfl | ⟨i, e, rfl⟩
 · refine enter tok {} Tryz.func18 rfl (by kernel_rfl) Tryz.ntmps18 (by simp) fun B0 W0 V0 lent g0 => ?_
   ((conv => whnf); repeat' (refine Z rfl ?_; conv => whnf))
   repeat' ((first | (intro hlq; clear hlq) | refine ⟨fun _ => ?_, fun h => absurd h (by decide)⟩ | refine ⟨fun h => absurd h (by decide), fun _ => ?_⟩ | refine ⟨fun _ _ => i64 (by decide) (by decide), ?_⟩ | refine ⟨_, ⟨by decide, rfl, rfl⟩, ?_⟩ | refine JR_go tok {} ?_ | fail) <;> ((conv => whnf); repeat' (refine Z rfl ?_; conv => whnf)))
   exact ⟨rfl⟩
 rw [List.concat_eq_append] at hn hl ⊢
 rw [joinR_at]
 obtain ⟨res, hres⟩ : ∃ res, res = if e.kind ≠ 6 ∨ e.text ≠ [] then (([], 1) : List UInt8 × Int) else if i.all tkB = false then ([], 1) else if 65536 < (jn (i.map tkT)).length then ([], 2) else (jn (i.map tkT), 0) := ⟨_, rfl⟩
 rw [← hres]
 have hjb := jn_bound i (fun t ht => hl t (List.mem_append.2 (.inl ht)))
 have hjk : ∀ k, (jn ((i.take k).map tkT)).length ≤ 2097155 * i.length := fun k => by
  rcases Nat.le_total k i.length with h | h
  · have := hjb k h; omega
  · rw [List.take_of_length_le h]
    have := hjb i.length (Nat.le_refl _)
    rw [List.take_length] at this
    exact this
 have hle : (i ++ [e]).length = i.length + 1 := by simp
 rw [hle] at hn
 have hL : ((i ++ [e]).map TkZ.cells).length = i.length + 1 := by rw [List.length_map, hle]
 refine enter tok {} Tryz.func18 rfl (by kernel_rfl) Tryz.ntmps18 (by simp) fun B0 W0 V0 lent g0 => ?_
 ((conv => whnf); repeat' (refine Z rfl ?_; conv => whnf))
 repeat' ((first | (intro hlq; (try simp only [SL] at hlq)) | refine Ks ?_ | refine Kq ?_ | refine Kt ?_ | refine Ka ?_ | refine Kb ?_ | refine Kc (hd := rfl) (e := ?_) | refine Kc (hd := icells_eq _) (e := ?_) | refine Kd (e := ?_) | refine Kl rfl ?_ | fail) <;> ((conv => whnf); repeat' (refine Z rfl ?_; conv => whnf)))
 refine ⟨fun h0 => ?_, fun h0 => ?_⟩ <;> (try simp only [BL] at h0) <;> ((conv => whnf); repeat' (refine Z rfl ?_; conv => whnf))
 · exfalso; omega
 refine loop_upd tok {} [(.inl 4, 4, 5, 1)] (X := Nat) (fun k => [(5, iB k), (4, .own 4)]) (fun k => [(4, .sl ⟨5, 1, byteCells (jn ((i.take k).map tkT)), true⟩)]) [6, 7, 8, 9, 10] (fun k => k ≤ i.length + 1 ∧ (∀ t ∈ i.take k, tkB t = true) ∧ (k = i.length + 1 → e.kind = 6 ∧ e.text = [])) (fun k => i.length + 1 - k) 0 ?_
 ((conv => whnf); repeat' (refine Z rfl ?_; conv => whnf))
 refine ⟨by simp, ?_⟩
 ((conv => whnf); repeat' (refine Z rfl ?_; conv => whnf))
 refine And.intro ?_ ⟨⟨by omega, by simp, by omega⟩, fun k hΦ => ?_⟩
 · exact Kr
 obtain ⟨hk, hall, hlast⟩ := hΦ
 have hjbk := hjk k
 ((conv => whnf); repeat' (refine Z rfl ?_; conv => whnf))
 repeat' ((first | (intro hlq; (try simp only [SL] at hlq)) | refine Ks ?_ | refine Kq ?_ | refine Kt ?_ | refine Ka ?_ | refine Kb ?_ | refine Kc (hd := rfl) (e := ?_) | refine Kc (hd := icells_eq _) (e := ?_) | refine Kd (e := ?_) | refine Kl rfl ?_ | fail) <;> ((conv => whnf); repeat' (refine Z rfl ?_; conv => whnf)))
 refine ⟨fun h3 => ?_, fun h3 => ?_⟩ <;> (try simp only [BL] at h3) <;> ((conv => whnf); repeat' (refine Z rfl ?_; conv => whnf))
 · have h3' : k < i.length + 1 := by omega
   obtain ⟨x, hx⟩ : ∃ x, (i ++ [e])[k]? = some x := ⟨_, List.getElem?_eq_getElem (by rw [hle]; omega)⟩
   have hget : ((i ++ [e]).map TkZ.cells)[((k : Nat) : Int).toNat]? = some x.cells := by rw [Int.toNat_natCast, List.getElem?_map, hx]; rfl
   have htl := hl x (List.mem_of_getElem? hx)
   have htl2 := tkT_len x
   have a1 := rWord_meets x.text
   have a2 := rInteger_meets x.text
   have a3 := hR x.text
   have a4 := rSign_meets x.text
   rw [sgn_same] at a4
   have a5 := rContents_meets x.text
   have a6 := rQuote_meets x.text htl
   refine ⟨x.cells, ⟨by omega, hget, rfl⟩, ?_⟩
   ((conv => whnf); repeat' ((fail_if_success (refine J_at2 10 ?_)); refine Z rfl ?_; conv => whnf))
   repeat' ((first | (intro hlq; (try simp only [SL] at hlq)) | refine Ks ?_ | refine Kq ?_ | refine Kt ?_ | refine Ka ?_ | refine Kb ?_ | refine Kc (hd := rfl) (e := ?_) | refine Kc (hd := icells_eq _) (e := ?_) | refine Kd (e := ?_) | refine Kl rfl ?_ | fail) <;> ((conv => whnf); repeat' ((fail_if_success (refine J_at2 10 ?_)); refine Z rfl ?_; conv => whnf)))
   obtain ⟨lst, hlst⟩ : ∃ lst : Bool, lst = decide ((k : Int) = (((i ++ [e]).map TkZ.cells).length : Int) - 1) := ⟨_, rfl⟩
   refine cut_to tok {} [(6, .d (.str (tkT x))), (8, .d (bD (okT (decide ((k : Int) = (((i ++ [e]).map TkZ.cells).length : Int) - 1)) x)))] ?_
   rw [← hlst]
   conv => whnf
   refine ⟨?_, ?_⟩
   · clear hres hjb hjk hjbk hall hlast hk h3' hx hl hlst hR
     ((conv => whnf); repeat' (refine Z rfl ?_; conv => whnf))
     refine ⟨x.cells, ⟨by omega, hget, rfl⟩, ?_⟩
     cases hN : timeN x.text with
     | none =>
       have a3 : Meets Tryz.prog 23 [.str x.text] fun d => d = .tup [iD 0, .v (.int .i64 50)] := by rw [timeD, hN] at a3; exact a3
       ((conv => whnf); repeat' (refine Z rfl ?_; conv => whnf))
       repeat' ((first | (intro hlq; (try simp only [SL] at hlq)) | refine Meets.k (a1) ?_ | refine Meets.k (a2) ?_ | refine Meets.k (a3) ?_ | refine Meets.k (a4) ?_ | refine Meets.k (a5) ?_ | refine Meets.k (a6) ?_ | refine Ks ?_ | refine Kq ?_ | refine Kt ?_ | ((refine Kh (fun hb => ?_) fun hb => ?_) <;> (try simp only [BL] at hb)) | refine Ka ?_ | refine Kb ?_ | refine Kc (hd := rfl) (e := ?_) | refine Kc (hd := icells_eq _) (e := ?_) | refine Kd (e := ?_) | refine Kl rfl ?_ | fail) <;> ((conv => whnf); repeat' (refine Z rfl ?_; conv => whnf)))
       all_goals
        refine ⟨?_⟩
        repeat' (first | exact True.intro | exact rfl | refine And.intro ?_ ?_ | exact congrArg bD (by unfold okT tkB; simp_all; done) | exact congrArg D.str (by unfold tkT; simp_all; done))
     | some v =>
       have a3 : Meets Tryz.prog 23 [.str x.text] fun d => d = .tup [iD v, .v (.int .i64 0)] := by rw [timeD, hN] at a3; exact a3
       ((conv => whnf); repeat' (refine Z rfl ?_; conv => whnf))
       repeat' ((first | (intro hlq; (try simp only [SL] at hlq)) | refine Meets.k (a1) ?_ | refine Meets.k (a2) ?_ | refine Meets.k (a3) ?_ | refine Meets.k (a4) ?_ | refine Meets.k (a5) ?_ | refine Meets.k (a6) ?_ | refine Ks ?_ | refine Kq ?_ | refine Kt ?_ | ((refine Kh (fun hb => ?_) fun hb => ?_) <;> (try simp only [BL] at hb)) | refine Ka ?_ | refine Kb ?_ | refine Kc (hd := rfl) (e := ?_) | refine Kc (hd := icells_eq _) (e := ?_) | refine Kd (e := ?_) | refine Kl rfl ?_ | fail) <;> ((conv => whnf); repeat' (refine Z rfl ?_; conv => whnf)))
       all_goals
        refine ⟨?_⟩
        repeat' (first | exact True.intro | exact rfl | refine And.intro ?_ ?_ | exact congrArg bD (by unfold okT tkB; simp_all; done) | exact congrArg D.str (by unfold tkT; simp_all; done))
   · clear a1 a2 a3 a4 a5 a6
     have hL' : lst = decide (k = i.length) := by rw [hlst, hL]; exact decide_eq_decide.2 (by omega)
     obtain ⟨hbad, hgood⟩ := rj_cases (lst := lst) hres hx h3' hall hL'
     clear hres hlst hL'
     ((conv => whnf); repeat' (refine Z rfl ?_; conv => whnf))
     refine ⟨fun h => ?_, fun h => ?_⟩
     · ((conv => whnf); repeat' (refine Z rfl ?_; conv => whnf))
       refine ⟨?_⟩
       rw [hbad (.inl (by simpa using h))]
       rfl
     · ((conv => whnf); repeat' (refine Z rfl ?_; conv => whnf))
       refine ⟨x.cells, ⟨by omega, hget, rfl⟩, ?_⟩
       ((conv => whnf); repeat' (refine Z rfl ?_; conv => whnf))
       refine ⟨fun h2 => ?_, fun h2 => ?_⟩
       · ((conv => whnf); repeat' (refine Z rfl ?_; conv => whnf))
         refine ⟨?_⟩
         rw [hbad (.inr (by simpa using h2))]
         rfl
       have hok : okT lst x = true := by simpa using h
       have hlk : lst = decide (x.kind = 6) := by simpa using h2
       obtain ⟨g1, g2, g3⟩ := hgood hok hlk
       clear hbad hgood h h2 hlk hok
       have hbl : ∀ k, (byteCells (jn ((i.take k).map tkT))).length ≤ 2097155 * i.length := fun k => by simp only [byteCells, List.length_map]; have := hjk k; omega
       have e1 : ∀ y, byteCells (jn ((i.take k).map tkT)) ++ [[cD 32]] ++ byteCells y = byteCells (jn ((i.take k).map tkT) ++ [32] ++ y) := fun y => by simp [byteCells]
       have e2 : ∀ y, byteCells (jn ((i.take k).map tkT)) ++ byteCells y = byteCells (jn ((i.take k).map tkT) ++ y) := fun y => by simp [byteCells]
       have e3 : ∀ y : List UInt8, (byteCells y).length = y.length := fun y => by simp [byteCells]
       ((conv => whnf); repeat' (refine Z rfl ?_; conv => whnf))
       repeat' ((first | (intro hlq; (try simp only [SL] at hlq)) | refine Kar ?_ | refine ⟨fun _ _ => (by have := hbl k; simp only [List.length_cons, List.length_nil, List.length_append, e3] at *; omega), ?_⟩ | refine Ks ?_ | refine Kq ?_ | refine Kt ?_ | ((refine Kh (fun hb => ?_) fun hb => ?_) <;> (try simp only [BL] at hb)) | refine Ka ?_ | refine Kb ?_ | refine Kc (hd := rfl) (e := ?_) | refine Kc (hd := icells_eq _) (e := ?_) | refine Kd (e := ?_) | refine Kl rfl ?_ | fail) <;> ((conv => whnf); repeat' (refine Z rfl ?_; conv => whnf)))
       all_goals
        refine ⟨⟨k + 1, ?_, ⟨by omega, g1, fun h => g2 h⟩, by omega⟩⟩
        repeat' (first | exact True.intro | exact rfl | refine And.intro ?_ ?_ | (exact (by rw [g3, if_pos ⟨by omega, by assumption⟩]; simp [byteCells])) | (exact (by rw [g3, if_neg (fun h => by have := h.1; omega)]; simp [byteCells])) | (exact (by rw [g3, if_neg (fun h => by have := h.2; simp_all)]; simp [byteCells])))
 · have hk2 : k = i.length + 1 := by omega
   subst hk2
   obtain ⟨h6, ht⟩ := hlast rfl
   have htk : i.take (i.length + 1) = i := List.take_of_length_le (Nat.le_succ _)
   rw [htk] at hall hjbk ⊢
   have hall2 : ¬ i.all tkB = false := by
    rw [List.all_eq_true.2 hall]; decide
   rw [if_neg (fun h => h.elim (fun h => h h6) (fun h => h ht)), if_neg hall2] at hres
   ((conv => whnf); repeat' (refine Z rfl ?_; conv => whnf))
   repeat' ((first | (intro hlq; (try simp only [SL] at hlq)) | refine Ks ?_ | refine Kq ?_ | refine Kt ?_ | refine Ka ?_ | refine Kb ?_ | refine Kc (hd := rfl) (e := ?_) | refine Kc (hd := icells_eq _) (e := ?_) | refine Kd (e := ?_) | refine Kl rfl ?_ | fail) <;> ((conv => whnf); repeat' (refine Z rfl ?_; conv => whnf)))
   refine ⟨fun h5 => ?_, fun h5 => ?_⟩ <;> (try simp only [BL] at h5) <;> ((conv => whnf); repeat' (refine Z rfl ?_; conv => whnf))
   · rw [if_pos (by omega)] at hres
     refine ⟨?_⟩
     rw [hres]
     rfl
   · rw [if_neg (by omega)] at hres
     refine ⟨?_⟩
     rw [hres]
end Go.Proofs.YtedjnaggkakphaaGreatDoor.Dx
/- The walk of the law of Join and Keyword. -/
namespace Go.Proofs.YtedjnaggkakphaaGreatDoor.Dx
open Go Go.RowKit Go.Proofs
set_option maxRecDepth 100000
set_option maxHeartbeats 2000000
theorem LJoin_meets (l : List TkZ) (hn : l.length ≤ 1048576) (hl : ∀ t ∈ l, t.text.length ≤ 1048576) (w : List UInt8) : Meets Tryz.prog 4 [.sl (l.map TkZ.cells), .str w] fun r => r = bD true := by
 have kS := sane_meets.bl
 have kF := (rFew_meets l hn hl).bl
 by_cases hw : w.length ≤ 1000
 · have kJ := Join_meets cTime_meets l hn hl
   have kR := rJoin_meets rTime_meets l hn hl
   have kK := Keyword_meets w (by omega)
   have kL := rKeyword_meets w
   generalize (joinR l).1 = b at *
   generalize (joinR l).2 = e at *
   generalize kw w = q at *
   generalize fewB l = p at *
   cases p
   all_goals
    refine enter tok {} Tryz.func4 rfl (by kernel_rfl) Tryz.ntmps4 (by simp) fun B0 W0 V0 lent g0 => ?_
    ((conv => whnf); repeat' (refine Z rfl ?_; conv => whnf))
    repeat' ((first | (intro hlq; (try simp only [SL] at hlq)) | refine Meets.k (kS) ?_ | refine Meets.k (kF) ?_ | refine Meets.k (kJ) ?_ | refine Meets.k (kR) ?_ | refine Meets.k (kK) ?_ | refine Meets.k (kL) ?_ | refine ⟨b, rfl, ?_⟩ | refine Ks ?_ | refine Kq ?_ | refine Kt ?_ | ((refine Kh (fun hb => ?_) fun hb => ?_) <;> (try simp only [BL] at hb)) | refine Ka ?_ | refine Kb ?_ | refine Kc (hd := rfl) (e := ?_) | refine Kc (hd := icells_eq _) (e := ?_) | refine Kd (e := ?_) | refine Kl rfl ?_ | fail) <;> ((conv => whnf); repeat' (refine Z rfl ?_; conv => whnf)))
   all_goals first
    | exact ⟨rfl⟩
    | contradiction
    | (exfalso; omega)
    | (refine ⟨congrArg bD ?_⟩; simp; done)
 · generalize fewB l = p at *
   cases p
   all_goals
    refine enter tok {} Tryz.func4 rfl (by kernel_rfl) Tryz.ntmps4 (by simp) fun B0 W0 V0 lent g0 => ?_
    ((conv => whnf); repeat' (refine Z rfl ?_; conv => whnf))
    repeat' ((first | (intro hlq; (try simp only [SL] at hlq)) | refine Meets.k (kS) ?_ | refine Meets.k (kF) ?_ | refine Ks ?_ | refine Kq ?_ | refine Kt ?_ | ((refine Kh (fun hb => ?_) fun hb => ?_) <;> (try simp only [BL] at hb)) | refine Ka ?_ | refine Kb ?_ | refine Kc (hd := rfl) (e := ?_) | refine Kc (hd := icells_eq _) (e := ?_) | refine Kd (e := ?_) | refine Kl rfl ?_ | fail) <;> ((conv => whnf); repeat' (refine Z rfl ?_; conv => whnf)))
   all_goals first
    | exact ⟨rfl⟩
    | contradiction
    | (exfalso; omega)
end Go.Proofs.YtedjnaggkakphaaGreatDoor.Dx
