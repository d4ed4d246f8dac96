/- The walk of the law of lines. -/
import Derived.Test.YteckbkljaneppaaGreatDoorPp
import Derived.Test.YteckbkljaneppaaGreatDoorPj
import Derived.Test.YteckbkljaneppaaGreatDoorNd
import Derived.Test.YteckbkljaneppaaGreatDoorPq
set_option linter.all false
namespace Go.Proofs.YteckbkljaneppaaGreatDoor.Dx
open Go Go.RowKit Go.Proofs
set_option maxRecDepth 100000
set_option maxHeartbeats 16000000
theorem byteCells_cut (ls : List (List UInt8)) {n : Nat} (h : n < ls.length) {a b : Int} (ha : a = (offT2 ls n : Nat)) (hb : b = (offT2 ls n + ls[n].length : Nat)) : List.drop a.toNat (List.take b.toNat (byteCells (ls.flatMap lf))) = byteCells ls[n] := by
 rw [ha, hb, Int.toNat_natCast, Int.toNat_natCast, byteCells, ← List.map_take, ← List.map_drop, line_cut ls h]
/-- where the loop stands -/
structure LAt (ls : List (List UInt8)) (i n : Nat) : Prop where
 hi : i ≤ (ls.flatMap lf).length
 hn : n ≤ ls.length
 lo : offT2 ls n ≤ i
 up : ∀ h : n < ls.length, i ≤ offT2 ls n + ls[n].length
 fin : n = ls.length → i = (ls.flatMap lf).length
theorem LAt.zero {ls : List (List UInt8)} (h : ls ≠ []) : LAt ls 0 0 := ⟨Nat.zero_le _, Nat.zero_le _, Nat.le_refl _, fun _ => Nat.zero_le _, fun e => absurd (List.eq_nil_of_length_eq_zero e.symm) h⟩
theorem LAt.lt {ls : List (List UInt8)} {i n : Nat} (h : LAt ls i n) (hi : i < (ls.flatMap lf).length) : n < ls.length := by
 have := h.hn
 rcases Nat.lt_or_ge n ls.length with k | k
 · exact k
 · have := h.fin (by omega); omega
theorem LAt.step {ls : List (List UInt8)} {i n : Nat} (h : LAt ls i n) (hi : i < (ls.flatMap lf).length) (hb : ((ls.flatMap lf)[i].toNat : Int) ≠ 10) : LAt ls (i + 1) n := by
 have hn := h.lt hi
 have h1 := h.up hn
 have h2 : i ≠ offT2 ls n + ls[n].length := by
  rintro rfl
  rw [line_lf ls hn hi] at hb
  exact hb (by rfl)
 exact ⟨hi, h.hn, by have := h.lo; omega, fun _ => by omega, fun e => by omega⟩
theorem LAt.end {ls : List (List UInt8)} (hl : ∀ s ∈ ls, Nl s) {i n : Nat} (h : LAt ls i n) (hi : i < (ls.flatMap lf).length) (hb : ((ls.flatMap lf)[i].toNat : Int) = 10) : ∃ hn : n < ls.length, i = offT2 ls n + ls[n].length ∧ offT2 ls (n + 1) = i + 1 ∧ LAt ls (i + 1) (n + 1) := by
 have hn := h.lt hi
 have h1 := h.up hn
 have h0 := h.lo
 have e : i = offT2 ls n + ls[n].length := by
  rcases Nat.lt_or_ge i (offT2 ls n + ls[n].length) with k | k
  · have e1 := line_in ls hn h.lo k hi
    have e2 := hl _ (List.getElem_mem hn) _ (List.getElem_mem (by omega : i - offT2 ls n < ls[n].length))
    rw [← e1] at e2
    exact absurd (UInt8.toNat_inj.1 (by have : (10 : UInt8).toNat = 10 := rfl; omega)) e2
  · omega
 have e3 := off_succ ls hn
 refine ⟨hn, e, by omega, ⟨by omega, by omega, by omega, fun k => by omega, fun k => ?_⟩⟩
 have := off_all ls (n := n + 1) (by omega)
 omega
theorem FLines_meets (c : Course) (hc : c.small) (hS : Meets Tryz.prog 8 [] fun r => r = bD true) (hF : Meets Tryz.prog 10 [c.d] fun d => d = .tup [.sl (byteCells (courseS c)), iD (courseX c)]) : Meets Tryz.prog 7 [c.d] fun r => r = bD true := by
 have q1 := hc.legs
 have q2 := hc.distances
 have q3 := hc.waves
 have q4 := hc.offences
 have q5 := hc.categories
 have q6 := hc.prizes
 have hT : courseX c = 0 → courseS c = (fullT c).flatMap lf ∧ Good c := by
  intro h
  have h0 : courseE c = 0 := by unfold courseX at h; split at h <;> assumption
  refine ⟨?_, good_of hc h0⟩
  rw [full_text]
  refine if_pos ⟨h0, ?_⟩
  unfold courseX at h
  rw [if_pos h0] at h
  rcases Nat.lt_or_ge 65536 (courseT c).length with k | k
  · rw [if_neg (by omega)] at h; cases h
  · exact k
 generalize courseS c = tx at *
 have hL := full_len c
 refine enter tok {} Tryz.func7 rfl (by kernel_rfl) Tryz.ntmps7 (by simp) fun B0 W0 V0 lent g0 => ?_
 ((conv => whnf); repeat' (refine Z rfl ?_; conv => whnf))
 repeat' ((first | (intro hlq; (try simp only [SL] at hlq)) | refine Meets.k (hS.bl) ?_ | (refine Meets.mono (FewCourse_meets c hc) ?_; rintro _ ⟨_, rfl⟩) | refine Ks ?_ | refine Kq ?_ | refine Kt ?_ | ((refine Kh (fun hb => ?_) fun hb => ?_) <;> (try simp only [BL] at hb)) | refine Ka ?_ | refine Kb ?_ | refine Kc (hd := rfl) (e := ?_) | refine Kc (hd := Cond.cells_eq _) (e := ?_) | refine Kd (e := ?_) | refine Kl rfl ?_ | fail) <;> ((conv => whnf); repeat' (refine Z rfl ?_; conv => whnf)))
 · cases hb
 · exact ⟨rfl⟩
 repeat' ((first | (intro hlq; (try simp only [SL] at hlq)) | refine Meets.k (hF) ?_ | refine Ks ?_ | refine Kq ?_ | refine Kt ?_ | ((refine Kh (fun hb => ?_) fun hb => ?_) <;> (try simp only [BL] at hb)) | refine Ka ?_ | refine Kb ?_ | refine Kc (hd := rfl) (e := ?_) | refine Kc (hd := Cond.cells_eq _) (e := ?_) | refine Kd (e := ?_) | refine Kl rfl ?_ | fail) <;> ((conv => whnf); repeat' (refine Z rfl ?_; conv => whnf)))
 · exact ⟨rfl⟩
 obtain ⟨rfl, hg⟩ := hT (by omega)
 have hne : fullT c ≠ [] := by simp [fullT]
 have hnl := full_nl hg
 have hmid := fun n (h : n < (fullT c).length) => full_mid hg h
 have hend := fun n (h : n < (fullT c).length) => full_end (c := c) h
 clear hT hF hS hc
 generalize fullT c = ls at *
 refine loop_upd tok {} [] (X := Nat × Nat) (fun x => [(49, iB x.1), (5, iB x.2), (6, iB (offT2 ls x.2))]) (fun _ => []) [8, 9, 10] (fun x => LAt ls x.1 x.2) (fun x => (ls.flatMap lf).length - x.1) (0, 0) ?_
 ((conv => whnf); repeat' (refine Z rfl ?_; conv => whnf))
 refine And.intro ?_ ⟨.zero hne, fun x hΦ => ?_⟩
 · exact Kr
 obtain ⟨i, n⟩ := x
 dsimp only at hΦ
 ((conv => whnf); repeat' (refine Z rfl ?_; conv => whnf))
 refine ⟨fun h1 => ?_, fun h1 => ?_⟩ <;> (try simp only [BL] at h1) <;> ((conv => whnf); repeat' (refine Z rfl ?_; conv => whnf))
 · have h1' : i < (ls.flatMap lf).length := by omega
   repeat' ((first | (intro hlq; (try simp only [SL] at hlq)) | refine Ks ?_ | refine Kq ?_ | refine Kt ?_ | refine Ka ?_ | refine Kb ?_ | refine Kc (hd := rfl) (e := ?_) | refine Kc (hd := rfl) (e := ?_) | refine Kd (e := ?_) | refine Kl rfl ?_ | fail) <;> ((conv => whnf); repeat' (refine Z rfl ?_; conv => whnf)))
   refine ⟨fun h2 => ?_, fun h2 => ?_⟩ <;> (try simp only [BL] at h2) <;> ((conv => whnf); repeat' (refine Z rfl ?_; conv => whnf))
   · repeat' ((first | (intro hlq; (try simp only [SL] at hlq)) | refine Ks ?_ | refine Kq ?_ | refine Kt ?_ | refine Ka ?_ | refine Kb ?_ | refine Kc (hd := rfl) (e := ?_) | refine Kc (hd := Cond.cells_eq _) (e := ?_) | refine Kd (e := ?_) | refine Kl rfl ?_ | fail) <;> ((conv => whnf); repeat' (refine Z rfl ?_; conv => whnf)))
     refine ⟨⟨(i + 1, n), ?_, hΦ.step h1' h2, by dsimp only; omega⟩⟩
     repeat' (first | exact True.intro | exact rfl | refine And.intro ?_ ?_)
   · obtain ⟨hn, he, ho, hΨ⟩ := hΦ.end hnl h1' (by omega)
     have hX := byteCells_cut ls hn (a := ((offT2 ls n : Nat) : Int)) (b := ((i : Nat) : Int)) rfl (by rw [he])
     have hll : ls.length ≤ 100000000 := by omega
     repeat' ((first | (intro hlq; (try simp only [SL] at hlq)) | refine Ks ?_ | refine Kq ?_ | refine Kt ?_ | refine Ka ?_ | refine Kb ?_ | refine Kc (hd := rfl) (e := ?_) | refine Kc (hd := Cond.cells_eq _) (e := ?_) | refine Kd (e := ?_) | refine Kl rfl ?_ | fail) <;> ((conv => whnf); repeat' (refine Z rfl ?_; conv => whnf)))
     refine ⟨fun _ => ⟨by omega, by dsimp only; omega, by simp only [List.length_map]; omega, fun ds hds => by obtain ⟨_, _, rfl⟩ := List.mem_map.1 hds; rfl⟩, ?_⟩
     rw [hX]
     have hl0 : n = 0 ∨ n + 1 = ls.length → 0 < ls[n].length ∧ ∀ h : 0 < ls[n].length, (ls[n][0].toNat : Int) ≠ 32 := fun h => by
      obtain ⟨b, r, e, hb⟩ := hend n hn h
      simp only [e, List.getElem_cons_zero]
      exact ⟨by simp, fun _ h => hb (UInt8.toNat_inj.1 (by have : (32 : UInt8).toNat = 32 := rfl; omega))⟩
     have hlm : n ≠ 0 → n + 1 ≠ ls.length → 3 ≤ ls[n].length ∧ (∀ h : 0 < ls[n].length, (ls[n][0].toNat : Int) = 32) ∧ (∀ h : 1 < ls[n].length, (ls[n][1].toNat : Int) = 32) ∧ ∀ h : 2 < ls[n].length, (ls[n][2].toNat : Int) ≠ 32 := fun h h' => by
      obtain ⟨b, r, e, hb⟩ := hmid n hn h h'
      simp only [e, List.getElem_cons_zero, List.getElem_cons_succ]
      exact ⟨by simp, fun _ => rfl, fun _ => rfl, fun _ h => hb (UInt8.toNat_inj.1 (by have : (32 : UInt8).toNat = 32 := rfl; omega))⟩
     clear hX hmid hend hnl he
     ((conv => whnf); repeat' (refine Z rfl ?_; conv => whnf))
     repeat' ((first | (intro hlq; (try simp only [SL] at hlq)) | refine Ks ?_ | refine Kq ?_ | refine Kt ?_ | ((refine Kh (fun hb => ?_) fun hb => ?_) <;> (try simp only [BL] at hb)) | refine Ka ?_ | refine Kb ?_ | refine Kc (hd := rfl) (e := ?_) | refine Kc (hd := Cond.cells_eq _) (e := ?_) | refine Kd (e := ?_) | refine Kl rfl ?_ | fail) <;> ((conv => whnf); repeat' (refine Z rfl ?_; conv => whnf)))
     all_goals first
      | (refine ⟨⟨(i + 1, n + 1), ?_, hΨ, by dsimp only; omega⟩⟩
         simp only [ho]
         repeat' (first | exact True.intro | exact rfl | refine And.intro ?_ ?_))
      | (exfalso
         have a0 := hl0 (by omega)
         have a1 := a0.2 a0.1
         omega)
      | (exfalso
         have a0 := hlm (by omega) (by omega)
         have a1 := a0.2.1 (by omega)
         have a2 := a0.2.2.1 (by omega)
         have a3 := a0.2.2.2 (by omega)
         omega)
 have hnL : n = ls.length := by
  have := hΦ.hn
  have h9 := hΦ.hi
  rcases Nat.lt_or_ge n ls.length with k | k
  · have := off_le ls k
    have := hΦ.up k
    omega
  · omega
 have hoL := off_all ls (n := n) (by omega)
 repeat' ((first | (intro hlq; (try simp only [SL] at hlq)) | refine Ks ?_ | refine Kq ?_ | refine Kt ?_ | ((refine Kh (fun hb => ?_) fun hb => ?_) <;> (try simp only [BL] at hb)) | refine Ka ?_ | refine Kb ?_ | refine Kc (hd := rfl) (e := ?_) | refine Kc (hd := Cond.cells_eq _) (e := ?_) | refine Kd (e := ?_) | refine Kl rfl ?_ | fail) <;> ((conv => whnf); repeat' (refine Z rfl ?_; conv => whnf)))
 · refine ⟨congrArg bD (decide_eq_true ?_)⟩
   rw [List.length_map]
   dsimp only
   omega
 · omega
end Go.Proofs.YteckbkljaneppaaGreatDoor.Dx
/- The walk of the law of lines, joined. -/
namespace Go.Proofs.YteckbkljaneppaaGreatDoor.Dx
open Go Go.RowKit Go.Proofs
theorem FLines8_meets (c : Course) (hc : c.small) : Meets Tryz.prog 7 [c.d] fun r => r = bD true := FLines_meets c hc sane8_meets (FCourse_meets c hc)
end Go.Proofs.YteckbkljaneppaaGreatDoor.Dx
