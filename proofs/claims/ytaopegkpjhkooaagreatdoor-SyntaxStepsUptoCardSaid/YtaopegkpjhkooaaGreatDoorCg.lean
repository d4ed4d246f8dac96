/- Chapter 06: the law's writer of steps. -/
import Derived.Test.YtaopegkpjhkooaaGreatDoorCf
set_option linter.all false
namespace Go.Proofs.YtaopegkpjhkooaaGreatDoor.Dx
open Go Go.RowKit Go.Proofs
set_option maxRecDepth 100000
set_option maxHeartbeats 16000000
section
variable {F : List Step → List UInt8 × Bool} {s : Step}
theorem one_by (h1 : s.kind = 1) (h : (1 ≤ s.crit ∧ s.crit ≤ 5) ∧ s.cond = cz ∧ s.th = [] ∧ s.el = []) : oneT F s = (critN s.crit ++ [59, 10], true) := by
 unfold oneT; rw [if_pos h1, if_pos h]
theorem one_by_bad (h1 : s.kind = 1) (h : ¬ ((1 ≤ s.crit ∧ s.crit ≤ 5) ∧ s.cond = cz ∧ s.th = [] ∧ s.el = [])) : oneT F s = ([], false) := by
 unfold oneT; rw [if_pos h1, if_neg h]
theorem one_if (h1 : ¬ s.kind = 1) (h : s.kind = 2 ∧ s.crit = 0 ∧ (cTx 8 s.cond).2 = true ∧ (F s.th).2 = true) (he : s.el = []) : oneT F s = ([105, 102, 32] ++ (cTx 8 s.cond).1 ++ [32, 123] ++ (F s.th).1 ++ [125] ++ [], true) := by
 unfold oneT; rw [if_neg h1, if_pos ⟨h.1, h.2.1, h.2.2.1, h.2.2.2, .inl he⟩, if_pos he]
theorem one_ife (h1 : ¬ s.kind = 1) (h : s.kind = 2 ∧ s.crit = 0 ∧ (cTx 8 s.cond).2 = true ∧ (F s.th).2 = true) (he : s.el ≠ []) (he2 : (F s.el).2 = true) :
 oneT F s = ([105, 102, 32] ++ (cTx 8 s.cond).1 ++ [32, 123] ++ (F s.th).1 ++ [125] ++ ([32, 101, 108, 115, 101, 32, 123] ++ (F s.el).1 ++ [125]), true) := by
 unfold oneT; rw [if_neg h1, if_pos ⟨h.1, h.2.1, h.2.2.1, h.2.2.2, .inr he2⟩, if_neg he]
theorem one_if_bad (h1 : ¬ s.kind = 1) (h : ¬ (s.kind = 2 ∧ s.crit = 0 ∧ (cTx 8 s.cond).2 = true ∧ (F s.th).2 = true)) : oneT F s = ([], false) := by
 unfold oneT; rw [if_neg h1, if_neg fun g => h ⟨g.1, g.2.1, g.2.2.1, g.2.2.2.1⟩]
theorem one_ife_bad (h1 : ¬ s.kind = 1) (he : s.el ≠ []) (he2 : (F s.el).2 = false) : oneT F s = ([], false) := by
 unfold oneT; rw [if_neg h1, if_neg fun g => by
  rcases g.2.2.2.2 with h | h
  · exact he h
  · rw [he2] at h; cases h]
end
theorem flat_step (T : Step → List UInt8) (l : List Step) (i : Nat) (hi : i < l.length) : ((l.take (i + 1)).map T).flatten = ((l.take i).map T).flatten ++ T l[i] := by
 rw [List.take_succ_eq_append_getElem hi, List.map_append, List.flatten_append]
 simp
theorem stepsText_zero (l : List Step) : Meets Tryz.prog 16 [stD l, iD 5] fun r => r = .tup [.str [], bD false] := by
 refine enter tok {} Tryz.func16 rfl (by kernel_rfl) Tryz.ntmps16 (by simp) fun B0 W0 V0 lent g0 => ?_
 ((conv => whnf); repeat' (refine Z rfl ?_; conv => whnf))
 repeat' ((first | (intro hlq; (try simp only [SL] at hlq)) | refine Ks ?_ | refine Kq ?_ | refine Kt ?_ | ((refine Kh (fun hb => ?_) fun hb => ?_) <;> (try simp only [BL] at hb)) | refine Ka ?_ | refine Kb ?_ | refine Kc (hd := rfl) (e := ?_) | refine Kc (hd := icells_eq _) (e := ?_) | refine Kd (e := ?_) | refine Kl rfl ?_ | fail) <;> ((conv => whnf); repeat' (refine Z rfl ?_; conv => whnf)))
 all_goals first
  | exact Done.mk rfl
  | (exfalso; omega)
theorem stepsText_bad (l : List Step) (dd : Int) (h : ¬ (1 ≤ l.length ∧ l.length ≤ 12)) : Meets Tryz.prog 16 [stD l, iD dd] fun r => r = .tup [.str [], bD false] := by
 refine enter tok {} Tryz.func16 rfl (by kernel_rfl) Tryz.ntmps16 (by simp) fun B0 W0 V0 lent g0 => ?_
 ((conv => whnf); repeat' (refine Z rfl ?_; conv => whnf))
 repeat' ((first | (intro hlq; (try simp only [SL] at hlq)) | refine Ks ?_ | refine Kq ?_ | refine Kt ?_ | ((refine Kh (fun hb => ?_) fun hb => ?_) <;> (try simp only [BL] at hb)) | refine Ka ?_ | refine Kb ?_ | refine Kc (hd := rfl) (e := ?_) | refine Kc (hd := icells_eq _) (e := ?_) | refine Kd (e := ?_) | refine Kl rfl ?_ | fail) <;> ((conv => whnf); repeat' (refine Z rfl ?_; conv => whnf)))
 all_goals first
  | exact Done.mk rfl
  | (exfalso; omega)
theorem gB4 {k : Nat} (hk : k ≤ 4) : gB k ≤ 30000000000000000 := by
 have : k = 0 ∨ k = 1 ∨ k = 2 ∨ k = 3 ∨ k = 4 := by omega
 rcases this with rfl | rfl | rfl | rfl | rfl <;> decide
theorem stepsText_ok (k : Nat) (hk : k + 1 ≤ 5) (l : List Step) (dd : Int) (hd : dd + 1 = 5 - (k : Int)) (hok : ∀ s ∈ l, s.ok) (ih : ∀ l : List Step, (∀ s ∈ l, s.ok) → Meets Tryz.prog 16 [stD l, iD (dd + 1)] fun r => r = .tup [.str (sTx k l).1, bD (sTx k l).2]) (hlen : 1 ≤ l.length ∧ l.length ≤ 12) (res : List UInt8 × Bool)
 (hres : res = if l.all (fun s => (oneT (sTx k) s).2) = true then ((l.map fun s => (oneT (sTx k) s).1).flatten, true) else ([], false)) : Meets Tryz.prog 16 [stD l, iD dd] fun r => r = .tup [.str res.1, bD res.2] := by
 have hgB := gB4 (show k ≤ 4 by omega)
 have hone : ∀ s : Step, (oneT (sTx k) s).1.length ≤ 171798691900 + 2 * gB k := fun s => oneT_len (sTx_len k) s
 have hL : ∀ i, i ≤ l.length → (((l.take i).map fun s => (oneT (sTx k) s).1).flatten).length ≤ 840000000000000000 := by
  intro i hi
  have h := flat_len (fun s => (oneT (sTx k) s).1) _ (l.take i) fun s _ => hone s
  rw [List.length_take] at h
  have := Nat.mul_le_mul (show min i l.length ≤ 12 by omega) (show 171798691900 + 2 * gB k ≤ 70000000000000000 by omega)
  omega
 refine enter tok {} Tryz.func16 rfl (by kernel_rfl) Tryz.ntmps16 (by simp) fun B0 W0 V0 lent g0 => ?_
 ((conv => whnf); repeat' (refine Z rfl ?_; conv => whnf))
 repeat' ((first | (intro hlq; (try simp only [SL] at hlq)) | refine Ks ?_ | refine Kq ?_ | refine Kt ?_ | ((refine Kh (fun hb => ?_) fun hb => ?_) <;> (try simp only [BL] at hb)) | refine Ka ?_ | refine Kb ?_ | refine Kc (hd := rfl) (e := ?_) | refine Kc (hd := icells_eq _) (e := ?_) | refine Kd (e := ?_) | refine Kl rfl ?_ | fail) <;> ((conv => whnf); repeat' (refine Z rfl ?_; conv => whnf)))
 all_goals try (exfalso; omega)
 refine loop_upd tok {} [] (X := Nat) (fun i => [(31, iB i), (6, .d (.str ((l.take i).map fun s => (oneT (sTx k) s).1).flatten))]) (fun _ => []) [] (fun i => i ≤ l.length ∧ ∀ s ∈ l.take i, (oneT (sTx k) s).2 = true) (fun i => l.length - i) 0 ?_
 ((conv => whnf); repeat' (refine Z rfl ?_; conv => whnf))
 refine And.intro ?_ ⟨⟨by omega, by simp⟩, fun i hΦ => ?_⟩
 · exact Kr
 obtain ⟨hi, hall⟩ := hΦ
 have hLi := hL i hi
 ((conv => whnf); repeat' (refine Z rfl ?_; conv => whnf))
 refine ⟨fun h1 => ?_, fun h1 => ?_⟩ <;> (try simp only [BL] at h1) <;> ((conv => whnf); repeat' (refine Z rfl ?_; conv => whnf))
 · have h1' : i < l.length := by omega
   have hst := flat_step (fun s => (oneT (sTx k) s).1) l i h1'
   have hnew : (oneT (sTx k) l[i]).2 = true → ∀ p ∈ l.take (i + 1), (oneT (sTx k) p).2 = true := by
    intro ht p hp
    rw [List.take_succ_eq_append_getElem h1'] at hp
    rcases List.mem_append.1 hp with h | h
    · exact hall p h
    · rw [List.mem_singleton.1 h]; exact ht
   have hbad : oneT (sTx k) l[i] = ([], false) → res = ([], false) := by
    intro hf
    rw [hres, if_neg]
    intro ha
    have := List.all_eq_true.1 ha l[i] (List.getElem_mem h1')
    rw [hf] at this
    cases this
   have hix : (l.map Step.cells)[(i : Int).toNat]? = some l[i].dc := by
    rw [Int.toNat_natCast, List.getElem?_map, List.getElem?_eq_getElem h1']
    simp only [Option.map_some, Step.cells_eq]
   have hcl := cTx_le (k := 8) (by omega) l[i].cond
   have htl := sTx_len k l[i].th
   have hel := sTx_len k l[i].el
   have hcr := critN_len l[i].crit
   have hcc := condText_meets 8 (by omega) l[i].cond
   rw [show (8 - ((8 : Nat) : Int)) = 0 from rfl] at hcc
   have hsok := Step.ok_iff.1 (hok l[i] (List.getElem_mem h1'))
   have hth := ih l[i].th hsok.2.1.2
   have hee := ih l[i].el hsok.2.2.2
   have hz1 := hsok.2.1.1
   have hz2 := hsok.2.2.1
   clear hsok
   have hsc := sameCond6_meets l[i].cond cz
   revert hst hnew hbad hix hcl htl hel hcr hcc hth hee hsc hz1 hz2
   generalize l[i] = s
   intro hst hnew hbad hix hcl htl hel hcr hcc hth hee hz1 hz2 hsc
   refine ⟨s.dc, ⟨by omega, hix, rfl⟩, ?_⟩
   clear hix
   ((conv => whnf); repeat' (refine Z rfl ?_; conv => whnf))
   by_cases hk1 : s.kind = 1
   · by_cases hv : (1 ≤ s.crit ∧ s.crit ≤ 5) ∧ s.cond = cz ∧ s.th = [] ∧ s.el = []
     · rw [one_by hk1 hv] at hst hnew
       have hl1 : s.th.length = 0 := by rw [hv.2.2.1]; rfl
       have hl2 : s.el.length = 0 := by rw [hv.2.2.2]; rfl
       have hsc' := hsc.bl
       rw [sameB_true hv.2.1] at hsc'
       repeat' ((first | (intro hlq; (try simp only [SL] at hlq)) | refine Meets.k (hsc') ?_ | refine Ks ?_ | refine Kq ?_ | refine Kt ?_ | ((refine Kh (fun hb => ?_) fun hb => ?_) <;> (try simp only [BL] at hb)) | refine Ka ?_ | refine Kb ?_ | refine Kc (hd := rfl) (e := ?_) | refine Kc (hd := icells_eq _) (e := ?_) | refine Kd (e := ?_) | refine Kl rfl ?_ | fail) <;> ((conv => whnf); repeat' (refine Z rfl ?_; conv => whnf)))
       all_goals first
        | (exact absurd (by assumption : (!true) = true) (by decide))
        | contradiction
        | (exfalso; omega)
        | skip
       refine ⟨[.str (critN s.crit)], ⟨by omega, ?_, rfl⟩, ?_⟩
       · have h5 : s.crit = 1 ∨ s.crit = 2 ∨ s.crit = 3 ∨ s.crit = 4 ∨ s.crit = 5 := by omega
         obtain e | e | e | e | e := h5 <;> rw [e] <;> rfl
       ((conv => whnf); repeat' (refine Z rfl ?_; conv => whnf))
       repeat' ((first | (intro hlq; (try simp only [SL] at hlq)) | refine Ks ?_ | refine Kq ?_ | refine Kt ?_ | ((refine Kh (fun hb => ?_) fun hb => ?_) <;> (try simp only [BL] at hb)) | refine Ka ?_ | refine Kb ?_ | refine Kc (hd := rfl) (e := ?_) | refine Kc (hd := icells_eq _) (e := ?_) | refine Kd (e := ?_) | refine Kl rfl ?_ | fail) <;> ((conv => whnf); repeat' (refine Z rfl ?_; conv => whnf)))
       refine ⟨⟨i + 1, ?_, ⟨by omega, hnew rfl⟩, by omega⟩⟩
       repeat' (first | exact True.intro | exact rfl | refine And.intro ?_ ?_ | (exact congrArg D.str hst.symm))
     · have hb2 := hbad (one_by_bad hk1 hv)
       repeat' ((first | (intro hlq; (try simp only [SL] at hlq)) | refine Meets.k (hsc) ?_ | refine Ks ?_ | refine Kq ?_ | refine Kt ?_ | ((refine Kh (fun hb => ?_) fun hb => ?_) <;> (try simp only [BL] at hb)) | refine Ka ?_ | refine Kb ?_ | refine Kc (hd := rfl) (e := ?_) | refine Kc (hd := icells_eq _) (e := ?_) | refine Kd (e := ?_) | refine Kl rfl ?_ | fail) <;> ((conv => whnf); repeat' (refine Z rfl ?_; conv => whnf)))
       all_goals first
        | (exfalso; omega)
        | (refine Done.mk ?_; rw [hb2]; done)
        | contradiction
        | (have hth0 : s.th.length = 0 := by omega
           have hel0 : s.el.length = 0 := by omega
           exfalso; exact hv ⟨⟨by omega, by omega⟩, sameB_iff.1 (by assumption), List.eq_nil_of_length_eq_zero hth0, List.eq_nil_of_length_eq_zero hel0⟩)
        | trace_state
   by_cases hv : s.kind = 2 ∧ s.crit = 0 ∧ (cTx 8 s.cond).2 = true ∧ (sTx k s.th).2 = true
   · rw [hv.2.2.1] at hcc
     rw [hv.2.2.2] at hth
     by_cases he : s.el = []
     · rw [one_if hk1 hv he] at hst hnew
       have hl2 : s.el.length = 0 := by rw [he]; rfl
       repeat' ((first | (intro hlq; (try simp only [SL] at hlq)) | refine Meets.k (hcc) ?_ | refine Meets.k (hth) ?_ | refine Ks ?_ | refine Kq ?_ | refine Kt ?_ | ((refine Kh (fun hb => ?_) fun hb => ?_) <;> (try simp only [BL] at hb)) | refine Ka ?_ | refine Kb ?_ | refine Kc (hd := rfl) (e := ?_) | refine Kc (hd := icells_eq _) (e := ?_) | refine Kd (e := ?_) | refine Kl rfl ?_ | fail) <;> ((conv => whnf); repeat' (refine Z rfl ?_; conv => whnf)))
       all_goals first
        | (exact absurd (by assumption : (!true) = true) (by decide))
        | contradiction
        | (exfalso; omega)
        | skip
       refine ⟨⟨i + 1, ?_, ⟨by omega, hnew rfl⟩, by omega⟩⟩
       repeat' (first | exact True.intro | exact rfl | refine And.intro ?_ ?_ | (exact congrArg D.str (by rw [hst]; simp only [List.append_nil])))
     · have hl2 : 1 ≤ s.el.length := by
        cases hq : s.el with
        | nil => exact absurd hq he
        | cons a b => simp
       cases hel2 : (sTx k s.el).2 with
       | true =>
         rw [one_ife hk1 hv he hel2] at hst hnew
         rw [hel2] at hee
         repeat' ((first | (intro hlq; (try simp only [SL] at hlq)) | refine Meets.k (hcc) ?_ | refine Meets.k (hth) ?_ | refine Meets.k (hee) ?_ | refine Ks ?_ | refine Kq ?_ | refine Kt ?_ | ((refine Kh (fun hb => ?_) fun hb => ?_) <;> (try simp only [BL] at hb)) | refine Ka ?_ | refine Kb ?_ | refine Kc (hd := rfl) (e := ?_) | refine Kc (hd := icells_eq _) (e := ?_) | refine Kd (e := ?_) | refine Kl rfl ?_ | fail) <;> ((conv => whnf); repeat' (refine Z rfl ?_; conv => whnf)))
         all_goals first
          | (exact absurd (by assumption : (!true) = true) (by decide))
          | contradiction
          | (exfalso; omega)
          | skip
         refine ⟨⟨i + 1, ?_, ⟨by omega, hnew rfl⟩, by omega⟩⟩
         repeat' (first | exact True.intro | exact rfl | refine And.intro ?_ ?_ | (exact congrArg D.str (by rw [hst]; exact List.append_assoc _ _ _)))
       | false =>
         have hb2 := hbad (one_ife_bad hk1 he hel2)
         rw [hel2] at hee
         repeat' ((first | (intro hlq; (try simp only [SL] at hlq)) | refine Meets.k (hcc) ?_ | refine Meets.k (hth) ?_ | refine Meets.k (hee) ?_ | refine Ks ?_ | refine Kq ?_ | refine Kt ?_ | ((refine Kh (fun hb => ?_) fun hb => ?_) <;> (try simp only [BL] at hb)) | refine Ka ?_ | refine Kb ?_ | refine Kc (hd := rfl) (e := ?_) | refine Kc (hd := icells_eq _) (e := ?_) | refine Kd (e := ?_) | refine Kl rfl ?_ | fail) <;> ((conv => whnf); repeat' (refine Z rfl ?_; conv => whnf)))
         all_goals first
          | (exact absurd (by assumption : (!true) = true) (by decide))
          | (exact absurd (by assumption : (!false) = false) (by decide))
          | contradiction
          | (exfalso; omega)
          | (refine Done.mk ?_; rw [hb2]; done)
   · have hb2 := hbad (one_if_bad hk1 hv)
     repeat' ((first | (intro hlq; (try simp only [SL] at hlq)) | refine Meets.k (hcc) ?_ | refine Meets.k (hth) ?_ | refine Meets.k (hee) ?_ | refine Ks ?_ | refine Kq ?_ | refine Kt ?_ | ((refine Kh (fun hb => ?_) fun hb => ?_) <;> (try simp only [BL] at hb)) | refine Ka ?_ | refine Kb ?_ | refine Kc (hd := rfl) (e := ?_) | refine Kc (hd := icells_eq _) (e := ?_) | refine Kd (e := ?_) | refine Kl rfl ?_ | fail) <;> ((conv => whnf); repeat' (refine Z rfl ?_; conv => whnf)))
     all_goals first
      | (exfalso; omega)
      | (refine Done.mk ?_; rw [hb2]; done)
      | (exfalso; exact hv ⟨by omega, by omega, by assumption, by assumption⟩)
 · refine Done.mk ?_
   rw [List.take_of_length_le (by omega)] at hall ⊢
   rw [hres, if_pos (List.all_eq_true.2 hall)]
theorem stepsText_meets : ∀ (k : Nat) (hk : k ≤ 5) (l : List Step), (∀ s ∈ l, s.ok) → Meets Tryz.prog 16 [stD l, iD (5 - (k : Int))] fun r => r = .tup [.str (sTx k l).1, bD (sTx k l).2]
 | 0, _, l, _ => stepsText_zero l
 | k + 1, hk, l, hok => by
   have ih := stepsText_meets k (by omega)
   have hd : (5 - ((k + 1 : Nat) : Int)) + 1 = 5 - (k : Int) := by omega
   obtain ⟨dd, hdd⟩ : ∃ dd : Int, dd = 5 - ((k + 1 : Nat) : Int) := ⟨_, rfl⟩
   rw [← hdd] at hd ⊢
   rw [← hd] at ih
   have e : sTx (k + 1) l = if (1 ≤ l.length ∧ l.length ≤ 12) ∧ l.all (fun s => (oneT (sTx k) s).2) = true then ((l.map fun s => (oneT (sTx k) s).1).flatten, true) else ([], false) := by
    rw [sTx]
   by_cases hv : 1 ≤ l.length ∧ l.length ≤ 12
   · refine stepsText_ok k hk l dd hd hok ih hv _ ?_
     rw [e]
     by_cases ha : l.all (fun s => (oneT (sTx k) s).2) = true
     · rw [if_pos ⟨hv, ha⟩, if_pos ha]
     · rw [if_neg (fun h => ha h.2), if_neg ha]
   · rw [if_neg (fun h => hv h.1)] at e
     rw [e]
     exact stepsText_bad l dd hv
theorem LSteps_meets (l : List Step) (_ : l.length ≤ 1048576) (hok : ∀ s ∈ l, s.ok) : Meets Tryz.prog 4 [stD l] fun r => r = bD true := by
 have hs := sane_meets
 have ht := stepsText_meets 5 (by omega) l hok
 rw [show (5 - ((5 : Nat) : Int)) = 0 from rfl] at ht
 have hlen := sTx_len 5 l
 have hg := gB5 (show 5 ≤ 5 by omega)
 cases hok : (sTx 5 l).2 with
 | false =>
   rw [hok] at ht
   refine enter tok {} Tryz.func4 rfl (by kernel_rfl) Tryz.ntmps4 (by simp) fun B0 W0 V0 lent g0 => ?_
   ((conv => whnf); repeat' (refine Z rfl ?_; conv => whnf))
   refine Meets.k hs ?_
   ((conv => whnf); repeat' (refine Z rfl ?_; conv => whnf))
   refine ⟨fun h => absurd h (by decide), fun _ => ?_⟩
   ((conv => whnf); repeat' (refine Z rfl ?_; conv => whnf))
   refine Meets.k ht ?_
   ((conv => whnf); repeat' (refine Z rfl ?_; conv => whnf))
   refine ⟨fun _ => ?_, fun h => absurd h (by decide)⟩
   ((conv => whnf); repeat' (refine Z rfl ?_; conv => whnf))
   repeat' ((first | (intro hlq; (try simp only [SL] at hlq)) | refine Ks ?_ | refine Kq ?_ | refine Kt ?_ | ((refine Kh (fun hb => ?_) fun hb => ?_) <;> (try simp only [BL] at hb)) | refine Ka ?_ | refine Kb ?_ | refine Kc (hd := rfl) (e := ?_) | refine Kc (hd := icells_eq _) (e := ?_) | refine Kd (e := ?_) | refine Kl rfl ?_ | fail) <;> ((conv => whnf); repeat' (refine Z rfl ?_; conv => whnf)))
   all_goals first
    | exact Done.mk rfl
    | (exact absurd (by assumption : (!false) = false) (by decide))
    | contradiction
 | true =>
   rw [hok] at ht
   by_cases hl : (sTx 5 l).1.length ≤ 65536
   · have hp := steps_at hl (steps_back hok hl)
     have hsm := sameS_at (a := l) rfl
     refine enter tok {} Tryz.func4 rfl (by kernel_rfl) Tryz.ntmps4 (by simp) fun B0 W0 V0 lent g0 => ?_
     ((conv => whnf); repeat' (refine Z rfl ?_; conv => whnf))
     refine Meets.k hs ?_
     ((conv => whnf); repeat' (refine Z rfl ?_; conv => whnf))
     refine ⟨fun h => absurd h (by decide), fun _ => ?_⟩
     ((conv => whnf); repeat' (refine Z rfl ?_; conv => whnf))
     refine Meets.k ht ?_
     ((conv => whnf); repeat' (refine Z rfl ?_; conv => whnf))
     repeat' ((first | (intro hlq; (try simp only [SL] at hlq)) | refine Meets.k (hp) ?_ | refine Meets.k (hsm) ?_ | refine Ks ?_ | refine Kq ?_ | refine Kt ?_ | ((refine Kh (fun hb => ?_) fun hb => ?_) <;> (try simp only [BL] at hb)) | refine Ka ?_ | refine Kb ?_ | refine Kc (hd := rfl) (e := ?_) | refine Kc (hd := icells_eq _) (e := ?_) | refine Kd (e := ?_) | refine Kl rfl ?_ | fail) <;> ((conv => whnf); repeat' (refine Z rfl ?_; conv => whnf)))
     all_goals first
      | exact Done.mk rfl
      | (exact absurd (by assumption : (!true) = true) (by decide))
      | contradiction
      | (exfalso; omega)
      | (exfalso; simp_all; done)
      | trace_state
   · refine enter tok {} Tryz.func4 rfl (by kernel_rfl) Tryz.ntmps4 (by simp) fun B0 W0 V0 lent g0 => ?_
     ((conv => whnf); repeat' (refine Z rfl ?_; conv => whnf))
     refine Meets.k hs ?_
     ((conv => whnf); repeat' (refine Z rfl ?_; conv => whnf))
     refine ⟨fun h => absurd h (by decide), fun _ => ?_⟩
     ((conv => whnf); repeat' (refine Z rfl ?_; conv => whnf))
     refine Meets.k ht ?_
     ((conv => whnf); repeat' (refine Z rfl ?_; conv => whnf))
     repeat' ((first | (intro hlq; (try simp only [SL] at hlq)) | refine Ks ?_ | refine Kq ?_ | refine Kt ?_ | ((refine Kh (fun hb => ?_) fun hb => ?_) <;> (try simp only [BL] at hb)) | refine Ka ?_ | refine Kb ?_ | refine Kc (hd := rfl) (e := ?_) | refine Kc (hd := icells_eq _) (e := ?_) | refine Kd (e := ?_) | refine Kl rfl ?_ | fail) <;> ((conv => whnf); repeat' (refine Z rfl ?_; conv => whnf)))
     all_goals first
      | exact Done.mk rfl
      | (exact absurd (by assumption : (!true) = true) (by decide))
      | contradiction
      | (exfalso; omega)
      | (exfalso; simp_all; done)
      | trace_state
end Go.Proofs.YtaopegkpjhkooaaGreatDoor.Dx
