/- Expanded routes, in the code and in the reference. -/
import Derived.Test.YteckbkljaneppaaGreatDoorMy
set_option linter.all false
namespace Go.Proofs.YteckbkljaneppaaGreatDoor.Dx
open Go Go.RowKit
set_option maxRecDepth 100000
set_option maxHeartbeats 16000000
def exApp (lap : List Int) : Nat → List Int → List Int
 | 0, acc => acc
 | n + 1, acc => if acc.length > 256 then acc else exApp lap n (acc ++ lap)
mutual
def Part.ex : Part → List Int → List Int
 | ⟨m, l, ps⟩, acc => if l > 0 then exApp (Part.exL ps []) l.toNat acc else exApp [m] 1 acc
def Part.exL : List Part → List Int → List Int
 | [], acc => acc
 | p :: ps, acc => Part.exL ps (Part.ex p acc)
end
theorem Part.ex_eq (p : Part) (acc : List Int) : p.ex acc = if p.laps > 0 then exApp (Part.exL p.parts []) p.laps.toNat acc else exApp [p.mat] 1 acc := by
 obtain ⟨m, l, ps⟩ := p; simp only [Part.ex]
theorem exApp_full (lap : List Int) {acc : List Int} (h : acc.length > 256) : ∀ n, exApp lap n acc = acc
 | 0 => rfl
 | n + 1 => by rw [exApp, if_pos h]
theorem exL_full {acc : List Int} (h : acc.length > 256) : ∀ l, Part.exL l acc = acc
 | [] => rfl
 | p :: l => by
   have e : p.ex acc = acc := by rw [Part.ex_eq]; split <;> exact exApp_full _ h _
   rw [Part.exL, e, exL_full h l]
theorem exApp_len {lap : List Int} {K : Nat} (hl : 256 + lap.length ≤ K) : ∀ n (acc : List Int), acc.length ≤ K → (exApp lap n acc).length ≤ K
 | 0, acc, h => h
 | n + 1, acc, h => by
   rw [exApp]
   split
   · exact h
   · exact exApp_len hl n _ (by rw [List.length_append]; omega)
mutual
theorem lap_len : ∀ p : Part, (Part.exL p.parts []).length ≤ 256 * p.deep + 1
 | ⟨m, l, ps⟩ => by
   have h := exL_len ps [] (256 * (Part.deepL ps + 1) + 1) (by omega) (by simp)
   cases ps with
   | nil => simp [Part.exL]
   | cons q qs => rw [show (⟨m, l, q :: qs⟩ : Part).deep = 1 + Part.deepL (q :: qs) from rfl]; simp only at h ⊢; omega
theorem exL_len : ∀ (l : List Part) (acc : List Int) (K : Nat), 256 * (Part.deepL l + 1) + 1 ≤ K → acc.length ≤ K → (Part.exL l acc).length ≤ K
 | [], acc, K, _, h => h
 | p :: l, acc, K, hK, h => by
   rw [Part.deepL] at hK
   rw [Part.exL]
   refine exL_len l _ K (by omega) ?_
   rw [Part.ex_eq]
   have hp := lap_len p
   split
   · exact exApp_len (by omega) _ _ h
   · exact exApp_len (by simp; omega) _ _ h
end
theorem exL_drop {l : List Part} {i : Nat} (h : i < l.length) (acc : List Int) : Part.exL (l.drop i) acc = Part.exL (l.drop (i + 1)) (l[i].ex acc) := by
 rw [List.drop_eq_getElem_cons h, Part.exL]
theorem good_parts {m : Int} {p : Part} (h : p.good m = true) : ∀ x ∈ p.parts, x.good m = true := by
 rw [Part.good_eq] at h
 split at h
 · simp only [Bool.and_eq_true, decide_eq_true_eq] at h
   have : p.parts = [] := List.eq_nil_of_length_eq_zero (by omega)
   rw [this]; simp
 · simp only [Bool.and_eq_true, List.all_eq_true] at h
   exact h.2.2.2
theorem good_laps {m : Int} {p : Part} (h : p.good m = true) : 0 ≤ p.laps ∧ p.laps ≤ 64 := by
 rw [Part.good_eq] at h
 split at h
 · omega
 · simp only [Bool.and_eq_true, inR, decide_eq_true_eq] at h
   omega
theorem expand_meets (m : Int) (l : List Part) (hg : ∀ p ∈ l, p.good m = true) (hl : Part.cntL l ≤ 1048576) : Meets Tryz.prog 134 [.sl (l.map Part.cells)] fun r => r = .sl ((Part.exL l []).map icells) := by
 have hlen := Part.len_cnt l
 have hdl := Part.deepL_le l
 obtain ⟨K, hK⟩ : ∃ K, K = 256 * (Part.deepL l + 1) + 1 := ⟨_, rfl⟩
 refine enter tok {} Tryz.func134 rfl (by kernel_rfl) Tryz.ntmps134 (by simp) fun B0 W0 V0 lent g0 => ?_
 ((conv => whnf); repeat' (refine Z rfl ?_; conv => whnf))
 repeat' ((first | (intro hlq; (try simp only [SL] at hlq)) | refine Ka ?_ | refine Kb ?_ | refine Kc (hd := rfl) (e := ?_) | refine Kc (hd := Cond.cells_eq _) (e := ?_) | refine Kd (e := ?_) | refine Kl rfl ?_ | fail) <;> ((conv => whnf); repeat' (refine Z rfl ?_; conv => whnf)))
 refine loop_upd tok {} [(.inl 2, 2, 3, 1)] (X := Nat × List Int) (fun x => [(8, iB x.1), (2, .own 2)]) (fun x => [(2, .sl ⟨3, 1, x.2.map icells, true⟩)]) [4] (fun x => x.1 ≤ l.length ∧ Part.exL (l.drop x.1) x.2 = Part.exL l [] ∧ x.2.length ≤ K) (fun x => l.length - x.1) (0, []) ?_
 ((conv => whnf); repeat' (refine Z rfl ?_; conv => whnf))
 refine ⟨by simp, ?_⟩
 ((conv => whnf); repeat' (refine Z rfl ?_; conv => whnf))
 refine And.intro ?_ ⟨⟨by omega, by simp, by simp⟩, fun x hΦ => ?_⟩
 · exact Kr
 obtain ⟨i, acc⟩ := x
 obtain ⟨hi, heq, hal⟩ := hΦ
 dsimp only at hi heq hal
 ((conv => whnf); repeat' (refine Z rfl ?_; conv => whnf))
 refine ⟨fun h1 => ?_, fun h1 => ?_⟩ <;> (try simp only [BL] at h1) <;> ((conv => whnf); repeat' (refine Z rfl ?_; conv => whnf))
 · have h1' : i < l.length := by omega
   have hp := l[i].ex_eq acc
   have hgi := hg _ (List.getElem_mem h1')
   have hlp := good_laps hgi
   have hlap := lap_len l[i]
   have hdm := Part.deep_mem (List.getElem_mem h1')
   have hc := Part.cnt_part h1'
   rw [exL_drop h1'] at heq
   repeat' ((first | (intro hlq; (try simp only [SL] at hlq)) | refine Ka ?_ | refine Kb ?_ | refine Kc (hd := rfl) (e := ?_) | refine Kc (hd := Part.cells_eq _) (e := ?_) | refine Kd (e := ?_) | refine Kl rfl ?_ | fail) <;> ((conv => whnf); repeat' (refine Z rfl ?_; conv => whnf)))
   refine ⟨fun h2 => ?_, fun h2 => ?_⟩ <;> (try simp only [BL] at h2) <;> ((conv => whnf); repeat' (refine Z rfl ?_; conv => whnf))
   · refine Meets.k (expand_meets m l[i].parts (good_parts hgi) (by (try dsimp only at *); omega)) ?_
     have h2' : l[i].laps > 0 := h2
     rw [if_pos h2'] at hp
     ((conv => whnf); repeat' (refine Z rfl ?_; conv => whnf))
     repeat' ((first | (intro hlq; (try simp only [SL] at hlq)) | refine Ka ?_ | refine Kb ?_ | refine Kc (hd := rfl) (e := ?_) | refine Kc (hd := Cond.cells_eq _) (e := ?_) | refine Kd (e := ?_) | refine Kl rfl ?_ | fail) <;> ((conv => whnf); repeat' (refine Z rfl ?_; conv => whnf)))
     refine loop_upd tok {} [] (X := Nat × List Int) (fun x => [(24, iB x.1), (2, .own 2)]) (fun x => [(2, .sl ⟨3, 1, x.2.map icells, true⟩)]) [] (fun x => x.1 ≤ l[i].laps.toNat ∧ exApp (Part.exL l[i].parts []) (l[i].laps.toNat - x.1) x.2 = l[i].ex acc ∧ x.2.length ≤ K) (fun x => l[i].laps.toNat - x.1) (0, acc) ?_
     ((conv => whnf); repeat' (refine Z rfl ?_; conv => whnf))
     refine And.intro ?_ ⟨⟨by dsimp only; omega, hp.symm, hal⟩, fun y hΨ => ?_⟩
     · exact Kr
     obtain ⟨k, acc2⟩ := y
     obtain ⟨hk, he2, hl2⟩ := hΨ
     dsimp only at hk he2 hl2
     ((conv => whnf); repeat' (refine Z rfl ?_; conv => whnf))
     refine ⟨fun h3 => ?_, fun h3 => ?_⟩ <;> (try simp only [BL] at h3) <;> ((conv => whnf); repeat' (refine Z rfl ?_; conv => whnf))
     · repeat' ((first | (intro hlq; (try simp only [SL] at hlq)) | refine Ka ?_ | refine Kb ?_ | refine Kc (hd := rfl) (e := ?_) | refine Kc (hd := Cond.cells_eq _) (e := ?_) | refine Kd (e := ?_) | refine Kl rfl ?_ | fail) <;> ((conv => whnf); repeat' (refine Z rfl ?_; conv => whnf)))
       refine ⟨fun h4 => ?_, fun h4 => ?_⟩ <;> (try simp only [BL] at h4) <;> ((conv => whnf); repeat' (refine Z rfl ?_; conv => whnf))
       · refine ⟨congrArg (fun z : List Int => D.sl (z.map icells)) ?_⟩
         have hf : acc2.length > 256 := by (try simp only [List.length_map] at h4); omega
         rw [exApp_full _ hf] at he2
         rw [← heq, ← he2, exL_full hf]
       · have hf : ¬ acc2.length > 256 := by (try simp only [List.length_map] at h4); omega
         repeat' ((first | (intro hlq; (try simp only [SL] at hlq)) | refine Ka ?_ | refine Kb ?_ | refine Kc (hd := rfl) (e := ?_) | refine Kc (hd := Cond.cells_eq _) (e := ?_) | refine Kd (e := ?_) | refine Kl rfl ?_ | fail) <;> ((conv => whnf); repeat' (refine Z rfl ?_; conv => whnf)))
         refine ⟨by simp, ?_⟩
         ((conv => whnf); repeat' (refine Z rfl ?_; conv => whnf))
         refine ⟨fun _ _ => by simp; omega, ?_⟩
         ((conv => whnf); repeat' (refine Z rfl ?_; conv => whnf))
         repeat' ((first | (intro hlq; (try simp only [SL] at hlq)) | refine Ka ?_ | refine Kb ?_ | refine Kc (hd := rfl) (e := ?_) | refine Kc (hd := Cond.cells_eq _) (e := ?_) | refine Kd (e := ?_) | refine Kl rfl ?_ | fail) <;> ((conv => whnf); repeat' (refine Z rfl ?_; conv => whnf)))
         have hs : l[i].laps.toNat - k = (l[i].laps.toNat - (k + 1)) + 1 := by (try dsimp only at *); omega
         rw [hs, exApp, if_neg hf] at he2
         refine ⟨⟨(k + 1, acc2 ++ (Part.exL l[i].parts [])), ?_, ⟨by (try dsimp only at *); omega, he2, by dsimp only; rw [List.length_append]; omega⟩, by (try dsimp only at *); omega⟩⟩
         repeat' (first | exact True.intro | exact rfl | refine And.intro ?_ ?_)
         all_goals (first | (dsimp only; rw [List.map_append]; done) | (dsimp only; rw [List.map_append]; rfl))
     · repeat' ((first | (intro hlq; (try simp only [SL] at hlq)) | refine Ka ?_ | refine Kb ?_ | refine Kc (hd := rfl) (e := ?_) | refine Kc (hd := Cond.cells_eq _) (e := ?_) | refine Kd (e := ?_) | refine Kl rfl ?_ | fail) <;> ((conv => whnf); repeat' (refine Z rfl ?_; conv => whnf)))
       have hs : l[i].laps.toNat - k = 0 := by (try dsimp only at *); omega
       rw [hs, exApp] at he2
       refine ⟨⟨(i + 1, acc2), ?_, ⟨by (try dsimp only at *); omega, by dsimp only; rw [he2, heq], hl2⟩, by (try dsimp only at *); omega⟩⟩
       repeat' (first | exact True.intro | exact rfl | refine And.intro ?_ ?_)
   · skip
     have h2' : ¬ l[i].laps > 0 := h2
     rw [if_neg h2'] at hp
     repeat' ((first | (intro hlq; (try simp only [SL] at hlq)) | refine Ka ?_ | refine Kb ?_ | refine Kc (hd := rfl) (e := ?_) | refine Kc (hd := Cond.cells_eq _) (e := ?_) | refine Kd (e := ?_) | refine Kl rfl ?_ | fail) <;> ((conv => whnf); repeat' (refine Z rfl ?_; conv => whnf)))
     refine loop_upd tok {} [] (X := Nat × List Int) (fun x => [(24, iB x.1), (2, .own 2)]) (fun x => [(2, .sl ⟨3, 1, x.2.map icells, true⟩)]) [] (fun x => x.1 ≤ 1 ∧ exApp [l[i].mat] (1 - x.1) x.2 = l[i].ex acc ∧ x.2.length ≤ K) (fun x => 1 - x.1) (0, acc) ?_
     ((conv => whnf); repeat' (refine Z rfl ?_; conv => whnf))
     refine And.intro ?_ ⟨⟨by dsimp only; omega, hp.symm, hal⟩, fun y hΨ => ?_⟩
     · exact Kr
     obtain ⟨k, acc2⟩ := y
     obtain ⟨hk, he2, hl2⟩ := hΨ
     dsimp only at hk he2 hl2
     ((conv => whnf); repeat' (refine Z rfl ?_; conv => whnf))
     refine ⟨fun h3 => ?_, fun h3 => ?_⟩ <;> (try simp only [BL] at h3) <;> ((conv => whnf); repeat' (refine Z rfl ?_; conv => whnf))
     · repeat' ((first | (intro hlq; (try simp only [SL] at hlq)) | refine Ka ?_ | refine Kb ?_ | refine Kc (hd := rfl) (e := ?_) | refine Kc (hd := Cond.cells_eq _) (e := ?_) | refine Kd (e := ?_) | refine Kl rfl ?_ | fail) <;> ((conv => whnf); repeat' (refine Z rfl ?_; conv => whnf)))
       refine ⟨fun h4 => ?_, fun h4 => ?_⟩ <;> (try simp only [BL] at h4) <;> ((conv => whnf); repeat' (refine Z rfl ?_; conv => whnf))
       · refine ⟨congrArg (fun z : List Int => D.sl (z.map icells)) ?_⟩
         have hf : acc2.length > 256 := by (try simp only [List.length_map] at h4); omega
         rw [exApp_full _ hf] at he2
         rw [← heq, ← he2, exL_full hf]
       · have hf : ¬ acc2.length > 256 := by (try simp only [List.length_map] at h4); omega
         repeat' ((first | (intro hlq; (try simp only [SL] at hlq)) | refine Ka ?_ | refine Kb ?_ | refine Kc (hd := rfl) (e := ?_) | refine Kc (hd := Cond.cells_eq _) (e := ?_) | refine Kd (e := ?_) | refine Kl rfl ?_ | fail) <;> ((conv => whnf); repeat' (refine Z rfl ?_; conv => whnf)))
         refine ⟨by simp, ?_⟩
         ((conv => whnf); repeat' (refine Z rfl ?_; conv => whnf))
         refine ⟨fun _ _ => by simp; omega, ?_⟩
         ((conv => whnf); repeat' (refine Z rfl ?_; conv => whnf))
         repeat' ((first | (intro hlq; (try simp only [SL] at hlq)) | refine Ka ?_ | refine Kb ?_ | refine Kc (hd := rfl) (e := ?_) | refine Kc (hd := Cond.cells_eq _) (e := ?_) | refine Kd (e := ?_) | refine Kl rfl ?_ | fail) <;> ((conv => whnf); repeat' (refine Z rfl ?_; conv => whnf)))
         have hs : 1 - k = (1 - (k + 1)) + 1 := by (try dsimp only at *); omega
         rw [hs, exApp, if_neg hf] at he2
         refine ⟨⟨(k + 1, acc2 ++ [l[i].mat]), ?_, ⟨by (try dsimp only at *); omega, he2, by dsimp only; rw [List.length_append]; simp only [List.length_singleton]; omega⟩, by (try dsimp only at *); omega⟩⟩
         repeat' (first | exact True.intro | exact rfl | refine And.intro ?_ ?_)
         all_goals (first | (dsimp only; rw [List.map_append]; done) | (dsimp only; rw [List.map_append]; rfl))
     · repeat' ((first | (intro hlq; (try simp only [SL] at hlq)) | refine Ka ?_ | refine Kb ?_ | refine Kc (hd := rfl) (e := ?_) | refine Kc (hd := Cond.cells_eq _) (e := ?_) | refine Kd (e := ?_) | refine Kl rfl ?_ | fail) <;> ((conv => whnf); repeat' (refine Z rfl ?_; conv => whnf)))
       have hs : 1 - k = 0 := by (try dsimp only at *); omega
       rw [hs, exApp] at he2
       refine ⟨⟨(i + 1, acc2), ?_, ⟨by (try dsimp only at *); omega, by dsimp only; rw [he2, heq], hl2⟩, by (try dsimp only at *); omega⟩⟩
       repeat' (first | exact True.intro | exact rfl | refine And.intro ?_ ?_)
 · refine ⟨congrArg (fun z : List Int => D.sl (z.map icells)) ?_⟩
   rw [List.drop_eq_nil_of_le (by omega), Part.exL] at heq
   exact heq
termination_by Part.cntL l
decreasing_by all_goals omega
theorem rExpand_meets (m : Int) (l : List Part) (hg : ∀ p ∈ l, p.good m = true) (hl : Part.cntL l ≤ 1048576) : Meets Tryz.prog 145 [.sl (l.map Part.cells)] fun r => r = .sl ((Part.exL l []).map icells) := by
 have hlen := Part.len_cnt l
 have hdl := Part.deepL_le l
 obtain ⟨K, hK⟩ : ∃ K, K = 256 * (Part.deepL l + 1) + 1 := ⟨_, rfl⟩
 refine enter tok {} Tryz.func145 rfl (by kernel_rfl) Tryz.ntmps145 (by simp) fun B0 W0 V0 lent g0 => ?_
 ((conv => whnf); repeat' (refine Z rfl ?_; conv => whnf))
 repeat' ((first | (intro hlq; (try simp only [SL] at hlq)) | refine Ka ?_ | refine Kb ?_ | refine Kc (hd := rfl) (e := ?_) | refine Kc (hd := Cond.cells_eq _) (e := ?_) | refine Kd (e := ?_) | refine Kl rfl ?_ | fail) <;> ((conv => whnf); repeat' (refine Z rfl ?_; conv => whnf)))
 refine loop_upd tok {} [(.inl 3, 3, 3, 1)] (X := Nat × List Int) (fun x => [(4, iB x.1), (3, .own 3)]) (fun x => [(3, .sl ⟨3, 1, x.2.map icells, true⟩)]) [] (fun x => x.1 ≤ l.length ∧ Part.exL (l.drop x.1) x.2 = Part.exL l [] ∧ x.2.length ≤ K) (fun x => l.length - x.1) (0, []) ?_
 ((conv => whnf); repeat' (refine Z rfl ?_; conv => whnf))
 refine ⟨by simp, ?_⟩
 ((conv => whnf); repeat' (refine Z rfl ?_; conv => whnf))
 refine And.intro ?_ ⟨⟨by omega, by simp, by simp⟩, fun x hΦ => ?_⟩
 · exact Kr
 obtain ⟨i, acc⟩ := x
 obtain ⟨hi, heq, hal⟩ := hΦ
 dsimp only at hi heq hal
 ((conv => whnf); repeat' (refine Z rfl ?_; conv => whnf))
 repeat' ((first | (intro hlq; (try simp only [SL] at hlq)) | ((refine Kh (fun hb => ?_) fun hb => ?_) <;> (try simp only [BL] at hb)) | refine Ka ?_ | refine Kb ?_ | refine Kc (hd := rfl) (e := ?_) | refine Kc (hd := Cond.cells_eq _) (e := ?_) | refine Kd (e := ?_) | refine Kl rfl ?_ | fail) <;> ((conv => whnf); repeat' (refine Z rfl ?_; conv => whnf)))
 · have h1' : i < l.length := by (try dsimp only at *); omega
   have hf0 : ¬ acc.length > 256 := by (try dsimp only at *); (try simp only [List.length_map] at *); omega
   have hp := l[i].ex_eq acc
   have hgi := hg _ (List.getElem_mem h1')
   have hlp := good_laps hgi
   have hlap := lap_len l[i]
   have hdm := Part.deep_mem (List.getElem_mem h1')
   have hc := Part.cnt_part h1'
   rw [exL_drop h1'] at heq
   repeat' ((first | (intro hlq; (try simp only [SL] at hlq)) | refine Ka ?_ | refine Kb ?_ | refine Kc (hd := rfl) (e := ?_) | refine Kc (hd := Part.cells_eq _) (e := ?_) | refine Kd (e := ?_) | refine Kl rfl ?_ | fail) <;> ((conv => whnf); repeat' (refine Z rfl ?_; conv => whnf)))
   refine ⟨fun h2 => ?_, fun h2 => ?_⟩ <;> (try simp only [BL] at h2) <;> ((conv => whnf); repeat' (refine Z rfl ?_; conv => whnf))
   · have h2' : ¬ l[i].laps > 0 := by (try dsimp only at *); omega
     rw [if_neg h2', exApp, if_neg hf0, exApp] at hp
     repeat' ((first | (intro hlq; (try simp only [SL] at hlq)) | refine Ka ?_ | refine Kb ?_ | refine Kc (hd := rfl) (e := ?_) | refine Kc (hd := Part.cells_eq _) (e := ?_) | refine Kd (e := ?_) | refine Kl rfl ?_ | fail) <;> ((conv => whnf); repeat' (refine Z rfl ?_; conv => whnf)))
     refine ⟨by simp, ?_⟩
     ((conv => whnf); repeat' (refine Z rfl ?_; conv => whnf))
     refine ⟨fun _ _ => by simp; omega, ?_⟩
     ((conv => whnf); repeat' (refine Z rfl ?_; conv => whnf))
     repeat' ((first | (intro hlq; (try simp only [SL] at hlq)) | refine Ka ?_ | refine Kb ?_ | refine Kc (hd := rfl) (e := ?_) | refine Kc (hd := Cond.cells_eq _) (e := ?_) | refine Kd (e := ?_) | refine Kl rfl ?_ | fail) <;> ((conv => whnf); repeat' (refine Z rfl ?_; conv => whnf)))
     refine ⟨⟨(i + 1, acc ++ [l[i].mat]), ?_, ⟨by (try dsimp only at *); omega, by dsimp only; rw [← hp]; exact heq, by dsimp only; rw [List.length_append, List.length_singleton]; omega⟩, by (try dsimp only at *); omega⟩⟩
     · repeat' (first | exact True.intro | exact rfl | refine And.intro ?_ ?_)
       all_goals (first | (dsimp only; rw [List.map_append]; done) | (dsimp only; rw [List.map_append]; rfl))
   · have h2' : l[i].laps > 0 := by (try dsimp only at *); omega
     rw [if_pos h2'] at hp
     repeat' ((first | (intro hlq; (try simp only [SL] at hlq)) | refine Ka ?_ | refine Kb ?_ | refine Kc (hd := rfl) (e := ?_) | refine Kc (hd := Part.cells_eq _) (e := ?_) | refine Kd (e := ?_) | refine Kl rfl ?_ | fail) <;> ((conv => whnf); repeat' (refine Z rfl ?_; conv => whnf)))
     refine Meets.k (rExpand_meets m l[i].parts (good_parts hgi) (by (try dsimp only at *); omega)) ?_
     ((conv => whnf); repeat' (refine Z rfl ?_; conv => whnf))
     repeat' ((first | (intro hlq; (try simp only [SL] at hlq)) | refine Ka ?_ | refine Kb ?_ | refine Kc (hd := rfl) (e := ?_) | refine Kc (hd := Cond.cells_eq _) (e := ?_) | refine Kd (e := ?_) | refine Kl rfl ?_ | fail) <;> ((conv => whnf); repeat' (refine Z rfl ?_; conv => whnf)))
     refine loop_upd tok {} [] (X := Nat × List Int) (fun x => [(6, iB x.1), (3, .own 3), (13, .junk)]) (fun x => [(3, .sl ⟨3, 1, x.2.map icells, true⟩)]) [] (fun x => x.1 ≤ l[i].laps.toNat ∧ exApp (Part.exL l[i].parts []) (l[i].laps.toNat - x.1) x.2 = l[i].ex acc ∧ x.2.length ≤ K) (fun x => l[i].laps.toNat - x.1) (0, acc) ?_
     ((conv => whnf); repeat' (refine Z rfl ?_; conv => whnf))
     refine And.intro ?_ ⟨⟨by dsimp only; omega, hp.symm, hal⟩, fun y hΨ => ?_⟩
     · exact Kr
     obtain ⟨k, acc2⟩ := y
     obtain ⟨hk, he2, hl2⟩ := hΨ
     dsimp only at hk he2 hl2
     ((conv => whnf); repeat' (refine Z rfl ?_; conv => whnf))
     repeat' ((first | (intro hlq; (try simp only [SL] at hlq)) | ((refine Kh (fun hb => ?_) fun hb => ?_) <;> (try simp only [BL] at hb)) | refine Ka ?_ | refine Kb ?_ | refine Kc (hd := rfl) (e := ?_) | refine Kc (hd := Part.cells_eq _) (e := ?_) | refine Kd (e := ?_) | refine Kl rfl ?_ | fail) <;> ((conv => whnf); repeat' (refine Z rfl ?_; conv => whnf)))
     · refine ⟨by simp, ?_⟩
       ((conv => whnf); repeat' (refine Z rfl ?_; conv => whnf))
       refine ⟨fun _ _ => by simp; omega, ?_⟩
       ((conv => whnf); repeat' (refine Z rfl ?_; conv => whnf))
       repeat' ((first | (intro hlq; (try simp only [SL] at hlq)) | refine Ka ?_ | refine Kb ?_ | refine Kc (hd := rfl) (e := ?_) | refine Kc (hd := Cond.cells_eq _) (e := ?_) | refine Kd (e := ?_) | refine Kl rfl ?_ | fail) <;> ((conv => whnf); repeat' (refine Z rfl ?_; conv => whnf)))
       have hf : ¬ acc2.length > 256 := by (try dsimp only at *); (try simp only [List.length_map] at *); omega
       have hs : l[i].laps.toNat - k = (l[i].laps.toNat - (k + 1)) + 1 := by (try dsimp only at *); omega
       rw [hs, exApp, if_neg hf] at he2
       refine ⟨⟨(k + 1, acc2 ++ Part.exL l[i].parts []), ?_, ⟨by (try dsimp only at *); omega, he2, by dsimp only; rw [List.length_append]; omega⟩, by (try dsimp only at *); omega⟩⟩
       repeat' (first | exact True.intro | exact rfl | refine And.intro ?_ ?_)
       all_goals (first | (dsimp only; rw [List.map_append]; done) | (dsimp only; rw [List.map_append]; rfl))
     · repeat' ((first | (intro hlq; (try simp only [SL] at hlq)) | refine Ka ?_ | refine Kb ?_ | refine Kc (hd := rfl) (e := ?_) | refine Kc (hd := Cond.cells_eq _) (e := ?_) | refine Kd (e := ?_) | refine Kl rfl ?_ | fail) <;> ((conv => whnf); repeat' (refine Z rfl ?_; conv => whnf)))
       have hf : acc2.length > 256 := by (try dsimp only at *); (try simp only [List.length_map] at *); omega
       rw [exApp_full _ hf] at he2
       refine ⟨⟨(i + 1, acc2), ?_, ⟨by (try dsimp only at *); omega, by dsimp only; rw [he2, heq], hl2⟩, by (try dsimp only at *); omega⟩⟩
       repeat' (first | exact True.intro | exact rfl | refine And.intro ?_ ?_)
     · repeat' ((first | (intro hlq; (try simp only [SL] at hlq)) | refine Ka ?_ | refine Kb ?_ | refine Kc (hd := rfl) (e := ?_) | refine Kc (hd := Cond.cells_eq _) (e := ?_) | refine Kd (e := ?_) | refine Kl rfl ?_ | fail) <;> ((conv => whnf); repeat' (refine Z rfl ?_; conv => whnf)))
       have hs : l[i].laps.toNat - k = 0 := by (try dsimp only at *); omega
       rw [hs, exApp] at he2
       refine ⟨⟨(i + 1, acc2), ?_, ⟨by (try dsimp only at *); omega, by dsimp only; rw [he2, heq], hl2⟩, by (try dsimp only at *); omega⟩⟩
       repeat' (first | exact True.intro | exact rfl | refine And.intro ?_ ?_)
 · refine ⟨congrArg (fun z : List Int => D.sl (z.map icells)) ?_⟩
   have hf : acc.length > 256 := by (try dsimp only at *); (try simp only [List.length_map] at *); omega
   rw [exL_full hf] at heq
   exact heq
 · refine ⟨congrArg (fun z : List Int => D.sl (z.map icells)) ?_⟩
   rw [List.drop_eq_nil_of_le (by (try dsimp only at *); omega), Part.exL] at heq
   exact heq
termination_by Part.cntL l
decreasing_by all_goals omega
end Go.Proofs.YteckbkljaneppaaGreatDoor.Dx
/- Is a route possible? In the code. -/
namespace Go.Proofs.YteckbkljaneppaaGreatDoor.Dx
open Go Go.RowKit
set_option maxRecDepth 100000
set_option maxHeartbeats 16000000
theorem mget_mput (l : List (D × D)) (k v x : D) : mget (mput l k v) x = (open Classical in if k = x then some v else mget l x) := by
 induction l with
 | nil => simp [mput, mget]
 | cons p l ih =>
   simp only [mput]
   by_cases e : p.1 = k
   · rw [if_pos e]
     simp only [mget]
     by_cases h : k = x
     · simp [h]
     · rw [if_neg h, if_neg h, if_neg (by rw [e]; exact h)]
   · rw [if_neg e]
     simp only [mget, ih]
     by_cases h : p.1 = x
     · rw [if_pos h, if_pos h, if_neg (by rw [← h]; exact fun h2 => e h2.symm)]
     · rw [if_neg h, if_neg h]
theorem kmap_get : ∀ n, ∀ ks : List D, ks.length = n → ∀ k : D, ((mget (kmap ks) k).getD (bD false) = bD true ↔ k ∈ ks) ∧ ((mget (kmap ks) k).getD (bD false) = bD false ↔ k ∉ ks) := by
 intro n
 induction n with
 | zero =>
   intro ks h k
   obtain rfl := List.eq_nil_of_length_eq_zero h
   simp [kmap, mget]
 | succ n ih =>
   intro ks h k
   obtain ⟨l, q, rfl⟩ : ∃ l q, ks = l ++ [q] := by
    have hne : ks ≠ [] := by rintro rfl; simp at h
    exact ⟨_, _, (List.dropLast_concat_getLast hne).symm⟩
   have hi := ih l (by simpa using h) k
   rw [kmap_snoc, mget_mput]
   by_cases e : q = k
   · subst e; simp
   · rw [if_neg e, hi.1, hi.2]
     simp [Ne.symm e]
def Course.kind (c : Course) (m : Int) : Int := match c.mats[m.toNat]? with | some x => x.kind | none => 0
def Course.leg (c : Course) (a b : Int) : Bool := decide ((a, b) ∈ c.legs.map fun l => (l.src, l.dst))
noncomputable def Course.legMap (c : Course) : List (D × D) := kmap (c.legs.map Leg.key)
theorem leg_get (c : Course) (a b : Int) : (mget c.legMap (.agg [iD a, iD b])).getD (bD false) = bD (c.leg a b) := by
 obtain ⟨h1, h2⟩ := kmap_get _ (c.legs.map Leg.key) rfl (.agg [iD a, iD b])
 have e : (D.agg [iD a, iD b] ∈ c.legs.map Leg.key) ↔ ((a, b) ∈ c.legs.map fun l => (l.src, l.dst)) := by simp [Leg.key]
 rw [Course.legMap, Course.leg]
 by_cases h : (a, b) ∈ c.legs.map fun l => (l.src, l.dst)
 · rw [decide_eq_true h]; exact h1.2 (e.2 h)
 · rw [decide_eq_false h]; exact h2.2 fun hh => h (e.1 hh)
theorem leg_keys (c : Course) : ∀ p ∈ c.legMap, KInts 2 p.1 := kmap_keyed fun k hk => by
 obtain ⟨x, _, rfl⟩ := List.mem_map.1 hk
 exact ⟨[x.src, x.dst], rfl, rfl⟩
theorem kind_eq {c : Course} {m : Int} (h0 : 0 ≤ m) (h : m.toNat < c.mats.length) : c.mats[m.toNat].kind = c.kind m := by
 rw [Course.kind, List.getElem?_eq_getElem h]
def posOk (c : Course) (r : List Int) (i : Nat) : Bool := decide (c.kind (r.getD i 0) = if i = 0 then 1 else if i + 1 = r.length then 3 else 2) && (decide (i = 0) || c.leg (r.getD (i - 1) 0) (r.getD i 0))
def extraOk (c : Course) (r : List Int) (x : Int) : Bool := decide (x = -1) || (decide (r.count x > 0) && (decide (c.kind x = 2) && c.leg x x))
def cutOk (r : List Int) (x : Cutoff) : Bool := decide ((r.count x.mat : Int) ≥ x.lap)
def routeOk (c : Course) (d : Distance) : Bool :=
 (decide ((Part.exL d.route []).length ≥ 2) && decide ((Part.exL d.route []).length ≤ 256)) && ((List.range (Part.exL d.route []).length).all (posOk c (Part.exL d.route [])) && (extraOk c (Part.exL d.route []) d.extra && d.cutoffs.all (cutOk (Part.exL d.route []))))
theorem exApp_mem {lap : List Int} {p : Int → Prop} (hl : ∀ x ∈ lap, p x) : ∀ n (acc : List Int), (∀ x ∈ acc, p x) → ∀ x ∈ exApp lap n acc, p x
 | 0, acc, h => h
 | n + 1, acc, h => by
   rw [exApp]
   split
   · exact h
   · refine exApp_mem hl n _ fun x hx => ?_
     rcases List.mem_append.1 hx with hx | hx
     · exact h x hx
     · exact hl x hx
mutual
theorem ex_mem (m : Int) : ∀ (p : Part) (acc : List Int), p.good m = true → (∀ x ∈ acc, 0 ≤ x ∧ x ≤ m) → ∀ x ∈ p.ex acc, 0 ≤ x ∧ x ≤ m
 | ⟨mt, l, ps⟩, acc, hg, h => by
   rw [Part.ex_eq]
   have hp := good_parts hg
   have hl := good_laps hg
   simp only at hp hl ⊢
   split
   · exact exApp_mem (exL_mem m ps [] hp (by simp)) _ _ h
   · refine exApp_mem ?_ _ _ h
     rw [Part.good_eq] at hg
     simp only at hg
     rw [if_pos (by omega)] at hg
     simp only [inR, Bool.and_eq_true, decide_eq_true_eq] at hg
     simp
     omega
theorem exL_mem (m : Int) : ∀ (l : List Part) (acc : List Int), (∀ p ∈ l, p.good m = true) → (∀ x ∈ acc, 0 ≤ x ∧ x ≤ m) → ∀ x ∈ Part.exL l acc, 0 ≤ x ∧ x ≤ m
 | [], acc, _, h => h
 | p :: l, acc, hg, h => by
   rw [Part.exL]
   exact exL_mem m l _ (fun q hq => hg q (List.mem_cons_of_mem _ hq)) (ex_mem m p acc (hg p (List.mem_cons_self ..)) h)
end
theorem cutOk_meets (x : Cutoff) (r : List Int) (lm : List (D × D)) (hm : ∀ n : Int, (mget lm (iD n)).getD (iD 0) = iD (r.count n)) (hk : ∀ p ∈ lm, KInt .i64 p.1) : Meets Tryz.prog 135 [x.d, .ptr [.mp lm] 0] fun d => d = bD (cutOk r x) := by
 refine enter tok {} Tryz.func135 rfl (by kernel_rfl) Tryz.ntmps135 (by simp) fun B0 W0 V0 lent g0 => ?_
 ((conv => whnf); repeat' (refine Z rfl ?_; conv => whnf))
 refine ⟨⟨⟨_, rfl⟩, hk⟩, _, hm _, ?_⟩
 ((conv => whnf); repeat' (refine Z rfl ?_; conv => whnf))
 exact ⟨rfl⟩
theorem getN_at {α : Type} {xs : List α} (f : α → List D) {n : Nat} (h : n < xs.length) : (xs.map f)[n]? = some (f xs[n]) := by
 rw [List.getElem?_map, List.getElem?_eq_getElem h]; rfl
theorem posOk_iff {c : Course} {r : List Int} {i : Nat} (hi : i < r.length) (h2 : 2 ≤ r.length) (hk : 1 ≤ c.kind r[i] ∧ c.kind r[i] ≤ 3) :
 posOk c r i = true ↔ (c.kind r[i] = 1 ↔ i = 0) ∧ (c.kind r[i] = 3 ↔ i + 1 = r.length) ∧ (i = 0 ∨ c.leg (r.getD (i - 1) 0) r[i] = true) := by
 have e : r.getD i 0 = r[i] := by simp [List.getD, List.getElem?_eq_getElem hi]
 rw [posOk, e]
 simp only [Bool.and_eq_true, Bool.or_eq_true, decide_eq_true_eq]
 generalize c.leg (r.getD (i - 1) 0) r[i] = b
 generalize c.kind r[i] = k at *
 by_cases h0 : i = 0
 · subst h0; simp; omega
 · by_cases h1 : i + 1 = r.length
   · simp [h0, h1]; omega
   · cases b <;> simp [h0, h1]; omega
theorem posOk_all {c : Course} {r : List Int} {i : Nat} (h : posOk c r i = false) (hi : i < r.length) : (List.range r.length).all (posOk c r) = false := by
 rw [List.all_eq_false]
 exact ⟨i, List.mem_range.2 hi, by rw [h]; simp⟩
theorem getD_pred {r : List Int} {i : Nat} (h : 0 < i) (h1 : i < r.length) : r.getD (i - 1) 0 = r[((i : Int) - 1).toNat]'(by omega) := by
 simp only [show ((i : Int) - 1).toNat = i - 1 from by omega]
 simp [List.getD, List.getElem?_eq_getElem (show i - 1 < r.length by omega)]
theorem imap_put {lm : List (D × D)} {t : List Int} {x : Int} (hget : ∀ n : Int, (mget lm (iD n)).getD (iD 0) = iD (t.count n)) : ∀ n : Int, (mget (mput lm (iD x) (iD ((t.count x : Int) + 1))) (iD n)).getD (iD 0) = iD ((t ++ [x]).count n) := by
 intro n
 rw [mget_mput, List.count_append]
 by_cases e : x = n
 · subst e; simp
 · rw [if_neg (by simpa using e), hget n]
   simp [List.count_singleton, e]
theorem imap_keys {lm : List (D × D)} {x : Int} {v : D} (h : ∀ p ∈ lm, KInt .i64 p.1) : ∀ p ∈ mput lm (iD x) v, KInt .i64 p.1 := by
 intro p hp
 rcases ((mput_keys (l := lm) (k := iD x) (v := v)).2 p.1).1 (List.mem_map.2 ⟨p, hp, rfl⟩) with h1 | h1
 · obtain ⟨q, hq, e⟩ := List.mem_map.1 h1
   rw [← e]; exact h q hq
 · exact ⟨x, h1⟩
theorem isRoute_meets (c : Course) (d : Distance) (hc : c.small) (hn : NumsOk c) (hd : d ∈ c.distances) : Meets Tryz.prog 64 [c.d, d.d, .mp c.legMap] fun r => r = bD (routeOk c d) := by
 have hmats := hc.mats
 have hdg := hn.distances d hd
 simp only [Distance.good, Bool.and_eq_true, List.all_eq_true] at hdg
 have hmem := exL_mem c.m d.route [] hdg.2.2.1 (by simp)
 have hlen := exL_len d.route [] _ (Nat.le_refl _) (by simp)
 have hdl := Part.deepL_le d.route
 have hct := hc.route d hd
 have hm1 : c.m = c.mats.length - 1 := by simp [Course.m]
 have hkd : ∀ x : Int, 0 ≤ x → x ≤ c.m → 1 ≤ c.kind x ∧ c.kind x ≤ 3 := by
  intro x h0 h1
  have hlt : x.toNat < c.mats.length := by omega
  have := hn.mats _ (List.getElem_mem hlt)
  rw [← kind_eq h0 hlt]
  simpa [Mat.good, inR] using this
 refine enter tok {} Tryz.func64 rfl (by kernel_rfl) Tryz.ntmps64 (by simp) fun B0 W0 V0 lent g0 => ?_
 ((conv => whnf); repeat' (refine Z rfl ?_; conv => whnf))
 refine Meets.k (expand_meets c.m d.route hdg.2.2.1 hct) ?_
 rw [routeOk]
 generalize Part.exL d.route [] = r at *
 ((conv => whnf); repeat' (refine Z rfl ?_; conv => whnf))
 repeat' ((first | (intro hlq; (try simp only [SL] at hlq)) | ((refine Kh (fun hb => ?_) fun hb => ?_) <;> (try simp only [BL] at hb)) | refine Ka ?_ | refine Kb ?_ | refine Kc (hd := rfl) (e := ?_) | refine Kc (hd := Cond.cells_eq _) (e := ?_) | refine Kd (e := ?_) | refine Kl rfl ?_ | fail) <;> ((conv => whnf); repeat' (refine Z rfl ?_; conv => whnf)))
 · refine ⟨congrArg bD ?_⟩
   rw [decide_eq_false (by omega : ¬ r.length ≥ 2)]; rfl
 · refine ⟨congrArg bD ?_⟩
   rw [decide_eq_false (by omega : ¬ r.length ≤ 256), Bool.and_false]; rfl
 rw [decide_eq_true (by omega : r.length ≥ 2), decide_eq_true (by omega : r.length ≤ 256), Bool.true_and, Bool.true_and]
 refine loop_upd tok {} [] (X := Nat × List (D × D)) (fun x => [(29, iB x.1)]) (fun x => [(26, .mp x.2)]) [] (fun x => x.1 ≤ r.length ∧ (∀ j, j < x.1 → posOk c r j = true) ∧ (∀ n : Int, (mget x.2 (iD n)).getD (iD 0) = iD ((r.take x.1).count n)) ∧ ∀ p ∈ x.2, KInt .i64 p.1) (fun x => r.length - x.1) (0, []) ?_
 ((conv => whnf); repeat' (refine Z rfl ?_; conv => whnf))
 refine And.intro ?_ ⟨⟨by omega, fun j hj => by omega, fun n => by simp [mget], by simp⟩, fun x hΦ => ?_⟩
 · exact Kr
 obtain ⟨i, lm⟩ := x
 obtain ⟨hi, hpos, hget, hkey⟩ := hΦ
 dsimp only at hi hpos hget hkey
 ((conv => whnf); repeat' (refine Z rfl ?_; conv => whnf))
 refine ⟨fun h1 => ?_, fun h1 => ?_⟩ <;> (try simp only [BL] at h1) <;> ((conv => whnf); repeat' (refine Z rfl ?_; conv => whnf))
 · have h1' : i < r.length := by omega
   have hr := hmem _ (List.getElem_mem h1')
   have hlt : r[i].toNat < c.mats.length := by omega
   have hki := hkd _ hr.1 hr.2
   have hiff := posOk_iff h1' (by omega) hki
   repeat' ((first | (intro hlq; (try simp only [SL] at hlq)) | refine Ka ?_ | refine Kb ?_ | refine Kc (hd := rfl) (e := ?_) | refine Kc (hd := icells_eq _) (e := ?_) | refine Kd (e := ?_) | refine Kl rfl ?_ | fail) <;> ((conv => whnf); repeat' (refine Z rfl ?_; conv => whnf)))
   refine ⟨_, ⟨hr.1, getN_at Mat.cells hlt, rfl⟩, ?_⟩
   ((conv => whnf); repeat' (refine Z rfl ?_; conv => whnf))
   rw [show c.mats[r[(i, lm).fst].toNat].kind = c.kind r[i] from kind_eq hr.1 hlt]
   repeat' ((first | (intro hlq; (try simp only [SL] at hlq)) | ((refine Kh (fun hb => ?_) fun hb => ?_) <;> (try simp only [BL] at hb)) | refine Ka ?_ | refine Kb ?_ | refine Kc (hd := rfl) (e := ?_) | refine Kc (hd := icells_eq _) (e := ?_) | refine Kd (e := ?_) | refine Kl rfl ?_ | fail) <;> ((conv => whnf); repeat' (refine Z rfl ?_; conv => whnf)))
   · have hf : posOk c r i = false := by
      rw [ne_eq, decide_eq_decide] at hb
      rw [Bool.eq_false_iff, ne_eq, hiff]
      omega
     refine ⟨congrArg bD ?_⟩
     rw [posOk_all hf h1']; rfl
   · have hf : posOk c r i = false := by
      rw [ne_eq, decide_eq_decide] at hb
      rw [Bool.eq_false_iff, ne_eq, hiff]
      omega
     refine ⟨congrArg bD ?_⟩
     rw [posOk_all hf h1']; rfl
   · (try dsimp only at hb)
     have hpr := getD_pred (by omega : 0 < i) h1'
     refine ⟨_, ⟨by dsimp only; omega, getN_at icells (by dsimp only; omega), rfl⟩, ?_⟩
     ((conv => whnf); repeat' (refine Z rfl ?_; conv => whnf))
     refine ⟨⟨⟨[_, _], rfl, rfl⟩, leg_keys c⟩, _, leg_get c _ _, ?_⟩
     ((conv => whnf); repeat' (refine Z rfl ?_; conv => whnf))
     refine ⟨fun h5 => ?_, fun h5 => ?_⟩ <;> (try simp only [BL] at h5) <;> ((conv => whnf); repeat' (refine Z rfl ?_; conv => whnf))
     · have hf : posOk c r i = false := by
        rw [Bool.eq_false_iff, ne_eq, hiff, hpr, h5]
        (try dsimp only at hb)
        simp
        omega
       refine ⟨congrArg bD ?_⟩
       rw [posOk_all hf h1']; rfl
     · have hok : posOk c r i = true := by
        rw [hiff, hpr]
        simp only [ne_eq, decide_eq_decide, Decidable.not_not] at *
        exact ⟨by omega, by omega, .inr h5⟩
       refine ⟨⟨⟨_, rfl⟩, hkey⟩, _, hget _, ?_⟩
       ((conv => whnf); repeat' (refine Z rfl ?_; conv => whnf))
       have hcnt : List.count r[i] (r.take i) ≤ i := by have := List.count_le_length (a := r[i]) (l := r.take i); rw [List.length_take] at this; omega
       repeat' ((first | (intro hlq; (try simp only [SL] at hlq)) | refine Ka ?_ | refine Kb ?_ | refine Kc (hd := rfl) (e := ?_) | refine Kc (hd := Cond.cells_eq _) (e := ?_) | refine Kd (e := ?_) | refine Kl rfl ?_ | fail) <;> ((conv => whnf); repeat' (refine Z rfl ?_; conv => whnf)))
       refine ⟨⟨⟨_, rfl⟩, hkey⟩, ?_⟩
       ((conv => whnf); repeat' (refine Z rfl ?_; conv => whnf))
       repeat' ((first | (intro hlq; (try simp only [SL] at hlq)) | refine Ka ?_ | refine Kb ?_ | refine Kc (hd := rfl) (e := ?_) | refine Kc (hd := Cond.cells_eq _) (e := ?_) | refine Kd (e := ?_) | refine Kl rfl ?_ | fail) <;> ((conv => whnf); repeat' (refine Z rfl ?_; conv => whnf)))
       refine ⟨⟨(i + 1, mput lm (iD r[i]) (iD ((List.count r[i] (r.take i) : Int) + 1))), ?_, ⟨by (try dsimp only at *); omega, fun j hj => ?_, ?_, imap_keys hkey⟩, by (try dsimp only at *); omega⟩⟩
       · exact Kr
       · rcases Nat.lt_or_ge j i with h | h
         · exact hpos j h
         · obtain rfl : j = i := by (try dsimp only at hj); omega
           exact hok
       · dsimp only
         rw [List.take_succ_eq_append_getElem h1']
         exact imap_put hget
   · have hok : posOk c r i = true := by
      rw [hiff]
      simp only [ne_eq, decide_eq_decide, Decidable.not_not] at *
      exact ⟨by omega, by omega, .inl (by omega)⟩
     refine ⟨⟨⟨_, rfl⟩, hkey⟩, _, hget _, ?_⟩
     ((conv => whnf); repeat' (refine Z rfl ?_; conv => whnf))
     have hcnt : List.count r[i] (r.take i) ≤ i := by have := List.count_le_length (a := r[i]) (l := r.take i); rw [List.length_take] at this; omega
     repeat' ((first | (intro hlq; (try simp only [SL] at hlq)) | refine Ka ?_ | refine Kb ?_ | refine Kc (hd := rfl) (e := ?_) | refine Kc (hd := Cond.cells_eq _) (e := ?_) | refine Kd (e := ?_) | refine Kl rfl ?_ | fail) <;> ((conv => whnf); repeat' (refine Z rfl ?_; conv => whnf)))
     refine ⟨⟨⟨_, rfl⟩, hkey⟩, ?_⟩
     ((conv => whnf); repeat' (refine Z rfl ?_; conv => whnf))
     repeat' ((first | (intro hlq; (try simp only [SL] at hlq)) | refine Ka ?_ | refine Kb ?_ | refine Kc (hd := rfl) (e := ?_) | refine Kc (hd := Cond.cells_eq _) (e := ?_) | refine Kd (e := ?_) | refine Kl rfl ?_ | fail) <;> ((conv => whnf); repeat' (refine Z rfl ?_; conv => whnf)))
     refine ⟨⟨(i + 1, mput lm (iD r[i]) (iD ((List.count r[i] (r.take i) : Int) + 1))), ?_, ⟨by (try dsimp only at *); omega, fun j hj => ?_, ?_, imap_keys hkey⟩, by (try dsimp only at *); omega⟩⟩
     · exact Kr
     · rcases Nat.lt_or_ge j i with h | h
       · exact hpos j h
       · obtain rfl : j = i := by (try dsimp only at hj); omega
         exact hok
     · dsimp only
       rw [List.take_succ_eq_append_getElem h1']
       exact imap_put hget
 · have hall : (List.range r.length).all (posOk c r) = true := by
    rw [List.all_eq_true]
    intro j hj
    exact hpos j (by have := List.mem_range.1 hj; omega)
   rw [List.take_of_length_le (by omega)] at hget
   rw [hall, Bool.true_and]
   have hx := hdg.2.1
   simp only [inR, Bool.and_eq_true, decide_eq_true_eq] at hx
   repeat' ((first | (intro hlq; (try simp only [SL] at hlq)) | ((refine Kh (fun hb => ?_) fun hb => ?_) <;> (try simp only [BL] at hb)) | refine Ka ?_ | refine Kb ?_ | refine Kc (hd := rfl) (e := ?_) | refine Kc (hd := Cond.cells_eq _) (e := ?_) | refine Kd (e := ?_) | refine Kl rfl ?_ | fail) <;> ((conv => whnf); repeat' (refine Z rfl ?_; conv => whnf)))
   · refine ⟨⟨⟨_, rfl⟩, hkey⟩, _, hget _, ?_⟩
     ((conv => whnf); repeat' (refine Z rfl ?_; conv => whnf))
     repeat' ((first | (intro hlq; (try simp only [SL] at hlq)) | ((refine Kh (fun hb => ?_) fun hb => ?_) <;> (try simp only [BL] at hb)) | refine Ka ?_ | refine Kb ?_ | refine Kc (hd := rfl) (e := ?_) | refine Kc (hd := Cond.cells_eq _) (e := ?_) | refine Kd (e := ?_) | refine Kl rfl ?_ | fail) <;> ((conv => whnf); repeat' (refine Z rfl ?_; conv => whnf)))
     · refine ⟨congrArg bD ?_⟩
       rw [extraOk, decide_eq_false (by omega), decide_eq_false (by omega : ¬ r.count d.extra > 0)]; rfl
     · have hlt : d.extra.toNat < c.mats.length := by omega
       refine ⟨_, ⟨by omega, getN_at Mat.cells hlt, rfl⟩, ?_⟩
       ((conv => whnf); repeat' (refine Z rfl ?_; conv => whnf))
       rw [show c.mats[d.extra.toNat].kind = c.kind d.extra from kind_eq (by omega) hlt]
       repeat' ((first | (intro hlq; (try simp only [SL] at hlq)) | ((refine Kh (fun hb => ?_) fun hb => ?_) <;> (try simp only [BL] at hb)) | refine Ka ?_ | refine Kb ?_ | refine Kc (hd := rfl) (e := ?_) | refine Kc (hd := Cond.cells_eq _) (e := ?_) | refine Kd (e := ?_) | refine Kl rfl ?_ | fail) <;> ((conv => whnf); repeat' (refine Z rfl ?_; conv => whnf)))
       · refine ⟨congrArg bD ?_⟩
         rw [extraOk, decide_eq_false (by omega), decide_eq_false (by omega : ¬ c.kind d.extra = 2)]; simp
       · refine ⟨⟨⟨[_, _], rfl, rfl⟩, leg_keys c⟩, _, leg_get c _ _, ?_⟩
         ((conv => whnf); repeat' (refine Z rfl ?_; conv => whnf))
         repeat' ((first | (intro hlq; (try simp only [SL] at hlq)) | ((refine Kh (fun hb => ?_) fun hb => ?_) <;> (try simp only [BL] at hb)) | refine Ka ?_ | refine Kb ?_ | refine Kc (hd := rfl) (e := ?_) | refine Kc (hd := Cond.cells_eq _) (e := ?_) | refine Kd (e := ?_) | refine Kl rfl ?_ | fail) <;> ((conv => whnf); repeat' (refine Z rfl ?_; conv => whnf)))
         · refine ⟨congrArg bD ?_⟩
           have hl : c.leg d.extra d.extra = false := by assumption
           rw [extraOk, decide_eq_false (by omega), hl]; simp
         · have hl : c.leg d.extra d.extra = true := by assumption
           refine Meets.k (all_cutoff d.cutoffs 135 [] [.ptr [.mp lm] 0] (cutOk r) fun x _ => cutOk_meets x r lm hget hkey) ?_
           ((conv => whnf); repeat' (refine Z rfl ?_; conv => whnf))
           refine ⟨congrArg bD ?_⟩
           rw [extraOk, hl, decide_eq_true (by omega : r.count d.extra > 0), decide_eq_true (by omega : c.kind d.extra = 2)]; simp
   · refine Meets.k (all_cutoff d.cutoffs 135 [] [.ptr [.mp lm] 0] (cutOk r) fun x _ => cutOk_meets x r lm hget hkey) ?_
     ((conv => whnf); repeat' (refine Z rfl ?_; conv => whnf))
     refine ⟨congrArg bD ?_⟩
     rw [extraOk, decide_eq_true (by omega : d.extra = -1)]; simp
end Go.Proofs.YteckbkljaneppaaGreatDoor.Dx
