/- Names of elements: different ones. -/
import Derived.Test.YteckbkljaneppaaGreatDoorMu
set_option linter.all false
namespace Go.Proofs.YteckbkljaneppaaGreatDoor.Dx
open Go Go.RowKit
set_option maxRecDepth 100000
set_option maxHeartbeats 8000000
def nmL (l : List (List UInt8)) : Bool := l.all (isNm kw) && decide l.Nodup
def smap (l : List (List UInt8)) : List (D × D) := l.map fun s => (.str s, bD true)
theorem smap_key {l : List (List UInt8)} : ∀ p ∈ smap l, KStr p.1 := by
 intro p hp
 obtain ⟨s, _, rfl⟩ := List.mem_map.1 hp
 exact ⟨s, rfl⟩
theorem smap_get (l : List (List UInt8)) (s : List UInt8) : (mget (smap l) (.str s)).getD (bD false) = bD (decide (s ∈ l)) := by
 induction l with
 | nil => rfl
 | cons x l ih =>
   simp only [smap, List.map_cons, mget] at ih ⊢
   by_cases e : x = s
   · subst e; simp
   · have : ¬ (D.str x = D.str s) := by simpa using e
     rw [if_neg this, ih]
     simp [Ne.symm e]
theorem smap_put {l : List (List UInt8)} {s : List UInt8} (h : s ∉ l) : mput (smap l) (.str s) (bD true) = smap (l ++ [s]) := by
 rw [mput_none]
 · simp [smap]
 · intro p hp e
   obtain ⟨x, hx, rfl⟩ := List.mem_map.1 hp
   simp only [D.str.injEq] at e
   exact h (e ▸ hx)
theorem nmL_step {l : List (List UInt8)} {i : Nat} (h : i < l.length) (hp : nmL (l.take i) = true) :
 ((isNm kw l[i] = true ∧ decide (l[i] ∈ l.take i) = false) → nmL (l.take (i + 1)) = true) ∧ (isNm kw l[i] = false → nmL l = false) ∧ (decide (l[i] ∈ l.take i) = true → nmL l = false) := by
 rw [nmL, Bool.and_eq_true, List.all_eq_true, decide_eq_true_eq] at hp
 refine ⟨fun ⟨h1, h2⟩ => ?_, fun h1 => ?_, fun h1 => ?_⟩
 · rw [decide_eq_false_iff_not] at h2
   rw [nmL, Bool.and_eq_true, List.all_eq_true, decide_eq_true_eq, List.take_succ_eq_append_getElem h]
   refine ⟨fun x hx => ?_, ?_⟩
   · rcases List.mem_append.1 hx with hx | hx
     · exact hp.1 x hx
     · rw [List.mem_singleton.1 hx]; exact h1
   · rw [List.nodup_append]
     refine ⟨hp.2, by simp, fun a ha b hb => ?_⟩
     rw [List.mem_singleton.1 hb]
     rintro rfl
     exact h2 ha
 · rw [nmL, all_false (List.getElem_mem h) h1]; rfl
 · rw [decide_eq_true_eq] at h1
   rw [nmL, Bool.and_eq_false_iff]
   right
   rw [decide_eq_false_iff_not]
   intro hn
   have h2 : (l.take (i + 1)).Nodup := hn.sublist (List.take_sublist _ _)
   rw [List.take_succ_eq_append_getElem h, List.nodup_append] at h2
   exact h2.2.2 _ h1 _ (List.mem_singleton.2 rfl) rfl
theorem getElem_map_name {α β : Type} {f : α → β} {xs : List α} {i : Nat} (h : i < xs.length) : (xs.map f)[i]'(by simpa using h) = f xs[i] := by simp
theorem take_map_succ {α : Type} {l : List α} {i : Nat} (h : i < l.length) : l.take (i + 1) = l.take i ++ [l[i]] := List.take_succ_eq_append_getElem h
theorem nameOf_mat (x : Mat) : Meets Tryz.prog 101 [x.d] fun d => d = .str x.name := by
 refine enter tok {} Tryz.func101 rfl (by kernel_rfl) Tryz.ntmps101 (by simp) fun B0 W0 V0 lent g0 => ?_
 ((conv => whnf); repeat' (refine Z rfl ?_; conv => whnf))
 exact ⟨rfl⟩
theorem named_mat (xs : List Mat) (hl : xs.length ≤ 1048576) : Meets Tryz.prog 100 [.sl (xs.map Mat.cells), .fn 101 [] []] fun d => d = bD (nmL (xs.map (·.name))) := by
 refine enter tok {} Tryz.func100 rfl (by kernel_rfl) Tryz.ntmps100 (by simp) fun B0 W0 V0 lent g0 => ?_
 ((conv => whnf); repeat' (refine Z rfl ?_; conv => whnf))
 repeat' ((first | (intro hlq; (try simp only [SL] at hlq)) | refine Ka ?_ | refine Kb ?_ | refine Kc (hd := rfl) (e := ?_) | refine Kc (hd := Cond.cells_eq _) (e := ?_) | refine Kd (e := ?_) | refine Kl rfl ?_ | fail) <;> ((conv => whnf); repeat' (refine Z rfl ?_; conv => whnf)))
 refine loop_upd tok {} [] (X := Nat) (fun i => [(12, iB i)]) (fun i => [(9, .mp (smap ((xs.map (·.name)).take i)))]) [7] (fun i => i ≤ xs.length ∧ nmL ((xs.map (·.name)).take i) = true) (fun i => xs.length - i) 0 ?_
 ((conv => whnf); repeat' (refine Z rfl ?_; conv => whnf))
 refine And.intro ?_ ⟨⟨by omega, by simp [nmL]⟩, fun i hΦ => ?_⟩
 · exact Kr
 obtain ⟨hi, hp⟩ := hΦ
 ((conv => whnf); repeat' (refine Z rfl ?_; conv => whnf))
 refine ⟨fun h1 => ?_, fun h1 => ?_⟩ <;> (try simp only [BL] at h1) <;> ((conv => whnf); repeat' (refine Z rfl ?_; conv => whnf))
 · have h1' : i < xs.length := by omega
   have hstep := nmL_step (l := xs.map (·.name)) (i := i) (by simpa using h1') hp
   simp only [List.getElem_map] at hstep
   repeat' ((first | (intro hlq; (try simp only [SL] at hlq)) | refine Meets.k (nameOf_mat xs[i]) ?_ | refine Meets.k (isName_meets xs[i].name) ?_ | ((refine Kh (fun hb => ?_) fun hb => ?_) <;> (try simp only [BL] at hb)) | refine Ka ?_ | refine Kb ?_ | refine Kc (hd := rfl) (e := ?_) | refine Kc (hd := Cond.cells_eq _) (e := ?_) | refine Kd (e := ?_) | refine Kl rfl ?_ | fail) <;> ((conv => whnf); repeat' (refine Z rfl ?_; conv => whnf)))
   all_goals first
    | (refine ⟨⟨⟨_, rfl⟩, smap_key⟩, ?_⟩
       refine ⟨_, smap_get _ _, ?_⟩
       (conv => whnf); repeat' (refine Z rfl ?_; conv => whnf))
    | skip
   repeat' ((first | (intro hlq; (try simp only [SL] at hlq)) | ((refine Kh (fun hb => ?_) fun hb => ?_) <;> (try simp only [BL] at hb)) | refine Ka ?_ | refine Kb ?_ | refine Kc (hd := rfl) (e := ?_) | refine Kc (hd := Cond.cells_eq _) (e := ?_) | refine Kd (e := ?_) | refine Kl rfl ?_ | fail) <;> ((conv => whnf); repeat' (refine Z rfl ?_; conv => whnf)))
   all_goals first
    | (refine ⟨congrArg bD ?_⟩
       exact (hstep.2.2 (by assumption)).symm)
    | (refine ⟨congrArg bD ?_⟩
       exact (hstep.2.1 (by assumption)).symm)
    | (refine ⟨congrArg bD ?_⟩
       exact (hstep.2.2 (decide_eq_true (by assumption))).symm)
    | skip
   refine ⟨⟨⟨_, rfl⟩, smap_key⟩, ?_⟩
   rw [smap_put (by assumption), ← getElem_map_name (f := fun x : Mat => x.name) h1', ← take_map_succ]
   ((conv => whnf); repeat' (refine Z rfl ?_; conv => whnf))
   repeat' ((first | (intro hlq; (try simp only [SL] at hlq)) | refine Ka ?_ | refine Kb ?_ | refine Kc (hd := rfl) (e := ?_) | refine Kc (hd := Cond.cells_eq _) (e := ?_) | refine Kd (e := ?_) | refine Kl rfl ?_ | fail) <;> ((conv => whnf); repeat' (refine Z rfl ?_; conv => whnf)))
   refine ⟨⟨i + 1, ?_, ⟨by omega, hstep.1 ⟨by assumption, decide_eq_false (by assumption)⟩⟩, by omega⟩⟩
   repeat' (first | exact True.intro | exact rfl | refine And.intro ?_ ?_)
 · refine ⟨congrArg bD ?_⟩
   rw [List.take_of_length_le (by simp; omega)] at hp
   exact hp.symm
theorem nameOf_dist (x : Distance) : Meets Tryz.prog 103 [x.d] fun d => d = .str x.name := by
 refine enter tok {} Tryz.func103 rfl (by kernel_rfl) Tryz.ntmps103 (by simp) fun B0 W0 V0 lent g0 => ?_
 ((conv => whnf); repeat' (refine Z rfl ?_; conv => whnf))
 exact ⟨rfl⟩
theorem named_dist (xs : List Distance) (hl : xs.length ≤ 1048576) : Meets Tryz.prog 102 [.sl (xs.map Distance.cells), .fn 103 [] []] fun d => d = bD (nmL (xs.map (·.name))) := by
 refine enter tok {} Tryz.func102 rfl (by kernel_rfl) Tryz.ntmps102 (by simp) fun B0 W0 V0 lent g0 => ?_
 ((conv => whnf); repeat' (refine Z rfl ?_; conv => whnf))
 repeat' ((first | (intro hlq; (try simp only [SL] at hlq)) | refine Ka ?_ | refine Kb ?_ | refine Kc (hd := rfl) (e := ?_) | refine Kc (hd := Cond.cells_eq _) (e := ?_) | refine Kd (e := ?_) | refine Kl rfl ?_ | fail) <;> ((conv => whnf); repeat' (refine Z rfl ?_; conv => whnf)))
 refine loop_upd tok {} [] (X := Nat) (fun i => [(12, iB i)]) (fun i => [(9, .mp (smap ((xs.map (·.name)).take i)))]) [7] (fun i => i ≤ xs.length ∧ nmL ((xs.map (·.name)).take i) = true) (fun i => xs.length - i) 0 ?_
 ((conv => whnf); repeat' (refine Z rfl ?_; conv => whnf))
 refine And.intro ?_ ⟨⟨by omega, by simp [nmL]⟩, fun i hΦ => ?_⟩
 · exact Kr
 obtain ⟨hi, hp⟩ := hΦ
 ((conv => whnf); repeat' (refine Z rfl ?_; conv => whnf))
 refine ⟨fun h1 => ?_, fun h1 => ?_⟩ <;> (try simp only [BL] at h1) <;> ((conv => whnf); repeat' (refine Z rfl ?_; conv => whnf))
 · have h1' : i < xs.length := by omega
   have hstep := nmL_step (l := xs.map (·.name)) (i := i) (by simpa using h1') hp
   simp only [List.getElem_map] at hstep
   repeat' ((first | (intro hlq; (try simp only [SL] at hlq)) | refine Meets.k (nameOf_dist xs[i]) ?_ | refine Meets.k (isName_meets xs[i].name) ?_ | ((refine Kh (fun hb => ?_) fun hb => ?_) <;> (try simp only [BL] at hb)) | refine Ka ?_ | refine Kb ?_ | refine Kc (hd := rfl) (e := ?_) | refine Kc (hd := Cond.cells_eq _) (e := ?_) | refine Kd (e := ?_) | refine Kl rfl ?_ | fail) <;> ((conv => whnf); repeat' (refine Z rfl ?_; conv => whnf)))
   all_goals first
    | (refine ⟨⟨⟨_, rfl⟩, smap_key⟩, ?_⟩
       refine ⟨_, smap_get _ _, ?_⟩
       (conv => whnf); repeat' (refine Z rfl ?_; conv => whnf))
    | skip
   repeat' ((first | (intro hlq; (try simp only [SL] at hlq)) | ((refine Kh (fun hb => ?_) fun hb => ?_) <;> (try simp only [BL] at hb)) | refine Ka ?_ | refine Kb ?_ | refine Kc (hd := rfl) (e := ?_) | refine Kc (hd := Cond.cells_eq _) (e := ?_) | refine Kd (e := ?_) | refine Kl rfl ?_ | fail) <;> ((conv => whnf); repeat' (refine Z rfl ?_; conv => whnf)))
   all_goals first
    | (refine ⟨congrArg bD ?_⟩
       exact (hstep.2.2 (by assumption)).symm)
    | (refine ⟨congrArg bD ?_⟩
       exact (hstep.2.1 (by assumption)).symm)
    | (refine ⟨congrArg bD ?_⟩
       exact (hstep.2.2 (decide_eq_true (by assumption))).symm)
    | skip
   refine ⟨⟨⟨_, rfl⟩, smap_key⟩, ?_⟩
   rw [smap_put (by assumption), ← getElem_map_name (f := fun x : Distance => x.name) h1', ← take_map_succ]
   ((conv => whnf); repeat' (refine Z rfl ?_; conv => whnf))
   repeat' ((first | (intro hlq; (try simp only [SL] at hlq)) | refine Ka ?_ | refine Kb ?_ | refine Kc (hd := rfl) (e := ?_) | refine Kc (hd := Cond.cells_eq _) (e := ?_) | refine Kd (e := ?_) | refine Kl rfl ?_ | fail) <;> ((conv => whnf); repeat' (refine Z rfl ?_; conv => whnf)))
   refine ⟨⟨i + 1, ?_, ⟨by omega, hstep.1 ⟨by assumption, decide_eq_false (by assumption)⟩⟩, by omega⟩⟩
   repeat' (first | exact True.intro | exact rfl | refine And.intro ?_ ?_)
 · refine ⟨congrArg bD ?_⟩
   rw [List.take_of_length_le (by simp; omega)] at hp
   exact hp.symm
theorem nameOf_wave (x : Wave) : Meets Tryz.prog 105 [x.d] fun d => d = .str x.name := by
 refine enter tok {} Tryz.func105 rfl (by kernel_rfl) Tryz.ntmps105 (by simp) fun B0 W0 V0 lent g0 => ?_
 ((conv => whnf); repeat' (refine Z rfl ?_; conv => whnf))
 exact ⟨rfl⟩
theorem named_wave (xs : List Wave) (hl : xs.length ≤ 1048576) : Meets Tryz.prog 104 [.sl (xs.map Wave.cells), .fn 105 [] []] fun d => d = bD (nmL (xs.map (·.name))) := by
 refine enter tok {} Tryz.func104 rfl (by kernel_rfl) Tryz.ntmps104 (by simp) fun B0 W0 V0 lent g0 => ?_
 ((conv => whnf); repeat' (refine Z rfl ?_; conv => whnf))
 repeat' ((first | (intro hlq; (try simp only [SL] at hlq)) | refine Ka ?_ | refine Kb ?_ | refine Kc (hd := rfl) (e := ?_) | refine Kc (hd := Cond.cells_eq _) (e := ?_) | refine Kd (e := ?_) | refine Kl rfl ?_ | fail) <;> ((conv => whnf); repeat' (refine Z rfl ?_; conv => whnf)))
 refine loop_upd tok {} [] (X := Nat) (fun i => [(12, iB i)]) (fun i => [(9, .mp (smap ((xs.map (·.name)).take i)))]) [7] (fun i => i ≤ xs.length ∧ nmL ((xs.map (·.name)).take i) = true) (fun i => xs.length - i) 0 ?_
 ((conv => whnf); repeat' (refine Z rfl ?_; conv => whnf))
 refine And.intro ?_ ⟨⟨by omega, by simp [nmL]⟩, fun i hΦ => ?_⟩
 · exact Kr
 obtain ⟨hi, hp⟩ := hΦ
 ((conv => whnf); repeat' (refine Z rfl ?_; conv => whnf))
 refine ⟨fun h1 => ?_, fun h1 => ?_⟩ <;> (try simp only [BL] at h1) <;> ((conv => whnf); repeat' (refine Z rfl ?_; conv => whnf))
 · have h1' : i < xs.length := by omega
   have hstep := nmL_step (l := xs.map (·.name)) (i := i) (by simpa using h1') hp
   simp only [List.getElem_map] at hstep
   repeat' ((first | (intro hlq; (try simp only [SL] at hlq)) | refine Meets.k (nameOf_wave xs[i]) ?_ | refine Meets.k (isName_meets xs[i].name) ?_ | ((refine Kh (fun hb => ?_) fun hb => ?_) <;> (try simp only [BL] at hb)) | refine Ka ?_ | refine Kb ?_ | refine Kc (hd := rfl) (e := ?_) | refine Kc (hd := Cond.cells_eq _) (e := ?_) | refine Kd (e := ?_) | refine Kl rfl ?_ | fail) <;> ((conv => whnf); repeat' (refine Z rfl ?_; conv => whnf)))
   all_goals first
    | (refine ⟨⟨⟨_, rfl⟩, smap_key⟩, ?_⟩
       refine ⟨_, smap_get _ _, ?_⟩
       (conv => whnf); repeat' (refine Z rfl ?_; conv => whnf))
    | skip
   repeat' ((first | (intro hlq; (try simp only [SL] at hlq)) | ((refine Kh (fun hb => ?_) fun hb => ?_) <;> (try simp only [BL] at hb)) | refine Ka ?_ | refine Kb ?_ | refine Kc (hd := rfl) (e := ?_) | refine Kc (hd := Cond.cells_eq _) (e := ?_) | refine Kd (e := ?_) | refine Kl rfl ?_ | fail) <;> ((conv => whnf); repeat' (refine Z rfl ?_; conv => whnf)))
   all_goals first
    | (refine ⟨congrArg bD ?_⟩
       exact (hstep.2.2 (by assumption)).symm)
    | (refine ⟨congrArg bD ?_⟩
       exact (hstep.2.1 (by assumption)).symm)
    | (refine ⟨congrArg bD ?_⟩
       exact (hstep.2.2 (decide_eq_true (by assumption))).symm)
    | skip
   refine ⟨⟨⟨_, rfl⟩, smap_key⟩, ?_⟩
   rw [smap_put (by assumption), ← getElem_map_name (f := fun x : Wave => x.name) h1', ← take_map_succ]
   ((conv => whnf); repeat' (refine Z rfl ?_; conv => whnf))
   repeat' ((first | (intro hlq; (try simp only [SL] at hlq)) | refine Ka ?_ | refine Kb ?_ | refine Kc (hd := rfl) (e := ?_) | refine Kc (hd := Cond.cells_eq _) (e := ?_) | refine Kd (e := ?_) | refine Kl rfl ?_ | fail) <;> ((conv => whnf); repeat' (refine Z rfl ?_; conv => whnf)))
   refine ⟨⟨i + 1, ?_, ⟨by omega, hstep.1 ⟨by assumption, decide_eq_false (by assumption)⟩⟩, by omega⟩⟩
   repeat' (first | exact True.intro | exact rfl | refine And.intro ?_ ?_)
 · refine ⟨congrArg bD ?_⟩
   rw [List.take_of_length_le (by simp; omega)] at hp
   exact hp.symm
theorem nameOf_offence (x : Offence) : Meets Tryz.prog 107 [x.d] fun d => d = .str x.name := by
 refine enter tok {} Tryz.func107 rfl (by kernel_rfl) Tryz.ntmps107 (by simp) fun B0 W0 V0 lent g0 => ?_
 ((conv => whnf); repeat' (refine Z rfl ?_; conv => whnf))
 exact ⟨rfl⟩
theorem named_offence (xs : List Offence) (hl : xs.length ≤ 1048576) : Meets Tryz.prog 106 [.sl (xs.map Offence.cells), .fn 107 [] []] fun d => d = bD (nmL (xs.map (·.name))) := by
 refine enter tok {} Tryz.func106 rfl (by kernel_rfl) Tryz.ntmps106 (by simp) fun B0 W0 V0 lent g0 => ?_
 ((conv => whnf); repeat' (refine Z rfl ?_; conv => whnf))
 repeat' ((first | (intro hlq; (try simp only [SL] at hlq)) | refine Ka ?_ | refine Kb ?_ | refine Kc (hd := rfl) (e := ?_) | refine Kc (hd := Cond.cells_eq _) (e := ?_) | refine Kd (e := ?_) | refine Kl rfl ?_ | fail) <;> ((conv => whnf); repeat' (refine Z rfl ?_; conv => whnf)))
 refine loop_upd tok {} [] (X := Nat) (fun i => [(12, iB i)]) (fun i => [(9, .mp (smap ((xs.map (·.name)).take i)))]) [7] (fun i => i ≤ xs.length ∧ nmL ((xs.map (·.name)).take i) = true) (fun i => xs.length - i) 0 ?_
 ((conv => whnf); repeat' (refine Z rfl ?_; conv => whnf))
 refine And.intro ?_ ⟨⟨by omega, by simp [nmL]⟩, fun i hΦ => ?_⟩
 · exact Kr
 obtain ⟨hi, hp⟩ := hΦ
 ((conv => whnf); repeat' (refine Z rfl ?_; conv => whnf))
 refine ⟨fun h1 => ?_, fun h1 => ?_⟩ <;> (try simp only [BL] at h1) <;> ((conv => whnf); repeat' (refine Z rfl ?_; conv => whnf))
 · have h1' : i < xs.length := by omega
   have hstep := nmL_step (l := xs.map (·.name)) (i := i) (by simpa using h1') hp
   simp only [List.getElem_map] at hstep
   repeat' ((first | (intro hlq; (try simp only [SL] at hlq)) | refine Meets.k (nameOf_offence xs[i]) ?_ | refine Meets.k (isName_meets xs[i].name) ?_ | ((refine Kh (fun hb => ?_) fun hb => ?_) <;> (try simp only [BL] at hb)) | refine Ka ?_ | refine Kb ?_ | refine Kc (hd := rfl) (e := ?_) | refine Kc (hd := Cond.cells_eq _) (e := ?_) | refine Kd (e := ?_) | refine Kl rfl ?_ | fail) <;> ((conv => whnf); repeat' (refine Z rfl ?_; conv => whnf)))
   all_goals first
    | (refine ⟨⟨⟨_, rfl⟩, smap_key⟩, ?_⟩
       refine ⟨_, smap_get _ _, ?_⟩
       (conv => whnf); repeat' (refine Z rfl ?_; conv => whnf))
    | skip
   repeat' ((first | (intro hlq; (try simp only [SL] at hlq)) | ((refine Kh (fun hb => ?_) fun hb => ?_) <;> (try simp only [BL] at hb)) | refine Ka ?_ | refine Kb ?_ | refine Kc (hd := rfl) (e := ?_) | refine Kc (hd := Cond.cells_eq _) (e := ?_) | refine Kd (e := ?_) | refine Kl rfl ?_ | fail) <;> ((conv => whnf); repeat' (refine Z rfl ?_; conv => whnf)))
   all_goals first
    | (refine ⟨congrArg bD ?_⟩
       exact (hstep.2.2 (by assumption)).symm)
    | (refine ⟨congrArg bD ?_⟩
       exact (hstep.2.1 (by assumption)).symm)
    | (refine ⟨congrArg bD ?_⟩
       exact (hstep.2.2 (decide_eq_true (by assumption))).symm)
    | skip
   refine ⟨⟨⟨_, rfl⟩, smap_key⟩, ?_⟩
   rw [smap_put (by assumption), ← getElem_map_name (f := fun x : Offence => x.name) h1', ← take_map_succ]
   ((conv => whnf); repeat' (refine Z rfl ?_; conv => whnf))
   repeat' ((first | (intro hlq; (try simp only [SL] at hlq)) | refine Ka ?_ | refine Kb ?_ | refine Kc (hd := rfl) (e := ?_) | refine Kc (hd := Cond.cells_eq _) (e := ?_) | refine Kd (e := ?_) | refine Kl rfl ?_ | fail) <;> ((conv => whnf); repeat' (refine Z rfl ?_; conv => whnf)))
   refine ⟨⟨i + 1, ?_, ⟨by omega, hstep.1 ⟨by assumption, decide_eq_false (by assumption)⟩⟩, by omega⟩⟩
   repeat' (first | exact True.intro | exact rfl | refine And.intro ?_ ?_)
 · refine ⟨congrArg bD ?_⟩
   rw [List.take_of_length_le (by simp; omega)] at hp
   exact hp.symm
theorem nameOf_category (x : Category) : Meets Tryz.prog 109 [x.d] fun d => d = .str x.name := by
 refine enter tok {} Tryz.func109 rfl (by kernel_rfl) Tryz.ntmps109 (by simp) fun B0 W0 V0 lent g0 => ?_
 ((conv => whnf); repeat' (refine Z rfl ?_; conv => whnf))
 exact ⟨rfl⟩
theorem named_category (xs : List Category) (hl : xs.length ≤ 1048576) : Meets Tryz.prog 108 [.sl (xs.map Category.cells), .fn 109 [] []] fun d => d = bD (nmL (xs.map (·.name))) := by
 refine enter tok {} Tryz.func108 rfl (by kernel_rfl) Tryz.ntmps108 (by simp) fun B0 W0 V0 lent g0 => ?_
 ((conv => whnf); repeat' (refine Z rfl ?_; conv => whnf))
 repeat' ((first | (intro hlq; (try simp only [SL] at hlq)) | refine Ka ?_ | refine Kb ?_ | refine Kc (hd := rfl) (e := ?_) | refine Kc (hd := Cond.cells_eq _) (e := ?_) | refine Kd (e := ?_) | refine Kl rfl ?_ | fail) <;> ((conv => whnf); repeat' (refine Z rfl ?_; conv => whnf)))
 refine loop_upd tok {} [] (X := Nat) (fun i => [(12, iB i)]) (fun i => [(9, .mp (smap ((xs.map (·.name)).take i)))]) [7] (fun i => i ≤ xs.length ∧ nmL ((xs.map (·.name)).take i) = true) (fun i => xs.length - i) 0 ?_
 ((conv => whnf); repeat' (refine Z rfl ?_; conv => whnf))
 refine And.intro ?_ ⟨⟨by omega, by simp [nmL]⟩, fun i hΦ => ?_⟩
 · exact Kr
 obtain ⟨hi, hp⟩ := hΦ
 ((conv => whnf); repeat' (refine Z rfl ?_; conv => whnf))
 refine ⟨fun h1 => ?_, fun h1 => ?_⟩ <;> (try simp only [BL] at h1) <;> ((conv => whnf); repeat' (refine Z rfl ?_; conv => whnf))
 · have h1' : i < xs.length := by omega
   have hstep := nmL_step (l := xs.map (·.name)) (i := i) (by simpa using h1') hp
   simp only [List.getElem_map] at hstep
   repeat' ((first | (intro hlq; (try simp only [SL] at hlq)) | refine Meets.k (nameOf_category xs[i]) ?_ | refine Meets.k (isName_meets xs[i].name) ?_ | ((refine Kh (fun hb => ?_) fun hb => ?_) <;> (try simp only [BL] at hb)) | refine Ka ?_ | refine Kb ?_ | refine Kc (hd := rfl) (e := ?_) | refine Kc (hd := Cond.cells_eq _) (e := ?_) | refine Kd (e := ?_) | refine Kl rfl ?_ | fail) <;> ((conv => whnf); repeat' (refine Z rfl ?_; conv => whnf)))
   all_goals first
    | (refine ⟨⟨⟨_, rfl⟩, smap_key⟩, ?_⟩
       refine ⟨_, smap_get _ _, ?_⟩
       (conv => whnf); repeat' (refine Z rfl ?_; conv => whnf))
    | skip
   repeat' ((first | (intro hlq; (try simp only [SL] at hlq)) | ((refine Kh (fun hb => ?_) fun hb => ?_) <;> (try simp only [BL] at hb)) | refine Ka ?_ | refine Kb ?_ | refine Kc (hd := rfl) (e := ?_) | refine Kc (hd := Cond.cells_eq _) (e := ?_) | refine Kd (e := ?_) | refine Kl rfl ?_ | fail) <;> ((conv => whnf); repeat' (refine Z rfl ?_; conv => whnf)))
   all_goals first
    | (refine ⟨congrArg bD ?_⟩
       exact (hstep.2.2 (by assumption)).symm)
    | (refine ⟨congrArg bD ?_⟩
       exact (hstep.2.1 (by assumption)).symm)
    | (refine ⟨congrArg bD ?_⟩
       exact (hstep.2.2 (decide_eq_true (by assumption))).symm)
    | skip
   refine ⟨⟨⟨_, rfl⟩, smap_key⟩, ?_⟩
   rw [smap_put (by assumption), ← getElem_map_name (f := fun x : Category => x.name) h1', ← take_map_succ]
   ((conv => whnf); repeat' (refine Z rfl ?_; conv => whnf))
   repeat' ((first | (intro hlq; (try simp only [SL] at hlq)) | refine Ka ?_ | refine Kb ?_ | refine Kc (hd := rfl) (e := ?_) | refine Kc (hd := Cond.cells_eq _) (e := ?_) | refine Kd (e := ?_) | refine Kl rfl ?_ | fail) <;> ((conv => whnf); repeat' (refine Z rfl ?_; conv => whnf)))
   refine ⟨⟨i + 1, ?_, ⟨by omega, hstep.1 ⟨by assumption, decide_eq_false (by assumption)⟩⟩, by omega⟩⟩
   repeat' (first | exact True.intro | exact rfl | refine And.intro ?_ ?_)
 · refine ⟨congrArg bD ?_⟩
   rw [List.take_of_length_le (by simp; omega)] at hp
   exact hp.symm
end Go.Proofs.YteckbkljaneppaaGreatDoor.Dx
/- Names of a course, in the code and in the reference. -/
namespace Go.Proofs.YteckbkljaneppaaGreatDoor.Dx
open Go Go.RowKit
set_option maxRecDepth 100000
set_option maxHeartbeats 8000000
def Course.named (c : Course) : Bool := isNm kw c.name && (nmL (c.mats.map (·.name)) && (nmL (c.distances.map (·.name)) && (nmL (c.waves.map (·.name)) && (nmL (c.offences.map (·.name)) && nmL (c.categories.map (·.name))))))
structure Course.small (c : Course) : Prop where
 mats : c.mats.length ≤ 1048576
 legs : c.legs.length ≤ 1048576
 distances : c.distances.length ≤ 1048576
 waves : c.waves.length ≤ 1048576
 offences : c.offences.length ≤ 1048576
 categories : c.categories.length ≤ 1048576
 prizes : c.prizes.length ≤ 1048576
 ties : c.ties.length ≤ 1048576 ∧ ∀ s ∈ c.ties, s.ok
 route : ∀ d ∈ c.distances, Part.cntL d.route ≤ 1048576
 cutoffs : ∀ d ∈ c.distances, d.cutoffs.length ≤ 1048576
theorem names_meets (c : Course) (hc : c.small) : Meets Tryz.prog 60 [c.d] fun r => r = bD c.named := by
 refine enter tok {} Tryz.func60 rfl (by kernel_rfl) Tryz.ntmps60 (by simp) fun B0 W0 V0 lent g0 => ?_
 ((conv => whnf); repeat' (refine Z rfl ?_; conv => whnf))
 repeat' ((first | (intro hlq; (try simp only [SL] at hlq)) | refine Meets.k (isName_meets c.name) ?_ | refine Meets.k (named_mat c.mats hc.mats) ?_ | refine Meets.k (named_dist c.distances hc.distances) ?_ | refine Meets.k (named_wave c.waves hc.waves) ?_ | refine Meets.k (named_offence c.offences hc.offences) ?_ | refine Meets.k (named_category c.categories hc.categories) ?_ | ((refine Kh (fun hb => ?_) fun hb => ?_) <;> (try simp only [BL] at hb)) | refine Ka ?_ | refine Kb ?_ | refine Kc (hd := rfl) (e := ?_) | refine Kc (hd := Cond.cells_eq _) (e := ?_) | refine Kd (e := ?_) | refine Kl rfl ?_ | fail) <;> ((conv => whnf); repeat' (refine Z rfl ?_; conv => whnf)))
 all_goals (refine ⟨congrArg bD ?_⟩; rw [Course.named]; simp_all)
abbrev scells (s : List UInt8) : List D := [.str s]
theorem scells_eq (s : List UInt8) : scells s = [.str s] := rfl
theorem nmL_none {l : List (List UInt8)} {i : Nat} (h : i < l.length) : decide (l[i] ∈ l.take i) = (l.take i).any fun x => decide (x = l[i]) := by
 rw [Bool.eq_iff_iff, decide_eq_true_eq, List.any_eq_true]
 simp
theorem different_meets (l : List (List UInt8)) : Meets Tryz.prog 141 [.sl (l.map scells)] fun r => r = bD (nmL l) := by
 refine enter tok {} Tryz.func141 rfl (by kernel_rfl) Tryz.ntmps141 (by simp) fun B0 W0 V0 lent g0 => ?_
 ((conv => whnf); repeat' (refine Z rfl ?_; conv => whnf))
 refine loop_upd tok {} [] (X := Nat) (fun i => [(3, iB i)]) (fun _ => []) [] (fun i => i ≤ l.length ∧ nmL (l.take i) = true) (fun i => l.length - i) 0 ?_
 ((conv => whnf); repeat' (refine Z rfl ?_; conv => whnf))
 refine And.intro ?_ ⟨⟨by omega, by simp [nmL]⟩, fun i hΦ => ?_⟩
 · exact Kr
 obtain ⟨hi, hp⟩ := hΦ
 ((conv => whnf); repeat' (refine Z rfl ?_; conv => whnf))
 repeat' ((first | (intro hlq; (try simp only [SL] at hlq)) | refine Ka ?_ | refine Kb ?_ | refine Kc (hd := rfl) (e := ?_) | refine Kc (hd := Cond.cells_eq _) (e := ?_) | refine Kd (e := ?_) | refine Kl rfl ?_ | fail) <;> ((conv => whnf); repeat' (refine Z rfl ?_; conv => whnf)))
 refine ⟨fun h1 => ?_, fun h1 => ?_⟩ <;> (try simp only [BL] at h1) <;> ((conv => whnf); repeat' (refine Z rfl ?_; conv => whnf))
 · have h1' : i < l.length := by omega
   obtain ⟨st1, st2, st3⟩ := nmL_step h1' hp
   repeat' ((first | (intro hlq; (try simp only [SL] at hlq)) | refine Meets.k (rName_meets l[i]) ?_ | ((refine Kh (fun hb => ?_) fun hb => ?_) <;> (try simp only [BL] at hb)) | refine Ka ?_ | refine Kb ?_ | refine Kc (hd := rfl) (e := ?_) | refine Kc (hd := Cond.cells_eq _) (e := ?_) | refine Kd (e := ?_) | refine Kl rfl ?_ | fail) <;> ((conv => whnf); repeat' (refine Z rfl ?_; conv => whnf)))
   · refine ⟨congrArg bD ?_⟩
     exact (st2 (by assumption)).symm
   · refine loop_upd tok {} [] (X := Nat) (fun k => [(4, iB k)]) (fun _ => []) [] (fun k => k ≤ i ∧ ∀ x ∈ (l.take i).take k, decide (x = l[i]) = false) (fun k => i - k) 0 ?_
     ((conv => whnf); repeat' (refine Z rfl ?_; conv => whnf))
     refine And.intro ?_ ⟨⟨by omega, by simp⟩, fun k hk => ?_⟩
     · exact Kr
     obtain ⟨hk1, hk2⟩ := hk
     ((conv => whnf); repeat' (refine Z rfl ?_; conv => whnf))
     refine ⟨fun h2 => ?_, fun h2 => ?_⟩ <;> (try simp only [BL] at h2) <;> ((conv => whnf); repeat' (refine Z rfl ?_; conv => whnf))
     · have h2' : k < (l.take i).length := by rw [List.length_take]; omega
       refine draw_rule tok (cf := {}) (by kernel_rfl) [.p 0, .p 1, .p 2, .p 3, .p 4, .p 5, .p 6, .p 7, .p 8] (by kernel_rfl) ?_
       ((conv => whnf); repeat' (refine Z rfl ?_; conv => whnf))
       repeat' ((first | (intro hlq; (try simp only [SL] at hlq)) | refine Ka ?_ | refine Kb ?_ | refine Kc (hd := rfl) (e := ?_) | refine Kc (hd := scells_eq _) (e := ?_) | refine Kd (e := ?_) | refine Kl rfl ?_ | fail) <;> ((conv => whnf); repeat' (refine Z rfl ?_; conv => whnf)))
       have e : (l.take i)[k] = l[k] := List.getElem_take
       refine ⟨fun h3 => ?_, fun h3 => ?_⟩ <;> (try simp only [BL] at h3) <;> ((conv => whnf); repeat' (refine Z rfl ?_; conv => whnf))
       · refine ⟨congrArg bD ?_⟩
         refine (st3 ?_).symm
         rw [decide_eq_true_eq, ← h3, ← e]
         exact List.getElem_mem h2'
       · repeat' ((first | (intro hlq; (try simp only [SL] at hlq)) | refine Ka ?_ | refine Kb ?_ | refine Kc (hd := rfl) (e := ?_) | refine Kc (hd := Cond.cells_eq _) (e := ?_) | refine Kd (e := ?_) | refine Kl rfl ?_ | fail) <;> ((conv => whnf); repeat' (refine Z rfl ?_; conv => whnf)))
         refine ⟨⟨k + 1, ?_, ⟨by omega, take_snoc h2' hk2 (by rw [e]; exact decide_eq_false h3)⟩, by omega⟩⟩
         repeat' (first | exact True.intro | exact rfl | refine And.intro ?_ ?_)
     · skip
       repeat' ((first | (intro hlq; (try simp only [SL] at hlq)) | refine Ka ?_ | refine Kb ?_ | refine Kc (hd := rfl) (e := ?_) | refine Kc (hd := Cond.cells_eq _) (e := ?_) | refine Kd (e := ?_) | refine Kl rfl ?_ | fail) <;> ((conv => whnf); repeat' (refine Z rfl ?_; conv => whnf)))
       refine ⟨⟨i + 1, ?_, ⟨by omega, st1 ⟨by assumption, ?_⟩⟩, by omega⟩⟩
       · exact Kr
       rw [List.take_of_length_le (by rw [List.length_take]; omega)] at hk2
       rw [nmL_none h1', List.any_eq_false]
       intro x hx
       rw [hk2 x hx]
       simp
 · refine ⟨congrArg bD ?_⟩
   rw [List.take_of_length_le (by omega)] at hp
   exact hp.symm
end Go.Proofs.YteckbkljaneppaaGreatDoor.Dx
