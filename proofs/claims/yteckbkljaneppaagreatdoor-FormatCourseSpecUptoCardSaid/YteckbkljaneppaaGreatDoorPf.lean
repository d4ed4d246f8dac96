/- format's printer: put on a fresh Builder; mat, moment, penalty. -/
import Derived.Test.YteckbkljaneppaaGreatDoorPc
import Derived.Test.YteckbkljaneppaaGreatDoorPe
set_option linter.all false
namespace Go.Proofs.YteckbkljaneppaaGreatDoor.Dx
open Go Go.RowKit Go.Proofs
set_option maxRecDepth 100000
set_option maxHeartbeats 8000000
abbrev prN (rest : List Base) (ty : TypeId) : List (Nat × Blk) := [(1000, .box (.d (.v (.pointer none)) :: .d (.raw (.slice none 0 0)) :: rest) ty)]
noncomputable abbrev prF (rest : List Base) (ty : TypeId) (l : List UInt8) : List (Nat × Blk) := match l with | [] => prN rest ty | b :: l => prO rest ty (b :: l)
abbrev cfGC4 : Cfg := {rs := [22, 31]}
theorem put_fresh (r : Nat → D) (c : UInt8) (t : List UInt8) (more : List Item) (hlen : (textOf (.s (c :: t) :: more)).length ≤ 140737488355328) :
 MeetsR Tryz.prog 27 [.loc 1000 0, .d (.sl ((Item.s (c :: t) :: more).map fun x => [x.d]))] (prN (rr r) 70) fun o O' => o = .ret (.d (.tup [])) ∧ O' = prO (rr r) 70 (textOf (.s (c :: t) :: more)) := by
 generalize hI : Item.s (c :: t) :: more = items at hlen ⊢
 refine enterR tok cfGC4 Tryz.func27 rfl (by kernel_rfl) Tryz.ntmps27 (by simp) fun B0 W0 V0 lent g0 => ?_
 ((conv => whnf); repeat' (refine Y cfGC4 rfl ?_; conv => whnf))
 repeat' ((first | (intro hlq; (try simp only [SL] at hlq)) | refine Ks ?_ | refine Kq ?_ | refine Kt ?_ | refine Ka ?_ | refine Kb ?_ | refine Kc (hd := rfl) (e := ?_) | refine Kc (hd := Cond.cells_eq _) (e := ?_) | refine Kd (e := ?_) | refine Kl rfl ?_ | fail) <;> ((conv => whnf); repeat' (refine Y cfGC4 rfl ?_; conv => whnf)))
 refine loop_upd tok cfGC4 [] (X := Nat × List UInt8) (fun s => [(10, iB s.1)]) (fun s => prF (rr r) 70 s.2) [] (fun s => s.1 ≤ items.length ∧ (s.2 = [] → s.1 = 0) ∧ s.2 ++ textOf (items.drop s.1) = textOf items) (fun s => items.length - s.1) (0, []) ?_
 ((conv => whnf); repeat' (refine Y cfGC4 rfl ?_; conv => whnf))
 refine And.intro ?_ ⟨⟨by omega, fun _ => rfl, rfl⟩, fun s hΦ => ?_⟩
 · repeat' (first | exact True.intro | exact rfl | refine And.intro ?_ ?_)
   all_goals exact SubB_refl _ _
 obtain ⟨i, xs⟩ := s
 obtain ⟨hi, hx0, heq⟩ := hΦ
 dsimp only at hi hx0 heq
 cases xs with
 | nil =>
   obtain rfl : i = 0 := hx0 rfl
   subst hI
   ((conv => whnf); repeat' (refine Y cfGC4 rfl ?_; conv => whnf))
   refine ⟨fun _ => ?_, fun h1 => ?_⟩
   rotate_left
   · simp at h1
   ((conv => whnf); repeat' (refine Y cfGC4 rfl ?_; conv => whnf))
   refine ⟨_, ⟨by simp, rfl, rfl⟩, ?_⟩
   ((conv => whnf); repeat' (refine Y cfGC4 rfl ?_; conv => whnf))
   ((conv => whnf); repeat' (refine Y cfGC4 rfl ?_; conv => whnf))
   ((conv => whnf); repeat' (refine Y cfGC4 rfl ?_; conv => whnf))
   refine ⟨prN (rr r) 70, _, ⟨?_, ?_⟩, (meets_WriteString_fresh 1000 1001 (by decide) (rr_d r) (c :: t) (by simp) (by simp only [textOf, List.flatMap_cons, Item.text, List.length_append] at hlen; omega) (by kernel_rfl)).mono ?_⟩
   · exact Kr
   · repeat' (first | exact True.intro | exact rfl | refine And.intro ?_ ?_)
     all_goals exact SubB_refl _ _
   rintro o O' ⟨rfl, rfl⟩
   dsimp only
   rw [show closedR (.d (wroteD (c :: t))) [(1000, Blk.box (.loc 1000 0 :: .own 1001 :: rr r) 70), (1001, .sl (builtD (c :: t)))] = true from closedR_pr (rr_d r) _ _]
   ((conv => whnf); repeat' (refine Y cfGC4 rfl ?_; conv => whnf))
   refine ⟨fun _ => by simp only [inKind] at *; omega, ?_⟩
   ((conv => whnf); repeat' (refine Y cfGC4 rfl ?_; conv => whnf))
   refine ⟨⟨(1, c :: t), ?_, ⟨by simp, (fun h => by cases h), rfl⟩, by simp⟩⟩
   repeat' (first | exact True.intro | exact rfl | refine And.intro ?_ ?_)
   all_goals exact SubB_refl _ _
 | cons b xs =>
   have hx1 : b :: xs ≠ [] := by simp
   have hlen' : (b :: xs).length + (textOf (items.drop i)).length ≤ 140737488355328 := by
    have := congrArg List.length heq
    rw [List.length_append] at this
    omega
   ((conv => whnf); repeat' (refine Y cfGC4 rfl ?_; conv => whnf))
   refine ⟨fun h1 => ?_, fun h1 => ?_⟩ <;> (try simp only [BL] at h1) <;> ((conv => whnf); repeat' (refine Y cfGC4 rfl ?_; conv => whnf))
   · have h1' : i < items.length := by omega
     rw [List.drop_eq_getElem_cons h1', textOf, List.flatMap_cons, ← textOf] at heq hlen'
     rw [List.length_append] at hlen'
     repeat' ((first | (intro hlq; (try simp only [SL] at hlq)) | refine Ks ?_ | refine Kq ?_ | refine Kt ?_ | refine Ka ?_ | refine Kb ?_ | refine Kc (hd := rfl) (e := ?_) | refine Kc (hd := Cond.cells_eq _) (e := ?_) | refine Kd (e := ?_) | refine Kl rfl ?_ | fail) <;> ((conv => whnf); repeat' (refine Y cfGC4 rfl ?_; conv => whnf)))
     dsimp only
     generalize items[i] = w at heq hlen' ⊢
     cases w with
     | s t =>
       simp only [Item.text] at heq hlen'
       repeat' ((first | (intro hlq; (try simp only [SL] at hlq)) | refine Ks ?_ | refine Kq ?_ | refine Kt ?_ | refine Ka ?_ | refine Kb ?_ | refine Kc (hd := rfl) (e := ?_) | refine Kc (hd := Item.d _) (e := ?_) | refine Kd (e := ?_) | refine Kl rfl ?_ | fail) <;> ((conv => whnf); repeat' (refine Y cfGC4 rfl ?_; conv => whnf)))
       ((conv => whnf); repeat' (refine Y cfGC4 rfl ?_; conv => whnf))
       ((conv => whnf); repeat' (refine Y cfGC4 rfl ?_; conv => whnf))
       ((conv => whnf); repeat' (refine Y cfGC4 rfl ?_; conv => whnf))
       refine ⟨prO (rr r) 70 (b :: xs), _, ⟨?_, ?_⟩, (meets_WriteString 1000 1001 (by decide) (rr_d r) (b :: xs) t hx1 (by omega)).mono ?_⟩
       · exact Kr
       · repeat' (first | exact True.intro | exact rfl | refine And.intro ?_ ?_)
         all_goals exact SubB_refl _ _
       rintro o O' ⟨rfl, rfl⟩
       dsimp only
       rw [closedR_pr (rr_d r)]
       ((conv => whnf); repeat' (refine Y cfGC4 rfl ?_; conv => whnf))
       refine ⟨fun _ => by simp only [inKind] at *; omega, ?_⟩
       ((conv => whnf); repeat' (refine Y cfGC4 rfl ?_; conv => whnf))
       refine ⟨⟨(i + 1, b :: (xs ++ t)), ?_, ⟨by dsimp only; omega, (fun h => by cases h), by rw [← heq]; simp⟩, by dsimp only; omega⟩⟩
       repeat' (first | exact True.intro | exact rfl | refine And.intro ?_ ?_)
       all_goals exact SubB_refl _ _
     | i n =>
       simp only [Item.text] at heq hlen'
       repeat' ((first | (intro hlq; (try simp only [SL] at hlq)) | refine Ks ?_ | refine Kq ?_ | refine Kt ?_ | refine Ka ?_ | refine Kb ?_ | refine Kc (hd := rfl) (e := ?_) | refine Kc (hd := Item.d _) (e := ?_) | refine Kd (e := ?_) | refine Kl rfl ?_ | fail) <;> ((conv => whnf); repeat' (refine Y cfGC4 rfl ?_; conv => whnf)))
       ((conv => whnf); repeat' (refine Y cfGC4 rfl ?_; conv => whnf))
       ((conv => whnf); repeat' (refine Y cfGC4 rfl ?_; conv => whnf))
       ((conv => whnf); repeat' (refine Y cfGC4 rfl ?_; conv => whnf))
       refine draw_rule tok (cf := cfGC4) (by kernel_rfl) [.p 0, .p 1, .p 2, .p 3, .s 4 [3], .s 5 [2,1,0]] (by kernel_rfl) ?_
       ((conv => whnf); repeat' (refine Y cfGC4 rfl ?_; conv => whnf))
       ((conv => whnf); repeat' (refine Y cfGC4 rfl ?_; conv => whnf))
       refine Meets.k (Itoa_meets n) ?_
       ((conv => whnf); repeat' (refine Y cfGC4 rfl ?_; conv => whnf))
       iterate 3 (try refine Kl rfl ?_)
       ((conv => whnf); repeat' (refine Y cfGC4 rfl ?_; conv => whnf))
       refine ⟨prO (rr r) 70 (b :: xs), _, ⟨?_, ?_⟩, (meets_WriteString 1000 1001 (by decide) (rr_d r) (b :: xs) (Lib.itoa n) hx1 (by omega)).mono ?_⟩
       · exact Kr
       · repeat' (first | exact True.intro | exact rfl | refine And.intro ?_ ?_)
         all_goals exact SubB_refl _ _
       rintro o O' ⟨rfl, rfl⟩
       dsimp only
       rw [closedR_pr (rr_d r)]
       ((conv => whnf); repeat' (refine Y cfGC4 rfl ?_; conv => whnf))
       refine ⟨fun _ => by simp only [inKind] at *; omega, ?_⟩
       ((conv => whnf); repeat' (refine Y cfGC4 rfl ?_; conv => whnf))
       refine ⟨⟨(i + 1, b :: (xs ++ Lib.itoa n)), ?_, ⟨by dsimp only; omega, (fun h => by cases h), by rw [← heq]; simp⟩, by dsimp only; omega⟩⟩
       repeat' (first | exact True.intro | exact rfl | refine And.intro ?_ ?_)
       all_goals exact SubB_refl _ _
   · obtain rfl : i = items.length := by omega
     rw [List.drop_length] at heq
     have heq : b :: xs = textOf items := by simpa [textOf] using heq
     rw [← heq]
     exact ⟨prO (rr r) 70 (b :: xs), .d (.tup []), ⟨SubB_refl _ _, ⟨⟨rfl, SubBs_refl _ _⟩, ⟨rfl, rfl, rfl, rfl⟩, trivial⟩, rfl⟩, ⟨rfl, rfl⟩⟩
theorem put_to (r : Nat → D) (l l' : List UInt8) (items : List Item) (hl : l ≠ []) (he : l' = l ++ textOf items) (hlen : l'.length ≤ 140737488355328) :
 MeetsR Tryz.prog 27 [.loc 1000 0, .d (.sl (items.map fun x => [x.d]))] (prO (rr r) 70 l) fun o O' => o = .ret (.d (.tup [])) ∧ O' = prO (rr r) 70 l' := by
 have := put_meets (ty := 70) r l hl items (by rw [he, List.length_append] at hlen; exact hlen)
 rw [← he] at this
 exact this
theorem moment_meets (t : Int) : Meets Tryz.prog 29 [iD t] fun d => d = .str (timeS t) := by
 refine enter tok {} Tryz.func29 rfl (by kernel_rfl) Tryz.ntmps29 (by simp) fun B0 W0 V0 lent g0 => ?_
 ((conv => whnf); repeat' (refine Z rfl ?_; conv => whnf))
 repeat' ((first | (intro hlq; (try simp only [SL] at hlq)) | refine Meets.k (TimeText_meets t) ?_ | refine Ks ?_ | refine Kq ?_ | refine Kt ?_ | ((refine Kh (fun hb => ?_) fun hb => ?_) <;> (try simp only [BL] at hb)) | refine Ka ?_ | refine Kb ?_ | refine Kc (hd := rfl) (e := ?_) | refine Kc (hd := Cond.cells_eq _) (e := ?_) | refine Kd (e := ?_) | refine Kl rfl ?_ | fail) <;> ((conv => whnf); repeat' (refine Z rfl ?_; conv => whnf)))
 exact ⟨rfl⟩
theorem penalty_meets (x : Offence) (hg : x.good = true) : Meets Tryz.prog 31 [x.d] fun d => d = .str (penT x) := by
 have h := (off_iff x).1 hg
 have hl : 0 ≤ x.laps ∧ x.laps ≤ 64 := by
  rcases h with ⟨_, h, _⟩ | ⟨_, h, _⟩ | ⟨_, h, _⟩
  · omega
  · simp only [inR, Bool.and_eq_true, decide_eq_true_eq] at h; omega
  · omega
 have f1 := itoa_le x.laps (by omega) (by omega)
 refine enter tok {} Tryz.func31 rfl (by kernel_rfl) Tryz.ntmps31 (by simp) fun B0 W0 V0 lent g0 => ?_
 ((conv => whnf); repeat' (refine Z rfl ?_; conv => whnf))
 repeat' ((first | (intro hlq; (try simp only [SL] at hlq)) | refine Meets.k (Itoa_meets _) ?_ | refine Meets.k (moment_meets _) ?_ | refine Ks ?_ | refine Kq ?_ | refine Kt ?_ | ((refine Kh (fun hb => ?_) fun hb => ?_) <;> (try simp only [BL] at hb)) | refine Ka ?_ | refine Kb ?_ | refine Kc (hd := rfl) (e := ?_) | refine Kc (hd := Cond.cells_eq _) (e := ?_) | refine Kd (e := ?_) | refine Kl rfl ?_ | fail) <;> ((conv => whnf); repeat' (refine Z rfl ?_; conv => whnf)))
 all_goals (refine ⟨congrArg D.str ?_⟩; rw [penT]; simp [*])
noncomputable def cR (c : Course) (i : Nat) : D := c.cells.getD i .junk
theorem pmat_meets (c : Course) (i : Int) (h0 : 0 ≤ i) (h1 : i ≤ c.m) (l : List UInt8) :
 MeetsR Tryz.prog 28 [.loc 1000 0, iB i] (prO (rr (cR c)) 70 l) fun o O' => o = .ret (.d (.str (matN c.mats i))) ∧ O' = prO (rr (cR c)) 70 l := by
 obtain ⟨k, hm⟩ := mat_at h0 h1
 refine enterR tok {} Tryz.func28 rfl (by kernel_rfl) Tryz.ntmps28 (by simp) fun B0 W0 V0 lent g0 => ?_
 ((conv => whnf); repeat' (refine Z rfl ?_; conv => whnf))
 refine ⟨_, ⟨h0, hm, rfl⟩, ?_⟩
 ((conv => whnf); repeat' (refine Z rfl ?_; conv => whnf))
 exact ⟨prO (rr (cR c)) 70 l, .d (.str (matN c.mats i)), ⟨SubB_refl _ _, ⟨⟨rfl, SubBs_refl _ _⟩, ⟨rfl, rfl, rfl, rfl⟩, trivial⟩, rfl⟩, ⟨rfl, rfl⟩⟩
end Go.Proofs.YteckbkljaneppaaGreatDoor.Dx
/- Steps and parts of routes, in the reference. -/
namespace Go.Proofs.YteckbkljaneppaaGreatDoor.Dx
open Go Go.RowKit Go.Proofs
set_option maxRecDepth 100000
set_option maxHeartbeats 16000000
theorem tsteps_meets (l : List Step) (hv : ∀ s ∈ l, s.valid = true) (hb : Step.nstL l + Step.ncdL l ≤ 1000) : Meets Tryz.prog 46 [.sl (l.map Step.cells)] fun d => d = .str (stepsT l) := by
 have hT := stepsT_le hv
 refine enter tok {} Tryz.func46 rfl (by kernel_rfl) Tryz.ntmps46 (by simp) fun B0 W0 V0 lent g0 => ?_
 ((conv => whnf); repeat' (refine Z rfl ?_; conv => whnf))
 refine loop_upd tok {} [] (X := Nat) (fun i => [(4, iB i), (3, .d (.str (sepT true ((l.map Step.tx).take i))))]) (fun _ => []) [] (fun i => i ≤ l.length) (fun i => l.length - i) 0 ?_
 ((conv => whnf); repeat' (refine Z rfl ?_; conv => whnf))
 refine And.intro ?_ ⟨by omega, fun i hi => ?_⟩
 · exact Kr
 ((conv => whnf); repeat' (refine Z rfl ?_; conv => whnf))
 repeat' ((first | (intro hlq; (try simp only [SL] at hlq)) | refine Ks ?_ | refine Kq ?_ | refine Kt ?_ | refine Ka ?_ | refine Kb ?_ | refine Kc (hd := rfl) (e := ?_) | refine Kc (hd := Cond.cells_eq _) (e := ?_) | refine Kd (e := ?_) | refine Kl rfl ?_ | fail) <;> ((conv => whnf); repeat' (refine Z rfl ?_; conv => whnf)))
 refine ⟨fun h1 => ?_, fun h1 => ?_⟩ <;> (try simp only [BL] at h1) <;> ((conv => whnf); repeat' (refine Z rfl ?_; conv => whnf))
 · have h1' : i < l.length := by omega
   have hj : (sepT true ((l.map Step.tx).take i)).length ≤ (stepsT l).length := sepT_take_le true _ i
   have hst := sepT_step Step.tx h1'
   have hm := List.getElem_mem h1'
   have hx := tx_le l[i] (hv _ hm)
   have hmem := nstL_mem hm
   rw [Step.tx_eq] at hst hx
   rcases Step.cases (hv _ hm) with ⟨hk, _⟩ | ⟨hk, hc, hne, ht, he⟩
   · rw [if_pos hk] at hst hx
     have hcr := critT_le l[i].crit
     repeat' ((first | (intro hlq; (try simp only [SL] at hlq)) | refine Meets.k (criterion_meets _) ?_ | refine Ks ?_ | refine Kq ?_ | refine Kt ?_ | ((refine Kh (fun hb => ?_) fun hb => ?_) <;> (try simp only [BL] at hb)) | refine Ka ?_ | refine Kb ?_ | refine Kc (hd := rfl) (e := ?_) | refine Kc (hd := Step.cells_eq _) (e := ?_) | refine Kd (e := ?_) | refine Kl rfl ?_ | fail) <;> ((conv => whnf); repeat' (refine Z rfl ?_; conv => whnf)))
     all_goals (try first | contradiction | (exfalso; omega))
     all_goals
      refine ⟨⟨i + 1, ?_, by omega, by omega⟩⟩
      rw [hst]
      first | rw [if_neg (by omega : ¬ i = 0)] | (obtain rfl : i = 0 := (by omega); rw [if_pos rfl])
      repeat' (first | exact True.intro | exact rfl | refine And.intro ?_ ?_ | (refine congrArg D.str ?_; simp [sepT, List.append_assoc]; done))
   · rw [if_neg (show ¬ l[i].kind = 1 by omega)] at hst hx
     have h3 := pt_le l[i].cond hc
     have h4 := l[i].nst_eq
     have h5 := l[i].ncd_eq
     rw [valid_total hc] at h5
     have hsz := List.sizeOf_lt_of_mem hm
     have hszl := Step.szl l[i]
     have hq1 : SizeOf.sizeOf l[i].th < SizeOf.sizeOf l := by omega
     have hq2 : SizeOf.sizeOf l[i].el < SizeOf.sizeOf l := by omega
     have f1 := stepsT_le ht
     have f2 := stepsT_le he
     have r1 : Meets Tryz.prog 46 [.sl (l[i].th.map Step.cells)] fun d => d = .str (stepsT l[i].th) := tsteps_meets l[i].th ht (by omega)
     have r2 : Meets Tryz.prog 46 [.sl (l[i].el.map Step.cells)] fun d => d = .str (stepsT l[i].el) := tsteps_meets l[i].el he (by omega)
     have r3 := rcond_meets l[i].cond hc (by omega)
     repeat' ((first | (intro hlq; (try simp only [SL] at hlq)) | refine Ks ?_ | refine Kq ?_ | refine Kt ?_ | ((refine Kh (fun hb => ?_) fun hb => ?_) <;> (try simp only [BL] at hb)) | refine Ka ?_ | refine Kb ?_ | refine Kc (hd := rfl) (e := ?_) | refine Kc (hd := Step.cells_eq _) (e := ?_) | refine Kd (e := ?_) | refine Kl rfl ?_ | fail) <;> ((conv => whnf); repeat' (refine Z rfl ?_; conv => whnf)))
     all_goals (try first | contradiction | (exfalso; omega))
     all_goals
      refine draw_rule tok (cf := {}) (by kernel_rfl) [.p 0, .p 1, .p 2, .p 3, .p 4, .p 5, .p 6, .p 10, .p 11, .p 12, .p 13, .p 14, .s 7 [6,5,4,2,3], .p 8, .p 9, .s 15 [14,13,12,10,11], .p 16, .p 17, .p 18] (by kernel_rfl) ?_
      ((conv => whnf); repeat' (refine Z rfl ?_; conv => whnf))
      repeat' ((first | (intro hlq; (try simp only [SL] at hlq)) | refine Meets.k (r3) ?_ | refine Meets.k (r1) ?_ | refine Meets.k (r2) ?_ | refine Ks ?_ | refine Kq ?_ | refine Kt ?_ | ((refine Kh (fun hb => ?_) fun hb => ?_) <;> (try simp only [BL] at hb)) | refine Ka ?_ | refine Kb ?_ | refine Kc (hd := rfl) (e := ?_) | refine Kc (hd := Step.cells_eq _) (e := ?_) | refine Kd (e := ?_) | refine Kl rfl ?_ | fail) <;> ((conv => whnf); repeat' (refine Z rfl ?_; conv => whnf)))
     all_goals
      first
       | rw [decide_eq_true (show 0 < l[i].el.length by omega)] at hst
       | rw [decide_eq_false (show ¬ 0 < l[i].el.length by omega)] at hst
      simp only [ifT, if_true, Bool.false_eq_true, if_false, List.append_nil] at hst
      refine ⟨⟨i + 1, ?_, by omega, by omega⟩⟩
      rw [hst]
      first | rw [if_neg (by omega : ¬ i = 0)] | (obtain rfl : i = 0 := (by omega); rw [if_pos rfl])
      repeat' (first | exact True.intro | exact rfl | refine And.intro ?_ ?_ | (refine congrArg D.str ?_; simp [sepT, List.append_assoc]; done))
 · have e : (l.map Step.tx).take i = l.map Step.tx := List.take_of_length_le (by rw [List.length_map]; omega)
   rw [e]
   exact ⟨rfl⟩
termination_by SizeOf.sizeOf l
decreasing_by all_goals assumption
theorem tparts_meets (c : Course) (hn : ∀ m ∈ c.mats, m.name.length ≤ 24) (l : List Part) (hg : ∀ p ∈ l, p.good c.m = true) (hb : Part.cntL l ≤ 1000) : Meets Tryz.prog 149 [c.d, .sl (l.map Part.cells)] fun d => d = .str (partsT c.mats l) := by
 have hT := partsT_le hn hg
 refine enter tok {} Tryz.func149 rfl (by kernel_rfl) Tryz.ntmps149 (by simp) fun B0 W0 V0 lent g0 => ?_
 ((conv => whnf); repeat' (refine Z rfl ?_; conv => whnf))
 refine loop_upd tok {} [] (X := Nat) (fun i => [(6, iB i), (5, .d (.str (sepT true ((l.map (Part.tx c.mats)).take i))))]) (fun _ => []) [] (fun i => i ≤ l.length) (fun i => l.length - i) 0 ?_
 ((conv => whnf); repeat' (refine Z rfl ?_; conv => whnf))
 refine And.intro ?_ ⟨by omega, fun i hi => ?_⟩
 · exact Kr
 ((conv => whnf); repeat' (refine Z rfl ?_; conv => whnf))
 repeat' ((first | (intro hlq; (try simp only [SL] at hlq)) | refine Ks ?_ | refine Kq ?_ | refine Kt ?_ | refine Ka ?_ | refine Kb ?_ | refine Kc (hd := rfl) (e := ?_) | refine Kc (hd := Cond.cells_eq _) (e := ?_) | refine Kd (e := ?_) | refine Kl rfl ?_ | fail) <;> ((conv => whnf); repeat' (refine Z rfl ?_; conv => whnf)))
 refine ⟨fun h1 => ?_, fun h1 => ?_⟩ <;> (try simp only [BL] at h1) <;> ((conv => whnf); repeat' (refine Z rfl ?_; conv => whnf))
 · have h1' : i < l.length := by omega
   have hj : (sepT true ((l.map (Part.tx c.mats)).take i)).length ≤ (partsT c.mats l).length := sepT_take_le true _ i
   have hst := sepT_step (Part.tx c.mats) h1'
   have hm := List.getElem_mem h1'
   have hx := ptx_le hn l[i] (hg _ hm)
   have hmem := cntL_mem hm
   rw [Part.tx_eq] at hst hx
   rcases Part.cases (hg _ hm) with ⟨hk, h0, hle⟩ | ⟨h0, h2, hp⟩
   · rw [if_pos hk] at hst hx
     have hnl := matN_le hn l[i].mat
     obtain ⟨k, hmat⟩ := mat_at h0 hle
     repeat' ((first | (intro hlq; (try simp only [SL] at hlq)) | refine Ks ?_ | refine Kq ?_ | refine Kt ?_ | ((refine Kh (fun hb => ?_) fun hb => ?_) <;> (try simp only [BL] at hb)) | refine Ka ?_ | refine Kb ?_ | refine Kc (hd := rfl) (e := ?_) | refine Kc (hd := Part.cells_eq _) (e := ?_) | refine Kd (e := ?_) | refine Kl rfl ?_ | fail) <;> ((conv => whnf); repeat' (refine Z rfl ?_; conv => whnf)))
     all_goals (try first | contradiction | (exfalso; omega))
     all_goals
      refine draw_rule tok (cf := {}) (by kernel_rfl) [.p 0, .p 1, .p 2, .p 3, .p 4, .p 5, .p 6, .p 7, .p 8, .p 9, .p 10, .p 11, .p 12, .p 13] (by kernel_rfl) ?_
      ((conv => whnf); repeat' (refine Z rfl ?_; conv => whnf))
      repeat' ((first | (intro hlq; (try simp only [SL] at hlq)) | refine ⟨_, ⟨h0, hmat, rfl⟩, ?_⟩ | refine Ks ?_ | refine Kq ?_ | refine Kt ?_ | ((refine Kh (fun hb => ?_) fun hb => ?_) <;> (try simp only [BL] at hb)) | refine Ka ?_ | refine Kb ?_ | refine Kc (hd := rfl) (e := ?_) | refine Kc (hd := Part.cells_eq _) (e := ?_) | refine Kd (e := ?_) | refine Kl rfl ?_ | fail) <;> ((conv => whnf); repeat' (refine Z rfl ?_; conv => whnf)))
     all_goals
      refine ⟨⟨i + 1, ?_, by omega, by omega⟩⟩
      rw [hst]
      first | rw [if_neg (by omega : ¬ i = 0)] | (obtain rfl : i = 0 := (by omega); rw [if_pos rfl])
      repeat' (first | exact True.intro | exact rfl | refine And.intro ?_ ?_ | (refine congrArg D.str ?_; simp [sepT, List.append_assoc]; done))
   · rw [if_neg (show ¬ l[i].laps = 0 by omega)] at hst hx
     have h3 := itoa_le l[i].laps (by omega) (by omega)
     have h4 := l[i].cnt_eq
     have f1 := partsT_le hn hp
     have hsz := List.sizeOf_lt_of_mem hm
     have hszl := Part.szl l[i]
     have hq1 : SizeOf.sizeOf l[i].parts < SizeOf.sizeOf l := by omega
     have r1 : Meets Tryz.prog 149 [c.d, .sl (l[i].parts.map Part.cells)] fun d => d = .str (partsT c.mats l[i].parts) := tparts_meets c hn l[i].parts hp (by omega)
     have r2 := Decimal_meets l[i].laps (by omega) (by omega)
     repeat' ((first | (intro hlq; (try simp only [SL] at hlq)) | refine Ks ?_ | refine Kq ?_ | refine Kt ?_ | ((refine Kh (fun hb => ?_) fun hb => ?_) <;> (try simp only [BL] at hb)) | refine Ka ?_ | refine Kb ?_ | refine Kc (hd := rfl) (e := ?_) | refine Kc (hd := Part.cells_eq _) (e := ?_) | refine Kd (e := ?_) | refine Kl rfl ?_ | fail) <;> ((conv => whnf); repeat' (refine Z rfl ?_; conv => whnf)))
     all_goals (try first | contradiction | (exfalso; omega))
     all_goals
      refine draw_rule tok (cf := {}) (by kernel_rfl) [.p 0, .p 1, .p 2, .p 3, .p 4, .p 5, .p 6, .p 10, .p 11, .p 12, .p 13, .p 14, .p 15, .s 7 [6,5,4,2,3], .p 8, .p 9, .s 16 [10,15,14,13,11,12], .p 17, .p 18, .p 19] (by kernel_rfl) ?_
      ((conv => whnf); repeat' (refine Z rfl ?_; conv => whnf))
      repeat' ((first | (intro hlq; (try simp only [SL] at hlq)) | refine Meets.k (r1) ?_ | refine Meets.k (r2) ?_ | refine Ks ?_ | refine Kq ?_ | refine Kt ?_ | ((refine Kh (fun hb => ?_) fun hb => ?_) <;> (try simp only [BL] at hb)) | refine Ka ?_ | refine Kb ?_ | refine Kc (hd := rfl) (e := ?_) | refine Kc (hd := Part.cells_eq _) (e := ?_) | refine Kd (e := ?_) | refine Kl rfl ?_ | fail) <;> ((conv => whnf); repeat' (refine Z rfl ?_; conv => whnf)))
     all_goals
      refine ⟨⟨i + 1, ?_, by omega, by omega⟩⟩
      rw [hst]
      first | rw [if_neg (by omega : ¬ i = 0)] | (obtain rfl : i = 0 := (by omega); rw [if_pos rfl])
      repeat' (first | exact True.intro | exact rfl | refine And.intro ?_ ?_ | (refine congrArg D.str ?_; simp [sepT, List.append_assoc]; done))
 · have e : (l.map (Part.tx c.mats)).take i = l.map (Part.tx c.mats) := List.take_of_length_le (by rw [List.length_map]; omega)
   rw [e]
   exact ⟨rfl⟩
termination_by SizeOf.sizeOf l
decreasing_by all_goals assumption
end Go.Proofs.YteckbkljaneppaaGreatDoor.Dx
/- Times and numbers, in the reference. -/
namespace Go.Proofs.YteckbkljaneppaaGreatDoor.Dx
open Go Go.RowKit Go.Proofs
set_option maxRecDepth 100000
set_option maxHeartbeats 16000000
theorem decimal_meets (n : Int) (h0 : 0 ≤ n) (hn : n ≤ 9223372036854775807) : Meets Tryz.prog 185 [iD n] fun d => d = .str (Lib.itoa n) := by
 have hd := dig_eq (k := (n % 10).toNat) (by omega)
 have e1 : (n % 10 + 1).toNat = (n % 10).toNat + 1 := by omega
 refine enter tok {} Tryz.func185 rfl (by kernel_rfl) Tryz.ntmps185 (by simp) fun B0 W0 V0 lent g0 => ?_
 ((conv => whnf); repeat' (refine Z rfl ?_; conv => whnf))
 repeat' ((first | (intro hlq; (try simp only [SL] at hlq)) | refine Ks ?_ | refine Kq ?_ | refine Kt ?_ | refine Ka ?_ | refine Kb ?_ | refine Kc (hd := rfl) (e := ?_) | refine Kc (hd := Cond.cells_eq _) (e := ?_) | refine Kd (e := ?_) | refine Kl rfl ?_ | fail) <;> ((conv => whnf); repeat' (refine Z rfl ?_; conv => whnf)))
 refine ⟨fun h2 => ?_, fun h2 => ?_⟩ <;> (try simp only [BL] at h2) <;> ((conv => whnf); repeat' (refine Z rfl ?_; conv => whnf))
 · refine ⟨congrArg D.str ?_⟩
   rw [e1, itoa_small h0 h2, show n.toNat = (n % 10).toNat by omega]
   exact hd
 · repeat' ((first | (intro hlq; (try simp only [SL] at hlq)) | refine Ks ?_ | refine Kq ?_ | refine Kt ?_ | refine Ka ?_ | refine Kb ?_ | refine Kc (hd := rfl) (e := ?_) | refine Kc (hd := Cond.cells_eq _) (e := ?_) | refine Kd (e := ?_) | refine Kl rfl ?_ | fail) <;> ((conv => whnf); repeat' (refine Z rfl ?_; conv => whnf)))
   have hlt : (n / 10).toNat < n.toNat := by omega
   refine Meets.k (decimal_meets (n / 10) (by omega) (by omega)) ?_
   have := itoa_le (n / 10) (by omega) (by omega)
   ((conv => whnf); repeat' (refine Z rfl ?_; conv => whnf))
   refine Ks ?_ ?_
   rotate_left
   · have h3 := congrArg List.length hd
     rw [← e1] at h3
     exact Nat.le_trans (Nat.add_le_add this (Nat.le_of_eq h3)) (by simp)
   ((conv => whnf); repeat' (refine Z rfl ?_; conv => whnf))
   refine ⟨congrArg D.str ?_⟩
   rw [itoa_big h2, e1]
   exact congrArg _ hd
termination_by n.toNat
decreasing_by exact hlt
theorem twoT_eq {n : Int} (h0 : 0 ≤ n) (h1 : n < 100) : twoT n = Lib.itoa (n / 10) ++ Lib.itoa (n % 10) := by
 rw [twoT, itoa_big (by omega : ¬ 100 + n < 10), itoa_big (by omega : ¬ (100 + n) / 10 < 10), itoa_small (by omega : (0 : Int) ≤ (100 + n) / 10 / 10) (by omega), itoa_small (by omega : 0 ≤ n / 10) (by omega), itoa_small (by omega : 0 ≤ n % 10) (by omega),
  show ((100 + n) / 10 % 10).toNat = (n / 10).toNat by omega, show ((100 + n) % 10).toNat = (n % 10).toNat by omega]
 rfl
theorem rtwo_meets (n : Int) (h0 : 0 ≤ n) (h1 : n < 100) : Meets Tryz.prog 186 [iD n] fun d => d = .str (twoT n) := by
 have f1 := itoa_le (n / 10) (by omega) (by omega)
 have f2 := itoa_le (n % 10) (by omega) (by omega)
 rw [twoT_eq h0 h1]
 refine enter tok {} Tryz.func186 rfl (by kernel_rfl) Tryz.ntmps186 (by simp) fun B0 W0 V0 lent g0 => ?_
 ((conv => whnf); repeat' (refine Z rfl ?_; conv => whnf))
 repeat' ((first | (intro hlq; (try simp only [SL] at hlq)) | refine Meets.k (decimal_meets _ (by omega) (by omega)) ?_ | refine Ks ?_ | refine Kq ?_ | refine Kt ?_ | ((refine Kh (fun hb => ?_) fun hb => ?_) <;> (try simp only [BL] at hb)) | refine Ka ?_ | refine Kb ?_ | refine Kc (hd := rfl) (e := ?_) | refine Kc (hd := Cond.cells_eq _) (e := ?_) | refine Kd (e := ?_) | refine Kl rfl ?_ | fail) <;> ((conv => whnf); repeat' (refine Z rfl ?_; conv => whnf)))
 exact ⟨rfl⟩
theorem six_eq {u : Int} (h0 : 0 ≤ u) (h1 : u < 1000000) : (Lib.itoa (1000000 + u)).drop 1 =
 [UInt8.ofNat (48 + (u / 100000 % 10).toNat), UInt8.ofNat (48 + (u / 10000 % 10).toNat), UInt8.ofNat (48 + (u / 1000 % 10).toNat), UInt8.ofNat (48 + (u / 100 % 10).toNat), UInt8.ofNat (48 + (u / 10 % 10).toNat), UInt8.ofNat (48 + (u % 10).toNat)] := by
 rw [itoa_big (by omega : ¬ 1000000 + u < 10), itoa_big (by omega : ¬ (1000000 + u) / 10 < 10), itoa_big (by omega : ¬ (1000000 + u) / 10 / 10 < 10), itoa_big (by omega : ¬ (1000000 + u) / 10 / 10 / 10 < 10),
  itoa_big (by omega : ¬ (1000000 + u) / 10 / 10 / 10 / 10 < 10), itoa_big (by omega : ¬ (1000000 + u) / 10 / 10 / 10 / 10 / 10 < 10), itoa_small (by omega : (0 : Int) ≤ (1000000 + u) / 10 / 10 / 10 / 10 / 10 / 10) (by omega),
  show ((1000000 + u) / 10 / 10 / 10 / 10 / 10 % 10).toNat = (u / 100000 % 10).toNat by omega, show ((1000000 + u) / 10 / 10 / 10 / 10 % 10).toNat = (u / 10000 % 10).toNat by omega, show ((1000000 + u) / 10 / 10 / 10 % 10).toNat = (u / 1000 % 10).toNat by omega,
  show ((1000000 + u) / 10 / 10 % 10).toNat = (u / 100 % 10).toNat by omega, show ((1000000 + u) / 10 % 10).toNat = (u / 10 % 10).toNat by omega, show ((1000000 + u) % 10).toNat = (u % 10).toNat by omega]
 rfl
theorem ofNat_48 {k : Nat} (hk : k < 10) (h : UInt8.ofNat (48 + k) = 48) : k = 0 := by
 have := congrArg UInt8.toNat h
 simp at this
 omega
theorem trim_snoc (l : List UInt8) (c : UInt8) : Lib.trimRightB (l ++ [c]) 48 = if c = 48 then Lib.trimRightB l 48 else l ++ [c] := by
 simp only [Lib.trimRightB, List.reverse_append, List.reverse_cons, List.reverse_nil, List.nil_append, List.singleton_append, List.dropWhile_cons, beq_iff_eq]
 split <;> simp
theorem dw_nil {p : UInt8 → Bool} : ∀ {l : List UInt8}, l.dropWhile p = [] → ∀ x ∈ l, p x = true
 | [], _, x, hx => by cases hx
 | y :: l, h, x, hx => by
   rw [List.dropWhile_cons] at h
   split at h
   · rcases List.mem_cons.1 hx with rfl | hx
     · assumption
     · exact dw_nil h x hx
   · cases h
theorem trim_nil {l : List UInt8} (h : Lib.trimRightB l 48 = []) : ∀ x ∈ l, x = 48 := by
 have h : List.dropWhile (fun b => b == 48) l.reverse = [] := by simpa [Lib.trimRightB] using h
 intro x hx
 have := dw_nil h x (by simpa using hx)
 simpa using this
theorem six_trim {u : Int} (h0 : 0 < u) (h1 : u < 1000000) : Lib.trimRightB ((Lib.itoa (1000000 + u)).drop 1) 48 ≠ [] := by
 intro h
 have h := trim_nil h
 rw [six_eq (by omega) h1] at h
 simp only [List.mem_cons, List.not_mem_nil, or_false, forall_eq_or_imp, forall_eq] at h
 obtain ⟨a, b, c, d, e, f⟩ := h
 have := ofNat_48 (by omega) a
 have := ofNat_48 (by omega) b
 have := ofNat_48 (by omega) c
 have := ofNat_48 (by omega) d
 have := ofNat_48 (by omega) e
 have := ofNat_48 (by omega) f
 omega
theorem rTimeText_meets (t : Int) : Meets Tryz.prog 148 [iD t] fun d => d = .tup [.str (timeS t), iD (timeE t)] := by
 refine enter tok {} Tryz.func148 rfl (by kernel_rfl) Tryz.ntmps148 (by simp) fun B0 W0 V0 lent g0 => ?_
 ((conv => whnf); repeat' (refine Z rfl ?_; conv => whnf))
 repeat' ((first | (intro hlq; (try simp only [SL] at hlq)) | refine Ks ?_ | refine Kq ?_ | refine Kt ?_ | ((refine Kh (fun hb => ?_) fun hb => ?_) <;> (try simp only [BL] at hb)) | refine Ka ?_ | refine Kb ?_ | refine Kc (hd := rfl) (e := ?_) | refine Kc (hd := Cond.cells_eq _) (e := ?_) | refine Kd (e := ?_) | refine Kl rfl ?_ | fail) <;> ((conv => whnf); repeat' (refine Z rfl ?_; conv => whnf)))
 · refine ⟨?_⟩
   rw [(timeS_out (.inl (by assumption))).1, (timeS_out (.inl (by assumption))).2]
 · refine ⟨?_⟩
   rw [(timeS_out (.inr (by assumption))).1, (timeS_out (.inr (by assumption))).2]
 · refine ⟨fun _ => i64 (by omega) (by omega), ?_⟩
   ((conv => whnf); repeat' (refine Z rfl ?_; conv => whnf))
   have hlt : (if -t < 0 then 1 else 0 : Nat) < (if t < 0 then 1 else 0 : Nat) := by rw [if_neg (by omega), if_pos (by omega)]; omega
   refine Meets.k (rTimeText_meets (-t)) ?_
   ((conv => whnf); repeat' (refine Z rfl ?_; conv => whnf))
   have := timeS_le (-t)
   repeat' ((first | (intro hlq; (try simp only [SL] at hlq)) | refine Ks ?_ | refine Kq ?_ | refine Kt ?_ | refine Ka ?_ | refine Kb ?_ | refine Kc (hd := rfl) (e := ?_) | refine Kc (hd := Cond.cells_eq _) (e := ?_) | refine Kd (e := ?_) | refine Kl rfl ?_ | fail) <;> ((conv => whnf); repeat' (refine Z rfl ?_; conv => whnf)))
   refine ⟨?_⟩
   rw [timeS_eq (by assumption) (by assumption), timeE_eq (by assumption) (by assumption), timeS_eq (by omega) (by omega), timeE_eq (by omega) (by omega), if_neg (by omega : ¬ -t < 0), if_pos (by assumption), show max (-t) (- -t) = max t (-t) by omega]
   rfl
 have e0 : max t (-t) = t := by omega
 have f1 := itoa_le (t / 1000000 / 60) (by omega) (by omega)
 have f2 := itoa_le (t / 1000000 / 3600) (by omega) (by omega)
 have f3 := twoT_le (t / 1000000 % 60) (by omega) (by omega)
 have f4 := twoT_le (t / 1000000 / 60 % 60) (by omega) (by omega)
 have f5 := itoa_le (1000000 + t % 1000000) (by omega) (by omega)
 have f6 := itoa_pos (1000000 + t % 1000000)
 repeat' ((first | (intro hlq; (try simp only [SL] at hlq)) | refine Meets.k (decimal_meets _ (by omega) (by omega)) ?_ | refine Meets.k (rtwo_meets _ (by omega) (by omega)) ?_ | refine Ks ?_ | refine Kq ?_ | refine Kt ?_ | ((refine Kh (fun hb => ?_) fun hb => ?_) <;> (try simp only [BL] at hb)) | refine Ka ?_ | refine Kb ?_ | refine Kc (hd := rfl) (e := ?_) | refine Kc (hd := Cond.cells_eq _) (e := ?_) | refine Kd (e := ?_) | refine Kl rfl ?_ | fail) <;> ((conv => whnf); repeat' (refine Z rfl ?_; conv => whnf)))
 all_goals try
  refine ⟨?_⟩
  rw [timeS_eq (by assumption) (by assumption), timeE_eq (by assumption) (by assumption), e0, clockT, fracT]
  simp [*]
  done
 all_goals
  have hne := six_trim (u := t % 1000000) (by omega) (by omega)
  have e7 : List.drop (Int.toNat 1) (List.take ((Lib.itoa (1000000 + t % 1000000)).length : Int).toNat (Lib.itoa (1000000 + t % 1000000))) = (Lib.itoa (1000000 + t % 1000000)).drop 1 := by simp
  have f8 : ((Lib.itoa (1000000 + t % 1000000)).drop 1).length ≤ 20 := by rw [List.length_drop]; omega
  refine loop_upd tok {} [] (X := List UInt8) (fun s => [(9, .d (.str s))]) (fun _ => []) [] (fun s => Lib.trimRightB s 48 = Lib.trimRightB ((Lib.itoa (1000000 + t % 1000000)).drop 1) 48 ∧ s.length ≤ 20) (fun s => s.length) ((Lib.itoa (1000000 + t % 1000000)).drop 1) ?_
  ((conv => whnf); repeat' (refine Z rfl ?_; conv => whnf))
  refine And.intro ?_ ⟨⟨rfl, f8⟩, fun s hΦ => ?_⟩
  · rw [← e7]
    repeat' (first | exact True.intro | exact rfl | refine And.intro ?_ ?_)
  obtain ⟨hs, hsl⟩ := hΦ
  rcases List.eq_nil_or_concat s with rfl | ⟨s, c, rfl⟩
  · exact absurd hs.symm hne
  rw [List.concat_eq_append] at hs hsl ⊢
  rw [trim_snoc] at hs
  rw [List.length_append, List.length_cons, List.length_nil] at hsl
  ((conv => whnf); repeat' (refine Z rfl ?_; conv => whnf))
  repeat' ((first | (intro hlq; (try simp only [SL] at hlq)) | refine Ks ?_ | refine Kq ?_ | refine Kt ?_ | refine Ka ?_ | refine Kb ?_ | refine Kc (hd := rfl) (e := ?_) | refine Kc (hd := Cond.cells_eq _) (e := ?_) | refine Kd (e := ?_) | refine Kl rfl ?_ | fail) <;> ((conv => whnf); repeat' (refine Z rfl ?_; conv => whnf)))
  refine ⟨c, ⟨by simp only [List.length_append, List.length_cons, List.length_nil]; omega, by simp⟩, ?_⟩
  ((conv => whnf); repeat' (refine Z rfl ?_; conv => whnf))
  refine ⟨fun h1 => ?_, fun h1 => ?_⟩ <;> (try simp only [BL] at h1) <;> ((conv => whnf); repeat' (refine Z rfl ?_; conv => whnf))
  · obtain rfl : c = 48 := UInt8.toNat_inj.1 (by have : (48 : UInt8).toNat = 48 := rfl; omega)
    rw [if_pos rfl] at hs
    repeat' ((first | (intro hlq; (try simp only [SL] at hlq)) | refine Ks ?_ | refine Kq ?_ | refine Kt ?_ | refine Ka ?_ | refine Kb ?_ | refine Kc (hd := rfl) (e := ?_) | refine Kc (hd := Cond.cells_eq _) (e := ?_) | refine Kd (e := ?_) | refine Kl rfl ?_ | fail) <;> ((conv => whnf); repeat' (refine Z rfl ?_; conv => whnf)))
    refine ⟨fun _ => by simp only [List.length_append, List.length_cons, List.length_nil]; omega, ?_⟩
    ((conv => whnf); repeat' (refine Z rfl ?_; conv => whnf))
    have e9 : (((s ++ [48]).length : Int) - 1).toNat = s.length := by simp
    refine ⟨⟨s, ?_, ⟨hs, by omega⟩, by simp⟩⟩
    repeat' (first | exact True.intro | exact rfl | refine And.intro ?_ ?_ | (refine congrArg D.str ?_; simp [e9, List.append_assoc]; done))
  · rw [if_neg (by rintro rfl; exact h1 rfl)] at hs
    repeat' ((first | (intro hlq; (try simp only [SL] at hlq)) | refine Ks ?_ | refine Kq ?_ | refine Kt ?_ | ((refine Kh (fun hb => ?_) fun hb => ?_) <;> (try simp only [BL] at hb)) | refine Ka ?_ | refine Kb ?_ | refine Kc (hd := rfl) (e := ?_) | refine Kc (hd := Cond.cells_eq _) (e := ?_) | refine Kd (e := ?_) | refine Kl rfl ?_ | fail) <;> ((conv => whnf); repeat' (refine Z rfl ?_; conv => whnf)))
    refine ⟨?_⟩
    rw [timeS_eq (by assumption) (by assumption), timeE_eq (by assumption) (by assumption), e0, clockT, fracT, ← hs]
    simp [*]
    try omega
termination_by (if t < 0 then 1 else 0 : Nat)
decreasing_by exact hlt
end Go.Proofs.YteckbkljaneppaaGreatDoor.Dx
