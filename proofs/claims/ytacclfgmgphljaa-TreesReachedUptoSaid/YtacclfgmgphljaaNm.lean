/- Chapter 10: the reference's tests of a rule (tests, Tests), Few, the laws' values. -/
import Derived.Test.YtacclfgmgphljaaNk
import Derived.Test.YtacclfgmgphljaaNl
import Derived.Test.YtacclfgmgphljaaNj
set_option linter.all false
namespace Go.Proofs.Ytacclfgmgphljaa.Dx
open Go Go.RowKit
set_option maxRecDepth 100000
set_option maxHeartbeats 16000000
theorem rtests_meets (l : List Step) (v : Int) (xs : List Int) (hok : ∀ s ∈ l, s.ok) (hr : Row v xs) :
 Meets Try.prog 76 [.sl (l.map Step.cells), iD v, .sl (xs.map icells)] fun d => d = .sl ((vals1 (xs ++ l.flatMap (Step.nums v))).map icells) := by
 have hsz : ∀ s ∈ l, Step.szL s.th < Step.szL l ∧ Step.szL s.el < Step.szL l := by
  intro s hs
  have h1 := szS_mem hs
  have h2 := s.sz_eq
  omega
 have hrow : ∀ i, Row v (vals1 (xs ++ (l.take i).flatMap (Step.nums v))) := fun i => hr.add fun x hx => by
  obtain ⟨c, _, hc⟩ := List.mem_flatMap.1 hx; exact snums_mem c hc
 refine enter tok {} Try.func76 rfl (by kernel_rfl) Try.ntmps76 (by simp) fun B0 W0 V0 lent g0 => ?_
 ((conv => whnf); repeat' (refine Z rfl ?_; conv => whnf))
 refine loop_upd tok {} [] (X := Nat) (fun i => [(7, iB i), (2, .d (.sl ((vals1 (xs ++ (l.take i).flatMap (Step.nums v))).map icells)))]) (fun _ => []) [] (fun i => i ≤ l.length) (fun i => l.length - i) 0 ?_
 ((conv => whnf); repeat' (refine Z rfl ?_; conv => whnf))
 refine And.intro ?_ ⟨by omega, fun i hi => ?_⟩
 · have hn := vals1_nil hr
   repeat' (first | exact True.intro | exact rfl | refine And.intro ?_ ?_ | (exact congrArg D.sl (by simp [vals1_sorted hr.sorted])) | (exact congrArg (List.map icells) (by simp [vals1_sorted hr.sorted])))
 ((conv => whnf); repeat' (refine Z rfl ?_; conv => whnf))
 repeat' ((first | (intro hlq; (try simp only [SL] at hlq)) | refine Ks ?_ | refine Kq ?_ | refine Kt ?_ | refine Ka ?_ | refine Kb ?_ | refine Kc (hd := rfl) (e := ?_) | refine Kc (hd := icells_eq _) (e := ?_) | refine Kd (e := ?_) | refine Kl rfl ?_ | fail) <;> ((conv => whnf); repeat' (refine Z rfl ?_; conv => whnf)))
 refine ⟨fun h1 => ?_, fun h1 => ?_⟩ <;> (try simp only [BL] at h1) <;> ((conv => whnf); repeat' (refine Z rfl ?_; conv => whnf))
 · have h1' : i < l.length := by omega
   have hmem := List.getElem_mem h1'
   have hszi := hsz _ hmem
   have hoki := Step.ok_iff.1 (hok _ hmem)
   have hc1 := numbers_meets v l[i].cond.kind l[i].cond.var l[i].cond.n l[i].cond.parts _ (by rw [cond_eta]; exact hoki.1) (hrow i)
   have hr1 := (hrow i).add (ys := (⟨l[i].cond.kind, l[i].cond.var, l[i].cond.n, l[i].cond.parts⟩ : Cond).nums v) fun x hx => nums_mem _ hx
   have hc2 := rtests_meets l[i].th v _ hoki.2.1.2 hr1
   have hr2 := hr1.add (ys := l[i].th.flatMap (Step.nums v)) fun x hx => by
    obtain ⟨c, _, hc⟩ := List.mem_flatMap.1 hx; exact snums_mem c hc
   have hc3 := rtests_meets l[i].el v _ hoki.2.2.2 hr2
   have hstep : vals1 (vals1 (vals1 (vals1 (xs ++ (l.take i).flatMap (Step.nums v)) ++ (⟨l[i].cond.kind, l[i].cond.var, l[i].cond.n, l[i].cond.parts⟩ : Cond).nums v) ++ l[i].th.flatMap (Step.nums v)) ++ l[i].el.flatMap (Step.nums v)) = vals1 (xs ++ (l.take (i + 1)).flatMap (Step.nums v)) := by
    rw [vals1_in, List.append_assoc, vals1_in, List.append_assoc, vals1_in, List.take_succ_eq_append_getElem h1', List.flatMap_append, cond_eta]
    simp [snums_eq v l[i]]
   rw [Cond.cells_eq] at hc1
   repeat' ((first | (intro hlq; (try simp only [SL] at hlq)) | refine Meets.k (hc1) ?_ | refine Meets.k (hc2) ?_ | refine Meets.k (hc3) ?_ | refine Ks ?_ | refine Kq ?_ | refine Kt ?_ | ((refine Kh (fun hb => ?_) fun hb => ?_) <;> (try simp only [BL] at hb)) | refine Ka ?_ | refine Kb ?_ | refine Kc (hd := rfl) (e := ?_) | refine Kc (hd := Step.cells_eq _) (e := ?_) | refine Kd (e := ?_) | refine Kl rfl ?_ | fail) <;> ((conv => whnf); repeat' (refine Z rfl ?_; conv => whnf)))
   refine ⟨⟨i + 1, ?_, by omega, by omega⟩⟩
   repeat' (first | exact True.intro | exact rfl | refine And.intro ?_ ?_ | (exact congrArg (fun l => D.sl (List.map icells l)) hstep) | (exact congrArg (fun l => D.sl (List.map icells l)) hstep.symm))
 · rw [List.take_of_length_le (by omega)]
   repeat' ((first | (intro hlq; (try simp only [SL] at hlq)) | refine Ks ?_ | refine Kq ?_ | refine Kt ?_ | refine Ka ?_ | refine Kb ?_ | refine Kc (hd := rfl) (e := ?_) | refine Kc (hd := icells_eq _) (e := ?_) | refine Kd (e := ?_) | refine Kl rfl ?_ | fail) <;> ((conv => whnf); repeat' (refine Z rfl ?_; conv => whnf)))
   exact ⟨rfl⟩
termination_by Step.szL l
decreasing_by all_goals (first | exact hszi.1 | exact hszi.2)
theorem row_zero (v : Int) : Row v [0] := ⟨by simp, fun x hx => by rw [List.mem_singleton.1 hx]; have := most_le v; omega⟩
theorem Tests_meets (l : List Step) (v : Int) (hok : ∀ s ∈ l, s.ok) : Meets Try.prog 51 [.sl (l.map Step.cells), iD v] fun d => d = .sl ((valsL l v).map icells) := by
 have ht := rtests_meets l v [0] hok (row_zero v)
 have e : vals1 ([0] ++ l.flatMap (Step.nums v)) = valsL l v := vals1_congr fun x => by simp [or_comm]
 rw [e] at ht
 refine enter tok {} Try.func51 rfl (by kernel_rfl) Try.ntmps51 (by simp) fun B0 W0 V0 lent g0 => ?_
 ((conv => whnf); repeat' (refine Z rfl ?_; conv => whnf))
 repeat' ((first | (intro hlq; (try simp only [SL] at hlq)) | refine Meets.k (rBounds_meets v) ?_ | refine Meets.k (ht) ?_ | refine Ks ?_ | refine Kq ?_ | refine Kt ?_ | ((refine Kh (fun hb => ?_) fun hb => ?_) <;> (try simp only [BL] at hb)) | refine Ka ?_ | refine Kb ?_ | refine Kc (hd := rfl) (e := ?_) | refine Kc (hd := icells_eq _) (e := ?_) | refine Kd (e := ?_) | refine Kl rfl ?_ | fail) <;> ((conv => whnf); repeat' (refine Z rfl ?_; conv => whnf)))
 exact ⟨rfl⟩
end Go.Proofs.Ytacclfgmgphljaa.Dx
/- Chapter 10: Few, the laws' values, TreesMeaning. -/
namespace Go.Proofs.Ytacclfgmgphljaa.Dx
open Go Go.RowKit
set_option maxRecDepth 100000
set_option maxHeartbeats 16000000
noncomputable def prodN (l : List Step) : Nat → Nat
 | 0 => 1
 | k + 1 => prodN l k * (valsL l (1 + (k : Int))).length
theorem valsL_row (l : List Step) (v : Int) : Row v (valsL l v) := by
 have h := (row_zero v).add (ys := l.flatMap (Step.nums v)) fun x hx => by
  obtain ⟨c, _, hc⟩ := List.mem_flatMap.1 hx; exact snums_mem c hc
 have e : vals1 ([0] ++ l.flatMap (Step.nums v)) = valsL l v := vals1_congr fun x => by simp [or_comm]
 rwa [e] at h
theorem valsL_small (l : List Step) (v : Int) : (valsL l v).length ≤ 4001 := by
 have := (valsL_row l v).len
 have := most_le v
 omega
theorem prodN_le (l : List Step) : ∀ k, k ≤ 3 → prodN l k ≤ 64048012001
 | 0, _ => by simp [prodN]
 | 1, _ => by have := valsL_small l (1 + ((0 : Nat) : Int)); simp only [prodN]; omega
 | 2, _ => by
   have h1 := valsL_small l (1 + ((0 : Nat) : Int))
   have h2 := valsL_small l (1 + ((1 : Nat) : Int))
   have := Nat.mul_le_mul h1 h2
   simp only [prodN, Nat.one_mul] at *; omega
 | 3, _ => by
   have h1 := valsL_small l (1 + ((0 : Nat) : Int))
   have h2 := valsL_small l (1 + ((1 : Nat) : Int))
   have h3 := valsL_small l (1 + ((2 : Nat) : Int))
   have := Nat.mul_le_mul (Nat.mul_le_mul h1 h2) h3
   simp only [prodN, Nat.one_mul] at *; omega
 | k + 4, h => by omega
theorem prodN_three (l : List Step) : prodN l 3 = (valsL l 1).length * (valsL l 2).length * (valsL l 3).length := by
 simp only [prodN, Nat.one_mul]; rfl
theorem rFew_meets (l : List Step) (hok : ∀ s ∈ l, s.ok) : Meets Try.prog 21 [.sl (l.map Step.cells)] fun d => ∃ b, d = bD b ∧ (b = true → (valsL l 1).length * (valsL l 2).length * (valsL l 3).length ≤ 300) := by
 refine enter tok {} Try.func21 rfl (by kernel_rfl) Try.ntmps21 (by simp) fun B0 W0 V0 lent g0 => ?_
 ((conv => whnf); repeat' (refine Z rfl ?_; conv => whnf))
 refine (Few_meets l).mono fun d hd => ?_
 obtain ⟨b, rfl⟩ := hd
 cases b with
 | false => 
   ((conv => whnf); repeat' (refine Z rfl ?_; conv => whnf))
   repeat' ((first | (intro hlq; (try simp only [SL] at hlq)) | refine Ks ?_ | refine Kq ?_ | refine Kt ?_ | ((refine Kh (fun hb => ?_) fun hb => ?_) <;> (try simp only [BL] at hb)) | refine Ka ?_ | refine Kb ?_ | refine Kc (hd := rfl) (e := ?_) | refine Kc (hd := icells_eq _) (e := ?_) | refine Kd (e := ?_) | refine Kl rfl ?_ | fail) <;> ((conv => whnf); repeat' (refine Z rfl ?_; conv => whnf)))
   all_goals first
    | exact ⟨⟨_, rfl, fun h => by cases h⟩⟩
    | (exfalso; revert hb; simp; done)
 | true =>
   ((conv => whnf); repeat' (refine Z rfl ?_; conv => whnf))
   repeat' ((first | (intro hlq; (try simp only [SL] at hlq)) | refine Ks ?_ | refine Kq ?_ | refine Kt ?_ | ((refine Kh (fun hb => ?_) fun hb => ?_) <;> (try simp only [BL] at hb)) | refine Ka ?_ | refine Kb ?_ | refine Kc (hd := rfl) (e := ?_) | refine Kc (hd := icells_eq _) (e := ?_) | refine Kd (e := ?_) | refine Kl rfl ?_ | fail) <;> ((conv => whnf); repeat' (refine Z rfl ?_; conv => whnf)))
   all_goals try (exfalso; revert hb; simp; done)
   refine loop_upd tok {} [] (X := Nat) (fun i => [(4, iB (1 + (i : Int))), (3, iB (prodN l i : Nat))]) (fun _ => []) [] (fun i => i ≤ 3) (fun i => 3 - i) 0 ?_
   ((conv => whnf); repeat' (refine Z rfl ?_; conv => whnf))
   refine And.intro ?_ ⟨by omega, fun i hi => ?_⟩
   · exact Kr
   ((conv => whnf); repeat' (refine Z rfl ?_; conv => whnf))
   refine ⟨fun h1 => ?_, fun h1 => ?_⟩ <;> (try simp only [BL] at h1) <;> ((conv => whnf); repeat' (refine Z rfl ?_; conv => whnf))
   · have hi3 : i < 3 := by omega
     have ht := Tests_meets l (1 + (i : Int)) hok
     have hpl := prodN_le l (i + 1) (by omega)
     have hmul : ((prodN l i : Nat) : Int) * (((valsL l (1 + (i : Int))).map icells).length : Int) = ((prodN l (i + 1) : Nat) : Int) := by
      rw [List.length_map, prodN, Int.natCast_mul]
     repeat' ((first | (intro hlq; (try simp only [SL] at hlq)) | refine Meets.k (ht) ?_ | refine Ks ?_ | refine Kq ?_ | refine Kt ?_ | ((refine Kh (fun hb => ?_) fun hb => ?_) <;> (try simp only [BL] at hb)) | refine Ka ?_ | refine Kb ?_ | refine Kc (hd := rfl) (e := ?_) | refine Kc (hd := icells_eq _) (e := ?_) | refine Kd (e := ?_) | refine Kl rfl ?_ | fail) <;> ((conv => whnf); repeat' (refine Z rfl ?_; conv => whnf)))
     refine ⟨⟨i + 1, ?_, by omega, by omega⟩⟩
     repeat' (first | exact True.intro | exact rfl | refine And.intro ?_ ?_ | (exact congrArg iD hmul) | (exact congrArg iD hmul.symm) | ((refine congrArg iD ?_; omega)))
   · have hi' : i = 3 := by omega
     subst hi'
     refine ⟨⟨_, rfl, fun h => ?_⟩⟩
     rw [decide_eq_true_eq, prodN_three] at h
     omega
theorem step_len : ∀ q : List Step, ∀ ds ∈ q.map Step.cells, ds.length = 8 := by
 intro q ds hd
 obtain ⟨s, _, rfl⟩ := List.mem_map.1 hd
 rw [Step.cells_eq]; rfl
theorem values_meets (l m : List Step) (v : Int) (hl : l.length + m.length ≤ 1048576) (hok : ∀ s ∈ l, s.ok) (hom : ∀ s ∈ m, s.ok) :
 Meets Try.prog 25 [.sl (l.map Step.cells), .sl (m.map Step.cells), iD v] fun d => d = .sl ((valsL (l ++ m) v).map icells) := by
 have ht := Tests_meets (l ++ m) v (fun s hs => (List.mem_append.1 hs).elim (hok s) (hom s))
 rw [List.map_append] at ht
 have hall : ∀ q : List Step, ∀ ds ∈ q.map Step.cells, ds.length = 8 := step_len
 refine enter tok {} Try.func25 rfl (by kernel_rfl) Try.ntmps25 (by simp) fun B0 W0 V0 lent g0 => ?_
 ((conv => whnf); repeat' (refine Z rfl ?_; conv => whnf))
 repeat' ((first | (intro hlq; (try simp only [SL] at hlq)) | refine Ks ?_ | refine Kq ?_ | refine Kt ?_ | refine Ka ?_ | refine Kb ?_ | refine Kc (hd := rfl) (e := ?_) | refine Kc (hd := icells_eq _) (e := ?_) | refine Kd (e := ?_) | refine Kl rfl ?_ | fail) <;> ((conv => whnf); repeat' (refine Z rfl ?_; conv => whnf)))
 refine ⟨hall l, ?_⟩
 ((conv => whnf); repeat' (refine Z rfl ?_; conv => whnf))
 refine ⟨⟨(Kap True.intro ?_ (by decide)).1, by simp⟩, ?_⟩
 · simp only [List.length_map, List.length_nil]; omega
 ((conv => whnf); repeat' (refine Z rfl ?_; conv => whnf))
 repeat' ((first | (intro hlq; (try simp only [SL] at hlq)) | refine Ks ?_ | refine Kq ?_ | refine Kt ?_ | refine Ka ?_ | refine Kb ?_ | refine Kc (hd := rfl) (e := ?_) | refine Kc (hd := icells_eq _) (e := ?_) | refine Kd (e := ?_) | refine Kl rfl ?_ | fail) <;> ((conv => whnf); repeat' (refine Z rfl ?_; conv => whnf)))
 refine ⟨hall m, ?_⟩
 ((conv => whnf); repeat' (refine Z rfl ?_; conv => whnf))
 refine Kap ?_ ?_ ?_
 rotate_left 1
 · simp only [List.length_append, List.length_map, List.length_nil]; omega
 · decide
 ((conv => whnf); repeat' (refine Z rfl ?_; conv => whnf))
 repeat' ((first | (intro hlq; (try simp only [SL] at hlq)) | refine Meets.k (ht) ?_ | refine Ks ?_ | refine Kq ?_ | refine Kt ?_ | ((refine Kh (fun hb => ?_) fun hb => ?_) <;> (try simp only [BL] at hb)) | refine Ka ?_ | refine Kb ?_ | refine Kc (hd := rfl) (e := ?_) | refine Kc (hd := icells_eq _) (e := ?_) | refine Kd (e := ?_) | refine Kl rfl ?_ | fail) <;> ((conv => whnf); repeat' (refine Z rfl ?_; conv => whnf)))
 exact ⟨rfl⟩
end Go.Proofs.Ytacclfgmgphljaa.Dx
/- The reference of chapter 10: Path, Eval, starts. -/
namespace Go.Proofs.Ytacclfgmgphljaa.Dx
open Go Go.RowKit
set_option maxRecDepth 100000
set_option maxHeartbeats 16000000
theorem rnext_meets (n : Node) (x : Env) : Meets Try.prog 73 [n.d, x.d] fun d => d = iD (if n.n ≤ x.value n.var then n.yes else n.no) := by
 refine enter tok {} Try.func73 rfl (by kernel_rfl) Try.ntmps73 (by simp) fun B0 W0 V0 lent g0 => ?_
 ((conv => whnf); repeat' (refine Z rfl ?_; conv => whnf))
 refine draw_rule tok (cf := {}) (by kernel_rfl) [.p 0, .p 1, .p 2, .p 4, .p 5, .s 3 [1,2,0], .p 6] (by kernel_rfl) ?_
 ((conv => whnf); repeat' (refine Z rfl ?_; conv => whnf))
 repeat' ((first | (intro hlq; (try simp only [SL] at hlq)) | refine Meets.k (rvalue_meets n.var x) ?_ | refine Ks ?_ | refine Kq ?_ | refine Kt ?_ | ((refine Kh (fun hb => ?_) fun hb => ?_) <;> (try simp only [BL] at hb)) | refine Ka ?_ | refine Kb ?_ | refine Kc (hd := rfl) (e := ?_) | refine Kc (hd := icells_eq _) (e := ?_) | refine Kd (e := ?_) | refine Kl rfl ?_ | fail) <;> ((conv => whnf); repeat' (refine Z rfl ?_; conv => whnf)))
 all_goals refine ⟨congrArg iD ?_⟩
 · rw [if_pos (by omega)]
 · rw [if_neg (by omega)]
theorem pathI_last {ns : List Node} {x : Env} {t : Tr} : ∀ {i : Nat}, Den ns i t → ∃ pre j, pathI ns t i x = pre ++ [j] ∧ ns[j]? = some ⟨0, 0, 0, 0, t.eval x⟩ := by
 induction t with
 | leaf c =>
   intro i h
   cases h with
   | leaf _ _ h => exact ⟨[], i, rfl, h⟩
 | node v n y o ihy iho =>
   intro i h
   cases h with
   | node _ _ _ yi oi _ _ hg hv hy ho =>
     rw [pathI, show yesI ns i = yi from by simp [yesI, hg], show noI ns i = oi from by simp [noI, hg], Tr.eval]
     split
     · obtain ⟨pre, j, h1, h2⟩ := ihy hy
       exact ⟨i :: pre, j, by rw [h1]; rfl, h2⟩
     · obtain ⟨pre, j, h1, h2⟩ := iho ho
       exact ⟨i :: pre, j, by rw [h1]; rfl, h2⟩
theorem path_meets {ns : List Node} {d : Nat → Tr} (hf : Forest ns d) (hpos : 0 < ns.length) (hl : ns.length ≤ 100000) (x : Env) :
 Meets Try.prog 46 [treeD ns, x.d] fun r => r = .sl ((pathI ns (d 0) 0 x).map ncells) := by
 have hroot := hf.den 0 hpos
 have hplen := pathI_len (x := x) hf hroot
 refine enter tok {} Try.func46 rfl (by kernel_rfl) Try.ntmps46 (by simp) fun B0 W0 V0 lent g0 => ?_
 ((conv => whnf); repeat' (refine Z rfl ?_; conv => whnf))
 repeat' ((first | (intro hlq; (try simp only [SL] at hlq)) | refine Ks ?_ | refine Kq ?_ | refine Kt ?_ | refine Ka ?_ | refine Kb ?_ | refine Kc (hd := rfl) (e := ?_) | refine Kc (hd := icells_eq _) (e := ?_) | refine Kd (e := ?_) | refine Kl rfl ?_ | fail) <;> ((conv => whnf); repeat' (refine Z rfl ?_; conv => whnf)))
 refine loop_upd tok {} [(.inl 5, 5, 3, 1)] (X := (Nat × Tr) × List Nat) (fun s => [(6, iB (s.1.1 : Int)), (5, .own 5)]) (fun s => [(5, .sl ⟨3, 1, (s.2 ++ [s.1.1]).map ncells, true⟩)]) [] (fun s => Den ns s.1.1 s.1.2 ∧ s.2 ++ pathI ns s.1.2 s.1.1 x = pathI ns (d 0) 0 x) (fun s => s.1.2.sz) ((0, d 0), []) ?_
 ((conv => whnf); repeat' (refine Z rfl ?_; conv => whnf))
 refine ⟨by simp, ?_⟩
 ((conv => whnf); repeat' (refine Z rfl ?_; conv => whnf))
 refine And.intro ?_ ⟨⟨hroot, rfl⟩, fun s hΦ => ?_⟩
 · exact Kr
 obtain ⟨⟨at_, tr⟩, done⟩ := s
 obtain ⟨hden, hp⟩ := hΦ
 dsimp only at hden hp
 have hal := hden.lt
 have hdl : done.length + 1 ≤ ns.length := by
  obtain ⟨r, e⟩ := pathI_head (ns := ns) (t := tr) (i := at_) (x := x)
  rw [← hp, e, List.length_append, List.length_cons] at hplen
  omega
 cases hden with
 | leaf _ c hc =>
   ((conv => whnf); repeat' (refine Z rfl ?_; conv => whnf))
   repeat' ((first | (intro hlq; (try simp only [SL] at hlq)) | refine Kn ⟨0, 0, 0, 0, c⟩ ⟨by omega, by rw [Int.toNat_natCast, hc]⟩ ?_ | refine Ks ?_ | refine Kq ?_ | refine Kt ?_ | ((refine Kh (fun hb => ?_) fun hb => ?_) <;> (try simp only [BL] at hb)) | refine Ka ?_ | refine Kb ?_ | refine Kc (hd := rfl) (e := ?_) | refine Kc (hd := icells_eq _) (e := ?_) | refine Kd (e := ?_) | refine Kl rfl ?_ | fail) <;> ((conv => whnf); repeat' (refine Z rfl ?_; conv => whnf)))
   · exact absurd rfl hb
   · refine ⟨?_⟩
     rw [← hp]; rfl
 | node _ v n y o ty to_ hc hv hy ho =>
   have hnx := rnext_meets ⟨v, n, (y : Int), (o : Int), []⟩ x
   obtain ⟨j, tz, hj, hdz, hpz, hsz⟩ : ∃ (j : Nat) (tz : Tr), (if n ≤ x.value v then (y : Int) else (o : Int)) = (j : Int) ∧ Den ns j tz ∧ (done ++ [at_]) ++ pathI ns tz j x = pathI ns (d 0) 0 x ∧ tz.sz < (Tr.node v n ty to_).sz := by
    rw [pathI, show yesI ns at_ = y from by simp [yesI, hc], show noI ns at_ = o from by simp [noI, hc]] at hp
    have := to_.sz_pos; have := ty.sz_pos
    by_cases h : n ≤ x.value v
    · rw [if_pos h] at hp
      exact ⟨y, ty, if_pos h, hy, by rw [← hp]; simp, by simp only [Tr.sz]; omega⟩
    · rw [if_neg h] at hp
      exact ⟨o, to_, if_neg h, ho, by rw [← hp]; simp, by simp only [Tr.sz]; omega⟩
   dsimp only at hnx
   rw [hj] at hnx
   ((conv => whnf); repeat' (refine Z rfl ?_; conv => whnf))
   repeat' ((first | (intro hlq; (try simp only [SL] at hlq)) | refine Kn ⟨v, n, (y : Int), (o : Int), []⟩ ⟨by omega, by rw [Int.toNat_natCast, hc]⟩ ?_ | refine Ks ?_ | refine Kq ?_ | refine Kt ?_ | ((refine Kh (fun hb => ?_) fun hb => ?_) <;> (try simp only [BL] at hb)) | refine Ka ?_ | refine Kb ?_ | refine Kc (hd := rfl) (e := ?_) | refine Kc (hd := icells_eq _) (e := ?_) | refine Kd (e := ?_) | refine Kl rfl ?_ | fail) <;> ((conv => whnf); repeat' (refine Z rfl ?_; conv => whnf)))
   · refine draw_rule tok (cf := {}) (by kernel_rfl) [.p 0, .p 1, .p 2, .p 3, .p 4, .p 5, .s 6 [4,5,3,1,2,0], .p 7] (by kernel_rfl) ?_
     ((conv => whnf); repeat' (refine Z rfl ?_; conv => whnf))
     repeat' ((first | (intro hlq; (try simp only [SL] at hlq)) | refine Kn ⟨v, n, (y : Int), (o : Int), []⟩ ⟨by omega, by rw [Int.toNat_natCast, hc]⟩ ?_ | refine Meets.k (hnx) ?_ | refine Ks ?_ | refine Kq ?_ | refine Kt ?_ | ((refine Kh (fun hb => ?_) fun hb => ?_) <;> (try simp only [BL] at hb)) | refine Ka ?_ | refine Kb ?_ | refine Kc (hd := rfl) (e := ?_) | refine Kc (hd := icells_eq _) (e := ?_) | refine Kd (e := ?_) | refine Kl rfl ?_ | fail) <;> ((conv => whnf); repeat' (refine Z rfl ?_; conv => whnf)))
     refine ⟨by simp, ?_⟩
     ((conv => whnf); repeat' (refine Z rfl ?_; conv => whnf))
     refine Kap ?_ ?_ ?_
     rotate_left 1
     · simp only [List.length_map, List.length_append, List.length_cons, List.length_nil]; omega
     · decide
     ((conv => whnf); repeat' (refine Z rfl ?_; conv => whnf))
     refine ⟨⟨((j, tz), done ++ [at_]), ?_, ⟨hdz, hpz⟩, hsz⟩⟩
     repeat' (first | exact True.intro | exact rfl | refine And.intro ?_ ?_ | ((simp; done)))
   · exact absurd hv hb
theorem rEval_meets (ns : List Node) (hl : ns.length ≤ 100000) (x : Env) : Meets Try.prog 17 [treeD ns, x.d] fun d => d = .tup [.sl ((evalE ns x).1.map icells), iD (evalE ns x).2] := by
 refine enter tok {} Try.func17 rfl (by kernel_rfl) Try.ntmps17 (by simp) fun B0 W0 V0 lent g0 => ?_
 ((conv => whnf); repeat' (refine Z rfl ?_; conv => whnf))
 refine Meets.k (rCheck_meets ns) ?_
 ((conv => whnf); repeat' (refine Z rfl ?_; conv => whnf))
 refine ⟨fun h1 => ?_, fun h1 => ?_⟩ <;> (try simp only [BL] at h1) <;> ((conv => whnf); repeat' (refine Z rfl ?_; conv => whnf))
 · exact ⟨by rw [evalE, if_neg h1]; rfl⟩
 have hc : checkE ns = 0 := by omega
 obtain ⟨hlen, hok⟩ := checkE_iff.1 hc
 refine Meets.k (rEnv_meets x) ?_
 ((conv => whnf); repeat' (refine Z rfl ?_; conv => whnf))
 refine ⟨fun h2 => ?_, fun h2 => ?_⟩ <;> simp only [decide_eq_true_eq, decide_eq_false_iff_not] at h2
 · ((conv => whnf); repeat' (refine Z rfl ?_; conv => whnf))
   refine ⟨?_⟩
   have hg : x.good = false := by cases hg : x.good <;> simp_all
   rw [evalE, if_pos hc, hg]
   rfl
 have hg : x.good = true := by cases hg : x.good <;> simp_all
 have hpos : 0 < ns.length := List.length_pos_iff.2 hok.ne
 obtain ⟨d, hf⟩ := nodes_forest hok.nodes
 have hroot := hf.den 0 hpos
 have hres : evalE ns x = ((d 0).eval x, 0) := by rw [evalE, if_pos hc, if_pos hg, treeOf_eq hroot]
 obtain ⟨pre, j, hp, hj⟩ := pathI_last (x := x) hroot
 have hpm := path_meets hf hpos hl x
 rw [hp] at hpm
 ((conv => whnf); repeat' (refine Z rfl ?_; conv => whnf))
 refine Meets.k hpm ?_
 ((conv => whnf); repeat' (refine Z rfl ?_; conv => whnf))
 refine draw_rule tok (cf := {}) (by kernel_rfl) [.p 0, .p 1, .p 2, .p 3, .p 4, .p 5, .p 6, .p 7, .p 8, .p 9, .p 10, .p 11, .p 12] (by kernel_rfl) ?_
 ((conv => whnf); repeat' (refine Z rfl ?_; conv => whnf))
 have hix : ((((pre ++ [j]).map ncells).length : Int) - 1).toNat = pre.length := by simp
 have hget : ((pre ++ [j]).map ncells)[((((pre ++ [j]).map ncells).length : Int) - 1).toNat]? = some (ncells j) := by
  rw [hix, List.map_append, List.getElem?_append_right (by simp)]; simp
 repeat' ((first | (intro hlq; (try simp only [SL] at hlq)) | refine Ks ?_ | refine Kq ?_ | refine Kt ?_ | refine Ka ?_ | refine Kb ?_ | refine Kc (hd := rfl) (e := ?_) | refine Kc (hd := icells_eq _) (e := ?_) | refine Kd (e := ?_) | refine Kl rfl ?_ | fail) <;> ((conv => whnf); repeat' (refine Z rfl ?_; conv => whnf)))
 refine ⟨_, ⟨by simp, hget, rfl⟩, ?_⟩
 ((conv => whnf); repeat' (refine Z rfl ?_; conv => whnf))
 repeat' ((first | (intro hlq; (try simp only [SL] at hlq)) | refine Kn ⟨0, 0, 0, 0, (d 0).eval x⟩ ⟨by omega, by rw [Int.toNat_natCast, hj]⟩ ?_ | refine Ks ?_ | refine Kq ?_ | refine Kt ?_ | ((refine Kh (fun hb => ?_) fun hb => ?_) <;> (try simp only [BL] at hb)) | refine Ka ?_ | refine Kb ?_ | refine Kc (hd := rfl) (e := ?_) | refine Kc (hd := icells_eq _) (e := ?_) | refine Kd (e := ?_) | refine Kl rfl ?_ | fail) <;> ((conv => whnf); repeat' (refine Z rfl ?_; conv => whnf)))
 exact ⟨by rw [hres]⟩
/-- the numbers with which nodes compare a variable -/
def nodeNums (ns : List Node) (v : Int) : List Int := (ns.filter fun n => decide (n.var = v)).map Node.n
noncomputable def startsL (ns : List Node) (v : Int) : List Int := vals1 ([0] ++ nodeNums ns v)
theorem nodeNums_in {ns : List Node} (h : NodesOk ns) {v : Int} (hv : 1 ≤ v ∧ v ≤ 3) {k : Nat} : ∀ n ∈ nodeNums (ns.take k) v, 0 < n ∧ n ≤ Tr.most v := by
 intro n hn
 obtain ⟨x, hx, rfl⟩ := List.mem_map.1 hn
 rw [List.mem_filter, decide_eq_true_eq] at hx
 rcases h.1 x (List.mem_of_mem_take hx.1) with h1 | h1
 · have := h1.2.1; omega
 · have := h1.2.2.1; rw [hx.2] at this; exact this
theorem nodeNums_step {ns : List Node} {v : Int} {i : Nat} (h : i < ns.length) : nodeNums (ns.take (i + 1)) v = nodeNums (ns.take i) v ++ (if ns[i].var = v then [ns[i].n] else []) := by
 rw [nodeNums, nodeNums, List.take_succ_eq_append_getElem h, List.filter_append, List.map_append]
 congr 1
 simp only [List.filter_cons, List.filter_nil]
 by_cases e : ns[i].var = v
 · rw [if_pos (decide_eq_true e), if_pos e]; rfl
 · rw [if_neg (by simpa using e), if_neg e]; rfl
theorem startsL_row {ns : List Node} (h : NodesOk ns) {v : Int} (hv : 1 ≤ v ∧ v ≤ 3) (k : Nat) : Row v (startsL (ns.take k) v) :=
 Row.add ⟨by simp, fun x hx => by rw [List.mem_singleton.1 hx]; have := most_le v; omega⟩ (nodeNums_in h hv)
theorem starts_meets {ns : List Node} (h : NodesOk ns) (hl : ns.length ≤ 100000) (v : Int) (hv : 1 ≤ v ∧ v ≤ 3) : Meets Try.prog 48 [treeD ns, iD v] fun r => r = .sl ((startsL ns v).map icells) := by
 have hm := most_le v
 refine enter tok {} Try.func48 rfl (by kernel_rfl) Try.ntmps48 (by simp) fun B0 W0 V0 lent g0 => ?_
 ((conv => whnf); repeat' (refine Z rfl ?_; conv => whnf))
 repeat' ((first | (intro hlq; (try simp only [SL] at hlq)) | refine Meets.k (rBounds_meets v) ?_ | refine Ks ?_ | refine Kq ?_ | refine Kt ?_ | ((refine Kh (fun hb => ?_) fun hb => ?_) <;> (try simp only [BL] at hb)) | refine Ka ?_ | refine Kb ?_ | refine Kc (hd := rfl) (e := ?_) | refine Kc (hd := icells_eq _) (e := ?_) | refine Kd (e := ?_) | refine Kl rfl ?_ | fail) <;> ((conv => whnf); repeat' (refine Z rfl ?_; conv => whnf)))
 refine loop_upd tok {} [] (X := Nat) (fun i => [(8, iB i), (7, .d (.sl ((startsL (ns.take i) v).map icells)))]) (fun _ => []) [] (fun i => i ≤ ns.length) (fun i => ns.length - i) 0 ?_
 ((conv => whnf); repeat' (refine Z rfl ?_; conv => whnf))
 refine And.intro ?_ ⟨by omega, fun i hi => ?_⟩
 · have e : startsL (ns.take 0) v = [0] := vals1_sorted (by simp [nodeNums])
   repeat' (first | exact True.intro | exact rfl | refine And.intro ?_ ?_ | (exact congrArg D.sl (by rw [e]; rfl)) | (exact congrArg (List.map icells) e.symm))
 have hrow := startsL_row h hv i
 have hlen := hrow.len
 ((conv => whnf); repeat' (refine Z rfl ?_; conv => whnf))
 repeat' ((first | (intro hlq; (try simp only [SL] at hlq)) | refine Ks ?_ | refine Kq ?_ | refine Kt ?_ | refine Ka ?_ | refine Kb ?_ | refine Kc (hd := rfl) (e := ?_) | refine Kc (hd := icells_eq _) (e := ?_) | refine Kd (e := ?_) | refine Kl rfl ?_ | fail) <;> ((conv => whnf); repeat' (refine Z rfl ?_; conv => whnf)))
 refine ⟨fun h1 => ?_, fun h1 => ?_⟩ <;> (try simp only [BL] at h1) <;> ((conv => whnf); repeat' (refine Z rfl ?_; conv => whnf))
 · have h1' : i < ns.length := by omega
   have hst := nodeNums_step (v := v) h1'
   obtain ⟨x, hx⟩ : ∃ x, x = ns[i] := ⟨_, rfl⟩
   rw [← hx] at hst
   have hxi : 0 ≤ (i : Int) ∧ ns[(i : Int).toNat]? = some x := ⟨by omega, by rw [Int.toNat_natCast, List.getElem?_eq_getElem h1', hx]⟩
   have hw := with_meets (startsL (ns.take i) v) x.n hrow.sorted (by omega)
   repeat' ((first | (intro hlq; (try simp only [SL] at hlq)) | refine Kn x hxi ?_ | refine Meets.k (hw) ?_ | refine Ks ?_ | refine Kq ?_ | refine Kt ?_ | ((refine Kh (fun hb => ?_) fun hb => ?_) <;> (try simp only [BL] at hb)) | refine Ka ?_ | refine Kb ?_ | refine Kc (hd := rfl) (e := ?_) | refine Kc (hd := icells_eq _) (e := ?_) | refine Kd (e := ?_) | refine Kl rfl ?_ | fail) <;> ((conv => whnf); repeat' (refine Z rfl ?_; conv => whnf)))
   · have e : vals1 (startsL (ns.take i) v ++ [x.n]) = startsL (ns.take (i + 1)) v := by
      rw [startsL, startsL, vals1_in, hst, if_pos hb, List.append_assoc]
     refine ⟨⟨i + 1, ?_, by omega, by omega⟩⟩
     repeat' (first | exact True.intro | exact rfl | refine And.intro ?_ ?_ | (exact congrArg (fun l => D.sl (List.map icells l)) e) | (exact congrArg (fun l => D.sl (List.map icells l)) e.symm))
   · have e : startsL (ns.take i) v = startsL (ns.take (i + 1)) v := by
      rw [startsL, startsL, hst, if_neg hb, List.append_nil]
     refine ⟨⟨i + 1, ?_, by omega, by omega⟩⟩
     repeat' (first | exact True.intro | exact rfl | refine And.intro ?_ ?_ | (exact congrArg (fun l => D.sl (List.map icells l)) e) | (exact congrArg (fun l => D.sl (List.map icells l)) e.symm))
 · rw [List.take_of_length_le (by omega)]
   repeat' ((first | (intro hlq; (try simp only [SL] at hlq)) | refine Ks ?_ | refine Kq ?_ | refine Kt ?_ | refine Ka ?_ | refine Kb ?_ | refine Kc (hd := rfl) (e := ?_) | refine Kc (hd := icells_eq _) (e := ?_) | refine Kd (e := ?_) | refine Kl rfl ?_ | fail) <;> ((conv => whnf); repeat' (refine Z rfl ?_; conv => whnf)))
   exact ⟨rfl⟩
end Go.Proofs.Ytacclfgmgphljaa.Dx
