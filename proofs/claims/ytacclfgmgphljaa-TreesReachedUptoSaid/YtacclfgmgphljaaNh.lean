/- The reference of chapter 10: SameNode, Same, Bounds, leaf, inner, FewNodes. -/
import Derived.Test.YtacclfgmgphljaaNb
import Derived.Test.YtacclfgmgphljaaMo
set_option linter.all false
namespace Go.Proofs.Ytacclfgmgphljaa.Dx
open Go Go.RowKit
set_option maxRecDepth 100000
set_option maxHeartbeats 16000000
theorem rSameN_meets (a b : Node) : Meets Try.prog 39 [a.d, b.d] fun d => d = bD (decide (a = b)) := by
 refine enter tok {} Try.func39 rfl (by kernel_rfl) Try.ntmps39 (by simp) fun B0 W0 V0 lent g0 => ?_
 ((conv => whnf); repeat' (refine Z rfl ?_; conv => whnf))
 repeat' ((first | (intro hlq; (try simp only [SL] at hlq)) | refine Meets.k (Same_meets a.crit b.crit) ?_ | refine Ks ?_ | refine Kq ?_ | refine Kt ?_ | ((refine Kh (fun hb => ?_) fun hb => ?_) <;> (try simp only [BL] at hb)) | refine Ka ?_ | refine Kb ?_ | refine Kc (hd := rfl) (e := ?_) | refine Kc (hd := icells_eq _) (e := ?_) | refine Kd (e := ?_) | refine Kl rfl ?_ | fail) <;> ((conv => whnf); repeat' (refine Z rfl ?_; conv => whnf)))
 all_goals refine ⟨congrArg bD ?_⟩
 all_goals simp only [Node.e_iff]
 all_goals simp_all
theorem rBounds_meets (v : Int) : Meets Try.prog 71 [iD v] fun d => d = .tup [iD 0, iD (Tr.most v)] := by
 refine enter tok {} Try.func71 rfl (by kernel_rfl) Try.ntmps71 (by simp) fun B0 W0 V0 lent g0 => ?_
 ((conv => whnf); repeat' (refine Z rfl ?_; conv => whnf))
 repeat' ((first | (intro hlq; (try simp only [SL] at hlq)) | refine Ks ?_ | refine Kq ?_ | refine Kt ?_ | ((refine Kh (fun hb => ?_) fun hb => ?_) <;> (try simp only [BL] at hb)) | refine Ka ?_ | refine Kb ?_ | refine Kc (hd := rfl) (e := ?_) | refine Kc (hd := icells_eq _) (e := ?_) | refine Kd (e := ?_) | refine Kl rfl ?_ | fail) <;> ((conv => whnf); repeat' (refine Z rfl ?_; conv => whnf)))
 all_goals refine ⟨?_⟩
 all_goals simp_all [Tr.most]
theorem In_cut (l : List Int) (i : Nat) (n : Int) : Meets Try.prog 49 [.sl (((l.map icells).take (i : Int).toNat).drop (0 : Int).toNat), iD n] fun d => d = bD (hasI (l.take i) n) := by
 rw [cut_cells]; exact In_meets _ n
theorem rSame_meets (a b : List Node) : Meets Try.prog 14 [treeD a, treeD b] fun d => d = bD (decide (a = b)) := by
 refine enter tok {} Try.func14 rfl (by kernel_rfl) Try.ntmps14 (by simp) fun B0 W0 V0 lent g0 => ?_
 ((conv => whnf); repeat' (refine Z rfl ?_; conv => whnf))
 repeat' ((first | (intro hlq; (try simp only [SL] at hlq)) | refine Ks ?_ | refine Kq ?_ | refine Kt ?_ | ((refine Kh (fun hb => ?_) fun hb => ?_) <;> (try simp only [BL] at hb)) | refine Ka ?_ | refine Kb ?_ | refine Kc (hd := rfl) (e := ?_) | refine Kc (hd := icells_eq _) (e := ?_) | refine Kd (e := ?_) | refine Kl rfl ?_ | fail) <;> ((conv => whnf); repeat' (refine Z rfl ?_; conv => whnf)))
 · refine ⟨congrArg bD ?_⟩
   rw [decide_eq_false]
   rintro rfl
   omega
 have hlen : a.length = b.length := by omega
 refine loop_upd tok {} [] (X := Nat) (fun i => [(5, iB i)]) (fun _ => []) [] (fun i => i ≤ a.length ∧ a.take i = b.take i) (fun i => a.length - i) 0 ?_
 ((conv => whnf); repeat' (refine Z rfl ?_; conv => whnf))
 refine And.intro ?_ ⟨⟨by omega, by simp⟩, fun i hΦ => ?_⟩
 · exact Kr
 obtain ⟨hi, hp⟩ := hΦ
 ((conv => whnf); repeat' (refine Z rfl ?_; conv => whnf))
 repeat' ((first | (intro hlq; (try simp only [SL] at hlq)) | refine Ks ?_ | refine Kq ?_ | refine Kt ?_ | refine Ka ?_ | refine Kb ?_ | refine Kc (hd := rfl) (e := ?_) | refine Kc (hd := icells_eq _) (e := ?_) | refine Kd (e := ?_) | refine Kl rfl ?_ | fail) <;> ((conv => whnf); repeat' (refine Z rfl ?_; conv => whnf)))
 refine ⟨fun h1 => ?_, fun h1 => ?_⟩ <;> (try simp only [BL] at h1) <;> ((conv => whnf); repeat' (refine Z rfl ?_; conv => whnf))
 · have h1' : i < a.length := by omega
   have h1b : i < b.length := by omega
   refine draw_rule tok (cf := {}) (by kernel_rfl) [.p 0, .p 1, .p 2, .p 3, .p 4, .p 5, .p 6, .p 7, .p 8, .p 9, .s 10 [4,9,3,8,1,2,6,7,0,5], .p 11] (by kernel_rfl) ?_
   ((conv => whnf); repeat' (refine Z rfl ?_; conv => whnf))
   repeat' ((first | (intro hlq; (try simp only [SL] at hlq)) | refine Kn a[i] ⟨by omega, by rw [Int.toNat_natCast, List.getElem?_eq_getElem h1']⟩ ?_ | refine Kn b[i] ⟨by omega, by rw [Int.toNat_natCast, List.getElem?_eq_getElem h1b]⟩ ?_ | refine Meets.k (rSameN_meets a[i] b[i]) ?_ | refine Ks ?_ | refine Kq ?_ | refine Kt ?_ | ((refine Kh (fun hb => ?_) fun hb => ?_) <;> (try simp only [BL] at hb)) | refine Ka ?_ | refine Kb ?_ | refine Kc (hd := rfl) (e := ?_) | refine Kc (hd := icells_eq _) (e := ?_) | refine Kd (e := ?_) | refine Kl rfl ?_ | fail) <;> ((conv => whnf); repeat' (refine Z rfl ?_; conv => whnf)))
   · refine ⟨congrArg bD ?_⟩
     rw [decide_eq_false]
     rintro rfl
     simp at hb
   · refine ⟨⟨i + 1, ?_, ⟨by omega, ?_⟩, by omega⟩⟩
     · exact Kr
     have hb' : a[i] = b[i] := by simpa using hb
     rw [List.take_succ_eq_append_getElem h1', List.take_succ_eq_append_getElem h1b, hp, hb']
 · refine ⟨congrArg bD ?_⟩
   rw [List.take_of_length_le (by omega), List.take_of_length_le (by omega)] at hp
   rw [decide_eq_true hp]
open Classical in
theorem rLeaf_meets (n : Node) : Meets Try.prog 37 [n.d] fun d => d = bD (decide (Leaf n)) := by
 refine enter tok {} Try.func37 rfl (by kernel_rfl) Try.ntmps37 (by simp) fun B0 W0 V0 lent g0 => ?_
 ((conv => whnf); repeat' (refine Z rfl ?_; conv => whnf))
 repeat' ((first | (intro hlq; (try simp only [SL] at hlq)) | refine Ks ?_ | refine Kq ?_ | refine Kt ?_ | refine Ka ?_ | refine Kb ?_ | refine Kc (hd := rfl) (e := ?_) | refine Kc (hd := icells_eq _) (e := ?_) | refine Kd (e := ?_) | refine Kl rfl ?_ | fail) <;> ((conv => whnf); repeat' (refine Z rfl ?_; conv => whnf)))
 refine loop_upd tok {} [] (X := Nat) (fun i => [(3, iB i)]) (fun _ => []) [] (fun i => i ≤ n.crit.length ∧ critsB n.crit i) (fun i => n.crit.length - i) 0 ?_
 ((conv => whnf); repeat' (refine Z rfl ?_; conv => whnf))
 refine And.intro ?_ ⟨⟨by omega, by simp [critsB]⟩, fun i hΦ => ?_⟩
 · exact Kr
 obtain ⟨hi, hp⟩ := hΦ
 ((conv => whnf); repeat' (refine Z rfl ?_; conv => whnf))
 repeat' ((first | (intro hlq; (try simp only [SL] at hlq)) | refine Ks ?_ | refine Kq ?_ | refine Kt ?_ | refine Ka ?_ | refine Kb ?_ | refine Kc (hd := rfl) (e := ?_) | refine Kc (hd := icells_eq _) (e := ?_) | refine Kd (e := ?_) | refine Kl rfl ?_ | fail) <;> ((conv => whnf); repeat' (refine Z rfl ?_; conv => whnf)))
 refine ⟨fun h1 => ?_, fun h1 => ?_⟩ <;> (try simp only [BL] at h1) <;> ((conv => whnf); repeat' (refine Z rfl ?_; conv => whnf))
 · have h1' : i < n.crit.length := by omega
   have hst := critsB_step h1'
   have hno : ¬ ((1 ≤ n.crit[i] ∧ n.crit[i] ≤ 5) ∧ hasI (n.crit.take i) n.crit[i] = false) → decide (Leaf n) = false := fun h => decide_eq_false fun hl => crits_not h1' (fun hc => h (hst.1 hc).2) hl.1
   refine draw_rule tok (cf := {}) (by kernel_rfl) [.p 0, .p 1, .p 2, .p 3, .p 4, .p 5, .p 6, .p 7, .p 8, .p 9, .p 10, .p 11, .p 12, .p 13, .p 14, .p 15, .p 16, .p 17, .p 18, .p 19, .p 20, .p 21, .p 22, .p 23, .s 24 [18,23,14,16,17,22,13,6,15,20,21,12,5,19,11,4,10,3,8,9,1,2,7,0], .p 25] (by kernel_rfl) ?_
   ((conv => whnf); repeat' (refine Z rfl ?_; conv => whnf))
   repeat' ((first | (intro hlq; (try simp only [SL] at hlq)) | refine Meets.k (In_cut n.crit i n.crit[i]) ?_ | refine Ks ?_ | refine Kq ?_ | refine Kt ?_ | ((refine Kh (fun hb => ?_) fun hb => ?_) <;> (try simp only [BL] at hb)) | refine Ka ?_ | refine Kb ?_ | refine Kc (hd := rfl) (e := ?_) | refine Kc (hd := icells_eq _) (e := ?_) | refine Kd (e := ?_) | refine Kl rfl ?_ | fail) <;> ((conv => whnf); repeat' (refine Z rfl ?_; conv => whnf)))
   · exact ⟨congrArg bD (hno fun h => by omega).symm⟩
   · exact ⟨congrArg bD (hno fun h => by omega).symm⟩
   · exact ⟨congrArg bD (hno fun h => by rw [h.2] at hb; cases hb).symm⟩
   · refine ⟨⟨i + 1, ?_, ⟨by omega, hst.2 ⟨hp, by omega, hb⟩⟩, by omega⟩⟩
     repeat' (first | exact True.intro | exact rfl | refine And.intro ?_ ?_)
 · rw [critsB_all (by omega)] at hp
   repeat' ((first | (intro hlq; (try simp only [SL] at hlq)) | refine Ks ?_ | refine Kq ?_ | refine Kt ?_ | ((refine Kh (fun hb => ?_) fun hb => ?_) <;> (try simp only [BL] at hb)) | refine Ka ?_ | refine Kb ?_ | refine Kc (hd := rfl) (e := ?_) | refine Kc (hd := icells_eq _) (e := ?_) | refine Kd (e := ?_) | refine Kl rfl ?_ | fail) <;> ((conv => whnf); repeat' (refine Z rfl ?_; conv => whnf)))
   all_goals refine ⟨congrArg bD ?_⟩
   all_goals simp_all [Leaf]
open Classical in
theorem rInner_meets (ns : List Node) (n : Node) : Meets Try.prog 38 [treeD ns, n.d] fun d => d = bD (decide (Inner ns n)) := by
 have hin : ∀ y o : Node, (1 ≤ n.var ∧ n.var ≤ 3) → n.crit = [] → (0 < n.n ∧ n.n ≤ Tr.most n.var) → n.yes ≠ n.no → (0 ≤ n.yes ∧ ns[n.yes.toNat]? = some y) → (0 ≤ n.no ∧ ns[n.no.toNat]? = some o) →
  (Inner ns n ↔ (o.var = 0 ∨ n.var < o.var) ∧ (y.var = 0 ∨ n.var < y.var ∨ (y.var = n.var ∧ n.n < y.n ∧ y.no ≠ n.no))) := by
  intro y o h1 h2 h3 h4 h5 h6
  constructor
  · rintro ⟨_, _, _, _, y', o', ⟨_, hy⟩, ⟨_, ho⟩, h⟩
    rw [h5.2] at hy; rw [h6.2] at ho; cases hy; cases ho; exact h
  · exact fun h => ⟨h1, h2, h3, h4, y, o, h5, h6, h⟩
 have hat : ∀ i : Int, 0 ≤ i ∧ i < ns.length → ∃ x, 0 ≤ i ∧ ns[i.toNat]? = some x := fun i h => ⟨ns[i.toNat]'(by omega), h.1, List.getElem?_eq_getElem _⟩
 have hno : (¬ (1 ≤ n.var ∧ n.var ≤ 3) ∨ ¬ n.crit.length = 0 ∨ ¬ (0 < n.n ∧ n.n ≤ Tr.most n.var) ∨ n.yes = n.no ∨ ¬ (0 ≤ n.yes ∧ n.yes < ns.length) ∨ ¬ (0 ≤ n.no ∧ n.no < ns.length)) → decide (Inner ns n) = false := by
  intro h
  refine decide_eq_false ?_
  rintro ⟨h1, h2, h3, h4, y', o', ⟨h5, hy⟩, ⟨h6, ho⟩, _⟩
  have := (List.getElem?_eq_some_iff.1 hy).1
  have := (List.getElem?_eq_some_iff.1 ho).1
  rcases h with h | h | h | h | h | h
  · exact h h1
  · exact h (by rw [h2]; rfl)
  · exact h h3
  · exact h4 h
  · omega
  · omega
 refine enter tok {} Try.func38 rfl (by kernel_rfl) Try.ntmps38 (by simp) fun B0 W0 V0 lent g0 => ?_
 ((conv => whnf); repeat' (refine Z rfl ?_; conv => whnf))
 repeat' ((first | (intro hlq; (try simp only [SL] at hlq)) | refine Meets.k (rBounds_meets n.var) ?_ | refine Ks ?_ | refine Kq ?_ | refine Kt ?_ | ((refine Kh (fun hb => ?_) fun hb => ?_) <;> (try simp only [BL] at hb)) | refine Ka ?_ | refine Kb ?_ | refine Kc (hd := rfl) (e := ?_) | refine Kc (hd := icells_eq _) (e := ?_) | refine Kd (e := ?_) | refine Kl rfl ?_ | fail) <;> ((conv => whnf); repeat' ((fail_if_success (refine J_at 7 ?_)); refine Z rfl ?_; conv => whnf)))
 all_goals try exact ⟨congrArg bD (hno (by omega)).symm⟩
 have hy0 : 0 ≤ n.yes ∧ n.yes < ns.length := by omega
 have ho0 : 0 ≤ n.no ∧ n.no < ns.length := by omega
 obtain ⟨y, hy⟩ := hat _ hy0
 obtain ⟨o, ho⟩ := hat _ ho0
 have hc : n.crit = [] := List.eq_nil_of_length_eq_zero (by omega)
 have hin2 := hin y o (by omega) hc (by omega) (by omega) hy ho
 ((conv => whnf); repeat' (refine Z rfl ?_; conv => whnf))
 repeat' ((first | (intro hlq; (try simp only [SL] at hlq)) | refine Kn y hy ?_ | refine Kn o ho ?_ | refine Ks ?_ | refine Kq ?_ | refine Kt ?_ | ((refine Kh (fun hb => ?_) fun hb => ?_) <;> (try simp only [BL] at hb)) | refine Ka ?_ | refine Kb ?_ | refine Kc (hd := rfl) (e := ?_) | refine Kc (hd := icells_eq _) (e := ?_) | refine Kd (e := ?_) | refine Kl rfl ?_ | fail) <;> ((conv => whnf); repeat' (refine Z rfl ?_; conv => whnf)))
 all_goals refine ⟨congrArg bD ?_⟩
 all_goals first
  | exact (decide_eq_false fun h => by have := hin2.1 h; omega).symm
  | exact (decide_eq_true (hin2.2 (by omega))).symm
  | exact decide_eq_decide.2 ⟨fun h => hin2.2 (by omega), fun h => by have := hin2.1 h; omega⟩
theorem few_meets (ns : List Node) : Meets Try.prog 10 [treeD ns] fun d => d = bD (decide (ns.length ≤ 40 ∧ ∀ x ∈ ns, x.crit.length ≤ 20)) := by
 refine enter tok {} Try.func10 rfl (by kernel_rfl) Try.ntmps10 (by simp) fun B0 W0 V0 lent g0 => ?_
 ((conv => whnf); repeat' (refine Z rfl ?_; conv => whnf))
 repeat' ((first | (intro hlq; (try simp only [SL] at hlq)) | refine Ks ?_ | refine Kq ?_ | refine Kt ?_ | refine Ka ?_ | refine Kb ?_ | refine Kc (hd := rfl) (e := ?_) | refine Kc (hd := icells_eq _) (e := ?_) | refine Kd (e := ?_) | refine Kl rfl ?_ | fail) <;> ((conv => whnf); repeat' (refine Z rfl ?_; conv => whnf)))
 refine loop_upd tok {} [] (X := Nat) (fun i => [(3, iB i)]) (fun _ => []) [] (fun i => i ≤ ns.length ∧ ∀ x ∈ ns.take i, x.crit.length ≤ 20) (fun i => ns.length - i) 0 ?_
 ((conv => whnf); repeat' (refine Z rfl ?_; conv => whnf))
 refine And.intro ?_ ⟨⟨by omega, by simp⟩, fun i hΦ => ?_⟩
 · exact Kr
 obtain ⟨hi, hp⟩ := hΦ
 ((conv => whnf); repeat' (refine Z rfl ?_; conv => whnf))
 repeat' ((first | (intro hlq; (try simp only [SL] at hlq)) | refine Ks ?_ | refine Kq ?_ | refine Kt ?_ | refine Ka ?_ | refine Kb ?_ | refine Kc (hd := rfl) (e := ?_) | refine Kc (hd := icells_eq _) (e := ?_) | refine Kd (e := ?_) | refine Kl rfl ?_ | fail) <;> ((conv => whnf); repeat' (refine Z rfl ?_; conv => whnf)))
 refine ⟨fun h1 => ?_, fun h1 => ?_⟩ <;> (try simp only [BL] at h1) <;> ((conv => whnf); repeat' (refine Z rfl ?_; conv => whnf))
 · have h1' : i < ns.length := by omega
   repeat' ((first | (intro hlq; (try simp only [SL] at hlq)) | refine Kn ns[i] ⟨by omega, by rw [Int.toNat_natCast, List.getElem?_eq_getElem h1']⟩ ?_ | refine Ks ?_ | refine Kq ?_ | refine Kt ?_ | ((refine Kh (fun hb => ?_) fun hb => ?_) <;> (try simp only [BL] at hb)) | refine Ka ?_ | refine Kb ?_ | refine Kc (hd := rfl) (e := ?_) | refine Kc (hd := icells_eq _) (e := ?_) | refine Kd (e := ?_) | refine Kl rfl ?_ | fail) <;> ((conv => whnf); repeat' (refine Z rfl ?_; conv => whnf)))
   · refine ⟨congrArg bD ?_⟩
     refine (decide_eq_false fun h => ?_).symm
     have := h.2 _ (List.getElem_mem h1')
     omega
   · refine ⟨⟨i + 1, ?_, ⟨by omega, fun x hx => ?_⟩, by omega⟩⟩
     · exact Kr
     rw [List.take_succ_eq_append_getElem h1'] at hx
     rcases List.mem_append.1 hx with hx | hx
     · exact hp x hx
     · rw [List.mem_singleton.1 hx]; omega
 · rw [List.take_of_length_le (by omega)] at hp
   repeat' ((first | (intro hlq; (try simp only [SL] at hlq)) | refine Ks ?_ | refine Kq ?_ | refine Kt ?_ | ((refine Kh (fun hb => ?_) fun hb => ?_) <;> (try simp only [BL] at hb)) | refine Ka ?_ | refine Kb ?_ | refine Kc (hd := rfl) (e := ?_) | refine Kc (hd := icells_eq _) (e := ?_) | refine Kd (e := ?_) | refine Kl rfl ?_ | fail) <;> ((conv => whnf); repeat' (refine Z rfl ?_; conv => whnf)))
   refine ⟨congrArg bD (decide_eq_decide.2 ?_)⟩
   rw [List.length_map]
   exact ⟨fun h => ⟨by omega, hp⟩, fun h => by omega⟩
end Go.Proofs.Ytacclfgmgphljaa.Dx
/- The reference of chapter 10: visit, Check. -/
namespace Go.Proofs.Ytacclfgmgphljaa.Dx
open Go Go.RowKit
set_option maxRecDepth 100000
set_option maxHeartbeats 16000000
theorem preI_nodup {ns : List Node} (t : Tr) : ∀ {i : Nat} {met : List Nat}, met.Nodup → (preI ns t i met).Nodup := by
 have snoc : ∀ {met : List Nat} {x : Nat}, met.Nodup → x ∉ met → (met ++ [x]).Nodup := by
  intro met x h hx
  rw [List.nodup_append]
  exact ⟨h, by simp, fun a ha b hb => by rw [List.mem_singleton.1 hb]; exact fun e => hx (e ▸ ha)⟩
 induction t with
 | leaf c =>
   intro i met h
   rw [preI]
   split
   · exact h
   · rename_i hx; exact snoc h hx
 | node v n s t ihs iht =>
   intro i met h
   rw [preI]
   split
   · exact h
   · rename_i hx; exact iht (ihs (snoc h hx))
theorem hasN_meets (l : List Nat) (i : Nat) : Meets Try.prog 49 [.sl (l.map ncells), iD i] fun d => d = bD (decide (i ∈ l)) := by
 have h := In_meets (l.map fun j : Nat => (j : Int)) i
 rw [List.map_map] at h
 have e : hasI (l.map fun j : Nat => (j : Int)) i = decide (i ∈ l) := by
  unfold hasI
  by_cases hm : i ∈ l
  · rw [decide_eq_true hm, List.any_eq_true]
    exact ⟨(i : Int), List.mem_map.2 ⟨i, hm, rfl⟩, by simp⟩
  · rw [decide_eq_false hm, List.any_eq_false]
    intro x hx
    obtain ⟨j, hj, rfl⟩ := List.mem_map.1 hx
    simp only [decide_eq_true_eq]
    intro h
    exact hm (by rwa [← Int.ofNat_inj.1 h])
 rw [e] at h
 exact h
theorem rVisit_meets (ns : List Node) (hl : ns.length ≤ 100000) (t : Tr) : ∀ (i : Nat) (met : List Nat), Den ns i t → met.Nodup → (∀ j ∈ met, j < ns.length) →
 Meets Try.prog 40 [treeD ns, iD i, .sl (met.map ncells)] fun d => d = .sl ((preI ns t i met).map ncells) := by
 induction t with
 | leaf c =>
   intro i met h hnd hlt
   have hmet := nodup_len hnd hlt
   have hin := hasN_meets met i
   have hi := h.lt
   cases h with
   | leaf _ _ hg =>
     have hgi : ns[i] = ⟨0, 0, 0, 0, c⟩ := by rw [List.getElem?_eq_getElem hi] at hg; exact Option.some.inj hg
     rw [preI]
     refine enter tok {} Try.func40 rfl (by kernel_rfl) Try.ntmps40 (by simp) fun B0 W0 V0 lent g0 => ?_
     ((conv => whnf); repeat' (refine Z rfl ?_; conv => whnf))
     repeat' ((first | (intro hlq; (try simp only [SL] at hlq)) | refine Meets.k (hin) ?_ | refine Ks ?_ | refine Kq ?_ | refine Kt ?_ | ((refine Kh (fun hb => ?_) fun hb => ?_) <;> (try simp only [BL] at hb)) | refine Ka ?_ | refine Kb ?_ | refine Kc (hd := rfl) (e := ?_) | refine Kc (hd := icells_eq _) (e := ?_) | refine Kd (e := ?_) | refine Kl rfl ?_ | fail) <;> ((conv => whnf); repeat' (refine Z rfl ?_; conv => whnf)))
     · exact ⟨by rw [if_pos hb]⟩
     have hb0 := hb
     refine ⟨by simp, ?_⟩
     ((conv => whnf); repeat' (refine Z rfl ?_; conv => whnf))
     refine ⟨⟨(Kap True.intro ?_ (by decide)).1, by simp⟩, ?_⟩
     · simp only [List.length_map, List.length_cons, List.length_nil]; omega
     ((conv => whnf); repeat' (refine Z rfl ?_; conv => whnf))
     refine ⟨by simp, ?_⟩
     ((conv => whnf); repeat' (refine Z rfl ?_; conv => whnf))
     refine Kap ?_ ?_ ?_
     rotate_left 1
     · simp only [List.length_map, List.length_append, List.length_cons, List.length_nil]; omega
     · decide
     ((conv => whnf); repeat' (refine Z rfl ?_; conv => whnf))
     repeat' ((first | (intro hlq; (try simp only [SL] at hlq)) | refine Kn ⟨0, 0, 0, 0, c⟩ ⟨by omega, by rw [Int.toNat_natCast, hg]⟩ ?_ | refine Ks ?_ | refine Kq ?_ | refine Kt ?_ | ((refine Kh (fun hb => ?_) fun hb => ?_) <;> (try simp only [BL] at hb)) | refine Ka ?_ | refine Kb ?_ | refine Kc (hd := rfl) (e := ?_) | refine Kc (hd := icells_eq _) (e := ?_) | refine Kd (e := ?_) | refine Kl rfl ?_ | fail) <;> ((conv => whnf); repeat' (refine Z rfl ?_; conv => whnf)))
     · exact ⟨by rw [if_neg hb0]; simp⟩
     · exact absurd trivial hb
 | node v n s t ihs iht =>
   intro i met h hnd hlt
   have hmet := nodup_len hnd hlt
   have hin := hasN_meets met i
   have hi := h.lt
   cases h with
   | node _ _ _ y o _ _ hg hv hy ho =>
     have e1 : yesI ns i = y := by simp [yesI, hg]
     have e2 : noI ns i = o := by simp [noI, hg]
     rw [preI, e1, e2]
     refine enter tok {} Try.func40 rfl (by kernel_rfl) Try.ntmps40 (by simp) fun B0 W0 V0 lent g0 => ?_
     ((conv => whnf); repeat' (refine Z rfl ?_; conv => whnf))
     repeat' ((first | (intro hlq; (try simp only [SL] at hlq)) | refine Meets.k (hin) ?_ | refine Ks ?_ | refine Kq ?_ | refine Kt ?_ | ((refine Kh (fun hb => ?_) fun hb => ?_) <;> (try simp only [BL] at hb)) | refine Ka ?_ | refine Kb ?_ | refine Kc (hd := rfl) (e := ?_) | refine Kc (hd := icells_eq _) (e := ?_) | refine Kd (e := ?_) | refine Kl rfl ?_ | fail) <;> ((conv => whnf); repeat' (refine Z rfl ?_; conv => whnf)))
     · exact ⟨by rw [if_pos hb]⟩
     have hb0 := hb
     refine ⟨by simp, ?_⟩
     ((conv => whnf); repeat' (refine Z rfl ?_; conv => whnf))
     refine ⟨⟨(Kap True.intro ?_ (by decide)).1, by simp⟩, ?_⟩
     · simp only [List.length_map, List.length_cons, List.length_nil]; omega
     ((conv => whnf); repeat' (refine Z rfl ?_; conv => whnf))
     refine ⟨by simp, ?_⟩
     ((conv => whnf); repeat' (refine Z rfl ?_; conv => whnf))
     refine Kap ?_ ?_ ?_
     rotate_left 1
     · simp only [List.length_map, List.length_append, List.length_cons, List.length_nil]; omega
     · decide
     ((conv => whnf); repeat' (refine Z rfl ?_; conv => whnf))
     have hm2 : (met ++ [i]).Nodup ∧ ∀ j ∈ met ++ [i], j < ns.length := by
      refine ⟨?_, fun k hk => ?_⟩
      · rw [List.nodup_append]
        exact ⟨hnd, by simp, fun a ha b hb' => by rw [List.mem_singleton.1 hb']; exact fun e => hb0 (e ▸ ha)⟩
      · rcases List.mem_append.1 hk with hk | hk
        · exact hlt k hk
        · rw [List.mem_singleton.1 hk]; exact hi
     have q1 := ihs y (met ++ [i]) hy hm2.1 hm2.2
     have q2 := iht o (preI ns s y (met ++ [i])) ho (preI_nodup s hm2.1) (preI_lt hy hm2.2)
     rw [List.map_append] at q1
     repeat' ((first | (intro hlq; (try simp only [SL] at hlq)) | refine Kn ⟨v, n, y, o, []⟩ ⟨by omega, by rw [Int.toNat_natCast, hg]⟩ ?_ | refine Ks ?_ | refine Kq ?_ | refine Kt ?_ | ((refine Kh (fun hb => ?_) fun hb => ?_) <;> (try simp only [BL] at hb)) | refine Ka ?_ | refine Kb ?_ | refine Kc (hd := rfl) (e := ?_) | refine Kc (hd := icells_eq _) (e := ?_) | refine Kd (e := ?_) | refine Kl rfl ?_ | fail) <;> ((conv => whnf); repeat' (refine Z rfl ?_; conv => whnf)))
     · exact absurd hb hv
     refine draw_rule tok (cf := {}) (by kernel_rfl) [.p 0, .p 1, .p 2, .p 3, .p 4, .p 5, .p 6, .p 7, .p 8, .p 9, .p 10, .p 11, .p 12, .p 13, .p 14, .s 15 [7,13,14,12,11,9,10,8], .s 16 [0,6,5,4,2,3,1], .p 17] (by kernel_rfl) ?_
     ((conv => whnf); repeat' (refine Z rfl ?_; conv => whnf))
     repeat' ((first | (intro hlq; (try simp only [SL] at hlq)) | refine Kn ⟨v, n, y, o, []⟩ ⟨by omega, by rw [Int.toNat_natCast, hg]⟩ ?_ | refine Meets.k (q1) ?_ | refine Meets.k (q2) ?_ | refine Ks ?_ | refine Kq ?_ | refine Kt ?_ | ((refine Kh (fun hb => ?_) fun hb => ?_) <;> (try simp only [BL] at hb)) | refine Ka ?_ | refine Kb ?_ | refine Kc (hd := rfl) (e := ?_) | refine Kc (hd := icells_eq _) (e := ?_) | refine Kd (e := ?_) | refine Kl rfl ?_ | fail) <;> ((conv => whnf); repeat' (refine Z rfl ?_; conv => whnf)))
     exact ⟨by rw [if_neg hb0]⟩
open Classical in
theorem rCheck_meets (ns : List Node) : Meets Try.prog 12 [treeD ns] fun d => d = iD (checkE ns) := by
 refine enter tok {} Try.func12 rfl (by kernel_rfl) Try.ntmps12 (by simp) fun B0 W0 V0 lent g0 => ?_
 ((conv => whnf); repeat' (refine Z rfl ?_; conv => whnf))
 repeat' ((first | (intro hlq; (try simp only [SL] at hlq)) | refine Ks ?_ | refine Kq ?_ | refine Kt ?_ | refine Ka ?_ | refine Kb ?_ | refine Kc (hd := rfl) (e := ?_) | refine Kc (hd := icells_eq _) (e := ?_) | refine Kd (e := ?_) | refine Kl rfl ?_ | fail) <;> ((conv => whnf); repeat' (refine Z rfl ?_; conv => whnf)))
 refine ⟨fun h0 => ?_, fun h0 => ?_⟩ <;> (try simp only [BL] at h0) <;> ((conv => whnf); repeat' (refine Z rfl ?_; conv => whnf))
 · exact ⟨by rw [checkE_big (by omega)]⟩
 have h0' : ¬ 4096 < ns.length := by omega
 repeat' ((first | (intro hlq; (try simp only [SL] at hlq)) | refine Ks ?_ | refine Kq ?_ | refine Kt ?_ | refine Ka ?_ | refine Kb ?_ | refine Kc (hd := rfl) (e := ?_) | refine Kc (hd := icells_eq _) (e := ?_) | refine Kd (e := ?_) | refine Kl rfl ?_ | fail) <;> ((conv => whnf); repeat' (refine Z rfl ?_; conv => whnf)))
 refine ⟨fun h3 => ?_, fun h3 => ?_⟩ <;> (try simp only [BL] at h3) <;> ((conv => whnf); repeat' (refine Z rfl ?_; conv => whnf))
 · exact ⟨by rw [checkE_bad h0' fun ht => ht.ne (List.eq_nil_of_length_eq_zero (by omega))]⟩
 have hpos : 0 < ns.length := by omega
 repeat' ((first | (intro hlq; (try simp only [SL] at hlq)) | refine Ks ?_ | refine Kq ?_ | refine Kt ?_ | refine Ka ?_ | refine Kb ?_ | refine Kc (hd := rfl) (e := ?_) | refine Kc (hd := icells_eq _) (e := ?_) | refine Kd (e := ?_) | refine Kl rfl ?_ | fail) <;> ((conv => whnf); repeat' (refine Z rfl ?_; conv => whnf)))
 refine loop_upd tok {} [] (X := Nat) (fun i => [(3, iB i)]) (fun _ => []) [] (fun i => i ≤ ns.length ∧ okTo ns i) (fun i => ns.length - i) 0 ?_
 ((conv => whnf); repeat' (refine Z rfl ?_; conv => whnf))
 refine And.intro ?_ ⟨⟨by omega, by simp [okTo]⟩, fun i hΦ => ?_⟩
 · exact Kr
 obtain ⟨hi, hok⟩ := hΦ
 ((conv => whnf); repeat' (refine Z rfl ?_; conv => whnf))
 repeat' ((first | (intro hlq; (try simp only [SL] at hlq)) | refine Ks ?_ | refine Kq ?_ | refine Kt ?_ | refine Ka ?_ | refine Kb ?_ | refine Kc (hd := rfl) (e := ?_) | refine Kc (hd := icells_eq _) (e := ?_) | refine Kd (e := ?_) | refine Kl rfl ?_ | fail) <;> ((conv => whnf); repeat' (refine Z rfl ?_; conv => whnf)))
 refine ⟨fun h1 => ?_, fun h1 => ?_⟩ <;> (try simp only [BL] at h1) <;> ((conv => whnf); repeat' (refine Z rfl ?_; conv => whnf))
 · have h1' : i < ns.length := by omega
   have hstep := okTo_step h1'
   have hki : ∃ x, x = ns[i] ∧ 0 ≤ (i : Int) ∧ ns[(i : Int).toNat]? = some x := ⟨_, rfl, by omega, by rw [Int.toNat_natCast, List.getElem?_eq_getElem h1']⟩
   obtain ⟨x, hx, hki⟩ := hki
   rw [← hx] at hstep
   refine draw_rule tok (cf := {}) (by kernel_rfl) [.p 0, .p 1, .p 2, .p 3, .p 4, .s 5 [4,3,1,2,0], .p 6, .p 7, .p 8, .p 9, .p 10, .p 11, .p 12, .p 13, .s 14 [8,13,7,12,6,10,11,9], .p 15, .p 16] (by kernel_rfl) ?_
   ((conv => whnf); repeat' (refine Z rfl ?_; conv => whnf))
   repeat' ((first | (intro hlq; (try simp only [SL] at hlq)) | refine Meets.k (rLeaf_meets x) ?_ | refine Meets.k (rInner_meets ns x) ?_ | refine Kn x hki ?_ | refine Ks ?_ | refine Kq ?_ | refine Kt ?_ | ((refine Kh (fun hb => ?_) fun hb => ?_) <;> (try simp only [BL] at hb)) | refine Ka ?_ | refine Kb ?_ | refine Kc (hd := rfl) (e := ?_) | refine Kc (hd := icells_eq _) (e := ?_) | refine Kd (e := ?_) | refine Kl rfl ?_ | fail) <;> ((conv => whnf); repeat' (refine Z rfl ?_; conv => whnf)))
   · exact ⟨by rw [checkE_bad h0' (okTo_not fun h => by rcases (hstep.1 h).2.1 with h | h <;> contradiction)]⟩
   all_goals
    have hnode : Leaf x ∨ Inner ns x := by first | exact .inl hb | exact .inr hb
    refine loop_upd tok {} [] (X := Nat) (fun j => [(4, iB j)]) (fun _ => []) [] (fun j => j ≤ i ∧ ¬ x ∈ ns.take j) (fun j => i - j) 0 ?_
    ((conv => whnf); repeat' (refine Z rfl ?_; conv => whnf))
    refine And.intro ?_ ⟨⟨by omega, by simp⟩, fun j hΨ => ?_⟩
    · exact Kr
    obtain ⟨hj, hnx⟩ := hΨ
    ((conv => whnf); repeat' (refine Z rfl ?_; conv => whnf))
    repeat' ((first | (intro hlq; (try simp only [SL] at hlq)) | refine Ks ?_ | refine Kq ?_ | refine Kt ?_ | refine Ka ?_ | refine Kb ?_ | refine Kc (hd := rfl) (e := ?_) | refine Kc (hd := icells_eq _) (e := ?_) | refine Kd (e := ?_) | refine Kl rfl ?_ | fail) <;> ((conv => whnf); repeat' (refine Z rfl ?_; conv => whnf)))
    refine ⟨fun h2 => ?_, fun h2 => ?_⟩ <;> (try simp only [BL] at h2) <;> ((conv => whnf); repeat' (refine Z rfl ?_; conv => whnf))
    · have h2' : j < i := by omega
      have hkj : ∃ z, z = ns[j] ∧ 0 ≤ (j : Int) ∧ ns[(j : Int).toNat]? = some z := ⟨_, rfl, by omega, by rw [Int.toNat_natCast, List.getElem?_eq_getElem (by omega)]⟩
      obtain ⟨z, hz, hkj⟩ := hkj
      refine draw_rule tok (cf := {}) (by kernel_rfl) [.p 0, .p 1, .p 2, .p 3, .p 4, .p 5, .p 6, .p 7, .p 8, .p 9, .s 10 [4,9,3,8,1,2,6,7,0,5]] (by kernel_rfl) ?_
      ((conv => whnf); repeat' (refine Z rfl ?_; conv => whnf))
      repeat' ((first | (intro hlq; (try simp only [SL] at hlq)) | refine Kn x hki ?_ | refine Kn z hkj ?_ | refine Meets.k (rSameN_meets z x) ?_ | refine Ks ?_ | refine Kq ?_ | refine Kt ?_ | ((refine Kh (fun hb => ?_) fun hb => ?_) <;> (try simp only [BL] at hb)) | refine Ka ?_ | refine Kb ?_ | refine Kc (hd := rfl) (e := ?_) | refine Kc (hd := icells_eq _) (e := ?_) | refine Kd (e := ?_) | refine Kl rfl ?_ | fail) <;> ((conv => whnf); repeat' (refine Z rfl ?_; conv => whnf)))
      · have hm : x ∈ ns.take i := by
         rw [← hb, hz]
         exact List.mem_iff_getElem.2 ⟨j, by rw [List.length_take]; omega, by rw [List.getElem_take]⟩
        exact ⟨by rw [checkE_bad h0' (okTo_not fun h => (hstep.1 h).2.2 hm)]⟩
      · refine ⟨⟨j + 1, ?_, ⟨by omega, fun h => ?_⟩, by omega⟩⟩
        · exact Kr
        rw [List.take_succ_eq_append_getElem (by omega : j < ns.length), ← hz] at h
        rcases List.mem_append.1 h with h | h
        · exact hnx h
        · exact hb (List.mem_singleton.1 h).symm
    · have hji : j = i := by omega
      subst hji
      repeat' ((first | (intro hlq; (try simp only [SL] at hlq)) | refine Ks ?_ | refine Kq ?_ | refine Kt ?_ | refine Ka ?_ | refine Kb ?_ | refine Kc (hd := rfl) (e := ?_) | refine Kc (hd := icells_eq _) (e := ?_) | refine Kd (e := ?_) | refine Kl rfl ?_ | fail) <;> ((conv => whnf); repeat' (refine Z rfl ?_; conv => whnf)))
      refine ⟨⟨j + 1, ?_, ⟨by omega, hstep.2 ⟨hok, hnode, hnx⟩⟩, by omega⟩⟩
      repeat' (first | exact True.intro | exact rfl | refine And.intro ?_ ?_)
 · have hi' : i = ns.length := by omega
   subst hi'
   rw [okTo, List.take_of_length_le (Nat.le_refl _)] at hok
   have hn : NodesOk ns := hok
   obtain ⟨d, hf⟩ := nodes_forest hn
   have hiff := treeOk_iff hn hf hpos
   have hd := hf.den 0 hpos
   have hv := rVisit_meets ns (by omega) (d 0) 0 [] hd (by simp) (by simp)
   have hlt := preI_lt hd (met := []) (by simp)
   have hnd := pre_nodup hf hd
   have hall : ∃ order : List Nat, (Meets Try.prog 40 [treeD ns, iD (0 : Nat), .sl (([] : List Nat).map ncells)] fun d => d = .sl (order.map ncells)) ∧ (TreeOk ns ↔ order = List.range ns.length) ∧ (∀ j ∈ order, j < ns.length) ∧ order.Nodup := ⟨_, hv, hiff, hlt, hnd⟩
   obtain ⟨order, hv, hiff, hlt, hnd⟩ := hall
   have hol := nodup_len hnd hlt
   repeat' ((first | (intro hlq; (try simp only [SL] at hlq)) | refine Ks ?_ | refine Kq ?_ | refine Kt ?_ | refine Ka ?_ | refine Kb ?_ | refine Kc (hd := rfl) (e := ?_) | refine Kc (hd := icells_eq _) (e := ?_) | refine Kd (e := ?_) | refine Kl rfl ?_ | fail) <;> ((conv => whnf); repeat' (refine Z rfl ?_; conv => whnf)))
   refine Meets.k hv ?_
   ((conv => whnf); repeat' (refine Z rfl ?_; conv => whnf))
   repeat' ((first | (intro hlq; (try simp only [SL] at hlq)) | refine Ks ?_ | refine Kq ?_ | refine Kt ?_ | refine Ka ?_ | refine Kb ?_ | refine Kc (hd := rfl) (e := ?_) | refine Kc (hd := icells_eq _) (e := ?_) | refine Kd (e := ?_) | refine Kl rfl ?_ | fail) <;> ((conv => whnf); repeat' (refine Z rfl ?_; conv => whnf)))
   refine ⟨fun h4 => ?_, fun h4 => ?_⟩ <;> (try simp only [BL] at h4) <;> ((conv => whnf); repeat' (refine Z rfl ?_; conv => whnf))
   · exact ⟨by rw [checkE_bad h0' fun ht => h4 (by rw [hiff.1 ht]; simp)]⟩
   repeat' ((first | (intro hlq; (try simp only [SL] at hlq)) | refine Ks ?_ | refine Kq ?_ | refine Kt ?_ | refine Ka ?_ | refine Kb ?_ | refine Kc (hd := rfl) (e := ?_) | refine Kc (hd := icells_eq _) (e := ?_) | refine Kd (e := ?_) | refine Kl rfl ?_ | fail) <;> ((conv => whnf); repeat' (refine Z rfl ?_; conv => whnf)))
   refine loop_upd tok {} [] (X := Nat) (fun i => [(6, iB i)]) (fun _ => []) [] (fun i => i ≤ order.length ∧ order.take i = List.range i) (fun i => order.length - i) 0 ?_
   ((conv => whnf); repeat' (refine Z rfl ?_; conv => whnf))
   refine And.intro ?_ ⟨⟨by omega, by simp⟩, fun k hΦ => ?_⟩
   · exact Kr
   obtain ⟨hk, hok⟩ := hΦ
   ((conv => whnf); repeat' (refine Z rfl ?_; conv => whnf))
   repeat' ((first | (intro hlq; (try simp only [SL] at hlq)) | refine Ks ?_ | refine Kq ?_ | refine Kt ?_ | refine Ka ?_ | refine Kb ?_ | refine Kc (hd := rfl) (e := ?_) | refine Kc (hd := icells_eq _) (e := ?_) | refine Kd (e := ?_) | refine Kl rfl ?_ | fail) <;> ((conv => whnf); repeat' (refine Z rfl ?_; conv => whnf)))
   refine ⟨fun h5 => ?_, fun h5 => ?_⟩ <;> (try simp only [BL] at h5) <;> ((conv => whnf); repeat' (refine Z rfl ?_; conv => whnf))
   · have hk' : k < order.length := by omega
     repeat' ((first | (intro hlq; (try simp only [SL] at hlq)) | refine Ks ?_ | refine Kq ?_ | refine Kt ?_ | refine Ka ?_ | refine Kb ?_ | refine Kc (hd := rfl) (e := ?_) | refine Kc (hd := icells_eq _) (e := ?_) | refine Kd (e := ?_) | refine Kl rfl ?_ | fail) <;> ((conv => whnf); repeat' (refine Z rfl ?_; conv => whnf)))
     refine ⟨fun h6 => ?_, fun h6 => ?_⟩ <;> (try simp only [BL] at h6) <;> ((conv => whnf); repeat' (refine Z rfl ?_; conv => whnf))
     · have h7 : ¬ TreeOk ns := fun ht => h6 (by have e := hiff.1 ht; subst e; simp)
       exact ⟨by rw [checkE_bad h0' h7]⟩
     · repeat' ((first | (intro hlq; (try simp only [SL] at hlq)) | refine Ks ?_ | refine Kq ?_ | refine Kt ?_ | refine Ka ?_ | refine Kb ?_ | refine Kc (hd := rfl) (e := ?_) | refine Kc (hd := icells_eq _) (e := ?_) | refine Kd (e := ?_) | refine Kl rfl ?_ | fail) <;> ((conv => whnf); repeat' (refine Z rfl ?_; conv => whnf)))
       refine ⟨⟨k + 1, ?_, ⟨by omega, ?_⟩, by omega⟩⟩
       · exact Kr
       rw [List.take_succ_eq_append_getElem hk', hok, List.range_succ, show order[k] = k by omega]
   · rw [List.take_of_length_le (by omega), show k = ns.length by simp at h4; omega] at hok
     exact ⟨by rw [checkE_ok h0' (hiff.2 hok)]⟩
end Go.Proofs.Ytacclfgmgphljaa.Dx
