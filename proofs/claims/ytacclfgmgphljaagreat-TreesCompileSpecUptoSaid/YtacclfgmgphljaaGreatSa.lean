/- The code of chapter 10: small functions. -/
import Derived.Test.YtacclfgmgphljaaGreatSz
set_option linter.all false
namespace Go.Proofs.YtacclfgmgphljaaGreat.Dx
open Go Go.RowKit
set_option maxRecDepth 100000
set_option maxHeartbeats 8000000
/-- a piece of a list from its beginning -/
theorem Ks {xs : List Int} {i : Nat} {E : Prop} (e : E) (h : i ≤ xs.length := by ((try dsimp only at *); omega)) :
 ((xs.map icells).length ≤ maxLen → 0 ≤ (0 : Int) ∧ 0 ≤ (i : Int) ∧ (i : Int) ≤ ((xs.map icells).length : Int) ∧ ∀ ds ∈ xs.map icells, ds.length = 1) ∧ E :=
 ⟨fun _ => ⟨Int.le_refl _, Int.natCast_nonneg _, by rw [List.length_map]; omega, fun ds hd => by obtain ⟨y, _, rfl⟩ := List.mem_map.1 hd; rfl⟩, e⟩
theorem cut_cells (xs : List Int) (i : Nat) : ((xs.map icells).take (i : Int).toNat).drop (0 : Int).toNat = (xs.take i).map icells := by
 rw [Int.toNat_natCast, ← List.map_take]; rfl
theorem bounds_meets (v : Int) : Meets Tryz.prog 20 [iD v] fun d => d = .tup [iD 0, iD (Tr.most v)] := by
 refine enter tok {} Tryz.func20 rfl (by kernel_rfl) Tryz.ntmps20 (by simp) fun B0 W0 V0 lent g0 => ?_
 ((conv => whnf); repeat' (refine Z rfl ?_; conv => whnf))
 repeat' ((first | (intro hlq; (try simp only [SL] at hlq)) | refine Ks ?_ | refine Kq ?_ | refine Kt ?_ | ((refine Kh (fun hb => ?_) fun hb => ?_) <;> (try simp only [BL] at hb)) | refine Ka ?_ | refine Kb ?_ | refine Kc (hd := rfl) (e := ?_) | refine Kc (hd := icells_eq _) (e := ?_) | refine Kd (e := ?_) | refine Kl rfl ?_ | fail) <;> ((conv => whnf); repeat' (refine Z rfl ?_; conv => whnf)))
 all_goals refine ⟨?_⟩
 all_goals simp_all [Tr.most]
theorem tvalue_meets (v : Int) (x : Env) (h1 : 1 ≤ v) (h2 : v ≤ 3) : Meets Tryz.prog 61 [iD v, x.d] fun d => d = iD (x.value v) := by
 rcases (by omega : v = 1 ∨ v = 2 ∨ v = 3) with rfl | rfl | rfl
 all_goals
  refine enter tok {} Tryz.func61 rfl (by kernel_rfl) Tryz.ntmps61 (by simp) fun B0 W0 V0 lent g0 => ?_
  ((conv => whnf); repeat' (refine Z rfl ?_; conv => whnf))
  refine ⟨_, ⟨by decide, by decide, rfl⟩, ?_⟩
  ((conv => whnf); repeat' (refine Z rfl ?_; conv => whnf))
  exact ⟨rfl⟩
theorem next_meets (n : Node) (x : Env) (h1 : 1 ≤ n.var) (h2 : n.var ≤ 3) : Meets Tryz.prog 35 [n.d, x.d] fun d => d = iD (if n.n ≤ x.value n.var then n.yes else n.no) := by
 refine enter tok {} Tryz.func35 rfl (by kernel_rfl) Tryz.ntmps35 (by simp) fun B0 W0 V0 lent g0 => ?_
 ((conv => whnf); repeat' (refine Z rfl ?_; conv => whnf))
 refine draw_rule tok (cf := {}) (by kernel_rfl) [.p 0, .p 1, .p 2, .p 4, .p 5, .s 3 [1,2,0], .p 6] (by kernel_rfl) ?_
 ((conv => whnf); repeat' (refine Z rfl ?_; conv => whnf))
 repeat' ((first | (intro hlq; (try simp only [SL] at hlq)) | refine Meets.k (tvalue_meets n.var x h1 h2) ?_ | refine Ks ?_ | refine Kq ?_ | refine Kt ?_ | ((refine Kh (fun hb => ?_) fun hb => ?_) <;> (try simp only [BL] at hb)) | refine Ka ?_ | refine Kb ?_ | refine Kc (hd := rfl) (e := ?_) | refine Kc (hd := icells_eq _) (e := ?_) | refine Kd (e := ?_) | refine Kl rfl ?_ | fail) <;> ((conv => whnf); repeat' (refine Z rfl ?_; conv => whnf)))
 all_goals refine ⟨congrArg iD ?_⟩
 · rw [if_pos (by omega)]
 · rw [if_neg (by omega)]
theorem tcontains_cut (l : List Int) (i : Nat) (n : Int) : Meets Tryz.prog 53 [.sl (((l.map icells).take (i : Int).toNat).drop (0 : Int).toNat), iD n] fun d => d = bD (hasI (l.take i) n) := by
 rw [cut_cells]; exact Contains_meets _ n
def critsB (l : List Int) (i : Nat) : Prop := (l.take i).Nodup ∧ ∀ y ∈ l.take i, 1 ≤ y ∧ y ≤ 5
theorem critsB_all {l : List Int} {i : Nat} (h : l.length ≤ i) : critsB l i ↔ Crits l := by rw [critsB, List.take_of_length_le h]; rfl
theorem critsB_step {l : List Int} {i : Nat} (h : i < l.length) : critsB l (i + 1) ↔ critsB l i ∧ (1 ≤ l[i] ∧ l[i] ≤ 5) ∧ hasI (l.take i) l[i] = false := by
 rw [critsB, critsB, List.take_succ_eq_append_getElem h, List.nodup_append, hasI_not]
 constructor
 · rintro ⟨⟨a, _, c⟩, d⟩
   exact ⟨⟨a, fun y hy => d y (List.mem_append_left _ hy)⟩, d _ (List.mem_append_right _ (List.mem_singleton.2 rfl)), fun hm => c _ hm _ (by simp) rfl⟩
 · rintro ⟨⟨a, b⟩, c, d⟩
   refine ⟨⟨a, by simp, fun x hx y hy => by rw [List.mem_singleton.1 hy]; exact fun e => d (e ▸ hx)⟩, fun y hy => ?_⟩
   rcases List.mem_append.1 hy with hy | hy
   · exact b y hy
   · rw [List.mem_singleton.1 hy]; exact c
theorem crits_not {l : List Int} {i : Nat} (h : i < l.length) (hn : ¬ critsB l (i + 1)) : ¬ Crits l := by
 intro hc
 refine hn ⟨hc.1.sublist (List.take_sublist _ _), fun y hy => hc.2 y (List.mem_of_mem_take hy)⟩
open Classical in
theorem isLeaf_meets (n : Node) : Meets Tryz.prog 36 [n.d] fun d => d = bD (decide (Leaf n)) := by
 refine enter tok {} Tryz.func36 rfl (by kernel_rfl) Tryz.ntmps36 (by simp) fun B0 W0 V0 lent g0 => ?_
 ((conv => whnf); repeat' (refine Z rfl ?_; conv => whnf))
 repeat' ((first | (intro hlq; (try simp only [SL] at hlq)) | refine Ks ?_ | refine Kq ?_ | refine Kt ?_ | refine Ka ?_ | refine Kb ?_ | refine Kc (hd := rfl) (e := ?_) | refine Kc (hd := icells_eq _) (e := ?_) | refine Kd (e := ?_) | refine Kl rfl ?_ | fail) <;> ((conv => whnf); repeat' (refine Z rfl ?_; conv => whnf)))
 refine loop_upd tok {} [] (X := Nat) (fun i => [(8, iB i)]) (fun _ => []) [] (fun i => i ≤ n.crit.length ∧ critsB n.crit i) (fun i => n.crit.length - i) 0 ?_
 ((conv => whnf); repeat' (refine Z rfl ?_; conv => whnf))
 refine And.intro ?_ ⟨⟨by omega, by simp [critsB]⟩, fun i hΦ => ?_⟩
 · exact Kr
 obtain ⟨hi, hp⟩ := hΦ
 ((conv => whnf); repeat' (refine Z rfl ?_; conv => whnf))
 refine ⟨fun h1 => ?_, fun h1 => ?_⟩ <;> (try simp only [BL] at h1) <;> ((conv => whnf); repeat' (refine Z rfl ?_; conv => whnf))
 · have h1' : i < n.crit.length := by omega
   have hst := critsB_step h1'
   have hno : ¬ ((1 ≤ n.crit[i] ∧ n.crit[i] ≤ 5) ∧ hasI (n.crit.take i) n.crit[i] = false) → decide (Leaf n) = false := fun h => decide_eq_false fun hl => crits_not h1' (fun hc => h (hst.1 hc).2) hl.1
   repeat' ((first | (intro hlq; (try simp only [SL] at hlq)) | refine Meets.k (tcontains_cut n.crit i n.crit[i]) ?_ | refine Ks ?_ | refine Kq ?_ | refine Kt ?_ | ((refine Kh (fun hb => ?_) fun hb => ?_) <;> (try simp only [BL] at hb)) | refine Ka ?_ | refine Kb ?_ | refine Kc (hd := rfl) (e := ?_) | refine Kc (hd := icells_eq _) (e := ?_) | refine Kd (e := ?_) | refine Kl rfl ?_ | fail) <;> ((conv => whnf); repeat' (refine Z rfl ?_; conv => whnf)))
   · exact ⟨congrArg bD (hno fun h => by omega).symm⟩
   · exact ⟨congrArg bD (hno fun h => by omega).symm⟩
   · exact ⟨congrArg bD (hno fun h => by rw [h.2] at hb; cases hb).symm⟩
   · refine ⟨⟨i + 1, ?_, ⟨by omega, hst.2 ⟨hp, by omega, hb⟩⟩, by omega⟩⟩
     repeat' (first | exact True.intro | exact rfl | refine And.intro ?_ ?_)
 · rw [critsB_all (by omega)] at hp
   repeat' ((first | (intro hlq; (try simp only [SL] at hlq)) | refine Ks ?_ | refine Kq ?_ | refine Kt ?_ | ((refine Kh (fun hb => ?_) fun hb => ?_) <;> (try simp only [BL] at hb)) | refine Ka ?_ | refine Kb ?_ | refine Kc (hd := rfl) (e := ?_) | refine Kc (hd := icells_eq _) (e := ?_) | refine Kd (e := ?_) | refine Kl rfl ?_ | fail) <;> ((conv => whnf); repeat' (refine Z rfl ?_; conv => whnf)))
   all_goals refine ⟨congrArg bD ?_⟩
   all_goals simp_all [Leaf]
theorem within1_meets (ns : List Node) (i : Int) : Meets Tryz.prog 62 [iD i, .ptr [.sl (ns.map Node.cells)] 0] fun d => d = bD (decide (0 ≤ i ∧ i < ns.length)) := by
 refine enter tok {} Tryz.func62 rfl (by kernel_rfl) Tryz.ntmps62 (by simp) fun B0 W0 V0 lent g0 => ?_
 ((conv => whnf); repeat' (refine Z rfl ?_; conv => whnf))
 repeat' ((first | (intro hlq; (try simp only [SL] at hlq)) | refine Ks ?_ | refine Kq ?_ | refine Kt ?_ | ((refine Kh (fun hb => ?_) fun hb => ?_) <;> (try simp only [BL] at hb)) | refine Ka ?_ | refine Kb ?_ | refine Kc (hd := rfl) (e := ?_) | refine Kc (hd := icells_eq _) (e := ?_) | refine Kd (e := ?_) | refine Kl rfl ?_ | fail) <;> ((conv => whnf); repeat' (refine Z rfl ?_; conv => whnf)))
 all_goals refine ⟨congrArg bD ?_⟩
 all_goals simp_all
 all_goals omega
theorem later_meets (n x : Node) : Meets Tryz.prog 63 [x.d, .ptr n.cells 0] fun d => d = bD (decide (x.var = 0 ∨ n.var < x.var)) := by
 refine enter tok {} Tryz.func63 rfl (by kernel_rfl) Tryz.ntmps63 (by simp) fun B0 W0 V0 lent g0 => ?_
 ((conv => whnf); repeat' (refine Z rfl ?_; conv => whnf))
 repeat' ((first | (intro hlq; (try simp only [SL] at hlq)) | refine Ks ?_ | refine Kq ?_ | refine Kt ?_ | ((refine Kh (fun hb => ?_) fun hb => ?_) <;> (try simp only [BL] at hb)) | refine Ka ?_ | refine Kb ?_ | refine Kc (hd := rfl) (e := ?_) | refine Kc (hd := icells_eq _) (e := ?_) | refine Kd (e := ?_) | refine Kl rfl ?_ | fail) <;> ((conv => whnf); repeat' (refine Z rfl ?_; conv => whnf)))
 all_goals refine ⟨congrArg bD ?_⟩
 all_goals simp_all
theorem Kn {xs : List Node} {i : Int} {E : List D → Prop} (x : Node) (h : 0 ≤ i ∧ xs[i.toNat]? = some x) (e : E x.cells) : ∃ ds, (0 ≤ i ∧ (xs.map Node.cells)[i.toNat]? = some ds ∧ ds.length = 5) ∧ E ds :=
 ⟨x.cells, ⟨h.1, by rw [List.getElem?_map, h.2]; rfl, rfl⟩, e⟩
open Classical in
theorem isInner_meets (ns : List Node) (n : Node) : Meets Tryz.prog 37 [.sl (ns.map Node.cells), n.d] fun d => d = bD (decide (Inner ns n)) := by
 have hin : ∀ y o : Node, (1 ≤ n.var ∧ n.var ≤ 3) → n.crit = [] → (0 < n.n ∧ n.n ≤ Tr.most n.var) → n.yes ≠ n.no → (0 ≤ n.yes ∧ ns[n.yes.toNat]? = some y) → (0 ≤ n.no ∧ ns[n.no.toNat]? = some o) →
  (Inner ns n ↔ (o.var = 0 ∨ n.var < o.var) ∧ (y.var = 0 ∨ n.var < y.var ∨ (y.var = n.var ∧ n.n < y.n ∧ y.no ≠ n.no))) := by
  intro y o h1 h2 h3 h4 h5 h6
  constructor
  · rintro ⟨_, _, _, _, y', o', ⟨_, hy⟩, ⟨_, ho⟩, h⟩
    rw [h5.2] at hy; rw [h6.2] at ho; cases hy; cases ho; exact h
  · exact fun h => ⟨h1, h2, h3, h4, y, o, h5, h6, h⟩
 have hat : ∀ i : Int, 0 ≤ i ∧ i < ns.length → ∃ x, 0 ≤ i ∧ ns[i.toNat]? = some x := fun i h => ⟨ns[i.toNat]'(by omega), h.1, List.getElem?_eq_getElem _⟩
 have hno : (¬ (1 ≤ n.var ∧ n.var ≤ 3) ∨ ¬ n.crit.length = 0 ∨ ¬ (0 < n.n ∧ n.n ≤ Tr.most n.var) ∨ n.yes = n.no ∨ ¬ (0 ≤ n.yes ∧ n.yes < ns.length) ∨ ¬ (0 ≤ n.no ∧ n.no < ns.length)) → decide (Inner ns n) = false := by
  intro h
  refine decide_eq_false ?_
  rintro ⟨h1, h2, h3, h4, y', o', ⟨h5, hy⟩, ⟨h6, ho⟩, _⟩
  have := (List.getElem?_eq_some_iff.1 hy).1
  have := (List.getElem?_eq_some_iff.1 ho).1
  rcases h with h | h | h | h | h | h
  · exact h h1
  · exact h (by rw [h2]; rfl)
  · exact h h3
  · exact h4 h
  · omega
  · omega
 refine enter tok {} Tryz.func37 rfl (by kernel_rfl) Tryz.ntmps37 (by simp) fun B0 W0 V0 lent g0 => ?_
 ((conv => whnf); repeat' (refine Z rfl ?_; conv => whnf))
 repeat' ((first | (intro hlq; (try simp only [SL] at hlq)) | refine Meets.k (bounds_meets n.var) ?_ | refine Meets.k (within1_meets ns n.yes) ?_ | refine Meets.k (within1_meets ns n.no) ?_ | refine Ks ?_ | refine Kq ?_ | refine Kt ?_ | ((refine Kh (fun hb => ?_) fun hb => ?_) <;> (try simp only [BL] at hb)) | refine Ka ?_ | refine Kb ?_ | refine Kc (hd := rfl) (e := ?_) | refine Kc (hd := icells_eq _) (e := ?_) | refine Kd (e := ?_) | refine Kl rfl ?_ | fail) <;> ((conv => whnf); repeat' (refine Z rfl ?_; conv => whnf)))
 all_goals try exact ⟨congrArg bD (hno (by omega)).symm⟩
 have hy0 : 0 ≤ n.yes ∧ n.yes < ns.length := by omega
 have ho0 : 0 ≤ n.no ∧ n.no < ns.length := by omega
 obtain ⟨y, hy⟩ := hat _ hy0
 obtain ⟨o, ho⟩ := hat _ ho0
 have hc : n.crit = [] := List.eq_nil_of_length_eq_zero (by omega)
 have hin := hin y o (by omega) hc (by omega) (by omega) hy ho
 refine draw_rule2 (cf := {}) tok (by kernel_rfl) [0, 1, 2, 3, 4, 5, 6, 7, 8, 9] [(10, [], [.s 11 [], .s 12 [4, 0, 1, 2, 3], .s 13 [9, 5, 6, 7, 8]]), (11, [], [.s 10 [], .s 12 [4, 0, 1, 2, 3], .s 13 [9, 5, 6, 7, 8]])] (by kernel_rfl) ?_
 ((conv => whnf); repeat' (refine Z rfl ?_; conv => whnf))
 repeat' ((first | (intro hlq; (try simp only [SL] at hlq)) | refine Kn y hy ?_ | refine Kn o ho ?_ | refine Ks ?_ | refine Kq ?_ | refine Kt ?_ | ((refine Kh (fun hb => ?_) fun hb => ?_) <;> (try simp only [BL] at hb)) | refine Ka ?_ | refine Kb ?_ | refine Kc (hd := rfl) (e := ?_) | refine Kc (hd := icells_eq _) (e := ?_) | refine Kd (e := ?_) | refine Kl rfl ?_ | fail) <;> ((conv => whnf); repeat' (refine Z rfl ?_; conv => whnf)))
 refine ⟨?_, ?_, trivial⟩
 all_goals
  ((conv => whnf); repeat' (refine Z rfl ?_; conv => whnf))
  repeat' (first | (refine Kl rfl ?_; ((conv => whnf); repeat' (refine Z rfl ?_; conv => whnf))) | fail)
  repeat' ((first | (intro hlq; (try simp only [SL] at hlq)) | refine Meets.k (later_meets n o) ?_ | refine Meets.k (later_meets n y) ?_ | refine Ks ?_ | refine Kq ?_ | refine Kt ?_ | ((refine Kh (fun hb => ?_) fun hb => ?_) <;> (try simp only [BL] at hb)) | refine Ka ?_ | refine Kb ?_ | refine Kc (hd := rfl) (e := ?_) | refine Kc (hd := icells_eq _) (e := ?_) | refine Kd (e := ?_) | refine Kl rfl ?_ | fail) <;> ((conv => whnf); repeat' (refine Z rfl ?_; conv => whnf)))
  all_goals refine ⟨congrArg bD ?_⟩
  all_goals first
   | (rw [decide_eq_false (fun h => ?_)]; have := hin.1 h; omega)
   | (rw [decide_eq_true]; exact hin.2 (by omega))
   | exact decide_eq_decide.2 (by rw [hin]; omega)
end Go.Proofs.YtacclfgmgphljaaGreat.Dx
/- The code of chapter 10: Same, keyOf, IsSorted. -/
namespace Go.Proofs.YtacclfgmgphljaaGreat.Dx
open Go Go.RowKit
set_option maxRecDepth 100000
set_option maxHeartbeats 8000000
theorem equal_meets (a b : List Int) : Meets Tryz.prog 42 [.sl (a.map icells), .sl (b.map icells)] fun d => d = bD (decide (a = b)) := by
 refine enter tok {} Tryz.func42 rfl (by kernel_rfl) Tryz.ntmps42 (by simp) fun B0 W0 V0 lent g0 => ?_
 ((conv => whnf); repeat' (refine Z rfl ?_; conv => whnf))
 repeat' ((first | (intro hlq; (try simp only [SL] at hlq)) | refine Ks ?_ | refine Kq ?_ | refine Kt ?_ | ((refine Kh (fun hb => ?_) fun hb => ?_) <;> (try simp only [BL] at hb)) | refine Ka ?_ | refine Kb ?_ | refine Kc (hd := rfl) (e := ?_) | refine Kc (hd := icells_eq _) (e := ?_) | refine Kd (e := ?_) | refine Kl rfl ?_ | fail) <;> ((conv => whnf); repeat' (refine Z rfl ?_; conv => whnf)))
 · refine ⟨congrArg bD ?_⟩
   rw [decide_eq_false]
   rintro rfl
   omega
 have hlen : a.length = b.length := by omega
 refine loop_upd tok {} [] (X := Nat) (fun i => [(13, iB i)]) (fun _ => []) [] (fun i => i ≤ a.length ∧ a.take i = b.take i) (fun i => a.length - i) 0 ?_
 ((conv => whnf); repeat' (refine Z rfl ?_; conv => whnf))
 refine And.intro ?_ ⟨⟨by omega, by simp⟩, fun i hΦ => ?_⟩
 · exact Kr
 obtain ⟨hi, hp⟩ := hΦ
 ((conv => whnf); repeat' (refine Z rfl ?_; conv => whnf))
 repeat' ((first | (intro hlq; (try simp only [SL] at hlq)) | refine Ks ?_ | refine Kq ?_ | refine Kt ?_ | refine Ka ?_ | refine Kb ?_ | refine Kc (hd := rfl) (e := ?_) | refine Kc (hd := icells_eq _) (e := ?_) | refine Kd (e := ?_) | refine Kl rfl ?_ | fail) <;> ((conv => whnf); repeat' (refine Z rfl ?_; conv => whnf)))
 refine ⟨fun h1 => ?_, fun h1 => ?_⟩ <;> (try simp only [BL] at h1) <;> ((conv => whnf); repeat' (refine Z rfl ?_; conv => whnf))
 · have h1' : i < a.length := by omega
   refine draw_rule tok (cf := {}) (by kernel_rfl) [.p 0, .p 1, .p 2, .p 3, .p 4, .p 5, .p 6, .p 7, .p 8] (by kernel_rfl) ?_
   ((conv => whnf); repeat' (refine Z rfl ?_; conv => whnf))
   repeat' ((first | (intro hlq; (try simp only [SL] at hlq)) | refine Ks ?_ | refine Kq ?_ | refine Kt ?_ | refine Ka ?_ | refine Kb ?_ | refine Kc (hd := rfl) (e := ?_) | refine Kc (hd := icells_eq _) (e := ?_) | refine Kd (e := ?_) | refine Kl rfl ?_ | fail) <;> ((conv => whnf); repeat' (refine Z rfl ?_; conv => whnf)))
   refine ⟨fun h2 => ?_, fun h2 => ?_⟩ <;> (try simp only [BL] at h2) <;> ((conv => whnf); repeat' (refine Z rfl ?_; conv => whnf))
   · refine ⟨congrArg bD ?_⟩
     rw [decide_eq_false]
     rintro rfl
     exact h2 rfl
   · repeat' ((first | (intro hlq; (try simp only [SL] at hlq)) | refine Ks ?_ | refine Kq ?_ | refine Kt ?_ | refine Ka ?_ | refine Kb ?_ | refine Kc (hd := rfl) (e := ?_) | refine Kc (hd := icells_eq _) (e := ?_) | refine Kd (e := ?_) | refine Kl rfl ?_ | fail) <;> ((conv => whnf); repeat' (refine Z rfl ?_; conv => whnf)))
     refine ⟨⟨i + 1, ?_, ⟨by omega, ?_⟩, by omega⟩⟩
     · exact Kr
     rw [List.take_succ_eq_append_getElem h1', List.take_succ_eq_append_getElem (by omega : i < b.length), hp, Classical.byContradiction h2]
 · refine ⟨congrArg bD ?_⟩
   rw [List.take_of_length_le (by omega), List.take_of_length_le (by omega)] at hp
   rw [decide_eq_true hp]
theorem Node.e_iff {a b : Node} : a = b ↔ a.var = b.var ∧ a.n = b.n ∧ a.yes = b.yes ∧ a.no = b.no ∧ a.crit = b.crit := by
 obtain ⟨_, _, _, _, _⟩ := a; obtain ⟨_, _, _, _, _⟩ := b; simp
theorem sameN_meets (a b : Node) : Meets Tryz.prog 41 [a.d, b.d] fun d => d = bD (decide (a = b)) := by
 refine enter tok {} Tryz.func41 rfl (by kernel_rfl) Tryz.ntmps41 (by simp) fun B0 W0 V0 lent g0 => ?_
 ((conv => whnf); repeat' (refine Z rfl ?_; conv => whnf))
 repeat' ((first | (intro hlq; (try simp only [SL] at hlq)) | refine Meets.k (equal_meets a.crit b.crit) ?_ | refine Ks ?_ | refine Kq ?_ | refine Kt ?_ | ((refine Kh (fun hb => ?_) fun hb => ?_) <;> (try simp only [BL] at hb)) | refine Ka ?_ | refine Kb ?_ | refine Kc (hd := rfl) (e := ?_) | refine Kc (hd := icells_eq _) (e := ?_) | refine Kd (e := ?_) | refine Kl rfl ?_ | fail) <;> ((conv => whnf); repeat' (refine Z rfl ?_; conv => whnf)))
 all_goals refine ⟨congrArg bD ?_⟩
 all_goals simp only [Node.e_iff]
 all_goals simp_all
theorem equalFunc_meets (a b : List Node) : Meets Tryz.prog 40 [.sl (a.map Node.cells), .sl (b.map Node.cells), .fn 41 [] []] fun d => d = bD (decide (a = b)) := by
 refine enter tok {} Tryz.func40 rfl (by kernel_rfl) Tryz.ntmps40 (by simp) fun B0 W0 V0 lent g0 => ?_
 ((conv => whnf); repeat' (refine Z rfl ?_; conv => whnf))
 repeat' ((first | (intro hlq; (try simp only [SL] at hlq)) | refine Ks ?_ | refine Kq ?_ | refine Kt ?_ | ((refine Kh (fun hb => ?_) fun hb => ?_) <;> (try simp only [BL] at hb)) | refine Ka ?_ | refine Kb ?_ | refine Kc (hd := rfl) (e := ?_) | refine Kc (hd := icells_eq _) (e := ?_) | refine Kd (e := ?_) | refine Kl rfl ?_ | fail) <;> ((conv => whnf); repeat' (refine Z rfl ?_; conv => whnf)))
 · refine ⟨congrArg bD ?_⟩
   rw [decide_eq_false]
   rintro rfl
   omega
 have hlen : a.length = b.length := by omega
 refine loop_upd tok {} [] (X := Nat) (fun i => [(17, iB i)]) (fun _ => []) [8, 9] (fun i => i ≤ a.length ∧ a.take i = b.take i) (fun i => a.length - i) 0 ?_
 ((conv => whnf); repeat' (refine Z rfl ?_; conv => whnf))
 refine And.intro ?_ ⟨⟨by omega, by simp⟩, fun i hΦ => ?_⟩
 · exact Kr
 obtain ⟨hi, hp⟩ := hΦ
 ((conv => whnf); repeat' (refine Z rfl ?_; conv => whnf))
 repeat' ((first | (intro hlq; (try simp only [SL] at hlq)) | refine Ks ?_ | refine Kq ?_ | refine Kt ?_ | refine Ka ?_ | refine Kb ?_ | refine Kc (hd := rfl) (e := ?_) | refine Kc (hd := icells_eq _) (e := ?_) | refine Kd (e := ?_) | refine Kl rfl ?_ | fail) <;> ((conv => whnf); repeat' (refine Z rfl ?_; conv => whnf)))
 refine ⟨fun h1 => ?_, fun h1 => ?_⟩ <;> (try simp only [BL] at h1) <;> ((conv => whnf); repeat' (refine Z rfl ?_; conv => whnf))
 · have h1' : i < a.length := by omega
   repeat' ((first | (intro hlq; (try simp only [SL] at hlq)) | refine Meets.k (sameN_meets a[i] b[i]) ?_ | refine Ks ?_ | refine Kq ?_ | refine Kt ?_ | ((refine Kh (fun hb => ?_) fun hb => ?_) <;> (try simp only [BL] at hb)) | refine Ka ?_ | refine Kb ?_ | refine Kc (hd := rfl) (e := ?_) | refine Kc (hd := icells_eq _) (e := ?_) | refine Kd (e := ?_) | refine Kl rfl ?_ | fail) <;> ((conv => whnf); repeat' (refine Z rfl ?_; conv => whnf)))
   · refine ⟨congrArg bD ?_⟩
     rw [decide_eq_false]
     rintro rfl
     simp at hb
   · refine ⟨⟨i + 1, ?_, ⟨by omega, ?_⟩, by omega⟩⟩
     · exact Kr
     rw [List.take_succ_eq_append_getElem h1', List.take_succ_eq_append_getElem (by omega : i < b.length), hp]
     have : a[i] = b[i] := by simpa using hb
     rw [this]
 · refine ⟨congrArg bD ?_⟩
   rw [List.take_of_length_le (by omega), List.take_of_length_le (by omega)] at hp
   rw [decide_eq_true hp]
abbrev treeD (ns : List Node) : D := .agg [.sl (ns.map Node.cells)]
theorem tSame_meets (a b : List Node) : Meets Tryz.prog 15 [treeD a, treeD b] fun d => d = bD (decide (a = b)) := by
 refine enter tok {} Tryz.func15 rfl (by kernel_rfl) Tryz.ntmps15 (by simp) fun B0 W0 V0 lent g0 => ?_
 ((conv => whnf); repeat' (refine Z rfl ?_; conv => whnf))
 repeat' ((first | (intro hlq; (try simp only [SL] at hlq)) | refine Meets.k (equalFunc_meets a b) ?_ | refine Ks ?_ | refine Kq ?_ | refine Kt ?_ | ((refine Kh (fun hb => ?_) fun hb => ?_) <;> (try simp only [BL] at hb)) | refine Ka ?_ | refine Kb ?_ | refine Kc (hd := rfl) (e := ?_) | refine Kc (hd := icells_eq _) (e := ?_) | refine Kd (e := ?_) | refine Kl rfl ?_ | fail) <;> ((conv => whnf); repeat' (refine Z rfl ?_; conv => whnf)))
 exact ⟨rfl⟩
/-! ### keyOf -/
def kbytes (l : List Int) : List UInt8 := l.map fun c => UInt8.ofNat c.toNat
abbrev Node.key (x : Node) : D := .agg [iD x.var, iD x.n, iD x.yes, iD x.no, .str (kbytes x.crit)]
def Small (x : Node) : Prop := x.crit.length ≤ 5 ∧ ∀ y ∈ x.crit, 1 ≤ y ∧ y ≤ 5
theorem kbytes_inj : ∀ {l m : List Int}, (∀ y ∈ l, 1 ≤ y ∧ y ≤ 5) → (∀ y ∈ m, 1 ≤ y ∧ y ≤ 5) → kbytes l = kbytes m → l = m
 | [], [], _, _, _ => rfl
 | [], _ :: _, _, _, h => by simp [kbytes] at h
 | _ :: _, [], _, _, h => by simp [kbytes] at h
 | a :: l, b :: m, h1, h2, h => by
   simp only [kbytes, List.map_cons, List.cons.injEq] at h
   have ha := h1 a (by simp)
   have hb := h2 b (by simp)
   have h3 := congrArg UInt8.toNat h.1
   simp only [UInt8.toNat_ofNat'] at h3
   rw [kbytes_inj (fun y hy => h1 y (by simp [hy])) (fun y hy => h2 y (by simp [hy])) h.2, show a = b from by omega]
theorem key_inj {x y : Node} (hx : Small x) (hy : Small y) (h : x.key = y.key) : x = y := by
 simp only [Node.key, D.agg.injEq, List.cons.injEq, D.v.injEq, Value.int.injEq, D.str.injEq, true_and, and_true] at h
 rw [Node.e_iff]
 exact ⟨h.1, h.2.1, h.2.2.1, h.2.2.2.1, kbytes_inj hx.2 hy.2 h.2.2.2.2⟩
def kcells (l : List Int) (n : Nat) : List (List D) := (byteCells (kbytes l)) ++ List.replicate n [D.v (.int .u8 0)]
theorem kcells_len (l : List Int) (n : Nat) : (kcells l n).length = l.length + n := by simp [kcells, kbytes]
theorem kcells_set {l : List Int} {n : Nat} {c : Int} (h : 1 ≤ c ∧ c ≤ 5) : (kcells l (n + 1)).set l.length [D.v (.int .u8 c)] = kcells (l ++ [c]) n := by
 have hl : (byteCells (kbytes l)).length = l.length := by simp [kbytes]
 rw [kcells, ← hl, List.set_append_right _ _ (Nat.le_refl _), Nat.sub_self, List.replicate_succ, List.set_cons_zero]
 simp [kcells, kbytes]
 omega
/-- room for a row of n values -/
theorem Kmk {xs : List Int} {s : Nat} {E : Prop} (e : E) (h : xs.length ≤ 1048576) (hs : s = 1) {k : IntKind} (hk : inKind k 0) : (s = 1 ∧ inKind k 0 ∧ ((xs.map icells).length : Int) = ((xs.map icells).length : Int) ∧ 0 ≤ ((xs.map icells).length : Int) ∧ (1 : Int) * ((xs.map icells).length : Int) ≤ 281474976710656 ∧ ((xs.map icells).length : Int) ≤ 4611686018427387904) ∧ E := by
 refine ⟨⟨hs, hk, rfl, ?_, ?_, ?_⟩, e⟩ <;> rw [List.length_map] <;> omega
theorem keyOf_meets (x : Node) (hx : Small x) : Meets Tryz.prog 38 [x.d] fun d => d = x.key := by
 have hl := hx.1
 refine enter tok {} Tryz.func38 rfl (by kernel_rfl) Tryz.ntmps38 (by simp) fun B0 W0 V0 lent g0 => ?_
 ((conv => whnf); repeat' (refine Z rfl ?_; conv => whnf))
 repeat' ((first | (intro hlq; (try simp only [SL] at hlq)) | refine Ks ?_ | refine Kq ?_ | refine Kt ?_ | refine Ka ?_ | refine Kb ?_ | refine Kc (hd := rfl) (e := ?_) | refine Kc (hd := icells_eq _) (e := ?_) | refine Kd (e := ?_) | refine Kl rfl ?_ | fail) <;> ((conv => whnf); repeat' (refine Z rfl ?_; conv => whnf)))
 refine Kmk ?_ (by omega) rfl ⟨by decide, by decide⟩
 ((conv => whnf); repeat' (refine Z rfl ?_; conv => whnf))
 repeat' ((first | (intro hlq; (try simp only [SL] at hlq)) | refine Ks ?_ | refine Kq ?_ | refine Kt ?_ | refine Ka ?_ | refine Kb ?_ | refine Kc (hd := rfl) (e := ?_) | refine Kc (hd := icells_eq _) (e := ?_) | refine Kd (e := ?_) | refine Kl rfl ?_ | fail) <;> ((conv => whnf); repeat' (refine Z rfl ?_; conv => whnf)))
 refine loop_upd tok {} [] (X := Nat) (fun i => [(13, iB i)]) (fun i => [(9, .sl ⟨5, 1, kcells (x.crit.take i) (x.crit.length - i), false⟩)]) [] (fun i => i ≤ x.crit.length) (fun i => x.crit.length - i) 0 ?_
 ((conv => whnf); repeat' (refine Z rfl ?_; conv => whnf))
 refine And.intro ?_ ⟨by omega, fun i hi => ?_⟩
 · repeat' (first | exact True.intro | exact rfl | refine And.intro ?_ ?_ | (simp [kcells, kbytes]; done))
 ((conv => whnf); repeat' (refine Z rfl ?_; conv => whnf))
 refine ⟨fun h1 => ?_, fun h1 => ?_⟩ <;> (try simp only [BL] at h1) <;> ((conv => whnf); repeat' (refine Z rfl ?_; conv => whnf))
 · have h1' : i < x.crit.length := by omega
   have hc := hx.2 _ (List.getElem_mem h1')
   have hset := kcells_set (l := x.crit.take i) (n := x.crit.length - (i + 1)) hc
   rw [show x.crit.length - (i + 1) + 1 = x.crit.length - i from by omega, List.length_take, Nat.min_eq_left (by omega), ← List.take_succ_eq_append_getElem h1'] at hset
   have hget : (kcells (x.crit.take i) (x.crit.length - i))[i]? = some [D.v (.int .u8 0)] := by
    have e : i = (byteCells (kbytes (x.crit.take i))).length := by simp [kbytes]; omega
    rw [kcells]
    conv => lhs; rw [e]
    rw [← e, List.getElem?_append_right (by omega), ← e, Nat.sub_self, List.getElem?_replicate, if_pos (by omega)]
   have hlen := kcells_len (x.crit.take i) (x.crit.length - i)
   rw [List.length_take] at hlen
   repeat' ((first | (intro hlq; (try simp only [SL] at hlq)) | refine Ks ?_ | refine Kq ?_ | refine Kt ?_ | refine Ka ?_ | refine Kb ?_ | refine Kc (hd := rfl) (e := ?_) | refine Kc (hd := icells_eq _) (e := ?_) | refine Kd (e := ?_) | refine Kl rfl ?_ | fail) <;> ((conv => whnf); repeat' (refine Z rfl ?_; conv => whnf)))
   refine ⟨fun _ => by simp only [inKind]; omega, ?_⟩
   ((conv => whnf); repeat' (refine Z rfl ?_; conv => whnf))
   refine ⟨⟨by omega, by dsimp only; omega, rfl⟩, ?_⟩
   ((conv => whnf); repeat' (refine Z rfl ?_; conv => whnf))
   refine ⟨_, ⟨hget, rfl, Nat.le_refl _⟩, ?_⟩
   ((conv => whnf); repeat' (refine Z rfl ?_; conv => whnf))
   repeat' ((first | (intro hlq; (try simp only [SL] at hlq)) | refine Ks ?_ | refine Kq ?_ | refine Kt ?_ | refine Ka ?_ | refine Kb ?_ | refine Kc (hd := rfl) (e := ?_) | refine Kc (hd := icells_eq _) (e := ?_) | refine Kd (e := ?_) | refine Kl rfl ?_ | fail) <;> ((conv => whnf); repeat' (refine Z rfl ?_; conv => whnf)))
   refine ⟨⟨i + 1, ?_, by omega, by omega⟩⟩
   repeat' (first | exact True.intro | exact rfl | refine And.intro ?_ ?_ | (exact hset.symm) | (exact hset))
 · have hi' : i = x.crit.length := by omega
   subst hi'
   rw [Nat.sub_self, List.take_of_length_le (Nat.le_refl _)]
   repeat' ((first | (intro hlq; (try simp only [SL] at hlq)) | refine Ks ?_ | refine Kq ?_ | refine Kt ?_ | refine Ka ?_ | refine Kb ?_ | refine Kc (hd := rfl) (e := ?_) | refine Kc (hd := icells_eq _) (e := ?_) | refine Kd (e := ?_) | refine Kl rfl ?_ | fail) <;> ((conv => whnf); repeat' (refine Z rfl ?_; conv => whnf)))
   refine ⟨kbytes x.crit, by simp [kcells], ?_⟩
   ((conv => whnf); repeat' (refine Z rfl ?_; conv => whnf))
   exact ⟨rfl⟩
/-! ### IsSorted -/
theorem isNaN_meets (n : Int) : Meets Tryz.prog 90 [iD n] fun d => d = bD false := by
 refine enter tok {} Tryz.func90 rfl (by kernel_rfl) Tryz.ntmps90 (by simp) fun B0 W0 V0 lent g0 => ?_
 ((conv => whnf); repeat' (refine Z rfl ?_; conv => whnf))
 repeat' ((first | (intro hlq; (try simp only [SL] at hlq)) | refine Ks ?_ | refine Kq ?_ | refine Kt ?_ | ((refine Kh (fun hb => ?_) fun hb => ?_) <;> (try simp only [BL] at hb)) | refine Ka ?_ | refine Kb ?_ | refine Kc (hd := rfl) (e := ?_) | refine Kc (hd := icells_eq _) (e := ?_) | refine Kd (e := ?_) | refine Kl rfl ?_ | fail) <;> ((conv => whnf); repeat' (refine Z rfl ?_; conv => whnf)))
 all_goals exact ⟨by simp⟩
theorem less_meets (a b : Int) : Meets Tryz.prog 64 [iD a, iD b] fun d => d = bD (decide (a < b)) := by
 refine enter tok {} Tryz.func64 rfl (by kernel_rfl) Tryz.ntmps64 (by simp) fun B0 W0 V0 lent g0 => ?_
 ((conv => whnf); repeat' (refine Z rfl ?_; conv => whnf))
 repeat' ((first | (intro hlq; (try simp only [SL] at hlq)) | refine Meets.k (isNaN_meets a) ?_ | refine Meets.k (isNaN_meets b) ?_ | refine Ks ?_ | refine Kq ?_ | refine Kt ?_ | ((refine Kh (fun hb => ?_) fun hb => ?_) <;> (try simp only [BL] at hb)) | refine Ka ?_ | refine Kb ?_ | refine Kc (hd := rfl) (e := ?_) | refine Kc (hd := icells_eq _) (e := ?_) | refine Kd (e := ?_) | refine Kl rfl ?_ | fail) <;> ((conv => whnf); repeat' (refine Z rfl ?_; conv => whnf)))
 all_goals refine ⟨congrArg bD ?_⟩
 all_goals simp_all
theorem Ki {xs : List Int} {i : Int} {E : List D → Prop} (x : Int) (h : 0 ≤ i ∧ xs[i.toNat]? = some x) (e : E [iD x]) : ∃ ds, (0 ≤ i ∧ (xs.map icells)[i.toNat]? = some ds ∧ ds.length = 1) ∧ E ds :=
 ⟨[iD x], ⟨h.1, by rw [List.getElem?_map, h.2]; rfl, rfl⟩, e⟩
theorem isSorted_meets (l : List Int) : Meets Tryz.prog 39 [.sl (l.map icells)] fun d => d = bD (decide (l.Pairwise (· ≤ ·))) := by
 have hml : (l.map icells).length = l.length := List.length_map _
 refine enter tok {} Tryz.func39 rfl (by kernel_rfl) Tryz.ntmps39 (by simp) fun B0 W0 V0 lent g0 => ?_
 ((conv => whnf); repeat' (refine Z rfl ?_; conv => whnf))
 repeat' ((first | (intro hlq; (try simp only [SL] at hlq)) | refine Ks ?_ | refine Kq ?_ | refine Kt ?_ | refine Ka ?_ | refine Kb ?_ | refine Kc (hd := rfl) (e := ?_) | refine Kc (hd := icells_eq _) (e := ?_) | refine Kd (e := ?_) | refine Kl rfl ?_ | fail) <;> ((conv => whnf); repeat' (refine Z rfl ?_; conv => whnf)))
 refine loop_upd tok {} [] (X := Nat) (fun k => [(3, iB ((k : Int) - 1))]) (fun _ => []) [] (fun k => k ≤ l.length ∧ (l.drop (k - 1)).Pairwise (· ≤ ·)) (fun k => k) (l.map icells).length ?_
 ((conv => whnf); repeat' (refine Z rfl ?_; conv => whnf))
 refine And.intro ?_ ⟨⟨by omega, ?_⟩, fun k hΦ => ?_⟩
 · exact Kr
 · rw [hml]
   rcases (by omega : l.length = 0 ∨ 0 < l.length) with h | h
   · rw [List.drop_eq_nil_of_le (by omega)]; exact .nil
   · rw [List.drop_eq_getElem_cons (by omega), List.drop_eq_nil_of_le (by omega)]; exact List.pairwise_singleton _ _
 obtain ⟨hk, hp⟩ := hΦ
 ((conv => whnf); repeat' (refine Z rfl ?_; conv => whnf))
 refine ⟨fun h1 => ?_, fun h1 => ?_⟩ <;> (try simp only [BL] at h1) <;> ((conv => whnf); repeat' (refine Z rfl ?_; conv => whnf))
 · have hk2 : 2 ≤ k := by omega
   have ha : 0 ≤ (k : Int) - 1 ∧ l[((k : Int) - 1).toNat]? = some (l[k - 1]'(by omega)) := ⟨by omega, by rw [show ((k : Int) - 1).toNat = k - 1 from by omega, List.getElem?_eq_getElem]⟩
   have hb' : 0 ≤ (k : Int) - 1 - 1 ∧ l[((k : Int) - 1 - 1).toNat]? = some (l[k - 2]'(by omega)) := ⟨by omega, by rw [show ((k : Int) - 1 - 1).toNat = k - 2 from by omega, List.getElem?_eq_getElem]⟩
   have hd : l.drop (k - 2) = l[k - 2] :: l.drop (k - 1) := by rw [List.drop_eq_getElem_cons (by omega), show k - 2 + 1 = k - 1 from by omega]
   have hd2 : l.drop (k - 1) = l[k - 1] :: l.drop k := by rw [List.drop_eq_getElem_cons (by omega), show k - 1 + 1 = k from by omega]
   refine draw_rule tok (cf := {}) (by kernel_rfl) [.p 0, .p 1, .p 2, .p 3, .p 4, .p 5, .p 6, .p 7, .p 8, .s 9 [3,8,2,7,0,1,4,6,5]] (by kernel_rfl) ?_
   ((conv => whnf); repeat' (refine Z rfl ?_; conv => whnf))
   repeat' ((first | (intro hlq; (try simp only [SL] at hlq)) | refine Ki _ ha ?_ | refine Ki _ hb' ?_ | refine Meets.k (less_meets l[k - 1] l[k - 2]) ?_ | refine Ks ?_ | refine Kq ?_ | refine Kt ?_ | ((refine Kh (fun hb => ?_) fun hb => ?_) <;> (try simp only [BL] at hb)) | refine Ka ?_ | refine Kb ?_ | refine Kc (hd := rfl) (e := ?_) | refine Kc (hd := icells_eq _) (e := ?_) | refine Kd (e := ?_) | refine Kl rfl ?_ | fail) <;> ((conv => whnf); repeat' (refine Z rfl ?_; conv => whnf)))
   · refine ⟨congrArg bD ?_⟩
     rw [decide_eq_false]
     intro h
     have h2 := h.sublist (List.drop_sublist (k - 2) l)
     rw [hd, hd2] at h2
     have := (List.pairwise_cons.1 h2).1 l[k - 1] (by simp)
     omega
   · refine ⟨⟨k - 1, ?_, ⟨by omega, ?_⟩, by omega⟩⟩
     · repeat' (first | exact True.intro | exact rfl | refine And.intro ?_ ?_ | ((show D.v _ = D.v _; congr 2; omega)))
     rw [show k - 1 - 1 = k - 2 from by omega, hd, List.pairwise_cons]
     refine ⟨fun a ha => ?_, hp⟩
     rw [hd2] at ha hp
     rcases List.mem_cons.1 ha with rfl | ha
     · omega
     · have := (List.pairwise_cons.1 hp).1 a ha; omega
 · refine ⟨congrArg bD ?_⟩
   rw [show k - 1 = 0 from by omega] at hp
   rw [decide_eq_true]
   exact hp
end Go.Proofs.YtacclfgmgphljaaGreat.Dx
