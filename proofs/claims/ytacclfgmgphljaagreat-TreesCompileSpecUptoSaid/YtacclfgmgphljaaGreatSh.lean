/- The reference of chapter 10: SameNode, Same, Bounds, leaf, inner, FewNodes. -/
import Derived.Test.YtacclfgmgphljaaGreatSb
import Derived.Test.YtacclfgmgphljaaGreatRo
set_option linter.all false
namespace Go.Proofs.YtacclfgmgphljaaGreat.Dx
open Go Go.RowKit
set_option maxRecDepth 100000
set_option maxHeartbeats 16000000
theorem rSameN_meets (a b : Node) : Meets Tryz.prog 31 [a.d, b.d] fun d => d = bD (decide (a = b)) := by
 refine enter tok {} Tryz.func31 rfl (by kernel_rfl) Tryz.ntmps31 (by simp) fun B0 W0 V0 lent g0 => ?_
 ((conv => whnf); repeat' (refine Z rfl ?_; conv => whnf))
 repeat' ((first | (intro hlq; (try simp only [SL] at hlq)) | refine Meets.k (Same_meets a.crit b.crit) ?_ | refine Ks ?_ | refine Kq ?_ | refine Kt ?_ | ((refine Kh (fun hb => ?_) fun hb => ?_) <;> (try simp only [BL] at hb)) | refine Ka ?_ | refine Kb ?_ | refine Kc (hd := rfl) (e := ?_) | refine Kc (hd := icells_eq _) (e := ?_) | refine Kd (e := ?_) | refine Kl rfl ?_ | fail) <;> ((conv => whnf); repeat' (refine Z rfl ?_; conv => whnf)))
 all_goals refine ⟨congrArg bD ?_⟩
 all_goals simp only [Node.e_iff]
 all_goals simp_all
theorem rBounds_meets (v : Int) : Meets Tryz.prog 44 [iD v] fun d => d = .tup [iD 0, iD (Tr.most v)] := by
 refine enter tok {} Tryz.func44 rfl (by kernel_rfl) Tryz.ntmps44 (by simp) fun B0 W0 V0 lent g0 => ?_
 ((conv => whnf); repeat' (refine Z rfl ?_; conv => whnf))
 repeat' ((first | (intro hlq; (try simp only [SL] at hlq)) | refine Ks ?_ | refine Kq ?_ | refine Kt ?_ | ((refine Kh (fun hb => ?_) fun hb => ?_) <;> (try simp only [BL] at hb)) | refine Ka ?_ | refine Kb ?_ | refine Kc (hd := rfl) (e := ?_) | refine Kc (hd := icells_eq _) (e := ?_) | refine Kd (e := ?_) | refine Kl rfl ?_ | fail) <;> ((conv => whnf); repeat' (refine Z rfl ?_; conv => whnf)))
 all_goals refine ⟨?_⟩
 all_goals simp_all [Tr.most]
theorem rSame_meets (a b : List Node) : Meets Tryz.prog 8 [treeD a, treeD b] fun d => d = bD (decide (a = b)) := by
 refine enter tok {} Tryz.func8 rfl (by kernel_rfl) Tryz.ntmps8 (by simp) fun B0 W0 V0 lent g0 => ?_
 ((conv => whnf); repeat' (refine Z rfl ?_; conv => whnf))
 repeat' ((first | (intro hlq; (try simp only [SL] at hlq)) | refine Ks ?_ | refine Kq ?_ | refine Kt ?_ | ((refine Kh (fun hb => ?_) fun hb => ?_) <;> (try simp only [BL] at hb)) | refine Ka ?_ | refine Kb ?_ | refine Kc (hd := rfl) (e := ?_) | refine Kc (hd := icells_eq _) (e := ?_) | refine Kd (e := ?_) | refine Kl rfl ?_ | fail) <;> ((conv => whnf); repeat' (refine Z rfl ?_; conv => whnf)))
 · refine ⟨congrArg bD ?_⟩
   rw [decide_eq_false]
   rintro rfl
   omega
 have hlen : a.length = b.length := by omega
 refine loop_upd tok {} [] (X := Nat) (fun i => [(5, iB i)]) (fun _ => []) [] (fun i => i ≤ a.length ∧ a.take i = b.take i) (fun i => a.length - i) 0 ?_
 ((conv => whnf); repeat' (refine Z rfl ?_; conv => whnf))
 refine And.intro ?_ ⟨⟨by omega, by simp⟩, fun i hΦ => ?_⟩
 · exact Kr
 obtain ⟨hi, hp⟩ := hΦ
 ((conv => whnf); repeat' (refine Z rfl ?_; conv => whnf))
 repeat' ((first | (intro hlq; (try simp only [SL] at hlq)) | refine Ks ?_ | refine Kq ?_ | refine Kt ?_ | refine Ka ?_ | refine Kb ?_ | refine Kc (hd := rfl) (e := ?_) | refine Kc (hd := icells_eq _) (e := ?_) | refine Kd (e := ?_) | refine Kl rfl ?_ | fail) <;> ((conv => whnf); repeat' (refine Z rfl ?_; conv => whnf)))
 refine ⟨fun h1 => ?_, fun h1 => ?_⟩ <;> (try simp only [BL] at h1) <;> ((conv => whnf); repeat' (refine Z rfl ?_; conv => whnf))
 · have h1' : i < a.length := by omega
   have h1b : i < b.length := by omega
   refine draw_rule tok (cf := {}) (by kernel_rfl) [.p 0, .p 1, .p 2, .p 3, .p 4, .p 5, .p 6, .p 7, .p 8, .p 9, .s 10 [4,9,3,8,1,2,6,7,0,5], .p 11] (by kernel_rfl) ?_
   ((conv => whnf); repeat' (refine Z rfl ?_; conv => whnf))
   repeat' ((first | (intro hlq; (try simp only [SL] at hlq)) | refine Kn a[i] ⟨by omega, by rw [Int.toNat_natCast, List.getElem?_eq_getElem h1']⟩ ?_ | refine Kn b[i] ⟨by omega, by rw [Int.toNat_natCast, List.getElem?_eq_getElem h1b]⟩ ?_ | refine Meets.k (rSameN_meets a[i] b[i]) ?_ | refine Ks ?_ | refine Kq ?_ | refine Kt ?_ | ((refine Kh (fun hb => ?_) fun hb => ?_) <;> (try simp only [BL] at hb)) | refine Ka ?_ | refine Kb ?_ | refine Kc (hd := rfl) (e := ?_) | refine Kc (hd := icells_eq _) (e := ?_) | refine Kd (e := ?_) | refine Kl rfl ?_ | fail) <;> ((conv => whnf); repeat' (refine Z rfl ?_; conv => whnf)))
   · refine ⟨congrArg bD ?_⟩
     rw [decide_eq_false]
     rintro rfl
     simp at hb
   · refine ⟨⟨i + 1, ?_, ⟨by omega, ?_⟩, by omega⟩⟩
     · exact Kr
     have hb' : a[i] = b[i] := by simpa using hb
     rw [List.take_succ_eq_append_getElem h1', List.take_succ_eq_append_getElem h1b, hp, hb']
 · refine ⟨congrArg bD ?_⟩
   rw [List.take_of_length_le (by omega), List.take_of_length_le (by omega)] at hp
   rw [decide_eq_true hp]
end Go.Proofs.YtacclfgmgphljaaGreat.Dx
/- The reference of chapter 10: visit, Check. -/
namespace Go.Proofs.YtacclfgmgphljaaGreat.Dx
open Go Go.RowKit
set_option maxRecDepth 100000
set_option maxHeartbeats 16000000
theorem preI_nodup {ns : List Node} (t : Tr) : ∀ {i : Nat} {met : List Nat}, met.Nodup → (preI ns t i met).Nodup := by
 have snoc : ∀ {met : List Nat} {x : Nat}, met.Nodup → x ∉ met → (met ++ [x]).Nodup := by
  intro met x h hx
  rw [List.nodup_append]
  exact ⟨h, by simp, fun a ha b hb => by rw [List.mem_singleton.1 hb]; exact fun e => hx (e ▸ ha)⟩
 induction t with
 | leaf c =>
   intro i met h
   rw [preI]
   split
   · exact h
   · rename_i hx; exact snoc h hx
 | node v n s t ihs iht =>
   intro i met h
   rw [preI]
   split
   · exact h
   · rename_i hx; exact iht (ihs (snoc h hx))
theorem hasN_meets (l : List Nat) (i : Nat) : Meets Tryz.prog 59 [.sl (l.map ncells), iD i] fun d => d = bD (decide (i ∈ l)) := by
 have h := In_meets (l.map fun j : Nat => (j : Int)) i
 rw [List.map_map] at h
 have e : hasI (l.map fun j : Nat => (j : Int)) i = decide (i ∈ l) := by
  unfold hasI
  by_cases hm : i ∈ l
  · rw [decide_eq_true hm, List.any_eq_true]
    exact ⟨(i : Int), List.mem_map.2 ⟨i, hm, rfl⟩, by simp⟩
  · rw [decide_eq_false hm, List.any_eq_false]
    intro x hx
    obtain ⟨j, hj, rfl⟩ := List.mem_map.1 hx
    simp only [decide_eq_true_eq]
    intro h
    exact hm (by rwa [← Int.ofNat_inj.1 h])
 rw [e] at h
 exact h
theorem rVisit_meets (ns : List Node) (hl : ns.length ≤ 100000000) (t : Tr) : ∀ (i : Nat) (met : List Nat), Den ns i t → met.Nodup → (∀ j ∈ met, j < ns.length) →
 Meets Tryz.prog 30 [treeD ns, iD i, .sl (met.map ncells)] fun d => d = .sl ((preI ns t i met).map ncells) := by
 induction t with
 | leaf c =>
   intro i met h hnd hlt
   have hmet := nodup_len hnd hlt
   have hin := hasN_meets met i
   have hi := h.lt
   cases h with
   | leaf _ _ hg =>
     have hgi : ns[i] = ⟨0, 0, 0, 0, c⟩ := by rw [List.getElem?_eq_getElem hi] at hg; exact Option.some.inj hg
     rw [preI]
     refine enter tok {} Tryz.func30 rfl (by kernel_rfl) Tryz.ntmps30 (by simp) fun B0 W0 V0 lent g0 => ?_
     ((conv => whnf); repeat' (refine Z rfl ?_; conv => whnf))
     repeat' ((first | (intro hlq; (try simp only [SL] at hlq)) | refine Meets.k (hin) ?_ | refine Ks ?_ | refine Kq ?_ | refine Kt ?_ | ((refine Kh (fun hb => ?_) fun hb => ?_) <;> (try simp only [BL] at hb)) | refine Ka ?_ | refine Kb ?_ | refine Kc (hd := rfl) (e := ?_) | refine Kc (hd := icells_eq _) (e := ?_) | refine Kd (e := ?_) | refine Kl rfl ?_ | fail) <;> ((conv => whnf); repeat' (refine Z rfl ?_; conv => whnf)))
     · exact ⟨by rw [if_pos hb]⟩
     have hb0 := hb
     refine ⟨by simp, ?_⟩
     ((conv => whnf); repeat' (refine Z rfl ?_; conv => whnf))
     refine ⟨⟨(Kap True.intro ?_ (by decide)).1, by simp⟩, ?_⟩
     · simp only [List.length_map, List.length_cons, List.length_nil]; omega
     ((conv => whnf); repeat' (refine Z rfl ?_; conv => whnf))
     refine ⟨by simp, ?_⟩
     ((conv => whnf); repeat' (refine Z rfl ?_; conv => whnf))
     refine Kap ?_ ?_ ?_
     rotate_left 1
     · simp only [List.length_map, List.length_append, List.length_cons, List.length_nil]; omega
     · decide
     ((conv => whnf); repeat' (refine Z rfl ?_; conv => whnf))
     repeat' ((first | (intro hlq; (try simp only [SL] at hlq)) | refine Kn ⟨0, 0, 0, 0, c⟩ ⟨by omega, by rw [Int.toNat_natCast, hg]⟩ ?_ | refine Ks ?_ | refine Kq ?_ | refine Kt ?_ | ((refine Kh (fun hb => ?_) fun hb => ?_) <;> (try simp only [BL] at hb)) | refine Ka ?_ | refine Kb ?_ | refine Kc (hd := rfl) (e := ?_) | refine Kc (hd := icells_eq _) (e := ?_) | refine Kd (e := ?_) | refine Kl rfl ?_ | fail) <;> ((conv => whnf); repeat' (refine Z rfl ?_; conv => whnf)))
     · exact ⟨by rw [if_neg hb0]; simp⟩
     · exact absurd trivial hb
 | node v n s t ihs iht =>
   intro i met h hnd hlt
   have hmet := nodup_len hnd hlt
   have hin := hasN_meets met i
   have hi := h.lt
   cases h with
   | node _ _ _ y o _ _ hg hv hy ho =>
     have e1 : yesI ns i = y := by simp [yesI, hg]
     have e2 : noI ns i = o := by simp [noI, hg]
     rw [preI, e1, e2]
     refine enter tok {} Tryz.func30 rfl (by kernel_rfl) Tryz.ntmps30 (by simp) fun B0 W0 V0 lent g0 => ?_
     ((conv => whnf); repeat' (refine Z rfl ?_; conv => whnf))
     repeat' ((first | (intro hlq; (try simp only [SL] at hlq)) | refine Meets.k (hin) ?_ | refine Ks ?_ | refine Kq ?_ | refine Kt ?_ | ((refine Kh (fun hb => ?_) fun hb => ?_) <;> (try simp only [BL] at hb)) | refine Ka ?_ | refine Kb ?_ | refine Kc (hd := rfl) (e := ?_) | refine Kc (hd := icells_eq _) (e := ?_) | refine Kd (e := ?_) | refine Kl rfl ?_ | fail) <;> ((conv => whnf); repeat' (refine Z rfl ?_; conv => whnf)))
     · exact ⟨by rw [if_pos hb]⟩
     have hb0 := hb
     refine ⟨by simp, ?_⟩
     ((conv => whnf); repeat' (refine Z rfl ?_; conv => whnf))
     refine ⟨⟨(Kap True.intro ?_ (by decide)).1, by simp⟩, ?_⟩
     · simp only [List.length_map, List.length_cons, List.length_nil]; omega
     ((conv => whnf); repeat' (refine Z rfl ?_; conv => whnf))
     refine ⟨by simp, ?_⟩
     ((conv => whnf); repeat' (refine Z rfl ?_; conv => whnf))
     refine Kap ?_ ?_ ?_
     rotate_left 1
     · simp only [List.length_map, List.length_append, List.length_cons, List.length_nil]; omega
     · decide
     ((conv => whnf); repeat' (refine Z rfl ?_; conv => whnf))
     have hm2 : (met ++ [i]).Nodup ∧ ∀ j ∈ met ++ [i], j < ns.length := by
      refine ⟨?_, fun k hk => ?_⟩
      · rw [List.nodup_append]
        exact ⟨hnd, by simp, fun a ha b hb' => by rw [List.mem_singleton.1 hb']; exact fun e => hb0 (e ▸ ha)⟩
      · rcases List.mem_append.1 hk with hk | hk
        · exact hlt k hk
        · rw [List.mem_singleton.1 hk]; exact hi
     have q1 := ihs y (met ++ [i]) hy hm2.1 hm2.2
     have q2 := iht o (preI ns s y (met ++ [i])) ho (preI_nodup s hm2.1) (preI_lt hy hm2.2)
     rw [List.map_append] at q1
     repeat' ((first | (intro hlq; (try simp only [SL] at hlq)) | refine Kn ⟨v, n, y, o, []⟩ ⟨by omega, by rw [Int.toNat_natCast, hg]⟩ ?_ | refine Ks ?_ | refine Kq ?_ | refine Kt ?_ | ((refine Kh (fun hb => ?_) fun hb => ?_) <;> (try simp only [BL] at hb)) | refine Ka ?_ | refine Kb ?_ | refine Kc (hd := rfl) (e := ?_) | refine Kc (hd := icells_eq _) (e := ?_) | refine Kd (e := ?_) | refine Kl rfl ?_ | fail) <;> ((conv => whnf); repeat' (refine Z rfl ?_; conv => whnf)))
     · exact absurd hb hv
     refine draw_rule tok (cf := {}) (by kernel_rfl) [.p 0, .p 1, .p 2, .p 3, .p 4, .p 5, .p 6, .p 7, .p 8, .p 9, .p 10, .p 11, .p 12, .p 13, .p 14, .s 15 [7,13,14,12,11,9,10,8], .s 16 [0,6,5,4,2,3,1], .p 17] (by kernel_rfl) ?_
     ((conv => whnf); repeat' (refine Z rfl ?_; conv => whnf))
     repeat' ((first | (intro hlq; (try simp only [SL] at hlq)) | refine Kn ⟨v, n, y, o, []⟩ ⟨by omega, by rw [Int.toNat_natCast, hg]⟩ ?_ | refine Meets.k (q1) ?_ | refine Meets.k (q2) ?_ | refine Ks ?_ | refine Kq ?_ | refine Kt ?_ | ((refine Kh (fun hb => ?_) fun hb => ?_) <;> (try simp only [BL] at hb)) | refine Ka ?_ | refine Kb ?_ | refine Kc (hd := rfl) (e := ?_) | refine Kc (hd := icells_eq _) (e := ?_) | refine Kd (e := ?_) | refine Kl rfl ?_ | fail) <;> ((conv => whnf); repeat' (refine Z rfl ?_; conv => whnf)))
     exact ⟨by rw [if_neg hb0]⟩
end Go.Proofs.YtacclfgmgphljaaGreat.Dx
