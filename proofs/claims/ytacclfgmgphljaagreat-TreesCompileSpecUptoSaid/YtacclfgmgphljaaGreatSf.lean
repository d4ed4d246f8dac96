/- The code of chapter 10: the forest's put. -/
import Derived.Test.YtacclfgmgphljaaGreatSe
set_option linter.all false
namespace Go.Proofs.YtacclfgmgphljaaGreat.Dx
open Go Go.RowKit
set_option maxRecDepth 100000
set_option maxHeartbeats 16000000
def putE (ns : List Node) (n : Node) : List Node := if n ∈ ns then ns else ns ++ [n]
abbrev iFn (i : Nat) : D := iD (i : Int)
abbrev forO (ns : List Node) (mp : List (D × D)) : List (Nat × Blk) := [(4002, .box [.own 4003, .own 4004] 60), (4003, .sl ⟨39, 5, ns.map Node.cells, true⟩), (4004, .mp mp)]
theorem put_meets (ns : List Node) (mp : List (D × D)) (n : Node) (hs : ∀ x ∈ ns, Small x) (hn : Small n) (hm : NMap ns iFn mp) (hl : ns.length ≤ 100000000) :
 MeetsR Tryz.prog 25 [.loc 4002 0, .d n.d] (forO ns mp) fun o O' => ∃ mp', o = .ret (iB (ns.idxOf n : Int)) ∧ O' = forO (putE ns n) mp' ∧ NMap (putE ns n) iFn mp' := by
 by_cases h : n ∈ ns
 · have hp : putE ns n = ns := by rw [putE, if_pos h]
   refine enterR tok {rs := [999]} Tryz.func25 rfl (by kernel_rfl) Tryz.ntmps25 (by simp) fun B0 W0 V0 lent g0 => ?_
   ((conv => whnf); repeat' (refine vcC_go tok {rs := [999]} rfl ?_; conv => whnf))
   refine Meets.k (keyOf_meets n hn) ?_
   ((conv => whnf); repeat' (refine vcC_go tok {rs := [999]} rfl ?_; conv => whnf))
   refine draw_rule tok (cf := {rs := [999]}) (by kernel_rfl) [.p 0, .p 1, .p 2, .p 3, .p 4, .p 5, .p 6, .p 7, .p 8, .p 9, .p 10] (by kernel_rfl) ?_
   ((conv => whnf); repeat' (refine vcC_go tok {rs := [999]} rfl ?_; conv => whnf))
   refine ⟨⟨key_k _, hm.keys⟩, iD (ns.idxOf n : Int), true, ⟨?_, ?_⟩, ?_⟩
   · rw [hm.get n hn]; simp [h]
   · rw [hm.get n hn]; simp [h]
   ((conv => whnf); repeat' (refine vcC_go tok {rs := [999]} rfl ?_; conv => whnf))
   refine ⟨fun h => absurd h (by decide), fun _ => ?_⟩
   ((conv => whnf); repeat' (refine vcC_go tok {rs := [999]} rfl ?_; conv => whnf))
   refine ⟨forO ns mp, _, ?_, ⟨mp, rfl, ?_, ?_⟩⟩
   · exact Kr
   · rw [hp]
   · rw [hp]; exact hm
 · have hp : putE ns n = ns ++ [n] := by rw [putE, if_neg h]
   have hi : ns.idxOf n = ns.length := List.idxOf_eq_length h
   refine enterR tok {rs := [999]} Tryz.func25 rfl (by kernel_rfl) Tryz.ntmps25 (by simp) fun B0 W0 V0 lent g0 => ?_
   ((conv => whnf); repeat' (refine vcC_go tok {rs := [999]} rfl ?_; conv => whnf))
   refine Meets.k (keyOf_meets n hn) ?_
   ((conv => whnf); repeat' (refine vcC_go tok {rs := [999]} rfl ?_; conv => whnf))
   refine draw_rule tok (cf := {rs := [999]}) (by kernel_rfl) [.p 0, .p 1, .p 2, .p 3, .p 4, .p 5, .p 6, .p 7, .p 8, .p 9, .p 10] (by kernel_rfl) ?_
   ((conv => whnf); repeat' (refine vcC_go tok {rs := [999]} rfl ?_; conv => whnf))
   refine ⟨⟨key_k _, hm.keys⟩, iD 0, false, ⟨?_, ?_⟩, ?_⟩
   · rw [hm.get n hn]; simp [h]
   · rw [hm.get n hn]; simp [h]
   ((conv => whnf); repeat' (refine vcC_go tok {rs := [999]} rfl ?_; conv => whnf))
   refine ⟨fun _ => ?_, fun h => absurd h (by decide)⟩
   ((conv => whnf); repeat' (refine vcC_go tok {rs := [999]} rfl ?_; conv => whnf))
   repeat' ((first | (intro hlq; (try simp only [SL] at hlq)) | refine Ks ?_ | refine Kq ?_ | refine Kt ?_ | refine Ka ?_ | refine Kb ?_ | refine Kc (hd := rfl) (e := ?_) | refine Kc (hd := icells_eq _) (e := ?_) | refine Kd (e := ?_) | refine Kl rfl ?_ | fail) <;> ((conv => whnf); repeat' (refine vcC_go tok {rs := [999]} rfl ?_; conv => whnf)))
   refine draw_rule tok (cf := {rs := [999]}) (by kernel_rfl) [.p 0, .p 1, .p 2, .p 3, .p 4, .p 5, .s 6 [3,4,5,0,1,2]] (by kernel_rfl) ?_
   ((conv => whnf); repeat' (refine vcC_go tok {rs := [999]} rfl ?_; conv => whnf))
   refine ⟨⟨key_k _, hm.keys⟩, ?_⟩
   ((conv => whnf); repeat' (refine vcC_go tok {rs := [999]} rfl ?_; conv => whnf))
   repeat' (first | (refine Kl rfl ?_; ((conv => whnf); repeat' (refine vcC_go tok {rs := [999]} rfl ?_; conv => whnf))) | fail)
   refine draw_rule tok (cf := {rs := [999]}) (by kernel_rfl) [.p 0, .p 1, .p 2, .p 3, .p 4, .p 5, .p 6, .s 7 [4,6,3,5,2,1], .p 8, .p 9, .s 10 [9,0,8]] (by kernel_rfl) ?_
   ((conv => whnf); repeat' (refine vcC_go tok {rs := [999]} rfl ?_; conv => whnf))
   refine ⟨by simp, ?_⟩
   ((conv => whnf); repeat' (refine vcC_go tok {rs := [999]} rfl ?_; conv => whnf))
   refine Kap ?_ ?_ ?_
   rotate_left 1
   · simp; omega
   · decide
   ((conv => whnf); repeat' (refine vcC_go tok {rs := [999]} rfl ?_; conv => whnf))
   repeat' (first | (refine Kl rfl ?_; ((conv => whnf); repeat' (refine vcC_go tok {rs := [999]} rfl ?_; conv => whnf))) | fail)
   have hL : ((ns.map Node.cells).length : Int) = (ns.length : Int) := by rw [List.length_map]
   have hmp := hm.snoc hn h hs
   refine ⟨forO (ns ++ [n]) (mput mp n.key (iD ((ns.map Node.cells).length : Int))), iB ((ns.map Node.cells).length : Int), ?_, ⟨mput mp n.key (iD ((ns.map Node.cells).length : Int)), ?_, ?_, ?_⟩⟩
   · repeat' (first | exact True.intro | exact rfl | refine And.intro ?_ ?_ | ((simp; done)))
   · rw [hi, hL]
   · rw [hp]
   · rw [hp, hL]; exact hmp
end Go.Proofs.YtacclfgmgphljaaGreat.Dx
/- The code of chapter 10: the tree is built. -/
namespace Go.Proofs.YtacclfgmgphljaaGreat.Dx
open Go Go.RowKit
set_option maxRecDepth 100000
set_option maxHeartbeats 16000000
structure FOk (ns : List Node) : Prop where
 small : ∀ x ∈ ns, Small x
 nodup : ns.Nodup
 den : ∀ i, i < ns.length → ∃ t, Den ns i t
theorem FOk.nil : FOk [] := ⟨fun x h => (by cases h), by simp, fun i h => (by simp at h)⟩
theorem put_pre (ns : List Node) (n : Node) : ns <+: putE ns n := by
 unfold putE; split
 · exact List.prefix_refl _
 · exact List.prefix_append _ _
theorem put_len (ns : List Node) (n : Node) : (putE ns n).length ≤ ns.length + 1 := by
 unfold putE; split <;> simp
theorem put_get (ns : List Node) (n : Node) : (putE ns n)[ns.idxOf n]? = some n := by
 unfold putE
 split
 · rename_i h; rw [List.getElem?_eq_getElem (List.idxOf_lt_length_of_mem h), List.getElem_idxOf]
 · rename_i h; rw [List.idxOf_eq_length h]; simp
theorem put_ok {ns : List Node} (h : FOk ns) {n : Node} (hn : Small n) {t : Tr} (ht : Den (putE ns n) (ns.idxOf n) t) : FOk (putE ns n) := by
 refine ⟨fun x hx => ?_, ?_, fun i hi => ?_⟩
 · unfold putE at hx
   split at hx
   · exact h.small x hx
   · rcases List.mem_append.1 hx with hx | hx
     · exact h.small x hx
     · rw [List.mem_singleton.1 hx]; exact hn
 · unfold putE
   split
   · exact h.nodup
   · rename_i hm
     rw [List.nodup_append]
     exact ⟨h.nodup, by simp, fun a ha b hb => by rw [List.mem_singleton.1 hb]; exact fun e => hm (e ▸ ha)⟩
 · by_cases hl : i < ns.length
   · obtain ⟨s, hs⟩ := h.den i hl
     exact ⟨s, hs.mono (put_pre ns n)⟩
   · by_cases hm : n ∈ ns
     · rw [putE, if_pos hm] at hi; exact absurd hi hl
     · rw [List.idxOf_eq_length hm] at ht
       rw [putE, if_neg hm] at hi
       have : i = ns.length := by simp at hi; omega
       rw [this]; exact ⟨t, ht⟩
theorem set_value {e : Env} {v u n : Int} (hv : 1 ≤ v ∧ v ≤ 3) (hu : 1 ≤ u ∧ u ≤ 3) : (e.set v n).value u = if u = v then n else e.value u := by
 rcases (by omega : v = 1 ∨ v = 2 ∨ v = 3) with rfl | rfl | rfl <;> rcases (by omega : u = 1 ∨ u = 2 ∨ u = 3) with rfl | rfl | rfl <;> simp [Env.set, Env.value]
theorem set_good {e : Env} {v n : Int} (hv : 1 ≤ v ∧ v ≤ 3) (h : e.good = true) (hn : 0 ≤ n ∧ n ≤ Tr.most v) : (e.set v n).good = true := by
 rw [good_iff] at *
 rcases (by omega : v = 1 ∨ v = 2 ∨ v = 3) with rfl | rfl | rfl <;> simp [Env.set, Tr.most] at * <;> omega
abbrev vcL (l1 l2 l3 : List Int) : List D := [.sl [], .sl (l1.map icells), .sl (l2.map icells), .sl (l3.map icells)]
abbrev bO (l : List Step) (vc : List D) (x : Env) (ns : List Node) (mp : List (D × D)) : List (Nat × Blk) :=
 [(4000, .box [.d (.sl (l.map Step.cells))] 22), (4001, .box [iB x.distance, iB x.field, iB x.short] 41), (4005, .box [.loc 4002 0] 57), (4006, .box [.d (.v (.pointer none)), .loc 4001 0, .loc 4001 1, .loc 4001 2] 62),
   (4007, .box [.fn 23 [] [.loc 4000 0, .loc 4001 0, .loc 4005 0, .dat (.ptr vc 0), .loc 4006 0, .loc 4007 0]] 63), (4002, .box [.own 4003, .own 4004] 60), (4003, .sl ⟨39, 5, ns.map Node.cells, true⟩), (4004, .mp mp)]
structure BPost (v : Int) (T : Env → Tr) (x : Env) (ns : List Node) (N i : Nat) (x' : Env) (ns' : List Node) : Prop where
 good : x'.good = true
 keep : ∀ u, 1 ≤ u → u < v → x'.value u = x.value u
 pre : ns <+: ns'
 ok : FOk ns'
 den : Den ns' i (T x)
 len : ns'.length ≤ ns.length + N
def BSpec (v : Int) (l : List Step) (vc : List D) (N : Nat) (T : Env → Tr) : Prop := ∀ (x : Env) (ns : List Node) (mp : List (D × D)), x.good = true → FOk ns → NMap ns iFn mp → ns.length + N ≤ 90000000 →
 MeetsR Tryz.prog 23 [iB v, .loc 4000 0, .loc 4001 0, .loc 4005 0, .d (.ptr vc 0), .loc 4006 0, .loc 4007 0] (bO l vc x ns mp) fun o O' => ∃ (i : Nat) (x' : Env) (ns' : List Node) (mp' : List (D × D)), o = .ret (iB (i : Int)) ∧ O' = bO l vc x' ns' mp' ∧ BPost v T x ns N i x' ns' ∧ NMap ns' iFn mp'
theorem build_leaf (l : List Step) (hl : l.length ≤ 1048576) (hok : ∀ s ∈ l, s.ok) (hties : tiesE l = 0) (l1 l2 l3 : List Int) : BSpec 4 l (vcL l1 l2 l3) 1 fun x => .leaf (Step.appL x l []) := by
 intro x ns mp hg hf hm hb
 have hc : Crits (Step.appL x l []) := appL_crits x l (ties_ok hties).1 [] ⟨by simp, by simp⟩
 have hd : directE l x = (Step.appL x l [], 0) := by rw [directE, if_pos hties, if_pos hg]
 have hdm := Direct_meets l x hl hok
 rw [hd] at hdm
 have hsm : Small ⟨0, 0, 0, 0, Step.appL x l []⟩ := ⟨crits_len hc, hc.2⟩
 have hput := put_meets ns mp ⟨0, 0, 0, 0, Step.appL x l []⟩ hf.small hsm hm (by omega)
 have hden : Den (putE ns ⟨0, 0, 0, 0, Step.appL x l []⟩) (ns.idxOf ⟨0, 0, 0, 0, Step.appL x l []⟩) (.leaf (Step.appL x l [])) := .leaf _ _ (put_get _ _)
 refine enterR tok {nm := [(7, 4013)], rs := [27, 42, 64]} Tryz.func23 rfl (by kernel_rfl) Tryz.ntmps23 (by simp) fun B0 W0 V0 lent g0 => ?_
 ((conv => whnf); repeat' (refine vcC_go tok {nm := [(7, 4013)], rs := [27, 42, 64]} rfl ?_; conv => whnf))
 refine ⟨fun _ => ?_, fun h => absurd h (by decide)⟩
 ((conv => whnf); repeat' (refine vcC_go tok {nm := [(7, 4013)], rs := [27, 42, 64]} rfl ?_; conv => whnf))
 refine Meets.k hdm ?_
 ((conv => whnf); repeat' (refine vcC_go tok {nm := [(7, 4013)], rs := [27, 42, 64]} rfl ?_; conv => whnf))
 refine ⟨forO ns mp, _, ⟨?_, ?_⟩, hput.mono ?_⟩
 · exact Kr
 · exact Kr
 rintro _ O' ⟨mp', rfl, rfl, hm'⟩
 ((conv => whnf); repeat' (refine vcC_go tok {nm := [(7, 4013)], rs := [27, 42, 64]} rfl ?_; conv => whnf))
 refine ⟨bO l (vcL l1 l2 l3) x (putE ns ⟨0, 0, 0, 0, Step.appL x l []⟩) mp', iB (ns.idxOf ⟨0, 0, 0, 0, Step.appL x l []⟩ : Int), ?_, ⟨_, x, _, mp', rfl, rfl, ⟨hg, fun _ _ _ => rfl, put_pre _ _, put_ok hf hsm hden, hden, put_len _ _⟩, hm'⟩⟩
 repeat' (first | exact True.intro | exact rfl | refine And.intro ?_ ?_)
theorem backward_meets (xs : List Int) : Meets Tryz.prog 26 [.sl (xs.map icells)] fun d => d = .fn 54 [] [.ptr [.sl (xs.map icells)] 0] := by
 refine enter tok {} Tryz.func26 rfl (by kernel_rfl) Tryz.ntmps26 (by simp) fun B0 W0 V0 lent g0 => ?_
 ((conv => whnf); repeat' (refine Z rfl ?_; conv => whnf))
 exact ⟨rfl⟩
abbrev BX : Type := Nat × Int × Int × Env × List Node × List (D × D)
abbrev bS (v : Int) (l : List Step) (l1 l2 l3 : List Int) (s : BX) : List (Nat × Blk) :=
 (4012, .box [iB s.2.2.1] 3) :: (4011, .box [iB s.2.1] 3) :: (4013, .box [iB v] 3) :: bO l (vcL l1 l2 l3) s.2.2.2.1 s.2.2.2.2.1 s.2.2.2.2.2
/-- where the loop over the values stands: k values are still to come -/
structure BInv (v : Int) (xs : List Int) (T' : Env → Tr) (x0 : Env) (ns0 : List Node) (M : Nat) (k : Nat) (tree first : Int) (x : Env) (ns : List Node) : Prop where
 hk : k ≤ xs.length
 good : x.good = true
 keep : ∀ u, 1 ≤ u → u < v → x.value u = x0.value u
 pre : ns0 <+: ns
 ok : FOk ns
 len : ns.length ≤ ns0.length + (xs.length - k) * M
 new : k = xs.length → tree = -1
 old : k < xs.length → 0 ≤ tree ∧ 0 ≤ first ∧ Den ns tree.toNat (fold1 v (fun n => T' (x0.set v n)) (xs.drop k)) ∧ Den ns first.toNat (T' (x0.set v (xs.getD k 0)))
theorem fold1_cons {v : Int} {g : Int → Tr} {xs : List Int} {k : Nat} (hk : 0 < k) (h : k < xs.length) : fold1 v g (xs.drop (k - 1)) = if g (xs.getD (k - 1) 0) = g (xs.getD k 0) then fold1 v g (xs.drop k) else .node v (xs.getD k 0) (fold1 v g (xs.drop k)) (g (xs.getD (k - 1) 0)) := by
 have e1 : xs.drop (k - 1) = xs.getD (k - 1) 0 :: xs.drop k := by
  rw [List.drop_eq_getElem_cons (by omega), show k - 1 + 1 = k from by omega, List.getD_eq_getElem?_getD, List.getElem?_eq_getElem (by omega)]; rfl
 have e2 : xs.drop k = xs.getD k 0 :: xs.drop (k + 1) := by
  rw [List.drop_eq_getElem_cons h, List.getD_eq_getElem?_getD, List.getElem?_eq_getElem h]; rfl
 rw [e1, e2, fold1]
theorem fold1_last {v : Int} {g : Int → Tr} {xs : List Int} (h : 0 < xs.length) : fold1 v g (xs.drop (xs.length - 1)) = g (xs.getD (xs.length - 1) 0) := by
 rw [List.drop_eq_getElem_cons (by omega), show xs.length - 1 + 1 = xs.length from by omega, List.drop_length, List.getD_eq_getElem?_getD, List.getElem?_eq_getElem (by omega)]; rfl
section
variable {v : Int} {xs : List Int} {T' : Env → Tr} {x0 : Env} {ns0 : List Node} {M k : Nat} {tree first : Int} {x : Env} {ns : List Node} {i : Nat} {x' : Env} {ns' : List Node}
theorem BInv.part (hv : 1 ≤ v ∧ v ≤ 3) (hT : ∀ x y : Env, (∀ u, 1 ≤ u → u < v + 1 → x.value u = y.value u) → T' x = T' y) (h : BInv v xs T' x0 ns0 (M + 1) k tree first x ns) (hk : 0 < k) {n : Int}
 (hp : BPost (v + 1) T' (x.set v n) ns M i x' ns') :
 Den ns' i (T' (x0.set v n)) ∧ (∀ u, 1 ≤ u → u < v → x'.value u = x0.value u) ∧ ns0 <+: ns' ∧ ns'.length + 1 ≤ ns0.length + (xs.length - (k - 1)) * (M + 1) := by
 have e : T' (x.set v n) = T' (x0.set v n) := hT _ _ fun u h1 h2 => by
  rw [set_value hv ⟨h1, by omega⟩, set_value hv ⟨h1, by omega⟩]
  split
  · rfl
  · exact h.keep u h1 (by omega)
 refine ⟨e ▸ hp.den, fun u h1 h2 => ?_, h.pre.trans hp.pre, ?_⟩
 · rw [hp.keep u h1 (by omega), set_value hv ⟨h1, by omega⟩, if_neg (by omega), h.keep u h1 h2]
 · have h1 := hp.len
   have h2 := h.len
   have h3 := h.hk
   rw [show xs.length - (k - 1) = (xs.length - k) + 1 from by omega, Nat.succ_mul]
   omega
theorem BInv.next_first (hv : 1 ≤ v ∧ v ≤ 3) (hT : ∀ x y : Env, (∀ u, 1 ≤ u → u < v + 1 → x.value u = y.value u) → T' x = T' y) (h : BInv v xs T' x0 ns0 (M + 1) k tree first x ns) (hk : 0 < k) (hkl : k = xs.length)
 (hp : BPost (v + 1) T' (x.set v (xs.getD (k - 1) 0)) ns M i x' ns') : BInv v xs T' x0 ns0 (M + 1) (k - 1) i i x' ns' := by
 obtain ⟨h1, h2, h3, h4⟩ := h.part hv hT hk hp
 refine ⟨by omega, hp.good, h2, h3, hp.ok, by omega, fun e => by omega, fun _ => ⟨by omega, by omega, ?_, by rw [Int.toNat_natCast]; exact h1⟩⟩
 subst hkl
 rw [fold1_last hk, Int.toNat_natCast]; exact h1
theorem BInv.next_same (hv : 1 ≤ v ∧ v ≤ 3) (hT : ∀ x y : Env, (∀ u, 1 ≤ u → u < v + 1 → x.value u = y.value u) → T' x = T' y) (h : BInv v xs T' x0 ns0 (M + 1) k tree first x ns) (hk : 0 < k) (hkl : k < xs.length)
 (hp : BPost (v + 1) T' (x.set v (xs.getD (k - 1) 0)) ns M i x' ns') (he : (i : Int) = first) : BInv v xs T' x0 ns0 (M + 1) (k - 1) tree first x' ns' := by
 obtain ⟨h1, h2, h3, h4⟩ := h.part hv hT hk hp
 obtain ⟨q1, q2, q3, q4⟩ := h.old hkl
 have hfi : first.toNat = i := by omega
 rw [hfi] at q4
 have heq := h1.func (q4.mono hp.pre)
 refine ⟨by omega, hp.good, h2, h3, hp.ok, by omega, fun e => by omega, fun _ => ⟨q1, q2, ?_, by rw [hfi]; exact h1⟩⟩
 rw [fold1_cons hk hkl, if_pos heq]
 exact q3.mono hp.pre
theorem BInv.next_put (hv : 1 ≤ v ∧ v ≤ 3) (hT : ∀ x y : Env, (∀ u, 1 ≤ u → u < v + 1 → x.value u = y.value u) → T' x = T' y) (h : BInv v xs T' x0 ns0 (M + 1) k tree first x ns) (hk : 0 < k) (hkl : k < xs.length)
 (hp : BPost (v + 1) T' (x.set v (xs.getD (k - 1) 0)) ns M i x' ns') (he : (i : Int) ≠ first) :
 Small ⟨v, xs.getD k 0, tree, (i : Int), []⟩ ∧ BInv v xs T' x0 ns0 (M + 1) (k - 1) (ns'.idxOf ⟨v, xs.getD k 0, tree, (i : Int), []⟩ : Int) i x' (putE ns' ⟨v, xs.getD k 0, tree, (i : Int), []⟩) := by
 obtain ⟨h1, h2, h3, h4⟩ := h.part hv hT hk hp
 obtain ⟨q1, q2, q3, q4⟩ := h.old hkl
 have hne : T' (x0.set v (xs.getD (k - 1) 0)) ≠ T' (x0.set v (xs.getD k 0)) := fun e => he (by
  rw [e] at h1
  have := Den.inj hp.ok.nodup h1 (q4.mono hp.pre)
  omega)
 have hs : Small ⟨v, xs.getD k 0, tree, (i : Int), []⟩ := by simp [Small]
 have hpp := put_pre ns' ⟨v, xs.getD k 0, tree, (i : Int), []⟩
 have hden : Den (putE ns' ⟨v, xs.getD k 0, tree, (i : Int), []⟩) (ns'.idxOf ⟨v, xs.getD k 0, tree, (i : Int), []⟩) (.node v (xs.getD k 0) (fold1 v (fun n => T' (x0.set v n)) (xs.drop k)) (T' (x0.set v (xs.getD (k - 1) 0)))) := by
  refine .node _ v _ tree.toNat i _ _ ?_ (by omega) ((q3.mono hp.pre).mono hpp) (h1.mono hpp)
  rw [put_get, show ((tree.toNat : Nat) : Int) = tree from by omega]
 have hl := put_len ns' ⟨v, xs.getD k 0, tree, (i : Int), []⟩
 refine ⟨hs, ⟨by omega, hp.good, h2, h3.trans hpp, put_ok hp.ok hs hden, by omega, fun e => by omega, fun _ => ⟨by omega, by omega, ?_, by rw [Int.toNat_natCast]; exact h1.mono hpp⟩⟩⟩
 rw [fold1_cons hk hkl, if_neg hne, Int.toNat_natCast]
 exact hden
end
def bInv (v : Int) (xs : List Int) (T' : Env → Tr) (x0 : Env) (ns0 : List Node) (M : Nat) (s : BX) : Prop := BInv v xs T' x0 ns0 (M + 1) s.1 s.2.1 s.2.2.1 s.2.2.2.1 s.2.2.2.2.1 ∧ NMap s.2.2.2.2.1 iFn s.2.2.2.2.2
theorem build_3 (l : List Step) (l1 l2 l3 : List Int) (T' : Env → Tr) (M : Nat) (hx : Vals1 3 l3) (hlen : l3.length ≤ 300)
 (hrec : BSpec 4 l (vcL l1 l2 l3) M T') (hT : ∀ x y : Env, (∀ u, 1 ≤ u → u < 4 → x.value u = y.value u) → T' x = T' y) :
 BSpec 3 l (vcL l1 l2 l3) (l3.length * (M + 1)) fun x => fold1 3 (fun n => T' (x.set 3 n)) l3 := by
 intro x0 ns0 mp0 hg hf hm hb
 have hpos : 0 < l3.length := List.length_pos_iff.2 hx.ne
 refine enterR tok {nm := [(7, 4013), (11, 4011), (12, 4012)], rs := [27, 42, 64]} Tryz.func23 rfl (by kernel_rfl) Tryz.ntmps23 (by simp) fun B0 W0 V0 lent g0 => ?_
 ((conv => whnf); repeat' (refine vcC_go tok {nm := [(7, 4013), (11, 4011), (12, 4012)], rs := [27, 42, 64]} rfl ?_; conv => whnf))
 refine ⟨fun h => absurd h (by decide), fun _ => ?_⟩
 ((conv => whnf); repeat' (refine vcC_go tok {nm := [(7, 4013), (11, 4011), (12, 4012)], rs := [27, 42, 64]} rfl ?_; conv => whnf))
 repeat' ((first | (intro hlq; (try simp only [SL] at hlq)) | refine Meets.k (backward_meets l3) ?_ | refine Ks ?_ | refine Kq ?_ | refine Kt ?_ | ((refine Kh (fun hb => ?_) fun hb => ?_) <;> (try simp only [BL] at hb)) | refine Ka ?_ | refine Kb ?_ | refine Kc (hd := rfl) (e := ?_) | refine Kc (hd := icells_eq _) (e := ?_) | refine Kd (e := ?_) | refine Kl rfl ?_ | fail) <;> ((conv => whnf); repeat' (refine vcC_go tok {nm := [(7, 4013), (11, 4011), (12, 4012)], rs := [27, 42, 64]} rfl ?_; conv => whnf)))
 have hi0 : bInv 3 l3 T' x0 ns0 M (l3.length, -1, -1, x0, ns0, mp0) := ⟨⟨Nat.le_refl _, hg, fun _ _ _ => rfl, List.prefix_refl _, hf, by simp, fun _ => rfl, fun h => absurd h (Nat.lt_irrefl _)⟩, hm⟩
 refine range_rule tok {nm := [(7, 4013), (11, 4011), (12, 4012)], rs := [27, 42, 64]} {} 3000 (X := BX) (Y := Empty) (bS 3 l l1 l2 l3) (fun y => nomatch y) (fun _ => .ret)
  (fun s ds => (bInv 3 l3 T' x0 ns0 M s ∧ 0 < s.1) ∧ ds = [iD ((s.1 : Int) - 1), iD (l3.getD (s.1 - 1) 0)]) (fun s _ s' => bInv 3 l3 T' x0 ns0 M s' ∧ s'.1 = s.1 - 1) (fun _ _ _ => True) (fun s => bInv 3 l3 T' x0 ns0 M s ∧ s.1 = 0) (l3.length, -1, -1, x0, ns0, mp0)
  (F := 54) (fs := []) (cs := [.d (.ptr [.sl (l3.map icells)] 0)]) rfl (Nat.le_refl _) ?_ Tryz.func54 rfl (by kernel_rfl) Tryz.ntmps54 (by simp) (by simp) (by simp) ?_ rfl (by simp) rfl (fun _ => rfl) (fun y => nomatch y) (fun _ => rfl) rfl rfl ?_ ?_ ?_
 · conv => whnf
   exact rfl
 · exact Kr
 · rintro s ds ⟨_, rfl⟩
   rfl
 · intro B0 W0 V0 lent g0 rc g V1 hY
   ((conv => whnf); repeat' (refine Z rfl ?_; conv => whnf))
   repeat' ((first | (intro hlq; (try simp only [SL] at hlq)) | refine Ks ?_ | refine Kq ?_ | refine Kt ?_ | refine Ka ?_ | refine Kb ?_ | refine Kc (hd := rfl) (e := ?_) | refine Kc (hd := icells_eq _) (e := ?_) | refine Kd (e := ?_) | refine Kl rfl ?_ | fail) <;> ((conv => whnf); repeat' (refine Z rfl ?_; conv => whnf)))
   refine loop_upd tok {} [] (X := BX) (fun s => [(3, iB ((s.1 : Int) - 1))]) (fun s => bS 3 l l1 l2 l3 s) [] (fun s => bInv 3 l3 T' x0 ns0 M s) (fun s => s.1) ((l3.map icells).length, -1, -1, x0, ns0, mp0) ?_
   ((conv => whnf); repeat' (refine Z rfl ?_; conv => whnf))
   refine And.intro ?_ ⟨by rw [List.length_map]; exact hi0, fun s hΦ => ?_⟩
   · exact Kr
   ((conv => whnf); repeat' (refine Z rfl ?_; conv => whnf))
   refine ⟨fun h2 => ?_, fun h2 => ?_⟩ <;> (try simp only [BL] at h2) <;> ((conv => whnf); repeat' (refine Z rfl ?_; conv => whnf))
   · have hk : 0 < s.1 ∧ s.1 ≤ l3.length := ⟨by omega, hΦ.1.hk⟩
     have hix : 0 ≤ (s.1 : Int) - 1 ∧ l3[((s.1 : Int) - 1).toNat]? = some (l3.getD (s.1 - 1) 0) := ⟨by omega, by rw [show ((s.1 : Int) - 1).toNat = s.1 - 1 from by omega, List.getD_eq_getElem?_getD, List.getElem?_eq_getElem (by omega)]; rfl⟩
     repeat' ((first | (intro hlq; (try simp only [SL] at hlq)) | refine Ki _ hix ?_ | refine Ks ?_ | refine Kq ?_ | refine Kt ?_ | ((refine Kh (fun hb => ?_) fun hb => ?_) <;> (try simp only [BL] at hb)) | refine Ka ?_ | refine Kb ?_ | refine Kc (hd := rfl) (e := ?_) | refine Kc (hd := icells_eq _) (e := ?_) | refine Kd (e := ?_) | refine Kl rfl ?_ | fail) <;> ((conv => whnf); repeat' (refine Z rfl ?_; conv => whnf)))
     refine ⟨_, ?_, (hY s _ ⟨⟨hΦ, hk.1⟩, rfl⟩).mono ?_⟩
     · exact Kr
     intro o O' h
     rcases h with ⟨s', ⟨hi', hk'⟩, rfl, rfl⟩ | ⟨y, _⟩
     · ((conv => whnf); repeat' (refine Z rfl ?_; conv => whnf))
       repeat' ((first | (intro hlq; (try simp only [SL] at hlq)) | refine Ks ?_ | refine Kq ?_ | refine Kt ?_ | refine Ka ?_ | refine Kb ?_ | refine Kc (hd := rfl) (e := ?_) | refine Kc (hd := icells_eq _) (e := ?_) | refine Kd (e := ?_) | refine Kl rfl ?_ | fail) <;> ((conv => whnf); repeat' (refine Z rfl ?_; conv => whnf)))
       refine ⟨fun h3 => absurd h3 (by decide), fun _ => ?_⟩
       ((conv => whnf); repeat' (refine Z rfl ?_; conv => whnf))
       repeat' ((first | (intro hlq; (try simp only [SL] at hlq)) | refine Ks ?_ | refine Kq ?_ | refine Kt ?_ | refine Ka ?_ | refine Kb ?_ | refine Kc (hd := rfl) (e := ?_) | refine Kc (hd := icells_eq _) (e := ?_) | refine Kd (e := ?_) | refine Kl rfl ?_ | fail) <;> ((conv => whnf); repeat' (refine Z rfl ?_; conv => whnf)))
       refine ⟨⟨s', ?_, hi', by omega⟩⟩
       repeat' (first | exact True.intro | exact rfl | refine And.intro ?_ ?_ | ((show D.v _ = D.v _; congr 2; omega)))
     · exact y.elim
   · refine ⟨_, .d (.tup []), ⟨?_, ?_, rfl⟩, ⟨_, rfl, .inl ⟨s, ⟨hΦ, by omega⟩, rfl⟩⟩⟩
     · exact Kr
     · exact Kr
 · ((conv => whnf); repeat' (refine Z rfl ?_; conv => whnf))
   refine ⟨?_, ?_, fun y => y.elim⟩
   · rintro s ds ⟨⟨⟨hbi, hmp⟩, hk⟩, rfl⟩ B0 W0 V0 lent g0 lr m0
     have hv : (1 : Int) ≤ 3 ∧ (3 : Int) ≤ 3 := by decide
     have hkl := hbi.hk
     have hmem : l3.getD (s.1 - 1) 0 ∈ l3 := by
      rw [List.getD_eq_getElem?_getD, List.getElem?_eq_getElem (by omega)]; exact List.getElem_mem _
     have hb2 : s.2.2.2.2.1.length + M + 1 ≤ 90000000 := by
      have h1 := hbi.len
      have h2 : (l3.length - s.1 + 1) * (M + 1) ≤ l3.length * (M + 1) := Nat.mul_le_mul_right _ (by omega)
      rw [Nat.succ_mul] at h2
      omega
     have hcall := hrec (s.2.2.2.1.set 3 (l3.getD (s.1 - 1) 0)) s.2.2.2.2.1 s.2.2.2.2.2 (set_good hv hbi.good ⟨hx.pos hmem, hx.most _ hmem⟩) hbi.ok hmp (by omega)
     ((conv => whnf); repeat' (refine vcC_go tok {nm := [(7, 4013), (11, 4011), (12, 4012)], rs := [27, 42, 64]} rfl ?_; conv => whnf))
     refine ⟨rfl, fun B0 W0 V0 lent g0 lr m0 => ?_⟩
     ((conv => whnf); repeat' (refine vcC_go tok {nm := [(7, 4013), (11, 4011), (12, 4012)], rs := [27, 42, 64]} rfl ?_; conv => whnf))
     repeat' ((first | (intro hlq; (try simp only [SL] at hlq)) | refine Ks ?_ | refine Kq ?_ | refine Kt ?_ | refine Ka ?_ | refine Kb ?_ | refine Kc (hd := rfl) (e := ?_) | refine Kc (hd := icells_eq _) (e := ?_) | refine Kd (e := ?_) | refine Kl rfl ?_ | fail) <;> ((conv => whnf); repeat' (refine vcC_go tok {nm := [(7, 4013), (11, 4011), (12, 4012)], rs := [27, 42, 64]} rfl ?_; conv => whnf)))
     refine ⟨bO l (vcL l1 l2 l3) (s.2.2.2.1.set 3 (l3.getD (s.1 - 1) 0)) s.2.2.2.2.1 s.2.2.2.2.2, _, ⟨?_, ?_⟩, hcall.mono ?_⟩
     · exact Kr
     · exact Kr
     rintro _ O' ⟨i, x', ns', mp', rfl, rfl, hp, hm'⟩
     have hpl := hp.len
     ((conv => whnf); repeat' (refine vcC_go tok {nm := [(7, 4013), (11, 4011), (12, 4012)], rs := [27, 42, 64]} rfl ?_; conv => whnf))
     refine ⟨fun h3 => ?_, fun h3 => ?_⟩ <;> (try simp only [BL] at h3) <;> ((conv => whnf); repeat' (refine vcC_go tok {nm := [(7, 4013), (11, 4011), (12, 4012)], rs := [27, 42, 64]} rfl ?_; conv => whnf))
     · have hkk : s.1 = l3.length := by
        rcases (by omega : s.1 = l3.length ∨ s.1 < l3.length) with h | h
        · exact h
        · have := (hbi.old h).1; omega
       refine ⟨⟨(s.1 - 1, (i : Int), (i : Int), x', ns', mp'), ⟨?_, rfl⟩, ⟨hbi.next_first hv hT hk hkk hp, hm'⟩, rfl⟩⟩
       repeat' (first | exact True.intro | exact rfl | refine And.intro ?_ ?_)
     · have hkk : s.1 < l3.length := by
        rcases (by omega : s.1 = l3.length ∨ s.1 < l3.length) with h | h
        · have := hbi.new h; omega
        · exact h
       refine ⟨fun h4 => ?_, fun h4 => ?_⟩ <;> (try simp only [BL] at h4) <;> ((conv => whnf); repeat' (refine vcC_go tok {nm := [(7, 4013), (11, 4011), (12, 4012)], rs := [27, 42, 64]} rfl ?_; conv => whnf))
       · obtain ⟨hsm, hnx⟩ := hbi.next_put hv hT hk hkk hp h4
         have hput := put_meets ns' mp' ⟨3, l3.getD s.1 0, s.2.1, (i : Int), []⟩ hp.ok.small hsm hm' (by omega)
         have hix : 0 ≤ ((s.1 : Int) - 1) + 1 ∧ l3[(((s.1 : Int) - 1) + 1).toNat]? = some (l3.getD s.1 0) := ⟨by omega, by rw [show (((s.1 : Int) - 1) + 1).toNat = s.1 from by omega, List.getD_eq_getElem?_getD, List.getElem?_eq_getElem hkk]; rfl⟩
         refine draw_rule tok (cf := {nm := [(7, 4013), (11, 4011), (12, 4012)], rs := [27, 42, 64]}) (by kernel_rfl) [.p 0, .p 1, .p 2, .p 3, .p 4, .p 5, .p 6, .p 7, .p 8, .p 9, .p 10, .p 11, .p 13, .s 12 [0,11,1,8,9,10,7,4,6,3,5,2], .s 14 [], .s 15 [13]] (by kernel_rfl) ?_
         ((conv => whnf); repeat' (refine vcC_go tok {nm := [(7, 4013), (11, 4011), (12, 4012)], rs := [27, 42, 64]} rfl ?_; conv => whnf))
         repeat' ((first | (intro hlq; (try simp only [SL] at hlq)) | refine Ki _ hix ?_ | refine Ks ?_ | refine Kq ?_ | refine Kt ?_ | ((refine Kh (fun hb => ?_) fun hb => ?_) <;> (try simp only [BL] at hb)) | refine Ka ?_ | refine Kb ?_ | refine Kc (hd := rfl) (e := ?_) | refine Kc (hd := icells_eq _) (e := ?_) | refine Kd (e := ?_) | refine Kl rfl ?_ | fail) <;> ((conv => whnf); repeat' (refine vcC_go tok {nm := [(7, 4013), (11, 4011), (12, 4012)], rs := [27, 42, 64]} rfl ?_; conv => whnf)))
         refine ⟨forO ns' mp', _, ⟨?_, ?_⟩, hput.mono ?_⟩
         · exact Kr
         · exact Kr
         rintro _ O' ⟨mp2, rfl, rfl, hm2⟩
         ((conv => whnf); repeat' (refine vcC_go tok {nm := [(7, 4013), (11, 4011), (12, 4012)], rs := [27, 42, 64]} rfl ?_; conv => whnf))
         repeat' (first | (refine Kl rfl ?_; ((conv => whnf); repeat' (refine vcC_go tok {nm := [(7, 4013), (11, 4011), (12, 4012)], rs := [27, 42, 64]} rfl ?_; conv => whnf))) | fail)
         refine ⟨⟨(s.1 - 1, (ns'.idxOf ⟨3, l3.getD s.1 0, s.2.1, (i : Int), []⟩ : Int), (i : Int), x', putE ns' ⟨3, l3.getD s.1 0, s.2.1, (i : Int), []⟩, mp2), ⟨?_, rfl⟩, ⟨hnx, hm2⟩, rfl⟩⟩
         repeat' (first | exact True.intro | exact rfl | refine And.intro ?_ ?_)
       · refine ⟨⟨(s.1 - 1, s.2.1, s.2.2.1, x', ns', mp'), ⟨?_, rfl⟩, ⟨hbi.next_same hv hT hk hkk hp (Decidable.not_not.1 h4), hm'⟩, rfl⟩⟩
         repeat' (first | exact True.intro | exact rfl | refine And.intro ?_ ?_)
   · rintro s ⟨⟨hbi, hmp⟩, hk⟩
     ((conv => whnf); repeat' (refine vcC_go tok {nm := [(7, 4013), (11, 4011), (12, 4012)], rs := [27, 42, 64]} rfl ?_; conv => whnf))
     obtain ⟨q1, q2, q3, q4⟩ := hbi.old (by omega)
     have hl2 := hbi.len
     rw [hk, Nat.sub_zero] at hl2
     rw [hk, List.drop_zero] at q3
     refine ⟨bO l (vcL l1 l2 l3) s.2.2.2.1 s.2.2.2.2.1 s.2.2.2.2.2, iB s.2.1, ?_, ⟨s.2.1.toNat, s.2.2.2.1, s.2.2.2.2.1, s.2.2.2.2.2, by rw [show ((s.2.1.toNat : Nat) : Int) = s.2.1 from by omega], rfl, ⟨hbi.good, hbi.keep, hbi.pre, hbi.ok, q3, hl2⟩, hmp⟩⟩
     repeat' (first | exact True.intro | exact rfl | refine And.intro ?_ ?_)
theorem build_2 (l : List Step) (l1 l2 l3 : List Int) (T' : Env → Tr) (M : Nat) (hx : Vals1 2 l2) (hlen : l2.length ≤ 300)
 (hrec : BSpec 3 l (vcL l1 l2 l3) M T') (hT : ∀ x y : Env, (∀ u, 1 ≤ u → u < 3 → x.value u = y.value u) → T' x = T' y) :
 BSpec 2 l (vcL l1 l2 l3) (l2.length * (M + 1)) fun x => fold1 2 (fun n => T' (x.set 2 n)) l2 := by
 intro x0 ns0 mp0 hg hf hm hb
 have hpos : 0 < l2.length := List.length_pos_iff.2 hx.ne
 refine enterR tok {nm := [(7, 4013), (11, 4011), (12, 4012)], rs := [27, 42, 64]} Tryz.func23 rfl (by kernel_rfl) Tryz.ntmps23 (by simp) fun B0 W0 V0 lent g0 => ?_
 ((conv => whnf); repeat' (refine vcC_go tok {nm := [(7, 4013), (11, 4011), (12, 4012)], rs := [27, 42, 64]} rfl ?_; conv => whnf))
 refine ⟨fun h => absurd h (by decide), fun _ => ?_⟩
 ((conv => whnf); repeat' (refine vcC_go tok {nm := [(7, 4013), (11, 4011), (12, 4012)], rs := [27, 42, 64]} rfl ?_; conv => whnf))
 repeat' ((first | (intro hlq; (try simp only [SL] at hlq)) | refine Meets.k (backward_meets l2) ?_ | refine Ks ?_ | refine Kq ?_ | refine Kt ?_ | ((refine Kh (fun hb => ?_) fun hb => ?_) <;> (try simp only [BL] at hb)) | refine Ka ?_ | refine Kb ?_ | refine Kc (hd := rfl) (e := ?_) | refine Kc (hd := icells_eq _) (e := ?_) | refine Kd (e := ?_) | refine Kl rfl ?_ | fail) <;> ((conv => whnf); repeat' (refine vcC_go tok {nm := [(7, 4013), (11, 4011), (12, 4012)], rs := [27, 42, 64]} rfl ?_; conv => whnf)))
 have hi0 : bInv 2 l2 T' x0 ns0 M (l2.length, -1, -1, x0, ns0, mp0) := ⟨⟨Nat.le_refl _, hg, fun _ _ _ => rfl, List.prefix_refl _, hf, by simp, fun _ => rfl, fun h => absurd h (Nat.lt_irrefl _)⟩, hm⟩
 refine range_rule tok {nm := [(7, 4013), (11, 4011), (12, 4012)], rs := [27, 42, 64]} {} 3000 (X := BX) (Y := Empty) (bS 2 l l1 l2 l3) (fun y => nomatch y) (fun _ => .ret)
  (fun s ds => (bInv 2 l2 T' x0 ns0 M s ∧ 0 < s.1) ∧ ds = [iD ((s.1 : Int) - 1), iD (l2.getD (s.1 - 1) 0)]) (fun s _ s' => bInv 2 l2 T' x0 ns0 M s' ∧ s'.1 = s.1 - 1) (fun _ _ _ => True) (fun s => bInv 2 l2 T' x0 ns0 M s ∧ s.1 = 0) (l2.length, -1, -1, x0, ns0, mp0)
  (F := 54) (fs := []) (cs := [.d (.ptr [.sl (l2.map icells)] 0)]) rfl (Nat.le_refl _) ?_ Tryz.func54 rfl (by kernel_rfl) Tryz.ntmps54 (by simp) (by simp) (by simp) ?_ rfl (by simp) rfl (fun _ => rfl) (fun y => nomatch y) (fun _ => rfl) rfl rfl ?_ ?_ ?_
 · conv => whnf
   exact rfl
 · exact Kr
 · rintro s ds ⟨_, rfl⟩
   rfl
 · intro B0 W0 V0 lent g0 rc g V1 hY
   ((conv => whnf); repeat' (refine Z rfl ?_; conv => whnf))
   repeat' ((first | (intro hlq; (try simp only [SL] at hlq)) | refine Ks ?_ | refine Kq ?_ | refine Kt ?_ | refine Ka ?_ | refine Kb ?_ | refine Kc (hd := rfl) (e := ?_) | refine Kc (hd := icells_eq _) (e := ?_) | refine Kd (e := ?_) | refine Kl rfl ?_ | fail) <;> ((conv => whnf); repeat' (refine Z rfl ?_; conv => whnf)))
   refine loop_upd tok {} [] (X := BX) (fun s => [(3, iB ((s.1 : Int) - 1))]) (fun s => bS 2 l l1 l2 l3 s) [] (fun s => bInv 2 l2 T' x0 ns0 M s) (fun s => s.1) ((l2.map icells).length, -1, -1, x0, ns0, mp0) ?_
   ((conv => whnf); repeat' (refine Z rfl ?_; conv => whnf))
   refine And.intro ?_ ⟨by rw [List.length_map]; exact hi0, fun s hΦ => ?_⟩
   · exact Kr
   ((conv => whnf); repeat' (refine Z rfl ?_; conv => whnf))
   refine ⟨fun h2 => ?_, fun h2 => ?_⟩ <;> (try simp only [BL] at h2) <;> ((conv => whnf); repeat' (refine Z rfl ?_; conv => whnf))
   · have hk : 0 < s.1 ∧ s.1 ≤ l2.length := ⟨by omega, hΦ.1.hk⟩
     have hix : 0 ≤ (s.1 : Int) - 1 ∧ l2[((s.1 : Int) - 1).toNat]? = some (l2.getD (s.1 - 1) 0) := ⟨by omega, by rw [show ((s.1 : Int) - 1).toNat = s.1 - 1 from by omega, List.getD_eq_getElem?_getD, List.getElem?_eq_getElem (by omega)]; rfl⟩
     repeat' ((first | (intro hlq; (try simp only [SL] at hlq)) | refine Ki _ hix ?_ | refine Ks ?_ | refine Kq ?_ | refine Kt ?_ | ((refine Kh (fun hb => ?_) fun hb => ?_) <;> (try simp only [BL] at hb)) | refine Ka ?_ | refine Kb ?_ | refine Kc (hd := rfl) (e := ?_) | refine Kc (hd := icells_eq _) (e := ?_) | refine Kd (e := ?_) | refine Kl rfl ?_ | fail) <;> ((conv => whnf); repeat' (refine Z rfl ?_; conv => whnf)))
     refine ⟨_, ?_, (hY s _ ⟨⟨hΦ, hk.1⟩, rfl⟩).mono ?_⟩
     · exact Kr
     intro o O' h
     rcases h with ⟨s', ⟨hi', hk'⟩, rfl, rfl⟩ | ⟨y, _⟩
     · ((conv => whnf); repeat' (refine Z rfl ?_; conv => whnf))
       repeat' ((first | (intro hlq; (try simp only [SL] at hlq)) | refine Ks ?_ | refine Kq ?_ | refine Kt ?_ | refine Ka ?_ | refine Kb ?_ | refine Kc (hd := rfl) (e := ?_) | refine Kc (hd := icells_eq _) (e := ?_) | refine Kd (e := ?_) | refine Kl rfl ?_ | fail) <;> ((conv => whnf); repeat' (refine Z rfl ?_; conv => whnf)))
       refine ⟨fun h3 => absurd h3 (by decide), fun _ => ?_⟩
       ((conv => whnf); repeat' (refine Z rfl ?_; conv => whnf))
       repeat' ((first | (intro hlq; (try simp only [SL] at hlq)) | refine Ks ?_ | refine Kq ?_ | refine Kt ?_ | refine Ka ?_ | refine Kb ?_ | refine Kc (hd := rfl) (e := ?_) | refine Kc (hd := icells_eq _) (e := ?_) | refine Kd (e := ?_) | refine Kl rfl ?_ | fail) <;> ((conv => whnf); repeat' (refine Z rfl ?_; conv => whnf)))
       refine ⟨⟨s', ?_, hi', by omega⟩⟩
       repeat' (first | exact True.intro | exact rfl | refine And.intro ?_ ?_ | ((show D.v _ = D.v _; congr 2; omega)))
     · exact y.elim
   · refine ⟨_, .d (.tup []), ⟨?_, ?_, rfl⟩, ⟨_, rfl, .inl ⟨s, ⟨hΦ, by omega⟩, rfl⟩⟩⟩
     · exact Kr
     · exact Kr
 · ((conv => whnf); repeat' (refine Z rfl ?_; conv => whnf))
   refine ⟨?_, ?_, fun y => y.elim⟩
   · rintro s ds ⟨⟨⟨hbi, hmp⟩, hk⟩, rfl⟩ B0 W0 V0 lent g0 lr m0
     have hv : (1 : Int) ≤ 2 ∧ (2 : Int) ≤ 3 := by decide
     have hkl := hbi.hk
     have hmem : l2.getD (s.1 - 1) 0 ∈ l2 := by
      rw [List.getD_eq_getElem?_getD, List.getElem?_eq_getElem (by omega)]; exact List.getElem_mem _
     have hb2 : s.2.2.2.2.1.length + M + 1 ≤ 90000000 := by
      have h1 := hbi.len
      have h2 : (l2.length - s.1 + 1) * (M + 1) ≤ l2.length * (M + 1) := Nat.mul_le_mul_right _ (by omega)
      rw [Nat.succ_mul] at h2
      omega
     have hcall := hrec (s.2.2.2.1.set 2 (l2.getD (s.1 - 1) 0)) s.2.2.2.2.1 s.2.2.2.2.2 (set_good hv hbi.good ⟨hx.pos hmem, hx.most _ hmem⟩) hbi.ok hmp (by omega)
     ((conv => whnf); repeat' (refine vcC_go tok {nm := [(7, 4013), (11, 4011), (12, 4012)], rs := [27, 42, 64]} rfl ?_; conv => whnf))
     refine ⟨rfl, fun B0 W0 V0 lent g0 lr m0 => ?_⟩
     ((conv => whnf); repeat' (refine vcC_go tok {nm := [(7, 4013), (11, 4011), (12, 4012)], rs := [27, 42, 64]} rfl ?_; conv => whnf))
     repeat' ((first | (intro hlq; (try simp only [SL] at hlq)) | refine Ks ?_ | refine Kq ?_ | refine Kt ?_ | refine Ka ?_ | refine Kb ?_ | refine Kc (hd := rfl) (e := ?_) | refine Kc (hd := icells_eq _) (e := ?_) | refine Kd (e := ?_) | refine Kl rfl ?_ | fail) <;> ((conv => whnf); repeat' (refine vcC_go tok {nm := [(7, 4013), (11, 4011), (12, 4012)], rs := [27, 42, 64]} rfl ?_; conv => whnf)))
     refine ⟨bO l (vcL l1 l2 l3) (s.2.2.2.1.set 2 (l2.getD (s.1 - 1) 0)) s.2.2.2.2.1 s.2.2.2.2.2, _, ⟨?_, ?_⟩, hcall.mono ?_⟩
     · exact Kr
     · exact Kr
     rintro _ O' ⟨i, x', ns', mp', rfl, rfl, hp, hm'⟩
     have hpl := hp.len
     ((conv => whnf); repeat' (refine vcC_go tok {nm := [(7, 4013), (11, 4011), (12, 4012)], rs := [27, 42, 64]} rfl ?_; conv => whnf))
     refine ⟨fun h3 => ?_, fun h3 => ?_⟩ <;> (try simp only [BL] at h3) <;> ((conv => whnf); repeat' (refine vcC_go tok {nm := [(7, 4013), (11, 4011), (12, 4012)], rs := [27, 42, 64]} rfl ?_; conv => whnf))
     · have hkk : s.1 = l2.length := by
        rcases (by omega : s.1 = l2.length ∨ s.1 < l2.length) with h | h
        · exact h
        · have := (hbi.old h).1; omega
       refine ⟨⟨(s.1 - 1, (i : Int), (i : Int), x', ns', mp'), ⟨?_, rfl⟩, ⟨hbi.next_first hv hT hk hkk hp, hm'⟩, rfl⟩⟩
       repeat' (first | exact True.intro | exact rfl | refine And.intro ?_ ?_)
     · have hkk : s.1 < l2.length := by
        rcases (by omega : s.1 = l2.length ∨ s.1 < l2.length) with h | h
        · have := hbi.new h; omega
        · exact h
       refine ⟨fun h4 => ?_, fun h4 => ?_⟩ <;> (try simp only [BL] at h4) <;> ((conv => whnf); repeat' (refine vcC_go tok {nm := [(7, 4013), (11, 4011), (12, 4012)], rs := [27, 42, 64]} rfl ?_; conv => whnf))
       · obtain ⟨hsm, hnx⟩ := hbi.next_put hv hT hk hkk hp h4
         have hput := put_meets ns' mp' ⟨2, l2.getD s.1 0, s.2.1, (i : Int), []⟩ hp.ok.small hsm hm' (by omega)
         have hix : 0 ≤ ((s.1 : Int) - 1) + 1 ∧ l2[(((s.1 : Int) - 1) + 1).toNat]? = some (l2.getD s.1 0) := ⟨by omega, by rw [show (((s.1 : Int) - 1) + 1).toNat = s.1 from by omega, List.getD_eq_getElem?_getD, List.getElem?_eq_getElem hkk]; rfl⟩
         refine draw_rule tok (cf := {nm := [(7, 4013), (11, 4011), (12, 4012)], rs := [27, 42, 64]}) (by kernel_rfl) [.p 0, .p 1, .p 2, .p 3, .p 4, .p 5, .p 6, .p 7, .p 8, .p 9, .p 10, .p 11, .p 13, .s 12 [0,11,1,8,9,10,7,4,6,3,5,2], .s 14 [], .s 15 [13]] (by kernel_rfl) ?_
         ((conv => whnf); repeat' (refine vcC_go tok {nm := [(7, 4013), (11, 4011), (12, 4012)], rs := [27, 42, 64]} rfl ?_; conv => whnf))
         repeat' ((first | (intro hlq; (try simp only [SL] at hlq)) | refine Ki _ hix ?_ | refine Ks ?_ | refine Kq ?_ | refine Kt ?_ | ((refine Kh (fun hb => ?_) fun hb => ?_) <;> (try simp only [BL] at hb)) | refine Ka ?_ | refine Kb ?_ | refine Kc (hd := rfl) (e := ?_) | refine Kc (hd := icells_eq _) (e := ?_) | refine Kd (e := ?_) | refine Kl rfl ?_ | fail) <;> ((conv => whnf); repeat' (refine vcC_go tok {nm := [(7, 4013), (11, 4011), (12, 4012)], rs := [27, 42, 64]} rfl ?_; conv => whnf)))
         refine ⟨forO ns' mp', _, ⟨?_, ?_⟩, hput.mono ?_⟩
         · exact Kr
         · exact Kr
         rintro _ O' ⟨mp2, rfl, rfl, hm2⟩
         ((conv => whnf); repeat' (refine vcC_go tok {nm := [(7, 4013), (11, 4011), (12, 4012)], rs := [27, 42, 64]} rfl ?_; conv => whnf))
         repeat' (first | (refine Kl rfl ?_; ((conv => whnf); repeat' (refine vcC_go tok {nm := [(7, 4013), (11, 4011), (12, 4012)], rs := [27, 42, 64]} rfl ?_; conv => whnf))) | fail)
         refine ⟨⟨(s.1 - 1, (ns'.idxOf ⟨2, l2.getD s.1 0, s.2.1, (i : Int), []⟩ : Int), (i : Int), x', putE ns' ⟨2, l2.getD s.1 0, s.2.1, (i : Int), []⟩, mp2), ⟨?_, rfl⟩, ⟨hnx, hm2⟩, rfl⟩⟩
         repeat' (first | exact True.intro | exact rfl | refine And.intro ?_ ?_)
       · refine ⟨⟨(s.1 - 1, s.2.1, s.2.2.1, x', ns', mp'), ⟨?_, rfl⟩, ⟨hbi.next_same hv hT hk hkk hp (Decidable.not_not.1 h4), hm'⟩, rfl⟩⟩
         repeat' (first | exact True.intro | exact rfl | refine And.intro ?_ ?_)
   · rintro s ⟨⟨hbi, hmp⟩, hk⟩
     ((conv => whnf); repeat' (refine vcC_go tok {nm := [(7, 4013), (11, 4011), (12, 4012)], rs := [27, 42, 64]} rfl ?_; conv => whnf))
     obtain ⟨q1, q2, q3, q4⟩ := hbi.old (by omega)
     have hl2 := hbi.len
     rw [hk, Nat.sub_zero] at hl2
     rw [hk, List.drop_zero] at q3
     refine ⟨bO l (vcL l1 l2 l3) s.2.2.2.1 s.2.2.2.2.1 s.2.2.2.2.2, iB s.2.1, ?_, ⟨s.2.1.toNat, s.2.2.2.1, s.2.2.2.2.1, s.2.2.2.2.2, by rw [show ((s.2.1.toNat : Nat) : Int) = s.2.1 from by omega], rfl, ⟨hbi.good, hbi.keep, hbi.pre, hbi.ok, q3, hl2⟩, hmp⟩⟩
     repeat' (first | exact True.intro | exact rfl | refine And.intro ?_ ?_)
theorem build_1 (l : List Step) (l1 l2 l3 : List Int) (T' : Env → Tr) (M : Nat) (hx : Vals1 1 l1) (hlen : l1.length ≤ 300)
 (hrec : BSpec 2 l (vcL l1 l2 l3) M T') (hT : ∀ x y : Env, (∀ u, 1 ≤ u → u < 2 → x.value u = y.value u) → T' x = T' y) :
 BSpec 1 l (vcL l1 l2 l3) (l1.length * (M + 1)) fun x => fold1 1 (fun n => T' (x.set 1 n)) l1 := by
 intro x0 ns0 mp0 hg hf hm hb
 have hpos : 0 < l1.length := List.length_pos_iff.2 hx.ne
 refine enterR tok {nm := [(7, 4013), (11, 4011), (12, 4012)], rs := [27, 42, 64]} Tryz.func23 rfl (by kernel_rfl) Tryz.ntmps23 (by simp) fun B0 W0 V0 lent g0 => ?_
 ((conv => whnf); repeat' (refine vcC_go tok {nm := [(7, 4013), (11, 4011), (12, 4012)], rs := [27, 42, 64]} rfl ?_; conv => whnf))
 refine ⟨fun h => absurd h (by decide), fun _ => ?_⟩
 ((conv => whnf); repeat' (refine vcC_go tok {nm := [(7, 4013), (11, 4011), (12, 4012)], rs := [27, 42, 64]} rfl ?_; conv => whnf))
 repeat' ((first | (intro hlq; (try simp only [SL] at hlq)) | refine Meets.k (backward_meets l1) ?_ | refine Ks ?_ | refine Kq ?_ | refine Kt ?_ | ((refine Kh (fun hb => ?_) fun hb => ?_) <;> (try simp only [BL] at hb)) | refine Ka ?_ | refine Kb ?_ | refine Kc (hd := rfl) (e := ?_) | refine Kc (hd := icells_eq _) (e := ?_) | refine Kd (e := ?_) | refine Kl rfl ?_ | fail) <;> ((conv => whnf); repeat' (refine vcC_go tok {nm := [(7, 4013), (11, 4011), (12, 4012)], rs := [27, 42, 64]} rfl ?_; conv => whnf)))
 have hi0 : bInv 1 l1 T' x0 ns0 M (l1.length, -1, -1, x0, ns0, mp0) := ⟨⟨Nat.le_refl _, hg, fun _ _ _ => rfl, List.prefix_refl _, hf, by simp, fun _ => rfl, fun h => absurd h (Nat.lt_irrefl _)⟩, hm⟩
 refine range_rule tok {nm := [(7, 4013), (11, 4011), (12, 4012)], rs := [27, 42, 64]} {} 3000 (X := BX) (Y := Empty) (bS 1 l l1 l2 l3) (fun y => nomatch y) (fun _ => .ret)
  (fun s ds => (bInv 1 l1 T' x0 ns0 M s ∧ 0 < s.1) ∧ ds = [iD ((s.1 : Int) - 1), iD (l1.getD (s.1 - 1) 0)]) (fun s _ s' => bInv 1 l1 T' x0 ns0 M s' ∧ s'.1 = s.1 - 1) (fun _ _ _ => True) (fun s => bInv 1 l1 T' x0 ns0 M s ∧ s.1 = 0) (l1.length, -1, -1, x0, ns0, mp0)
  (F := 54) (fs := []) (cs := [.d (.ptr [.sl (l1.map icells)] 0)]) rfl (Nat.le_refl _) ?_ Tryz.func54 rfl (by kernel_rfl) Tryz.ntmps54 (by simp) (by simp) (by simp) ?_ rfl (by simp) rfl (fun _ => rfl) (fun y => nomatch y) (fun _ => rfl) rfl rfl ?_ ?_ ?_
 · conv => whnf
   exact rfl
 · exact Kr
 · rintro s ds ⟨_, rfl⟩
   rfl
 · intro B0 W0 V0 lent g0 rc g V1 hY
   ((conv => whnf); repeat' (refine Z rfl ?_; conv => whnf))
   repeat' ((first | (intro hlq; (try simp only [SL] at hlq)) | refine Ks ?_ | refine Kq ?_ | refine Kt ?_ | refine Ka ?_ | refine Kb ?_ | refine Kc (hd := rfl) (e := ?_) | refine Kc (hd := icells_eq _) (e := ?_) | refine Kd (e := ?_) | refine Kl rfl ?_ | fail) <;> ((conv => whnf); repeat' (refine Z rfl ?_; conv => whnf)))
   refine loop_upd tok {} [] (X := BX) (fun s => [(3, iB ((s.1 : Int) - 1))]) (fun s => bS 1 l l1 l2 l3 s) [] (fun s => bInv 1 l1 T' x0 ns0 M s) (fun s => s.1) ((l1.map icells).length, -1, -1, x0, ns0, mp0) ?_
   ((conv => whnf); repeat' (refine Z rfl ?_; conv => whnf))
   refine And.intro ?_ ⟨by rw [List.length_map]; exact hi0, fun s hΦ => ?_⟩
   · exact Kr
   ((conv => whnf); repeat' (refine Z rfl ?_; conv => whnf))
   refine ⟨fun h2 => ?_, fun h2 => ?_⟩ <;> (try simp only [BL] at h2) <;> ((conv => whnf); repeat' (refine Z rfl ?_; conv => whnf))
   · have hk : 0 < s.1 ∧ s.1 ≤ l1.length := ⟨by omega, hΦ.1.hk⟩
     have hix : 0 ≤ (s.1 : Int) - 1 ∧ l1[((s.1 : Int) - 1).toNat]? = some (l1.getD (s.1 - 1) 0) := ⟨by omega, by rw [show ((s.1 : Int) - 1).toNat = s.1 - 1 from by omega, List.getD_eq_getElem?_getD, List.getElem?_eq_getElem (by omega)]; rfl⟩
     repeat' ((first | (intro hlq; (try simp only [SL] at hlq)) | refine Ki _ hix ?_ | refine Ks ?_ | refine Kq ?_ | refine Kt ?_ | ((refine Kh (fun hb => ?_) fun hb => ?_) <;> (try simp only [BL] at hb)) | refine Ka ?_ | refine Kb ?_ | refine Kc (hd := rfl) (e := ?_) | refine Kc (hd := icells_eq _) (e := ?_) | refine Kd (e := ?_) | refine Kl rfl ?_ | fail) <;> ((conv => whnf); repeat' (refine Z rfl ?_; conv => whnf)))
     refine ⟨_, ?_, (hY s _ ⟨⟨hΦ, hk.1⟩, rfl⟩).mono ?_⟩
     · exact Kr
     intro o O' h
     rcases h with ⟨s', ⟨hi', hk'⟩, rfl, rfl⟩ | ⟨y, _⟩
     · ((conv => whnf); repeat' (refine Z rfl ?_; conv => whnf))
       repeat' ((first | (intro hlq; (try simp only [SL] at hlq)) | refine Ks ?_ | refine Kq ?_ | refine Kt ?_ | refine Ka ?_ | refine Kb ?_ | refine Kc (hd := rfl) (e := ?_) | refine Kc (hd := icells_eq _) (e := ?_) | refine Kd (e := ?_) | refine Kl rfl ?_ | fail) <;> ((conv => whnf); repeat' (refine Z rfl ?_; conv => whnf)))
       refine ⟨fun h3 => absurd h3 (by decide), fun _ => ?_⟩
       ((conv => whnf); repeat' (refine Z rfl ?_; conv => whnf))
       repeat' ((first | (intro hlq; (try simp only [SL] at hlq)) | refine Ks ?_ | refine Kq ?_ | refine Kt ?_ | refine Ka ?_ | refine Kb ?_ | refine Kc (hd := rfl) (e := ?_) | refine Kc (hd := icells_eq _) (e := ?_) | refine Kd (e := ?_) | refine Kl rfl ?_ | fail) <;> ((conv => whnf); repeat' (refine Z rfl ?_; conv => whnf)))
       refine ⟨⟨s', ?_, hi', by omega⟩⟩
       repeat' (first | exact True.intro | exact rfl | refine And.intro ?_ ?_ | ((show D.v _ = D.v _; congr 2; omega)))
     · exact y.elim
   · refine ⟨_, .d (.tup []), ⟨?_, ?_, rfl⟩, ⟨_, rfl, .inl ⟨s, ⟨hΦ, by omega⟩, rfl⟩⟩⟩
     · exact Kr
     · exact Kr
 · ((conv => whnf); repeat' (refine Z rfl ?_; conv => whnf))
   refine ⟨?_, ?_, fun y => y.elim⟩
   · rintro s ds ⟨⟨⟨hbi, hmp⟩, hk⟩, rfl⟩ B0 W0 V0 lent g0 lr m0
     have hv : (1 : Int) ≤ 1 ∧ (1 : Int) ≤ 3 := by decide
     have hkl := hbi.hk
     have hmem : l1.getD (s.1 - 1) 0 ∈ l1 := by
      rw [List.getD_eq_getElem?_getD, List.getElem?_eq_getElem (by omega)]; exact List.getElem_mem _
     have hb2 : s.2.2.2.2.1.length + M + 1 ≤ 90000000 := by
      have h1 := hbi.len
      have h2 : (l1.length - s.1 + 1) * (M + 1) ≤ l1.length * (M + 1) := Nat.mul_le_mul_right _ (by omega)
      rw [Nat.succ_mul] at h2
      omega
     have hcall := hrec (s.2.2.2.1.set 1 (l1.getD (s.1 - 1) 0)) s.2.2.2.2.1 s.2.2.2.2.2 (set_good hv hbi.good ⟨hx.pos hmem, hx.most _ hmem⟩) hbi.ok hmp (by omega)
     ((conv => whnf); repeat' (refine vcC_go tok {nm := [(7, 4013), (11, 4011), (12, 4012)], rs := [27, 42, 64]} rfl ?_; conv => whnf))
     refine ⟨rfl, fun B0 W0 V0 lent g0 lr m0 => ?_⟩
     ((conv => whnf); repeat' (refine vcC_go tok {nm := [(7, 4013), (11, 4011), (12, 4012)], rs := [27, 42, 64]} rfl ?_; conv => whnf))
     repeat' ((first | (intro hlq; (try simp only [SL] at hlq)) | refine Ks ?_ | refine Kq ?_ | refine Kt ?_ | refine Ka ?_ | refine Kb ?_ | refine Kc (hd := rfl) (e := ?_) | refine Kc (hd := icells_eq _) (e := ?_) | refine Kd (e := ?_) | refine Kl rfl ?_ | fail) <;> ((conv => whnf); repeat' (refine vcC_go tok {nm := [(7, 4013), (11, 4011), (12, 4012)], rs := [27, 42, 64]} rfl ?_; conv => whnf)))
     refine ⟨bO l (vcL l1 l2 l3) (s.2.2.2.1.set 1 (l1.getD (s.1 - 1) 0)) s.2.2.2.2.1 s.2.2.2.2.2, _, ⟨?_, ?_⟩, hcall.mono ?_⟩
     · exact Kr
     · exact Kr
     rintro _ O' ⟨i, x', ns', mp', rfl, rfl, hp, hm'⟩
     have hpl := hp.len
     ((conv => whnf); repeat' (refine vcC_go tok {nm := [(7, 4013), (11, 4011), (12, 4012)], rs := [27, 42, 64]} rfl ?_; conv => whnf))
     refine ⟨fun h3 => ?_, fun h3 => ?_⟩ <;> (try simp only [BL] at h3) <;> ((conv => whnf); repeat' (refine vcC_go tok {nm := [(7, 4013), (11, 4011), (12, 4012)], rs := [27, 42, 64]} rfl ?_; conv => whnf))
     · have hkk : s.1 = l1.length := by
        rcases (by omega : s.1 = l1.length ∨ s.1 < l1.length) with h | h
        · exact h
        · have := (hbi.old h).1; omega
       refine ⟨⟨(s.1 - 1, (i : Int), (i : Int), x', ns', mp'), ⟨?_, rfl⟩, ⟨hbi.next_first hv hT hk hkk hp, hm'⟩, rfl⟩⟩
       repeat' (first | exact True.intro | exact rfl | refine And.intro ?_ ?_)
     · have hkk : s.1 < l1.length := by
        rcases (by omega : s.1 = l1.length ∨ s.1 < l1.length) with h | h
        · have := hbi.new h; omega
        · exact h
       refine ⟨fun h4 => ?_, fun h4 => ?_⟩ <;> (try simp only [BL] at h4) <;> ((conv => whnf); repeat' (refine vcC_go tok {nm := [(7, 4013), (11, 4011), (12, 4012)], rs := [27, 42, 64]} rfl ?_; conv => whnf))
       · obtain ⟨hsm, hnx⟩ := hbi.next_put hv hT hk hkk hp h4
         have hput := put_meets ns' mp' ⟨1, l1.getD s.1 0, s.2.1, (i : Int), []⟩ hp.ok.small hsm hm' (by omega)
         have hix : 0 ≤ ((s.1 : Int) - 1) + 1 ∧ l1[(((s.1 : Int) - 1) + 1).toNat]? = some (l1.getD s.1 0) := ⟨by omega, by rw [show (((s.1 : Int) - 1) + 1).toNat = s.1 from by omega, List.getD_eq_getElem?_getD, List.getElem?_eq_getElem hkk]; rfl⟩
         refine draw_rule tok (cf := {nm := [(7, 4013), (11, 4011), (12, 4012)], rs := [27, 42, 64]}) (by kernel_rfl) [.p 0, .p 1, .p 2, .p 3, .p 4, .p 5, .p 6, .p 7, .p 8, .p 9, .p 10, .p 11, .p 13, .s 12 [0,11,1,8,9,10,7,4,6,3,5,2], .s 14 [], .s 15 [13]] (by kernel_rfl) ?_
         ((conv => whnf); repeat' (refine vcC_go tok {nm := [(7, 4013), (11, 4011), (12, 4012)], rs := [27, 42, 64]} rfl ?_; conv => whnf))
         repeat' ((first | (intro hlq; (try simp only [SL] at hlq)) | refine Ki _ hix ?_ | refine Ks ?_ | refine Kq ?_ | refine Kt ?_ | ((refine Kh (fun hb => ?_) fun hb => ?_) <;> (try simp only [BL] at hb)) | refine Ka ?_ | refine Kb ?_ | refine Kc (hd := rfl) (e := ?_) | refine Kc (hd := icells_eq _) (e := ?_) | refine Kd (e := ?_) | refine Kl rfl ?_ | fail) <;> ((conv => whnf); repeat' (refine vcC_go tok {nm := [(7, 4013), (11, 4011), (12, 4012)], rs := [27, 42, 64]} rfl ?_; conv => whnf)))
         refine ⟨forO ns' mp', _, ⟨?_, ?_⟩, hput.mono ?_⟩
         · exact Kr
         · exact Kr
         rintro _ O' ⟨mp2, rfl, rfl, hm2⟩
         ((conv => whnf); repeat' (refine vcC_go tok {nm := [(7, 4013), (11, 4011), (12, 4012)], rs := [27, 42, 64]} rfl ?_; conv => whnf))
         repeat' (first | (refine Kl rfl ?_; ((conv => whnf); repeat' (refine vcC_go tok {nm := [(7, 4013), (11, 4011), (12, 4012)], rs := [27, 42, 64]} rfl ?_; conv => whnf))) | fail)
         refine ⟨⟨(s.1 - 1, (ns'.idxOf ⟨1, l1.getD s.1 0, s.2.1, (i : Int), []⟩ : Int), (i : Int), x', putE ns' ⟨1, l1.getD s.1 0, s.2.1, (i : Int), []⟩, mp2), ⟨?_, rfl⟩, ⟨hnx, hm2⟩, rfl⟩⟩
         repeat' (first | exact True.intro | exact rfl | refine And.intro ?_ ?_)
       · refine ⟨⟨(s.1 - 1, s.2.1, s.2.2.1, x', ns', mp'), ⟨?_, rfl⟩, ⟨hbi.next_same hv hT hk hkk hp (Decidable.not_not.1 h4), hm'⟩, rfl⟩⟩
         repeat' (first | exact True.intro | exact rfl | refine And.intro ?_ ?_)
   · rintro s ⟨⟨hbi, hmp⟩, hk⟩
     ((conv => whnf); repeat' (refine vcC_go tok {nm := [(7, 4013), (11, 4011), (12, 4012)], rs := [27, 42, 64]} rfl ?_; conv => whnf))
     obtain ⟨q1, q2, q3, q4⟩ := hbi.old (by omega)
     have hl2 := hbi.len
     rw [hk, Nat.sub_zero] at hl2
     rw [hk, List.drop_zero] at q3
     refine ⟨bO l (vcL l1 l2 l3) s.2.2.2.1 s.2.2.2.2.1 s.2.2.2.2.2, iB s.2.1, ?_, ⟨s.2.1.toNat, s.2.2.2.1, s.2.2.2.2.1, s.2.2.2.2.2, by rw [show ((s.2.1.toNat : Nat) : Int) = s.2.1 from by omega], rfl, ⟨hbi.good, hbi.keep, hbi.pre, hbi.ok, q3, hl2⟩, hmp⟩⟩
     repeat' (first | exact True.intro | exact rfl | refine And.intro ?_ ?_)
end Go.Proofs.YtacclfgmgphljaaGreat.Dx
