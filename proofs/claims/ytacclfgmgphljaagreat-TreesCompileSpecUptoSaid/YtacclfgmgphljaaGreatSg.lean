/- The code of chapter 10: what Compile returns, as a function; small laws for its walk. -/
import Derived.Test.YtacclfgmgphljaaGreatSf
set_option linter.all false
namespace Go.Proofs.YtacclfgmgphljaaGreat.Dx
open Go Go.RowKit
set_option maxRecDepth 100000
set_option maxHeartbeats 16000000
noncomputable def valsL (l : List Step) (v : Int) : List Int := vals1 (l.flatMap (Step.nums v) ++ [0])
noncomputable def treeL (l : List Step) : Tr := tree3 (fun x => Step.appL x l []) (valsL l 1) (valsL l 2) (valsL l 3)
noncomputable def compileE (l : List Step) : List Node × Int := if tiesE l = 0 then (if (preT (treeL l) []).length ≤ 4096 then (serT (treeL l), 0) else ([], 2)) else ([], tiesE l)
theorem own1_mem {v k w n x : Int} (h : x ∈ own1 v k w n) : 0 < x ∧ x ≤ Tr.most v := by
 unfold own1 at h
 split at h
 · rename_i hc
   rw [List.mem_singleton.1 h, ← hc.2.1]
   exact hc.2.2
 · cases h
mutual
theorem nums_mem {v x : Int} : ∀ c : Cond, x ∈ c.nums v → 0 < x ∧ x ≤ Tr.most v
 | ⟨k, w, n, ps⟩, h => by
   rw [Cond.nums] at h
   rcases List.mem_append.1 h with h | h
   · exact own1_mem h
   · exact numsL_mem ps h
theorem numsL_mem {v x : Int} : ∀ l : List Cond, x ∈ Cond.numsL v l → 0 < x ∧ x ≤ Tr.most v
 | [], h => by cases h
 | c :: cs, h => by
   rw [Cond.numsL] at h
   rcases List.mem_append.1 h with h | h
   · exact nums_mem c h
   · exact numsL_mem cs h
end
mutual
theorem snums_mem {v x : Int} : ∀ s : Step, x ∈ s.nums v → 0 < x ∧ x ≤ Tr.most v
 | ⟨k, b, c, t, e⟩, h => by
   rw [Step.nums] at h
   rcases List.mem_append.1 h with h | h
   · exact nums_mem c h
   · rcases List.mem_append.1 h with h | h
     · exact snumsL_mem t h
     · exact snumsL_mem e h
theorem snumsL_mem {v x : Int} : ∀ l : List Step, x ∈ Step.numsL v l → 0 < x ∧ x ≤ Tr.most v
 | [], h => by cases h
 | c :: cs, h => by
   rw [Step.numsL] at h
   rcases List.mem_append.1 h with h | h
   · exact snums_mem c h
   · exact snumsL_mem cs h
end
theorem vals_ok {v : Int} (hv : 1 ≤ v ∧ v ≤ 3) {xs : List Int} (h : ∀ x ∈ xs, 0 < x ∧ x ≤ Tr.most v) : Vals1 v (vals1 (xs ++ [0])) := by
 obtain ⟨h1, h2⟩ := vals1_spec (xs ++ [0])
 have hm : 0 ≤ Tr.most v := by unfold Tr.most; split <;> (try split) <;> omega
 have hall : ∀ x ∈ vals1 (xs ++ [0]), 0 ≤ x ∧ x ≤ Tr.most v := fun x hx => by
  rcases List.mem_append.1 ((h2 x).1 hx) with hx | hx
  · have := h x hx; omega
  · rw [List.mem_singleton.1 hx]; omega
 refine ⟨h1, ?_, fun b hb => (hall b hb).2⟩
 have h0 := (h2 0).2 (by simp)
 cases hl : vals1 (xs ++ [0]) with
 | nil => rw [hl] at h0; cases h0
 | cons a r =>
   rw [hl] at h0 h1 hall
   refine ⟨r, ?_⟩
   rcases List.mem_cons.1 h0 with e | e
   · rw [← e]
   · have := (List.pairwise_cons.1 h1).1 0 e
     have := hall a (by simp)
     omega
theorem valsL_ok (l : List Step) {v : Int} (hv : 1 ≤ v ∧ v ≤ 3) : Vals1 v (valsL l v) := vals_ok hv fun x hx => snumsL_mem l (by rw [snumsL_eq]; exact hx)
mutual
theorem snc_len (v : Int) : ∀ s : Step, (s.nums v).length ≤ s.ncd
 | ⟨k, b, c, t, e⟩ => by
   have h1 : (c.nums v).length ≤ c.num := by
    unfold Cond.num
    split
    · rename_i h
      obtain ⟨q1, q2⟩ := isZero_eq h
      rw [nums_eq, q1, q2]
      simp [own1]
    · exact nums_len v c
   have h2 := sncL_len v t
   have h3 := sncL_len v e
   rw [Step.nums, Step.ncd, List.length_append, List.length_append]; omega
theorem sncL_len (v : Int) : ∀ l : List Step, (Step.numsL v l).length ≤ Step.ncdL l
 | [] => by simp [Step.numsL, Step.ncdL]
 | c :: cs => by
   have h1 := snc_len v c
   have h2 := sncL_len v cs
   rw [Step.numsL, Step.ncdL, List.length_append]; omega
end
mutual
theorem nc_le : ∀ s : Step, s.nc ≤ s.ncd + s.nst
 | ⟨k, b, c, t, e⟩ => by
   have h1 : c.total ≤ c.num + 1 := by
    unfold Cond.num
    split
    · rename_i h
      obtain ⟨_, q2⟩ := isZero_eq h
      rw [Cond.total_eq, q2]; simp [Cond.totalL]
    · omega
   have h2 := ncL_le t
   have h3 := ncL_le e
   rw [Step.nc, Step.ncd, Step.nst]; omega
theorem ncL_le : ∀ l : List Step, Step.ncL l ≤ Step.ncdL l + Step.nstL l
 | [] => by simp [Step.ncL]
 | c :: cs => by
   have h1 := nc_le c
   have h2 := ncL_le cs
   rw [Step.ncL, Step.ncdL, Step.nstL]; omega
end
theorem ties_nc {l : List Step} (h : tiesE l = 0) : Step.ncdL l ≤ 256 := by
 unfold tiesE at h
 split at h
 · rename_i hf
   split at h
   · rename_i hv
     obtain ⟨_, k2, _⟩ := F_S l
     simp only [fitsF, Bool.or_eq_true, Bool.and_eq_true, decide_eq_true_eq, k2] at hf
     rcases hf with hf | hf
     · exact absurd (by simpa [formsS] using hf) hv.1
     · omega
   · cases h
 · cases h
theorem vals1_len (xs : List Int) : (vals1 xs).length ≤ xs.length := by
 have := Lib.compact_length_le (srt xs)
 rw [srt_len] at this
 exact this
theorem valsL_len {l : List Step} (h : tiesE l = 0) (v : Int) : (valsL l v).length ≤ 257 := by
 have h1 := vals1_len (l.flatMap (Step.nums v) ++ [0])
 have h2 := sncL_len v l
 have h3 := ties_nc h
 rw [snumsL_eq] at h2
 rw [List.length_append, List.length_singleton] at h1
 unfold valsL; omega
theorem env_eq {x y : Env} (h : ∀ u, 1 ≤ u → u < 4 → x.value u = y.value u) : x = y := by
 have h1 := h 1 (by omega) (by omega)
 have h2 := h 2 (by omega) (by omega)
 have h3 := h 3 (by omega) (by omega)
 obtain ⟨a, b, c⟩ := x
 obtain ⟨a', b', c'⟩ := y
 simp [Env.value] at h1 h2 h3
 rw [h1, h2, h3]
theorem set_agree {x y : Env} {v n : Int} (hv : 1 ≤ v ∧ v ≤ 3) (h : ∀ u, 1 ≤ u → u < v → x.value u = y.value u) : ∀ u, 1 ≤ u → u < v + 1 → (x.set v n).value u = (y.set v n).value u := by
 intro u h1 h2
 rw [set_value hv ⟨h1, by omega⟩, set_value hv ⟨h1, by omega⟩]
 split
 · rfl
 · exact h u h1 (by omega)
/-- the whole tree -/
theorem build_all (l : List Step) (hl : l.length ≤ 1048576) (hok : ∀ s ∈ l, s.ok) (hties : tiesE l = 0) :
 ∃ N, N ≤ 80000000 ∧ BSpec 1 l (vcL (valsL l 1) (valsL l 2) (valsL l 3)) N fun _ => treeL l := by
 have b4 := build_leaf l hl hok hties (valsL l 1) (valsL l 2) (valsL l 3)
 have e1 := valsL_len hties 1
 have e2 := valsL_len hties 2
 have e3 := valsL_len hties 3
 have b3 := build_3 l (valsL l 1) (valsL l 2) (valsL l 3) _ 1 (valsL_ok l (by decide)) (by omega) b4 fun x y h => by rw [env_eq h]
 have b2 := build_2 l (valsL l 1) (valsL l 2) (valsL l 3) _ _ (valsL_ok l (by decide)) (by omega) b3 fun x y h => fold1_congr fun n _ => by
  rw [env_eq (set_agree (v := 3) (by decide) h)]
 have b1 := build_1 l (valsL l 1) (valsL l 2) (valsL l 3) _ _ (valsL_ok l (by decide)) (by omega) b2 fun x y h => fold1_congr fun n _ => fold1_congr fun m _ => by
  rw [env_eq (set_agree (v := 3) (by decide) (set_agree (v := 2) (by decide) h))]
 refine ⟨_, ?_, b1⟩
 have h3 : (valsL l 3).length * (1 + 1) + 1 ≤ 515 := by omega
 have h2 : (valsL l 2).length * ((valsL l 3).length * (1 + 1) + 1) ≤ 257 * 515 := Nat.mul_le_mul e2 h3
 have h1 : (valsL l 1).length * ((valsL l 2).length * ((valsL l 3).length * (1 + 1) + 1) + 1) ≤ 257 * (257 * 515 + 1) := Nat.mul_le_mul e1 (by omega)
 omega
/-- a slice that is nil, known by its value -/
theorem J_nil {P : Program} {C : Cx} {st : SSt} {c : Code} {Q : Post} (n off : Nat) (h : match look n st.O with
 | some (.box cells ty) => match cells.drop off with
   | .d (.raw (.slice none 0 0)) :: _ => forceBs (cells.set off (.full [])) fun cells => setO n (.box cells ty) st.O fun O' => J P C c Q { st with O := O' }
   | _ => False
 | _ => False) : J P C c Q st := by
 refine ⟨fun γ V a W hr => ?_⟩
 split at h
 case h_2 => exact h.elim
 rename_i cells ty hn
 split at h
 case h_2 => exact h.elim
 rename_i rest hcell
 rw [forceBs_eq] at h
 obtain ⟨O', h, hO⟩ := setO_run h
 have hoff := getElem?_of_drop hcell
 refine h.run _ V a W (rel_state hr (L' := st.L) (O' := O') hr.slots (fun m x hx => ?_))
 rcases hO m x hx with ⟨rfl, rfl, _⟩ | ⟨_, hl⟩
 · refine ⟨?_, _, hn⟩
   obtain ⟨blk, cs, hg, hh, hcells, h1, hnone⟩ := hr.own m _ hn
   refine ⟨blk, cs, hg, hh, ⟨by simp [hcells.len], fun i b x hb hx => ?_⟩, h1, hnone⟩
   rw [List.getElem?_set] at hb
   split at hb
   · rename_i e2
     subst e2
     split at hb
     · cases hb
       have h3 := hcells.get off _ x hoff hx
       have h4 : x = .slice none 0 0 := by cases h3; rfl
       subst h4
       exact ⟨.nil, _, _, rfl⟩
     · cases hb
   · exact hcells.get i b x hb hx
 · exact ⟨hr.own m x hl, x, hl⟩
end Go.Proofs.YtacclfgmgphljaaGreat.Dx
/- The code of chapter 10: Compile. -/
namespace Go.Proofs.YtacclfgmgphljaaGreat.Dx
open Go Go.RowKit
set_option maxRecDepth 100000
set_option maxHeartbeats 32000000
/-- the numbers of one variable, in order from round w on -/
noncomputable def roundV (F : Int → List Int) (w v : Int) : List Int := if v < w then vals1 (F v ++ [0]) else F v
/-- the places in the order of the nodes that were met -/
structure IMap (order : List Nat) (k : Nat) (l : List (D × D)) : Prop where
 keys : ∀ p ∈ l, KInt .i64 p.1
 get : ∀ j : Nat, mget l (iD (j : Int)) = if j ∈ order.take k then some (iD (order.idxOf j : Int)) else none
theorem IMap.nil (order : List Nat) : IMap order 0 [] := ⟨fun p h => (by cases h), fun j => (by simp [mget])⟩
theorem IMap.step {order : List Nat} {k : Nat} {l : List (D × D)} (h : IMap order k l) (hn : order.Nodup) (hk : k < order.length) : IMap order (k + 1) (mput l (iD (order[k] : Int)) (iD (k : Int))) := by
 refine ⟨mputK ⟨_, rfl⟩ h.keys, fun j => ?_⟩
 rw [mgetP, List.take_succ_eq_append_getElem hk]
 by_cases e : order[k] = j
 · subst e
   have h1 : order.idxOf order[k] < order.length := List.idxOf_lt_length_of_mem (List.getElem_mem hk)
   have h2 : order.idxOf order[k] = k := (List.getElem?_inj h1 hn).1 (by rw [List.getElem?_eq_getElem h1, List.getElem?_eq_getElem hk, List.getElem_idxOf])
   rw [if_pos rfl, if_pos (List.mem_append_right _ (List.mem_singleton.2 rfl)), h2]
 · rw [if_neg (fun h => e (by injection h with h; injection h with _ h; exact Int.ofNat_inj.1 h)), h.get j]
   by_cases hm : j ∈ order.take k
   · rw [if_pos hm, if_pos (List.mem_append_left _ hm)]
   · rw [if_neg hm, if_neg fun h => (List.mem_append.1 h).elim hm fun h => e (List.mem_singleton.1 h).symm]
/-- the children of what was met were met -/
theorem pre_closed {ns : List Node} {d : Nat → Tr} (hf : Forest ns d) {r : Nat} {t : Tr} (h : Den ns r t) {j : Nat} (hj : j ∈ preI ns t r []) {x : Node} (hx : ns[j]? = some x) (hv : x.var ≠ 0) : ∃ y o : Nat, x.yes = y ∧ x.no = o ∧ y ∈ preI ns t r [] ∧ o ∈ preI ns t r [] := by
 have hlt := preI_lt h (met := []) (by simp)
 have hmem := preI_mem hf h j hj
 have hd := hf.den j (hlt j hj)
 have hm := pre_map hf h (met := []) (by simp)
 rw [List.map_nil] at hm
 have hk := (preT_kids (t := t) (met := []) hmem).resolve_left (by simp)
 generalize d j = s at hd hk
 cases hd with
 | leaf _ c h1 => rw [hx] at h1; cases h1; exact absurd rfl hv
 | node _ v n y o s' t' h1 hv' hy ho =>
   rw [hx] at h1
   cases h1
   have back : ∀ (k : Nat) (u : Tr), Den ns k u → u ∈ preT t [] → k ∈ preI ns t r [] := by
    intro k u hu hmu
    rw [← hm] at hmu
    exact (hf.mem hu.lt hlt).2 (by rw [← hu.func (hf.den k hu.lt)]; exact hmu)
   exact ⟨y, o, rfl, rfl, back y s' hy hk.1, back o t' ho hk.2⟩
theorem IMap.at {order : List Nat} {l : List (D × D)} (h : IMap order order.length l) {y : Int} {j : Nat} (hy : y = j) (hj : j ∈ order) : (mget l (iD y)).getD (iD 0) = iD (order.idxOf y.toNat : Int) := by
 rw [hy, h.get j, List.take_length, if_pos hj, Int.toNat_natCast]; rfl
/-- the first k nodes of the result -/
def outL (ns : List Node) (order : List Nat) (k : Nat) : List Node := (order.take k).map fun i => renum order ((ns[i]?).getD ⟨0, 0, 0, 0, []⟩)
theorem outL_len (ns : List Node) {order : List Nat} {k : Nat} (h : k ≤ order.length) : (outL ns order k).length = k := by rw [outL, List.length_map, List.length_take]; omega
theorem outL_step {ns : List Node} {order : List Nat} {k : Nat} (h : k < order.length) (hj : order[k] < ns.length) : outL ns order (k + 1) = outL ns order k ++ [renum order ns[order[k]]] := by
 rw [outL, List.take_succ_eq_append_getElem h, List.map_append, List.map_singleton, List.getElem?_eq_getElem hj]; rfl
theorem tCompile_meets (l : List Step) (hl : l.length ≤ 1048576) (hok : ∀ s ∈ l, s.ok) : Meets Tryz.prog 6 [.sl (l.map Step.cells)] fun d => d = .tup [treeD (compileE l).1, iD (compileE l).2] := by
 refine enter tok {nm := [(1, 4000), (5, 3000), (9, 4005), (58, 4002), (56, 4004), (10, 4001), (11, 4006), (12, 4007)], rs := [28, 49, 54, 65], priv := [57]} Tryz.func6 rfl (by kernel_rfl) Tryz.ntmps6 (by simp) fun B0 W0 V0 lent g0 => ?_
 ((conv => whnf); repeat' (refine vcC_go tok {nm := [(1, 4000), (5, 3000), (9, 4005), (58, 4002), (56, 4004), (10, 4001), (11, 4006), (12, 4007)], rs := [28, 49, 54, 65], priv := [57]} rfl ?_; conv => whnf))
 refine Meets.k (tTies l hl hok) ?_
 ((conv => whnf); repeat' ((fail_if_success (refine J_at 5 ?_)); refine vcC_go tok {nm := [(1, 4000), (5, 3000), (9, 4005), (58, 4002), (56, 4004), (10, 4001), (11, 4006), (12, 4007)], rs := [28, 49, 54, 65], priv := [57]} rfl ?_; conv => whnf))
 refine ⟨fun h1 => ?_, fun h1 => ?_⟩ <;> (try simp only [BL] at h1) <;> ((conv => whnf); repeat' ((fail_if_success (refine J_at 5 ?_)); refine vcC_go tok {nm := [(1, 4000), (5, 3000), (9, 4005), (58, 4002), (56, 4004), (10, 4001), (11, 4006), (12, 4007)], rs := [28, 49, 54, 65], priv := [57]} rfl ?_; conv => whnf))
 · exact ⟨by rw [compileE, if_neg h1]; rfl⟩
 have ht : tiesE l = 0 := by omega
 obtain ⟨hv, hnst⟩ := ties_ok ht
 have hncd := ties_nc ht
 have hnc := ncL_le l
 ((conv => whnf); repeat' ((fail_if_success (refine J_at 5 ?_)); refine vcC_go tok {nm := [(1, 4000), (5, 3000), (9, 4005), (58, 4002), (56, 4004), (10, 4001), (11, 4006), (12, 4007)], rs := [28, 49, 54, 65], priv := [57]} rfl ?_; conv => whnf))
 refine J_ownP 3000 1 3001 3 1 ?_
 conv => whnf
 refine J_ownP 3000 2 3002 3 1 ?_
 conv => whnf
 refine J_ownP 3000 3 3003 3 1 ?_
 conv => whnf
 ((conv => whnf); repeat' (refine vcC_go tok {nm := [(1, 4000), (5, 3000), (9, 4005), (58, 4002), (56, 4004), (10, 4001), (11, 4006), (12, 4007)], rs := [28, 49, 54, 65], priv := [57]} rfl ?_; conv => whnf))
 refine ⟨valO fun _ => [], _, ⟨?_, ?_⟩, (tests_meets l (fun _ => []) hv (fun v => by simp only [List.length_nil]; omega)).mono ?_⟩
 · exact Kr
 · exact Kr
 rintro o O' ⟨rfl, rfl⟩
 have hFl : ∀ v, ([] ++ l.flatMap (Step.nums v)).length ≤ 256 := fun v => by
  have h2 := sncL_len v l
  rw [snumsL_eq] at h2
  rw [List.nil_append]; omega
 ((conv => whnf); repeat' (refine vcC_go tok {nm := [(1, 4000), (5, 3000), (9, 4005), (58, 4002), (56, 4004), (10, 4001), (11, 4006), (12, 4007)], rs := [28, 49, 54, 65], priv := [57]} rfl ?_; conv => whnf))
 refine loop_upd tok {nm := [(1, 4000), (5, 3000), (9, 4005), (58, 4002), (56, 4004), (10, 4001), (11, 4006), (12, 4007)], rs := [28, 49, 54, 65], priv := [57]} [] (X := Int) (fun w => [(6, iB w)]) (fun w => valO (roundV (fun v => [] ++ l.flatMap (Step.nums v)) w)) [] (fun w => 1 ≤ w ∧ w ≤ 4) (fun w => (4 - w).toNat) 1 ?_
 ((conv => whnf); repeat' ((fail_if_success (refine J_at 13 ?_)); refine vcC_go tok {nm := [(1, 4000), (5, 3000), (9, 4005), (58, 4002), (56, 4004), (10, 4001), (11, 4006), (12, 4007)], rs := [28, 49, 54, 65], priv := [57]} rfl ?_; conv => whnf))
 refine And.intro ?_ ⟨by decide, fun w hw => ?_⟩
 · repeat' (first | exact True.intro | exact rfl | refine And.intro ?_ ?_ | ((simp [roundV]; done)))
 ((conv => whnf); repeat' ((fail_if_success (refine J_at 13 ?_)); refine vcC_go tok {nm := [(1, 4000), (5, 3000), (9, 4005), (58, 4002), (56, 4004), (10, 4001), (11, 4006), (12, 4007)], rs := [28, 49, 54, 65], priv := [57]} rfl ?_; conv => whnf))
 refine ⟨fun h2 => ?_, fun h2 => ?_⟩ <;> (try simp only [BL] at h2) <;> ((conv => whnf); repeat' ((fail_if_success (refine J_at 13 ?_)); refine vcC_go tok {nm := [(1, 4000), (5, 3000), (9, 4005), (58, 4002), (56, 4004), (10, 4001), (11, 4006), (12, 4007)], rs := [28, 49, 54, 65], priv := [57]} rfl ?_; conv => whnf))
 · have hw3 : w = 1 ∨ w = 2 ∨ w = 3 := by omega
   have hb := bounds_meets w
   rcases hw3 with rfl | rfl | rfl
   · have hr0 : roundV (fun v => [] ++ l.flatMap (Step.nums v)) 1 1 = [] ++ l.flatMap (Step.nums 1) := by simp [roundV]
     repeat' ((first | (intro hlq; (try simp only [SL] at hlq)) | refine Meets.k (hb) ?_ | refine Ks ?_ | refine Kq ?_ | refine Kt ?_ | ((refine Kh (fun hb => ?_) fun hb => ?_) <;> (try simp only [BL] at hb)) | refine Ka ?_ | refine Kb ?_ | refine Kc (hd := rfl) (e := ?_) | refine Kc (hd := icells_eq _) (e := ?_) | refine Kd (e := ?_) | refine Kl rfl ?_ | fail) <;> ((conv => whnf); repeat' ((fail_if_success (refine J_at 13 ?_)); refine vcC_go tok {nm := [(1, 4000), (5, 3000), (9, 4005), (58, 4002), (56, 4004), (10, 4001), (11, 4006), (12, 4007)], rs := [28, 49, 54, 65], priv := [57]} rfl ?_; conv => whnf)))
     refine ⟨by simp, ?_⟩
     ((conv => whnf); repeat' ((fail_if_success (refine J_at 13 ?_)); refine vcC_go tok {nm := [(1, 4000), (5, 3000), (9, 4005), (58, 4002), (56, 4004), (10, 4001), (11, 4006), (12, 4007)], rs := [28, 49, 54, 65], priv := [57]} rfl ?_; conv => whnf))
     refine Kap ?_ ?_ ?_
     rotate_left 1
     · simp only [List.length_map, hr0, List.length_cons, List.length_nil]; have := hFl 1; omega
     · decide
     ((conv => whnf); repeat' ((fail_if_success (refine J_at 13 ?_)); refine vcC_go tok {nm := [(1, 4000), (5, 3000), (9, 4005), (58, 4002), (56, 4004), (10, 4001), (11, 4006), (12, 4007)], rs := [28, 49, 54, 65], priv := [57]} rfl ?_; conv => whnf))
     repeat' ((first | (intro hlq; (try simp only [SL] at hlq)) | refine Ks ?_ | refine Kq ?_ | refine Kt ?_ | refine Ka ?_ | refine Kb ?_ | refine Kc (hd := rfl) (e := ?_) | refine Kc (hd := icells_eq _) (e := ?_) | refine Kd (e := ?_) | refine Kl rfl ?_ | fail) <;> ((conv => whnf); repeat' ((fail_if_success (refine J_at 13 ?_)); refine vcC_go tok {nm := [(1, 4000), (5, 3000), (9, 4005), (58, 4002), (56, 4004), (10, 4001), (11, 4006), (12, 4007)], rs := [28, 49, 54, 65], priv := [57]} rfl ?_; conv => whnf)))
     refine ⟨(3001, .sl ⟨3, 1, ([] ++ l.flatMap (Step.nums 1) ++ [0]).map icells, false⟩) :: [(3000, .box [.full [], .own 3001, .own 3002, .own 3003] 50), (3002, .sl ⟨3, 1, (roundV (fun v => [] ++ l.flatMap (Step.nums v)) 1 2).map icells, false⟩), (3003, .sl ⟨3, 1, (roundV (fun v => [] ++ l.flatMap (Step.nums v)) 1 3).map icells, false⟩)], _, ⟨?_, ?_⟩, (tsort_meets 3001 [(3000, .box [.full [], .own 3001, .own 3002, .own 3003] 50), (3002, .sl ⟨3, 1, (roundV (fun v => [] ++ l.flatMap (Step.nums v)) 1 2).map icells, false⟩), (3003, .sl ⟨3, 1, (roundV (fun v => [] ++ l.flatMap (Step.nums v)) 1 3).map icells, false⟩)] rfl ([] ++ l.flatMap (Step.nums 1) ++ [0]) (by simp) (by rw [List.length_append, List.length_singleton]; have := hFl 1; omega)).mono ?_⟩
     · exact Kr
     · repeat' (first | exact True.intro | exact rfl | refine And.intro ?_ ?_ | ((simp [roundV]; done)))
     rintro o O' ⟨rfl, rfl⟩
     ((conv => whnf); repeat' ((fail_if_success (refine J_at 13 ?_)); refine vcC_go tok {nm := [(1, 4000), (5, 3000), (9, 4005), (58, 4002), (56, 4004), (10, 4001), (11, 4006), (12, 4007)], rs := [28, 49, 54, 65], priv := [57]} rfl ?_; conv => whnf))
     repeat' ((first | (intro hlq; (try simp only [SL] at hlq)) | refine Ks ?_ | refine Kq ?_ | refine Kt ?_ | refine Ka ?_ | refine Kb ?_ | refine Kc (hd := rfl) (e := ?_) | refine Kc (hd := icells_eq _) (e := ?_) | refine Kd (e := ?_) | refine Kl rfl ?_ | fail) <;> ((conv => whnf); repeat' ((fail_if_success (refine J_at 13 ?_)); refine vcC_go tok {nm := [(1, 4000), (5, 3000), (9, 4005), (58, 4002), (56, 4004), (10, 4001), (11, 4006), (12, 4007)], rs := [28, 49, 54, 65], priv := [57]} rfl ?_; conv => whnf)))
     refine ⟨[(3001, .sl ⟨3, 1, (srt ([] ++ l.flatMap (Step.nums 1) ++ [0])).map icells, false⟩)], _, ⟨?_, ?_⟩, (tcompact_meets 3001 rfl (srt ([] ++ l.flatMap (Step.nums 1) ++ [0])) (by rw [← List.length_pos_iff, srt_len]; simp) (by rw [srt_len, List.length_append, List.length_singleton]; have := hFl 1; omega)).mono ?_⟩
     · exact Kr
     · exact Kr
     rintro o O' ⟨rfl, rfl⟩
     ((conv => whnf); repeat' ((fail_if_success (refine J_at 13 ?_)); refine vcC_go tok {nm := [(1, 4000), (5, 3000), (9, 4005), (58, 4002), (56, 4004), (10, 4001), (11, 4006), (12, 4007)], rs := [28, 49, 54, 65], priv := [57]} rfl ?_; conv => whnf))
     repeat' ((first | (intro hlq; (try simp only [SL] at hlq)) | refine Ks ?_ | refine Kq ?_ | refine Kt ?_ | refine Ka ?_ | refine Kb ?_ | refine Kc (hd := rfl) (e := ?_) | refine Kc (hd := icells_eq _) (e := ?_) | refine Kd (e := ?_) | refine Kl rfl ?_ | fail) <;> ((conv => whnf); repeat' ((fail_if_success (refine J_at 13 ?_)); refine vcC_go tok {nm := [(1, 4000), (5, 3000), (9, 4005), (58, 4002), (56, 4004), (10, 4001), (11, 4006), (12, 4007)], rs := [28, 49, 54, 65], priv := [57]} rfl ?_; conv => whnf)))
     refine ⟨⟨1 + 1, ?_, by decide, by decide⟩⟩
     repeat' (first | exact True.intro | exact rfl | refine And.intro ?_ ?_ | ((simp [roundV, vals1]; done)))
   · have hr0 : roundV (fun v => [] ++ l.flatMap (Step.nums v)) 2 2 = [] ++ l.flatMap (Step.nums 2) := by simp [roundV]
     repeat' ((first | (intro hlq; (try simp only [SL] at hlq)) | refine Meets.k (hb) ?_ | refine Ks ?_ | refine Kq ?_ | refine Kt ?_ | ((refine Kh (fun hb => ?_) fun hb => ?_) <;> (try simp only [BL] at hb)) | refine Ka ?_ | refine Kb ?_ | refine Kc (hd := rfl) (e := ?_) | refine Kc (hd := icells_eq _) (e := ?_) | refine Kd (e := ?_) | refine Kl rfl ?_ | fail) <;> ((conv => whnf); repeat' ((fail_if_success (refine J_at 13 ?_)); refine vcC_go tok {nm := [(1, 4000), (5, 3000), (9, 4005), (58, 4002), (56, 4004), (10, 4001), (11, 4006), (12, 4007)], rs := [28, 49, 54, 65], priv := [57]} rfl ?_; conv => whnf)))
     refine ⟨by simp, ?_⟩
     ((conv => whnf); repeat' ((fail_if_success (refine J_at 13 ?_)); refine vcC_go tok {nm := [(1, 4000), (5, 3000), (9, 4005), (58, 4002), (56, 4004), (10, 4001), (11, 4006), (12, 4007)], rs := [28, 49, 54, 65], priv := [57]} rfl ?_; conv => whnf))
     refine Kap ?_ ?_ ?_
     rotate_left 1
     · simp only [List.length_map, hr0, List.length_cons, List.length_nil]; have := hFl 2; omega
     · decide
     ((conv => whnf); repeat' ((fail_if_success (refine J_at 13 ?_)); refine vcC_go tok {nm := [(1, 4000), (5, 3000), (9, 4005), (58, 4002), (56, 4004), (10, 4001), (11, 4006), (12, 4007)], rs := [28, 49, 54, 65], priv := [57]} rfl ?_; conv => whnf))
     repeat' ((first | (intro hlq; (try simp only [SL] at hlq)) | refine Ks ?_ | refine Kq ?_ | refine Kt ?_ | refine Ka ?_ | refine Kb ?_ | refine Kc (hd := rfl) (e := ?_) | refine Kc (hd := icells_eq _) (e := ?_) | refine Kd (e := ?_) | refine Kl rfl ?_ | fail) <;> ((conv => whnf); repeat' ((fail_if_success (refine J_at 13 ?_)); refine vcC_go tok {nm := [(1, 4000), (5, 3000), (9, 4005), (58, 4002), (56, 4004), (10, 4001), (11, 4006), (12, 4007)], rs := [28, 49, 54, 65], priv := [57]} rfl ?_; conv => whnf)))
     refine ⟨(3002, .sl ⟨3, 1, ([] ++ l.flatMap (Step.nums 2) ++ [0]).map icells, false⟩) :: [(3000, .box [.full [], .own 3001, .own 3002, .own 3003] 50), (3001, .sl ⟨3, 1, (roundV (fun v => [] ++ l.flatMap (Step.nums v)) 2 1).map icells, false⟩), (3003, .sl ⟨3, 1, (roundV (fun v => [] ++ l.flatMap (Step.nums v)) 2 3).map icells, false⟩)], _, ⟨?_, ?_⟩, (tsort_meets 3002 [(3000, .box [.full [], .own 3001, .own 3002, .own 3003] 50), (3001, .sl ⟨3, 1, (roundV (fun v => [] ++ l.flatMap (Step.nums v)) 2 1).map icells, false⟩), (3003, .sl ⟨3, 1, (roundV (fun v => [] ++ l.flatMap (Step.nums v)) 2 3).map icells, false⟩)] rfl ([] ++ l.flatMap (Step.nums 2) ++ [0]) (by simp) (by rw [List.length_append, List.length_singleton]; have := hFl 2; omega)).mono ?_⟩
     · exact Kr
     · repeat' (first | exact True.intro | exact rfl | refine And.intro ?_ ?_ | ((simp [roundV]; done)))
     rintro o O' ⟨rfl, rfl⟩
     ((conv => whnf); repeat' ((fail_if_success (refine J_at 13 ?_)); refine vcC_go tok {nm := [(1, 4000), (5, 3000), (9, 4005), (58, 4002), (56, 4004), (10, 4001), (11, 4006), (12, 4007)], rs := [28, 49, 54, 65], priv := [57]} rfl ?_; conv => whnf))
     repeat' ((first | (intro hlq; (try simp only [SL] at hlq)) | refine Ks ?_ | refine Kq ?_ | refine Kt ?_ | refine Ka ?_ | refine Kb ?_ | refine Kc (hd := rfl) (e := ?_) | refine Kc (hd := icells_eq _) (e := ?_) | refine Kd (e := ?_) | refine Kl rfl ?_ | fail) <;> ((conv => whnf); repeat' ((fail_if_success (refine J_at 13 ?_)); refine vcC_go tok {nm := [(1, 4000), (5, 3000), (9, 4005), (58, 4002), (56, 4004), (10, 4001), (11, 4006), (12, 4007)], rs := [28, 49, 54, 65], priv := [57]} rfl ?_; conv => whnf)))
     refine ⟨[(3002, .sl ⟨3, 1, (srt ([] ++ l.flatMap (Step.nums 2) ++ [0])).map icells, false⟩)], _, ⟨?_, ?_⟩, (tcompact_meets 3002 rfl (srt ([] ++ l.flatMap (Step.nums 2) ++ [0])) (by rw [← List.length_pos_iff, srt_len]; simp) (by rw [srt_len, List.length_append, List.length_singleton]; have := hFl 2; omega)).mono ?_⟩
     · exact Kr
     · exact Kr
     rintro o O' ⟨rfl, rfl⟩
     ((conv => whnf); repeat' ((fail_if_success (refine J_at 13 ?_)); refine vcC_go tok {nm := [(1, 4000), (5, 3000), (9, 4005), (58, 4002), (56, 4004), (10, 4001), (11, 4006), (12, 4007)], rs := [28, 49, 54, 65], priv := [57]} rfl ?_; conv => whnf))
     repeat' ((first | (intro hlq; (try simp only [SL] at hlq)) | refine Ks ?_ | refine Kq ?_ | refine Kt ?_ | refine Ka ?_ | refine Kb ?_ | refine Kc (hd := rfl) (e := ?_) | refine Kc (hd := icells_eq _) (e := ?_) | refine Kd (e := ?_) | refine Kl rfl ?_ | fail) <;> ((conv => whnf); repeat' ((fail_if_success (refine J_at 13 ?_)); refine vcC_go tok {nm := [(1, 4000), (5, 3000), (9, 4005), (58, 4002), (56, 4004), (10, 4001), (11, 4006), (12, 4007)], rs := [28, 49, 54, 65], priv := [57]} rfl ?_; conv => whnf)))
     refine ⟨⟨2 + 1, ?_, by decide, by decide⟩⟩
     repeat' (first | exact True.intro | exact rfl | refine And.intro ?_ ?_ | ((simp [roundV, vals1]; done)))
   · have hr0 : roundV (fun v => [] ++ l.flatMap (Step.nums v)) 3 3 = [] ++ l.flatMap (Step.nums 3) := by simp [roundV]
     repeat' ((first | (intro hlq; (try simp only [SL] at hlq)) | refine Meets.k (hb) ?_ | refine Ks ?_ | refine Kq ?_ | refine Kt ?_ | ((refine Kh (fun hb => ?_) fun hb => ?_) <;> (try simp only [BL] at hb)) | refine Ka ?_ | refine Kb ?_ | refine Kc (hd := rfl) (e := ?_) | refine Kc (hd := icells_eq _) (e := ?_) | refine Kd (e := ?_) | refine Kl rfl ?_ | fail) <;> ((conv => whnf); repeat' ((fail_if_success (refine J_at 13 ?_)); refine vcC_go tok {nm := [(1, 4000), (5, 3000), (9, 4005), (58, 4002), (56, 4004), (10, 4001), (11, 4006), (12, 4007)], rs := [28, 49, 54, 65], priv := [57]} rfl ?_; conv => whnf)))
     refine ⟨by simp, ?_⟩
     ((conv => whnf); repeat' ((fail_if_success (refine J_at 13 ?_)); refine vcC_go tok {nm := [(1, 4000), (5, 3000), (9, 4005), (58, 4002), (56, 4004), (10, 4001), (11, 4006), (12, 4007)], rs := [28, 49, 54, 65], priv := [57]} rfl ?_; conv => whnf))
     refine Kap ?_ ?_ ?_
     rotate_left 1
     · simp only [List.length_map, hr0, List.length_cons, List.length_nil]; have := hFl 3; omega
     · decide
     ((conv => whnf); repeat' ((fail_if_success (refine J_at 13 ?_)); refine vcC_go tok {nm := [(1, 4000), (5, 3000), (9, 4005), (58, 4002), (56, 4004), (10, 4001), (11, 4006), (12, 4007)], rs := [28, 49, 54, 65], priv := [57]} rfl ?_; conv => whnf))
     repeat' ((first | (intro hlq; (try simp only [SL] at hlq)) | refine Ks ?_ | refine Kq ?_ | refine Kt ?_ | refine Ka ?_ | refine Kb ?_ | refine Kc (hd := rfl) (e := ?_) | refine Kc (hd := icells_eq _) (e := ?_) | refine Kd (e := ?_) | refine Kl rfl ?_ | fail) <;> ((conv => whnf); repeat' ((fail_if_success (refine J_at 13 ?_)); refine vcC_go tok {nm := [(1, 4000), (5, 3000), (9, 4005), (58, 4002), (56, 4004), (10, 4001), (11, 4006), (12, 4007)], rs := [28, 49, 54, 65], priv := [57]} rfl ?_; conv => whnf)))
     refine ⟨(3003, .sl ⟨3, 1, ([] ++ l.flatMap (Step.nums 3) ++ [0]).map icells, false⟩) :: [(3000, .box [.full [], .own 3001, .own 3002, .own 3003] 50), (3001, .sl ⟨3, 1, (roundV (fun v => [] ++ l.flatMap (Step.nums v)) 3 1).map icells, false⟩), (3002, .sl ⟨3, 1, (roundV (fun v => [] ++ l.flatMap (Step.nums v)) 3 2).map icells, false⟩)], _, ⟨?_, ?_⟩, (tsort_meets 3003 [(3000, .box [.full [], .own 3001, .own 3002, .own 3003] 50), (3001, .sl ⟨3, 1, (roundV (fun v => [] ++ l.flatMap (Step.nums v)) 3 1).map icells, false⟩), (3002, .sl ⟨3, 1, (roundV (fun v => [] ++ l.flatMap (Step.nums v)) 3 2).map icells, false⟩)] rfl ([] ++ l.flatMap (Step.nums 3) ++ [0]) (by simp) (by rw [List.length_append, List.length_singleton]; have := hFl 3; omega)).mono ?_⟩
     · exact Kr
     · repeat' (first | exact True.intro | exact rfl | refine And.intro ?_ ?_ | ((simp [roundV]; done)))
     rintro o O' ⟨rfl, rfl⟩
     ((conv => whnf); repeat' ((fail_if_success (refine J_at 13 ?_)); refine vcC_go tok {nm := [(1, 4000), (5, 3000), (9, 4005), (58, 4002), (56, 4004), (10, 4001), (11, 4006), (12, 4007)], rs := [28, 49, 54, 65], priv := [57]} rfl ?_; conv => whnf))
     repeat' ((first | (intro hlq; (try simp only [SL] at hlq)) | refine Ks ?_ | refine Kq ?_ | refine Kt ?_ | refine Ka ?_ | refine Kb ?_ | refine Kc (hd := rfl) (e := ?_) | refine Kc (hd := icells_eq _) (e := ?_) | refine Kd (e := ?_) | refine Kl rfl ?_ | fail) <;> ((conv => whnf); repeat' ((fail_if_success (refine J_at 13 ?_)); refine vcC_go tok {nm := [(1, 4000), (5, 3000), (9, 4005), (58, 4002), (56, 4004), (10, 4001), (11, 4006), (12, 4007)], rs := [28, 49, 54, 65], priv := [57]} rfl ?_; conv => whnf)))
     refine ⟨[(3003, .sl ⟨3, 1, (srt ([] ++ l.flatMap (Step.nums 3) ++ [0])).map icells, false⟩)], _, ⟨?_, ?_⟩, (tcompact_meets 3003 rfl (srt ([] ++ l.flatMap (Step.nums 3) ++ [0])) (by rw [← List.length_pos_iff, srt_len]; simp) (by rw [srt_len, List.length_append, List.length_singleton]; have := hFl 3; omega)).mono ?_⟩
     · exact Kr
     · exact Kr
     rintro o O' ⟨rfl, rfl⟩
     ((conv => whnf); repeat' ((fail_if_success (refine J_at 13 ?_)); refine vcC_go tok {nm := [(1, 4000), (5, 3000), (9, 4005), (58, 4002), (56, 4004), (10, 4001), (11, 4006), (12, 4007)], rs := [28, 49, 54, 65], priv := [57]} rfl ?_; conv => whnf))
     repeat' ((first | (intro hlq; (try simp only [SL] at hlq)) | refine Ks ?_ | refine Kq ?_ | refine Kt ?_ | refine Ka ?_ | refine Kb ?_ | refine Kc (hd := rfl) (e := ?_) | refine Kc (hd := icells_eq _) (e := ?_) | refine Kd (e := ?_) | refine Kl rfl ?_ | fail) <;> ((conv => whnf); repeat' ((fail_if_success (refine J_at 13 ?_)); refine vcC_go tok {nm := [(1, 4000), (5, 3000), (9, 4005), (58, 4002), (56, 4004), (10, 4001), (11, 4006), (12, 4007)], rs := [28, 49, 54, 65], priv := [57]} rfl ?_; conv => whnf)))
     refine ⟨⟨3 + 1, ?_, by decide, by decide⟩⟩
     repeat' (first | exact True.intro | exact rfl | refine And.intro ?_ ?_ | ((simp [roundV, vals1]; done)))
 · have hw4 : w = 4 := by omega
   subst hw4
   have e1 : roundV (fun v => [] ++ l.flatMap (Step.nums v)) 4 1 = valsL l 1 := by simp [roundV, valsL]
   have e2 : roundV (fun v => [] ++ l.flatMap (Step.nums v)) 4 2 = valsL l 2 := by simp [roundV, valsL]
   have e3 : roundV (fun v => [] ++ l.flatMap (Step.nums v)) 4 3 = valsL l 3 := by simp [roundV, valsL]
   conv => enter [5]; simp only [valO, e1, e2, e3]
   ((conv => whnf); repeat' ((fail_if_success (refine J_at 17 ?_)); refine vcC_go tok {nm := [(1, 4000), (5, 3000), (9, 4005), (58, 4002), (56, 4004), (10, 4001), (11, 4006), (12, 4007)], rs := [28, 49, 54, 65], priv := [57]} rfl ?_; conv => whnf))
   repeat' ((first | (intro hlq; (try simp only [SL] at hlq)) | refine Ks ?_ | refine Kq ?_ | refine Kt ?_ | refine Ka ?_ | refine Kb ?_ | refine Kc (hd := rfl) (e := ?_) | refine Kc (hd := icells_eq _) (e := ?_) | refine Kd (e := ?_) | refine Kl rfl ?_ | fail) <;> ((conv => whnf); repeat' ((fail_if_success (refine J_at 17 ?_)); refine vcC_go tok {nm := [(1, 4000), (5, 3000), (9, 4005), (58, 4002), (56, 4004), (10, 4001), (11, 4006), (12, 4007)], rs := [28, 49, 54, 65], priv := [57]} rfl ?_; conv => whnf)))
   refine J_nil 4002 0 ?_
   conv => whnf
   refine J_own [(.inr (4002, 0), 4003, 39, 5)] ?_
   conv => whnf
   refine ⟨by simp, ?_⟩
   conv => whnf
   refine J_frz [3000] ?_
   conv => whnf
   obtain ⟨N, hN, hB⟩ := build_all l hl hok ht
   ((conv => whnf); repeat' ((fail_if_success (refine J_at 19 ?_)); refine vcC_go tok {nm := [(1, 4000), (5, 3000), (9, 4005), (58, 4002), (56, 4004), (10, 4001), (11, 4006), (12, 4007)], rs := [28, 49, 54, 65], priv := [57]} rfl ?_; conv => whnf))
   refine ⟨bO l (vcL (valsL l 1) (valsL l 2) (valsL l 3)) ⟨0, 0, 0⟩ [] [], _, ⟨?_, ?_⟩, (hB ⟨0, 0, 0⟩ [] [] (by decide) FOk.nil (NMap.nil _) (by simp only [List.length_nil]; omega)).mono ?_⟩
   · exact Kr
   · exact Kr
   rintro o O' ⟨i, x', ns', mp', rfl, rfl, hP, hM⟩
   have hlen : ns'.length ≤ 80000000 := by have := hP.len; simp only [List.length_nil] at this; omega
   ((conv => whnf); repeat' ((fail_if_success (refine J_at 19 ?_)); refine vcC_go tok {nm := [(1, 4000), (5, 3000), (9, 4005), (58, 4002), (56, 4004), (10, 4001), (11, 4006), (12, 4007)], rs := [28, 49, 54, 65], priv := [57]} rfl ?_; conv => whnf))
   have hden : Den ns' i (treeL l) := hP.den
   have hvis := visit_meets ns' i (treeL l) hden (by omega)
   have hfor : ∃ d, Forest ns' d := ⟨fun i => if h : i < ns'.length then (hP.ok.den i h).choose else .leaf [], hP.ok.nodup, fun i hi => by rw [dif_pos hi]; exact (hP.ok.den i hi).choose_spec⟩
   obtain ⟨d, hf⟩ := hfor
   have hpm := congrArg List.length (pre_map hf hden (met := []) (by simp))
   rw [List.map_nil, List.length_map] at hpm
   have hall : ∃ order : List Nat, (Meets Tryz.prog 27 [.sl (ns'.map Node.cells), iD i] fun d => d = .sl (order.map ncells)) ∧ order.length = (preT (treeL l) []).length ∧ (∀ j ∈ order, j < ns'.length) ∧ order.Nodup ∧ outL ns' order order.length = serT (treeL l) ∧ (∀ j ∈ order, ∀ x, ns'[j]? = some x → x.var ≠ 0 → ∃ y o : Nat, x.yes = y ∧ x.no = o ∧ y ∈ order ∧ o ∈ order) :=
    ⟨preI ns' (treeL l) i [], hvis, hpm, preI_lt hden (by simp), pre_nodup hf hden, by rw [outL, List.take_length]; exact ser_of_forest hf hden, fun j hj x hx hv => pre_closed hf hden hj hx hv⟩
   obtain ⟨order, hvis, hpm, hlt, hnd, hser, hcl⟩ := hall
   ((conv => whnf); repeat' ((fail_if_success (refine J_at 21 ?_)); (fail_if_success (refine J_at 22 ?_)); refine vcC_go tok {nm := [(1, 4000), (5, 3000), (9, 4005), (58, 4002), (56, 4004), (10, 4001), (11, 4006), (12, 4007)], rs := [28, 49, 54, 65], priv := [57]} rfl ?_; conv => whnf))
   repeat' ((first | (intro hlq; (try simp only [SL] at hlq)) | refine Ks ?_ | refine Kq ?_ | refine Kt ?_ | refine Ka ?_ | refine Kb ?_ | refine Kc (hd := rfl) (e := ?_) | refine Kc (hd := icells_eq _) (e := ?_) | refine Kd (e := ?_) | refine Kl rfl ?_ | fail) <;> ((conv => whnf); repeat' ((fail_if_success (refine J_at 21 ?_)); (fail_if_success (refine J_at 22 ?_)); refine vcC_go tok {nm := [(1, 4000), (5, 3000), (9, 4005), (58, 4002), (56, 4004), (10, 4001), (11, 4006), (12, 4007)], rs := [28, 49, 54, 65], priv := [57]} rfl ?_; conv => whnf)))
   refine Meets.k hvis ?_
   ((conv => whnf); repeat' ((fail_if_success (refine J_at 21 ?_)); (fail_if_success (refine J_at 22 ?_)); refine vcC_go tok {nm := [(1, 4000), (5, 3000), (9, 4005), (58, 4002), (56, 4004), (10, 4001), (11, 4006), (12, 4007)], rs := [28, 49, 54, 65], priv := [57]} rfl ?_; conv => whnf))
   repeat' ((first | (intro hlq; (try simp only [SL] at hlq)) | refine Ks ?_ | refine Kq ?_ | refine Kt ?_ | refine Ka ?_ | refine Kb ?_ | refine Kc (hd := rfl) (e := ?_) | refine Kc (hd := icells_eq _) (e := ?_) | refine Kd (e := ?_) | refine Kl rfl ?_ | fail) <;> ((conv => whnf); repeat' ((fail_if_success (refine J_at 21 ?_)); (fail_if_success (refine J_at 22 ?_)); refine vcC_go tok {nm := [(1, 4000), (5, 3000), (9, 4005), (58, 4002), (56, 4004), (10, 4001), (11, 4006), (12, 4007)], rs := [28, 49, 54, 65], priv := [57]} rfl ?_; conv => whnf)))
   refine ⟨fun h3 => ?_, fun h3 => ?_⟩ <;> (try simp only [BL] at h3) <;> ((conv => whnf); repeat' (refine vcC_go tok {nm := [(1, 4000), (5, 3000), (9, 4005), (58, 4002), (56, 4004), (10, 4001), (11, 4006), (12, 4007)], rs := [28, 49, 54, 65], priv := [57]} rfl ?_; conv => whnf))
   · exact ⟨by rw [compileE, if_pos ht, if_neg (by omega)]; rfl⟩
   have hcE : compileE l = (serT (treeL l), 0) := by rw [compileE, if_pos ht, if_pos (by omega)]
   repeat' ((first | (intro hlq; (try simp only [SL] at hlq)) | refine Ks ?_ | refine Kq ?_ | refine Kt ?_ | refine Ka ?_ | refine Kb ?_ | refine Kc (hd := rfl) (e := ?_) | refine Kc (hd := icells_eq _) (e := ?_) | refine Kd (e := ?_) | refine Kl rfl ?_ | fail) <;> ((conv => whnf); repeat' (refine vcC_go tok {nm := [(1, 4000), (5, 3000), (9, 4005), (58, 4002), (56, 4004), (10, 4001), (11, 4006), (12, 4007)], rs := [28, 49, 54, 65], priv := [57]} rfl ?_; conv => whnf)))
   refine loop_upd tok {nm := [(1, 4000), (5, 3000), (9, 4005), (58, 4002), (56, 4004), (10, 4001), (11, 4006), (12, 4007)], rs := [28, 49, 54, 65], priv := [57]} [] (X := Nat × List (D × D)) (fun x => [(79, iB (x.1 : Int))]) (fun x => [(76, .mp x.2)]) [] (fun x => x.1 ≤ order.length ∧ IMap order x.1 x.2) (fun x => order.length - x.1) (0, []) ?_
   ((conv => whnf); repeat' (refine vcC_go tok {nm := [(1, 4000), (5, 3000), (9, 4005), (58, 4002), (56, 4004), (10, 4001), (11, 4006), (12, 4007)], rs := [28, 49, 54, 65], priv := [57]} rfl ?_; conv => whnf))
   refine And.intro ?_ ⟨⟨by omega, IMap.nil _⟩, fun x hΦ => ?_⟩
   · exact Kr
   obtain ⟨k, mp⟩ := x
   obtain ⟨hk, hmp⟩ := hΦ
   dsimp only at hk hmp
   ((conv => whnf); repeat' (refine vcC_go tok {nm := [(1, 4000), (5, 3000), (9, 4005), (58, 4002), (56, 4004), (10, 4001), (11, 4006), (12, 4007)], rs := [28, 49, 54, 65], priv := [57]} rfl ?_; conv => whnf))
   refine ⟨fun h4 => ?_, fun h4 => ?_⟩ <;> (try simp only [BL] at h4) <;> ((conv => whnf); repeat' (refine vcC_go tok {nm := [(1, 4000), (5, 3000), (9, 4005), (58, 4002), (56, 4004), (10, 4001), (11, 4006), (12, 4007)], rs := [28, 49, 54, 65], priv := [57]} rfl ?_; conv => whnf))
   · have hk' : k < order.length := by omega
     repeat' ((first | (intro hlq; (try simp only [SL] at hlq)) | refine Ks ?_ | refine Kq ?_ | refine Kt ?_ | refine Ka ?_ | refine Kb ?_ | refine Kc (hd := rfl) (e := ?_) | refine Kc (hd := icells_eq _) (e := ?_) | refine Kd (e := ?_) | refine Kl rfl ?_ | fail) <;> ((conv => whnf); repeat' (refine vcC_go tok {nm := [(1, 4000), (5, 3000), (9, 4005), (58, 4002), (56, 4004), (10, 4001), (11, 4006), (12, 4007)], rs := [28, 49, 54, 65], priv := [57]} rfl ?_; conv => whnf)))
     refine ⟨⟨⟨_, rfl⟩, hmp.keys⟩, ?_⟩
     ((conv => whnf); repeat' (refine vcC_go tok {nm := [(1, 4000), (5, 3000), (9, 4005), (58, 4002), (56, 4004), (10, 4001), (11, 4006), (12, 4007)], rs := [28, 49, 54, 65], priv := [57]} rfl ?_; conv => whnf))
     repeat' ((first | (intro hlq; (try simp only [SL] at hlq)) | refine Ks ?_ | refine Kq ?_ | refine Kt ?_ | refine Ka ?_ | refine Kb ?_ | refine Kc (hd := rfl) (e := ?_) | refine Kc (hd := icells_eq _) (e := ?_) | refine Kd (e := ?_) | refine Kl rfl ?_ | fail) <;> ((conv => whnf); repeat' (refine vcC_go tok {nm := [(1, 4000), (5, 3000), (9, 4005), (58, 4002), (56, 4004), (10, 4001), (11, 4006), (12, 4007)], rs := [28, 49, 54, 65], priv := [57]} rfl ?_; conv => whnf)))
     refine ⟨⟨(k + 1, mput mp (iD (order[k] : Int)) (iD (k : Int))), ?_, ⟨by dsimp only; omega, hmp.step hnd hk'⟩, by dsimp only; omega⟩⟩
     repeat' (first | exact True.intro | exact rfl | refine And.intro ?_ ?_)
   · have hk2 : k = order.length := by omega
     subst hk2
     repeat' ((first | (intro hlq; (try simp only [SL] at hlq)) | refine Ks ?_ | refine Kq ?_ | refine Kt ?_ | refine Ka ?_ | refine Kb ?_ | refine Kc (hd := rfl) (e := ?_) | refine Kc (hd := icells_eq _) (e := ?_) | refine Kd (e := ?_) | refine Kl rfl ?_ | fail) <;> ((conv => whnf); repeat' (refine vcC_go tok {nm := [(1, 4000), (5, 3000), (9, 4005), (58, 4002), (56, 4004), (10, 4001), (11, 4006), (12, 4007)], rs := [28, 49, 54, 65], priv := [57]} rfl ?_; conv => whnf)))
     refine loop_upd tok {nm := [(1, 4000), (5, 3000), (9, 4005), (58, 4002), (56, 4004), (10, 4001), (11, 4006), (12, 4007)], rs := [28, 49, 54, 65], priv := [57]} [(.inr (2, 0), 4010, 39, 5)] (X := Nat) (fun x => [(90, iB (x : Int))]) (fun x => [(4010, .sl ⟨39, 5, (outL ns' order x).map Node.cells, true⟩)]) [20] (fun x => x ≤ order.length) (fun x => order.length - x) 0 ?_
     ((conv => whnf); repeat' (refine vcC_go tok {nm := [(1, 4000), (5, 3000), (9, 4005), (58, 4002), (56, 4004), (10, 4001), (11, 4006), (12, 4007)], rs := [28, 49, 54, 65], priv := [57]} rfl ?_; conv => whnf))
     refine ⟨by simp, ?_⟩
     ((conv => whnf); repeat' (refine vcC_go tok {nm := [(1, 4000), (5, 3000), (9, 4005), (58, 4002), (56, 4004), (10, 4001), (11, 4006), (12, 4007)], rs := [28, 49, 54, 65], priv := [57]} rfl ?_; conv => whnf))
     refine And.intro ?_ ⟨by omega, fun k hk => ?_⟩
     · exact Kr
     ((conv => whnf); repeat' (refine vcC_go tok {nm := [(1, 4000), (5, 3000), (9, 4005), (58, 4002), (56, 4004), (10, 4001), (11, 4006), (12, 4007)], rs := [28, 49, 54, 65], priv := [57]} rfl ?_; conv => whnf))
     refine ⟨fun h5 => ?_, fun h5 => ?_⟩ <;> (try simp only [BL] at h5) <;> ((conv => whnf); repeat' (refine vcC_go tok {nm := [(1, 4000), (5, 3000), (9, 4005), (58, 4002), (56, 4004), (10, 4001), (11, 4006), (12, 4007)], rs := [28, 49, 54, 65], priv := [57]} rfl ?_; conv => whnf))
     · have hk' : k < order.length := by omega
       have hj : order[k] < ns'.length := hlt _ (List.getElem_mem hk')
       have hol := outL_len ns' hk
       repeat' ((first | (intro hlq; (try simp only [SL] at hlq)) | refine Ks ?_ | refine Kq ?_ | refine Kt ?_ | refine Ka ?_ | refine Kb ?_ | refine Kc (hd := rfl) (e := ?_) | refine Kc (hd := icells_eq _) (e := ?_) | refine Kd (e := ?_) | refine Kl rfl ?_ | fail) <;> ((conv => whnf); repeat' (refine vcC_go tok {nm := [(1, 4000), (5, 3000), (9, 4005), (58, 4002), (56, 4004), (10, 4001), (11, 4006), (12, 4007)], rs := [28, 49, 54, 65], priv := [57]} rfl ?_; conv => whnf)))
       refine ⟨fun h6 => ?_, fun h6 => ?_⟩ <;> (try simp only [BL] at h6) <;> ((conv => whnf); repeat' (refine vcC_go tok {nm := [(1, 4000), (5, 3000), (9, 4005), (58, 4002), (56, 4004), (10, 4001), (11, 4006), (12, 4007)], rs := [28, 49, 54, 65], priv := [57]} rfl ?_; conv => whnf))
       · have hcl1 := hcl order[k] (List.getElem_mem hk') ns'[order[k]] (List.getElem?_eq_getElem hj) h6
         obtain ⟨y, o, hy, ho, hym, hom⟩ := hcl1
         refine draw_rule tok (cf := {nm := [(1, 4000), (5, 3000), (9, 4005), (58, 4002), (56, 4004), (10, 4001), (11, 4006), (12, 4007)], rs := [28, 49, 54, 65], priv := [57]}) (by kernel_rfl) [.p 0, .p 1, .p 2, .p 3, .p 4, .p 5, .p 6, .p 7, .p 8, .s 9 [8,3,0,1,2,5,6], .p 10, .s 11 [10,7,4]] (by kernel_rfl) ?_
         ((conv => whnf); repeat' (refine vcC_go tok {nm := [(1, 4000), (5, 3000), (9, 4005), (58, 4002), (56, 4004), (10, 4001), (11, 4006), (12, 4007)], rs := [28, 49, 54, 65], priv := [57]} rfl ?_; conv => whnf))
         refine ⟨⟨⟨_, rfl⟩, hmp.keys⟩, _, hmp.at hy hym, ?_⟩
         ((conv => whnf); repeat' (refine vcC_go tok {nm := [(1, 4000), (5, 3000), (9, 4005), (58, 4002), (56, 4004), (10, 4001), (11, 4006), (12, 4007)], rs := [28, 49, 54, 65], priv := [57]} rfl ?_; conv => whnf))
         refine ⟨⟨⟨_, rfl⟩, hmp.keys⟩, _, hmp.at ho hom, ?_⟩
         ((conv => whnf); repeat' (refine vcC_go tok {nm := [(1, 4000), (5, 3000), (9, 4005), (58, 4002), (56, 4004), (10, 4001), (11, 4006), (12, 4007)], rs := [28, 49, 54, 65], priv := [57]} rfl ?_; conv => whnf))
         repeat' (first | (refine Kl rfl ?_; ((conv => whnf); repeat' (refine vcC_go tok {nm := [(1, 4000), (5, 3000), (9, 4005), (58, 4002), (56, 4004), (10, 4001), (11, 4006), (12, 4007)], rs := [28, 49, 54, 65], priv := [57]} rfl ?_; conv => whnf))) | fail)
         refine ⟨by simp, ?_⟩
         ((conv => whnf); repeat' (refine vcC_go tok {nm := [(1, 4000), (5, 3000), (9, 4005), (58, 4002), (56, 4004), (10, 4001), (11, 4006), (12, 4007)], rs := [28, 49, 54, 65], priv := [57]} rfl ?_; conv => whnf))
         refine Kap ?_ ?_ ?_
         rotate_left 1
         · simp only [List.length_map, hol, List.length_cons, List.length_nil]; omega
         · decide
         ((conv => whnf); repeat' (refine vcC_go tok {nm := [(1, 4000), (5, 3000), (9, 4005), (58, 4002), (56, 4004), (10, 4001), (11, 4006), (12, 4007)], rs := [28, 49, 54, 65], priv := [57]} rfl ?_; conv => whnf))
         repeat' (first | (refine Kl rfl ?_; ((conv => whnf); repeat' (refine vcC_go tok {nm := [(1, 4000), (5, 3000), (9, 4005), (58, 4002), (56, 4004), (10, 4001), (11, 4006), (12, 4007)], rs := [28, 49, 54, 65], priv := [57]} rfl ?_; conv => whnf))) | fail)
         repeat' ((first | (intro hlq; (try simp only [SL] at hlq)) | refine Ks ?_ | refine Kq ?_ | refine Kt ?_ | refine Ka ?_ | refine Kb ?_ | refine Kc (hd := rfl) (e := ?_) | refine Kc (hd := icells_eq _) (e := ?_) | refine Kd (e := ?_) | refine Kl rfl ?_ | fail) <;> ((conv => whnf); repeat' (refine vcC_go tok {nm := [(1, 4000), (5, 3000), (9, 4005), (58, 4002), (56, 4004), (10, 4001), (11, 4006), (12, 4007)], rs := [28, 49, 54, 65], priv := [57]} rfl ?_; conv => whnf)))
         refine ⟨⟨k + 1, ?_, by omega, by omega⟩⟩
         repeat' (first | exact True.intro | exact rfl | refine And.intro ?_ ?_ | ((simp [outL_step hk' hj, renum, h6, Node.cells]; done)))
       · refine ⟨by simp, ?_⟩
         ((conv => whnf); repeat' (refine vcC_go tok {nm := [(1, 4000), (5, 3000), (9, 4005), (58, 4002), (56, 4004), (10, 4001), (11, 4006), (12, 4007)], rs := [28, 49, 54, 65], priv := [57]} rfl ?_; conv => whnf))
         refine Kap ?_ ?_ ?_
         rotate_left 1
         · simp only [List.length_map, hol, List.length_cons, List.length_nil]; omega
         · decide
         ((conv => whnf); repeat' (refine vcC_go tok {nm := [(1, 4000), (5, 3000), (9, 4005), (58, 4002), (56, 4004), (10, 4001), (11, 4006), (12, 4007)], rs := [28, 49, 54, 65], priv := [57]} rfl ?_; conv => whnf))
         repeat' (first | (refine Kl rfl ?_; ((conv => whnf); repeat' (refine vcC_go tok {nm := [(1, 4000), (5, 3000), (9, 4005), (58, 4002), (56, 4004), (10, 4001), (11, 4006), (12, 4007)], rs := [28, 49, 54, 65], priv := [57]} rfl ?_; conv => whnf))) | fail)
         repeat' ((first | (intro hlq; (try simp only [SL] at hlq)) | refine Ks ?_ | refine Kq ?_ | refine Kt ?_ | refine Ka ?_ | refine Kb ?_ | refine Kc (hd := rfl) (e := ?_) | refine Kc (hd := icells_eq _) (e := ?_) | refine Kd (e := ?_) | refine Kl rfl ?_ | fail) <;> ((conv => whnf); repeat' (refine vcC_go tok {nm := [(1, 4000), (5, 3000), (9, 4005), (58, 4002), (56, 4004), (10, 4001), (11, 4006), (12, 4007)], rs := [28, 49, 54, 65], priv := [57]} rfl ?_; conv => whnf)))
         refine ⟨⟨k + 1, ?_, by omega, by omega⟩⟩
         have h6' : ns'[order[k]].var = 0 := by omega
         repeat' (first | exact True.intro | exact rfl | refine And.intro ?_ ?_ | ((have e1 := outL_step hk' hj; rw [renum, if_pos h6'] at e1; rw [e1, List.map_append]; rfl)))
     · have hk2 : k = order.length := by omega
       subst hk2
       repeat' ((first | (intro hlq; (try simp only [SL] at hlq)) | refine Ks ?_ | refine Kq ?_ | refine Kt ?_ | refine Ka ?_ | refine Kb ?_ | refine Kc (hd := rfl) (e := ?_) | refine Kc (hd := icells_eq _) (e := ?_) | refine Kd (e := ?_) | refine Kl rfl ?_ | fail) <;> ((conv => whnf); repeat' (refine vcC_go tok {nm := [(1, 4000), (5, 3000), (9, 4005), (58, 4002), (56, 4004), (10, 4001), (11, 4006), (12, 4007)], rs := [28, 49, 54, 65], priv := [57]} rfl ?_; conv => whnf)))
       exact ⟨by rw [hcE, ← hser]⟩
end Go.Proofs.YtacclfgmgphljaaGreat.Dx
