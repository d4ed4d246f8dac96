/- slices.Insert into a slice of one's own, ahead of its end. -/
import Derived.Test.YtkkohadkpogdfaaGreatOa
import Derived.Test.YtkkohadkpogdfaaGreatMt
namespace Go.Proofs.YtkkohadkpogdfaaGreat.Dx
open Go Go.RowKit
set_option linter.all false
set_option maxRecDepth 100000
set_option maxHeartbeats 4000000

/-- nothing but block b has turned, and its cells from o on are vs -/
theorem setCells_spec (b : Nat) (ty : TypeId) (fz : Nat × Nat) : ∀ (vs : List Value) (o : Nat) (w : World) (cs : Array Value), w.heap[b]? = some (.cells cs ty fz) → o + vs.length ≤ cs.size →
    ∃ cs', (w.setCells b o vs).heap[b]? = some (.cells cs' ty fz) ∧ cs'.size = cs.size ∧ (∀ j, j < o → cs'[j]? = cs[j]?) ∧ (∀ j, j < vs.length → cs'[o + j]? = vs[j]?) ∧ (∀ j, o + vs.length ≤ j → cs'[j]? = cs[j]?) ∧
      (w.setCells b o vs).heap.size = w.heap.size ∧ (∀ k : Nat, k ≠ b → (w.setCells b o vs).heap[k]? = w.heap[k]?) ∧ (w.setCells b o vs).os = w.os ∧ (w.setCells b o vs).tape = w.tape ∧ (w.setCells b o vs).output = w.output := by
  intro vs
  induction vs with
  | nil => intro o w cs h _; exact ⟨cs, h, rfl, fun _ _ => rfl, fun j h => by simp at h, fun _ _ => rfl, rfl, fun _ _ => rfl, rfl, rfl, rfl⟩
  | cons v vs ih =>
    intro o w cs h hl
    simp only [List.length_cons] at hl
    have h1 : (w.setCell ⟨b, o, none⟩ v).heap[b]? = some (.cells (cs.setIfInBounds o v) ty fz) := by
      simp [World.setCell, Array.getElem?_modify, h]
    obtain ⟨cs', e1, e2, e3, e4, e5, e6, e7, e8, e9, e10⟩ := ih (o + 1) _ _ h1 (by rw [Array.size_setIfInBounds]; omega)
    refine ⟨cs', e1, by rw [e2, Array.size_setIfInBounds], fun j hj => ?_, fun j hj => ?_, fun j hj => ?_, by rw [World.setCells, e6, World.size_setCell], fun k hk => ?_, e8, e9, e10⟩
    · rw [e3 j (by omega), Array.getElem?_setIfInBounds_ne (by omega)]
    · cases j with
      | zero => rw [Nat.add_zero, e3 o (by omega)]; simp [show o < cs.size by omega]
      | succ j => rw [show o + (j + 1) = o + 1 + j by omega, e4 j (by simpa using hj)]; simp
    · simp only [List.length_cons] at hj
      rw [e5 j (by omega), Array.getElem?_setIfInBounds_ne (by omega)]
    · rw [World.setCells, e7 k hk]
      simp [World.setCell, Array.getElem?_modify, Ne.symm hk]

theorem ints_flat (xs : List Int) : (xs.map icells).flatten = xs.map iD := by
  induction xs with
  | nil => rfl
  | cons x xs ih => simp [ih]
theorem ints_vals {V : Know} {vals : List Value} {xs : List Int} (h : Reps V vals (xs.map icells).flatten) : vals = xs.map (.int .i64) ∧ ∀ x ∈ xs, inKind .i64 x := by
  rw [ints_flat] at h
  have hl : vals.length = xs.length := by have := h.len; simpa using this
  refine ⟨List.ext_getElem? fun i => ?_, fun x hx => ?_⟩
  · rcases Nat.lt_or_ge i xs.length with hi | hi
    · have := h.get i vals[i] (iD xs[i]) (List.getElem?_eq_getElem (by omega)) (by simp [hi])
      rw [List.getElem?_eq_getElem (by omega), this.v_inv.1]
      simp [hi]
    · rw [List.getElem?_eq_none (by omega), List.getElem?_eq_none (by simpa using hi)]
  · obtain ⟨i, hi, rfl⟩ := List.mem_iff_getElem.1 hx
    exact (h.get i vals[i] (iD xs[i]) (List.getElem?_eq_getElem (by omega)) (by simp [hi])).int_inv.2
theorem ints_rep (V : Know) {xs : List Int} (h : ∀ x ∈ xs, inKind .i64 x) : Reps V (xs.map (.int .i64)) (xs.map icells).flatten := by
  rw [ints_flat]
  refine ⟨by simp, fun i u d hu hd => ?_⟩
  rcases Nat.lt_or_ge i xs.length with hi | hi
  · simp [hi] at hu hd
    subst hu hd
    exact .int (h _ (List.getElem_mem hi))
  · simp [Nat.not_lt.2 hi] at hu

/-- a slice of integers of one's own has moved on, or was written: what comes back of a call -/
theorem ints_back {γ : Gm} {V : Know} {W W' : World} {O : List (Nat × Blk)} {n g0 gr c : Nat} {cur : Array Value} {zs : List Int} {s0 : OwnS} (hs : Sees V W) (hn : look n O = some (.sl s0)) (hγ : (γ n).2 = some g0) (hpriv : ∀ o, V.cell g0 o = none) (hg0 : ∃ cs t f, W.heap[g0]? = some (.cells cs t f))
    (hos : W'.os = W.os) (htp : W'.tape = W.tape) (hout : W'.output = W.output) (hsz : W.heap.size ≤ W'.heap.size) (hk : ∀ k, k < W.heap.size → k ≠ g0 → W'.heap[k]? = W.heap[k]?)
    (hg : W'.heap[gr]? = some (.cells cur 3 (0, 0))) (hgr : gr = g0 ∨ W.heap.size ≤ gr) (hcl : zs.length ≤ c) (hcm : c ≤ maxLen) (hcs : cur.size = c) (ht : cur.toList.take zs.length = zs.map (.int .i64)) (hin : ∀ x ∈ zs, inKind .i64 x) :
    ∃ γ' V' o O', OutR γ' V' (.returned (.slice (some ⟨gr, 0, none⟩) zs.length c)) o ∧ BelowX (blks γ O) W.heap.size W W' ∧ Fresh V V' (blks γ O) W.heap.size ∧ Sees V' W' ∧ OwnOk γ' V' W' O' ∧
      (∀ n b, look n O' = some b → ∀ k, (γ' n).2 = some k → k ∈ blks γ O ∨ W.heap.size ≤ k) ∧ InjOk γ' O' ∧ (∀ n b, look n O = some b → isBoxB b = true → γ' n = γ n) ∧ o = .ret (.own n) ∧ O' = [(n, .sl ⟨3, 1, zs.map icells, false⟩)] := by
  have hgb : g0 ∈ blks γ O := look_blks hn hγ
  have one : ∀ m b, look m [(n, Blk.sl ⟨3, 1, zs.map icells, false⟩)] = some b → m = n ∧ b = .sl ⟨3, 1, zs.map icells, false⟩ := fun m b hm => by
    by_cases e : n = m
    · subst e; rw [look_cons_eq] at hm; cases hm; exact ⟨rfl, rfl⟩
    · rw [look_cons_ne e, look_nil] at hm; cases hm
  refine ⟨updG γ n (.slice (some ⟨gr, 0, none⟩) zs.length c, some gr), V, .ret (.own n), _, ?_, ⟨hos, htp, hout, hsz, fun k h1 h2 => hk k h1 fun e => h2 (e ▸ hgb)⟩, .refl _ _ _, ⟨fun b o v h => ?_, fun q x h => ?_, hs.lib⟩, fun m b hm => ?_, fun m b hm k hk' => ?_, fun m m' b b' hm hm' hne => ?_, fun m b hm hb => ?_, rfl, rfl⟩
  · show _ = (updG γ n _ n).1
    rw [updG_same]
  · have h0 := hs.cell b o v h
    have hne : b ≠ g0 := fun e => by subst e; rw [hpriv] at h; cases h
    have := hk b (hs.lt h) hne
    simp only [World.cell?, this] at h0 ⊢
    exact h0
  · have h0 := hs.obj q x h
    have hne : q ≠ g0 := fun e => by
      subst e
      obtain ⟨_, _, _, e1⟩ := hg0
      obtain ⟨_, _, e2⟩ := h0.2
      rw [e1, e2] at h0; cases h0.1
    exact ⟨(hk q (heap_lt h0.1) hne).trans h0.1, h0.2⟩
  · obtain ⟨rfl, rfl⟩ := one m b hm
    rw [updG_same]
    refine .inl ⟨gr, zs.length, c, zs.map (.int .i64), rfl, ⟨by simp, .inr ⟨gr, c, cur, by simp, Nat.zero_le _, hg, by simpa using hcl, hcm, by simpa using hcs, by simpa using ht⟩⟩, fun ds hds => ?_, ints_rep V hin, fun u hu => ?_, fun o => ?_⟩
    · obtain ⟨x, _, rfl⟩ := List.mem_map.1 hds; rfl
    · obtain ⟨x, _, rfl⟩ := List.mem_map.1 hu; rfl
    · rcases hgr with rfl | h
      · exact hpriv o
      · cases hx : V.cell gr o with
        | none => rfl
        | some u => have := hs.lt hx; omega
  · obtain ⟨rfl, rfl⟩ := one m b hm
    rw [updG_same] at hk'
    cases hk'
    exact hgr.imp (fun e => by rw [e]; exact hgb) id
  · obtain ⟨rfl, _⟩ := one m b hm
    obtain ⟨rfl, _⟩ := one m' b' hm'
    exact absurd rfl hne
  · refine updG_ne fun e => ?_
    subst e
    rw [hn] at hm
    cases hm
    cases hb

theorem take_arr {cs : Array Value} {l : List Value} (hl : l.length ≤ cs.size) (h : ∀ j, j < l.length → cs[j]? = l[j]?) : cs.toList.take l.length = l := by
  refine List.ext_getElem? fun j => ?_
  rw [List.getElem?_take]
  split
  · rename_i hj
    rw [Array.getElem?_toList]; exact h j hj
  · rename_i hj
    rw [List.getElem?_eq_none (by omega)]

theorem Insert_meets (ns nv i : Nat) (hne : ns ≠ nv) (xs vs : List Int) (hi : i < xs.length) (hv : vs ≠ []) (hbig : xs.length + vs.length ≤ 1048576) :
    MeetsR Tryz.prog 46 [.own ns, iB i, .own nv] [(ns, .sl ⟨3, 1, xs.map icells, false⟩), (nv, .sl ⟨3, 1, vs.map icells, false⟩)] fun o O' => o = .ret (.own ns) ∧ O' = [(ns, .sl ⟨3, 1, (xs.take i ++ (vs ++ xs.drop i)).map icells, false⟩)] := by
  have hL := Tryz.laysIns
  refine ⟨⟨_, _, Tryz.func46, rfl, by kernel_rfl⟩, fun γ V W ys hs hx hown hinj => ?_⟩
  obtain ⟨y1, ys, rfl, h1, hx⟩ := hx.cons_l
  obtain ⟨y2, ys, rfl, h2, hx⟩ := hx.cons_l
  obtain ⟨y3, ys, rfl, h3, hx⟩ := hx.cons_l
  obtain rfl := hx.nil_l
  have hls : look ns [(ns, Blk.sl ⟨3, 1, xs.map icells, false⟩), (nv, .sl ⟨3, 1, vs.map icells, false⟩)] = some (.sl ⟨3, 1, xs.map icells, false⟩) := look_cons_eq ..
  have hlv : look nv [(ns, Blk.sl ⟨3, 1, xs.map icells, false⟩), (nv, .sl ⟨3, 1, vs.map icells, false⟩)] = some (.sl ⟨3, 1, vs.map icells, false⟩) := by rw [look_cons_ne hne]; exact look_cons_eq ..
  rcases hown ns _ hls with ⟨g, n, c, cs, e1, hrow, _, hrep, h1c, hpr⟩ | ⟨hp, _⟩
  case inr =>
    rcases hp with hp | hp
    · cases hp
    · have := congrArg List.length hp; simp only [List.length_map, List.length_nil] at this; omega
  rcases hown nv _ hlv with ⟨gv, m, vc, ws, e3, hrow3, _, hrep3, h1v, hpr3⟩ | ⟨hp, _⟩
  case inr =>
    rcases hp with hp | hp
    · cases hp
    · exact absurd (List.map_eq_nil_iff.1 hp) hv
  rw [e1] at hrow
  rw [e3] at hrow3
  obtain ⟨cur, rfl, hg, hnc, hcm, hcs, ht, hcl⟩ := own_cap hrow
  obtain ⟨curv, rfl, hgv, hmc, hvcm, hvcs, htv, hvl⟩ := own_cap hrow3
  have hneb : gv ≠ g := fun e => hinj ns nv _ _ hls hlv hne g (by rw [e1]) (by rw [e3, e])
  simp only [List.length_map, Nat.mul_one] at hnc hcs ht hcl hmc hvcs htv hvl
  obtain ⟨rfl, hin⟩ := ints_vals hrep
  obtain ⟨rfl, hinv⟩ := ints_vals hrep3
  have hvp : 0 < vs.length := List.length_pos_iff.2 hv
  have he1 : y1 = .slice (some ⟨g, 0, none⟩) xs.length c := by have : y1 = (γ ns).1 := h1; rw [this, e1]; simp
  have he2 : y2 = .int .i64 i := h2.v_inv.1
  have he3 : y3 = .slice (some ⟨gv, 0, none⟩) vs.length vc := by have : y3 = (γ nv).1 := h3; rw [this, e3]; simp
  subst he1 he2 he3
  have hcell : ∀ j v, (xs.map (Value.int .i64))[j]? = some v → W.cell? ⟨g, 0 + j, none⟩ = some v := fun j v hj => by
    have hjl := (List.getElem?_eq_some_iff.1 hj).1
    simp only [List.length_map] at hjl
    rw [← ht, List.getElem?_take, if_pos hjl] at hj
    simp only [World.cell?, hg, Nat.zero_add]
    simpa using hj
  have hcellv : ∀ j v, (vs.map (Value.int .i64))[j]? = some v → W.cell? ⟨gv, 0 + j, none⟩ = some v := fun j v hj => by
    have hjl := (List.getElem?_eq_some_iff.1 hj).1
    simp only [List.length_map] at hjl
    rw [← htv, List.getElem?_take, if_pos hjl] at hj
    simp only [World.cell?, hgv, Nat.zero_add]
    simpa using hj
  have h1x : ∀ v ∈ xs.map (Value.int .i64), v.oneCell' = true := fun v hv => by obtain ⟨x, _, rfl⟩ := List.mem_map.1 hv; rfl
  have h1y : ∀ v ∈ vs.map (Value.int .i64), v.oneCell' = true := fun v hv => by obtain ⟨x, _, rfl⟩ := List.mem_map.1 hv; rfl
  have hzin : ∀ x ∈ xs.take i ++ (vs ++ xs.drop i), inKind .i64 x := fun x hx => by
    rcases List.mem_append.1 hx with h | h
    · exact hin x (List.mem_of_mem_take h)
    · rcases List.mem_append.1 h with h | h
      · exact hinv x h
      · exact hin x (List.mem_of_mem_drop h)
  have hzl : (xs.take i ++ (vs ++ xs.drop i)).length = xs.length + vs.length := by simp; omega
  have hzat : ∀ j, ((xs.take i ++ (vs ++ xs.drop i)).map (Value.int .i64))[j]? = if j < i then (xs.map (Value.int .i64))[j]? else if j < i + vs.length then (vs.map (Value.int .i64))[j - i]? else ((xs.map (Value.int .i64)).drop i)[j - (i + vs.length)]? := fun j => by
    rw [List.map_append, List.map_append, List.map_take, List.map_drop, List.getElem?_append, List.length_take, List.length_map, Nat.min_eq_left (by omega)]
    split
    · rename_i h; rw [List.getElem?_take, if_pos h]
    · rename_i h
      rw [List.getElem?_append, List.length_map]
      by_cases h2 : j < i + vs.length
      · rw [if_pos (by omega), if_pos h2]
      · rw [if_neg (by omega), if_neg h2, Nat.sub_sub]
  have hcur : ∀ j, j < xs.length → cur[j]? = (xs.map (Value.int .i64))[j]? := fun j hj => by
    rw [← ht, List.getElem?_take, if_pos hj, Array.getElem?_toList]
  have hpr' : ∀ o, V.cell g o = none := hpr
  by_cases hroom : xs.length + vs.length ≤ c
  · have hcall := Any2.slices_Insert_int_shift hL g 0 xs.length c i gv 0 vs.length vc (xs.map (.int .i64)) (vs.map (.int .i64)) W hi hvp hroom (by simp only [maxLen] at hcm; omega) hneb (by simp) (by simp) hcell
      (fun j hj => by simp only [World.cell?, hg, Nat.zero_add]; simp; omega) (fun j hj => by simp only [World.frozen?, hg]; simp) hcellv h1x h1y 3 3 curv.size cur.size (by simp [World.shape?, hgv]) (by simp [World.shape?, hg]) (by omega) (by simp [World.frozen?, hgv]) (by simp [World.frozen?, hgv])
    refine Calls.mono hcall ?_
    rintro e W' ⟨rfl, rfl⟩
    obtain ⟨c1, q1, q2, q3, q4, q5, q6, q7, q8, q9, q10⟩ := setCells_spec g 3 (0, 0) ((xs.map (Value.int .i64)).drop i) (0 + (i + vs.length)) W.drew cur hg (by simp; omega)
    obtain ⟨c2, r1, r2, r3, r4, r5, r6, r7, r8, r9, r10⟩ := setCells_spec g 3 (0, 0) (vs.map (Value.int .i64)) (0 + i) _ c1 q1 (by simp; omega)
    simp only [List.length_map, List.length_drop, Nat.zero_add] at q3 q4 q5 r3 r4 r5
    have := ints_back (γ := γ) (zs := xs.take i ++ (vs ++ xs.drop i)) (c := c) hs hls (by rw [e1]) hpr' ⟨_, _, _, hg⟩ (r8.trans q8) (r9.trans q9) (r10.trans q10) (by rw [r6, q6]; exact Nat.le_refl _) (fun k hk hne => by rw [r7 k hne, q7 k hne]; rfl) r1 (.inl rfl) (by omega) hcm (by rw [r2, q2, hcs]) (by
      have h := take_arr (cs := c2) (l := (xs.take i ++ (vs ++ xs.drop i)).map (Value.int .i64)) (by rw [List.length_map, hzl, r2, q2]; omega) (fun j hj => by
        rw [List.length_map, hzl] at hj
        rw [hzat]
        split
        · rename_i h; rw [r3 j h, q3 j (by omega), hcur j (by omega)]
        · rename_i h
          split
          · have := r4 (j - i) (by omega); rwa [Nat.add_sub_cancel' (by omega)] at this
          · rw [r5 j (by omega)]
            have := q4 (j - (i + vs.length)) (by omega); rwa [Nat.add_sub_cancel' (by omega)] at this)
      rwa [List.length_map] at h) hzin
    rw [hzl] at this
    exact this
  · have hcall := Any2.slices_Insert_int_grow hL g 0 xs.length c i gv 0 vs.length vc (xs.map (.int .i64)) (vs.map (.int .i64)) W hi hvp hnc (by omega) (by omega) (by simp) (by simp) hcell hcellv h1x h1y
    refine Calls.mono hcall ?_
    rintro e W' ⟨rfl, rfl⟩
    have hG1 := grownCap_ge W (xs.length + vs.length) c 3
    have hG2 : grownCap W (xs.length + vs.length) c 3 ≤ maxLen := grownCap_le_maxLen W (xs.length + vs.length) c 3 (by simp only [maxLen]; omega)
    generalize hGe : grownCap W (xs.length + vs.length) c 3 = G at hG1 hG2
    have hGe' : grownCap W (xs.length + vs.length) c (Tryz.laysIns_ren.t 3) = G := hGe
    rw [hGe']
    obtain ⟨row, hrow⟩ : ∃ row, ((xs.map (Value.int .i64)).take i).toArray ++ Builtin.zeroCells (Value.int .i64 0).cells (xs.length + vs.length - i) ++ Builtin.zeroCells (Value.int .i64 0).cells (G - (xs.length + vs.length)) = row := ⟨_, rfl⟩
    have hrs : row.size = G := by
      rw [← hrow]
      simp [Builtin.zeroCells, Value.cells]
      omega
    have hr0 : ∀ j, j < i → row[j]? = (xs.map (Value.int .i64))[j]? := fun j hj => by
      rw [← hrow, Array.append_assoc, Array.getElem?_append_left (by simp; omega)]
      simp [List.getElem?_take, hj]
    rw [hrow]
    obtain ⟨c1, q1, q2, q3, q4, q5, q6, q7, q8, q9, q10⟩ := setCells_spec W.heap.size 3 (0, 0) (vs.map (Value.int .i64)) i (W.alloc (.cells row 3)).drew row (World.alloc_heap_new W _) (by rw [List.length_map]; omega)
    obtain ⟨c2, r1, r2, r3, r4, r5, r6, r7, r8, r9, r10⟩ := setCells_spec W.heap.size 3 (0, 0) ((xs.map (Value.int .i64)).drop i) (i + vs.length) (((W.alloc (.cells row 3)).drew).setCells W.heap.size i (vs.map (Value.int .i64))).drew c1 q1 (by simp; omega)
    simp only [List.length_map, List.length_drop] at q3 q4 q5 r3 r4 r5
    have hold : ∀ k, k < W.heap.size → (W.alloc (.cells row 3)).heap[k]? = W.heap[k]? := fun k hk => (below_alloc W (.cells row 3)).block k hk
    have := ints_back (γ := γ) (zs := xs.take i ++ (vs ++ xs.drop i)) (c := G) hs hls (by rw [e1]) hpr' ⟨_, _, _, hg⟩ (r8.trans q8) (r9.trans q9) (r10.trans q10) (by rw [r6]; show W.heap.size ≤ (World.setCells _ _ _ _).heap.size; rw [q6]; simp) (fun k hk hne => by rw [r7 k (by omega)]; exact (q7 k (by omega)).trans (hold k hk)) r1 (.inr (Nat.le_refl _)) (by omega) hG2 (by rw [r2, q2, hrs]) (by
      have h := take_arr (cs := c2) (l := (xs.take i ++ (vs ++ xs.drop i)).map (Value.int .i64)) (by rw [List.length_map, hzl, r2, q2]; omega) (fun j hj => by
        rw [List.length_map, hzl] at hj
        rw [hzat]
        split
        · rename_i h; rw [r3 j (by omega), q3 j h, hr0 j h]
        · rename_i h
          split
          · rename_i h2
            rw [r3 j h2]
            have := q4 (j - i) (by omega); rwa [Nat.add_sub_cancel' (by omega)] at this
          · have := r4 (j - (i + vs.length)) (by omega); rwa [Nat.add_sub_cancel' (by omega)] at this)
      rwa [List.length_map] at h) hzin
    rw [hzl] at this
    exact this
end Go.Proofs.YtkkohadkpogdfaaGreat.Dx

/- slices.Repeat of one integer: a row of one's own. -/
namespace Go.Proofs.YtkkohadkpogdfaaGreat.Dx
open Go Go.RowKit
set_option linter.all false
set_option maxRecDepth 100000
set_option maxHeartbeats 16000000

theorem Mul_meets (x y : Nat) (hx : x < 18446744073709551616) (hy : y < 18446744073709551616) : Meets Tryz.prog 97 [.v (.int .u64 x), .v (.int .u64 y)] fun d =>
    d = .tup [.v (.int .u64 ((x * y / 18446744073709551616 : Nat) : Int)), .v (.int .u64 ((x * y % 18446744073709551616 : Nat) : Int))] := by
  refine Meets.still ⟨Tryz.f97, _, Tryz.func97, rfl, by kernel_rfl⟩ fun V W xs hS hr => ?_
  obtain ⟨u, w, rfl, h1, h2⟩ := hr.two
  obtain ⟨rfl, _⟩ := h1.v_inv
  obtain ⟨rfl, _⟩ := h2.v_inv
  refine (Tryz.bits_Mul x y hx hy W).mono ?_
  rintro e W' ⟨rfl, rfl⟩
  refine ⟨_, rfl, rfl, .tup _ _ rfl fun i u d hu hd => ?_⟩
  have hq : x * y / 18446744073709551616 < 18446744073709551616 := by
    have := Nat.mul_lt_mul'' hx hy
    omega
  have hm := Nat.mod_lt (x * y) (show 0 < 18446744073709551616 by omega)
  rcases i with _ | _ | i
  · simp at hu hd
    subst hu hd
    exact .v _ (wf_int.2 (by simp only [inKind]; omega))
  · simp at hu hd
    subst hu hd
    exact .v _ (wf_int.2 (by simp only [inKind]; omega))
  · simp at hu

theorem setRun_rep {z w : List D} {c n m : Nat} (h : n + m ≤ c) : setRun (List.replicate n z ++ List.replicate (c - n) w) n (List.replicate m z) = List.replicate (n + m) z ++ List.replicate (c - (n + m)) w := by
  apply List.ext_getElem?
  intro j
  rw [setRun_get _ _ _ _ (by simp; omega)]
  simp only [List.length_replicate, List.getElem?_append, List.getElem?_replicate]
  repeat' split
  all_goals first | rfl | (exfalso; omega)

theorem Repeat_meets (z c : Int) (h1 : 1 ≤ c) (h2 : c ≤ 1048576) :
    MeetsR Tryz.prog 47 [.d (.sl [icells z]), iB c] [] fun o O' => o = .ret (.own 30) ∧ O' = [(30, .sl ⟨3, 1, List.replicate c.toNat (icells z), false⟩)] := by
  refine enterR tok {rs := [30]} Tryz.func47 rfl (by kernel_rfl) Tryz.ntmps47 (by simp) fun B0 W0 V0 lent g0 => ?_
  ((conv => whnf); repeat' (refine vcC_go tok {rs := [30]} rfl ?_; conv => whnf))
  repeat' ((first | (intro hlq; (try simp only [List.length_map, maxLen] at hlq)) | ((refine ⟨fun (hb : _ = true) => ?_, fun (hb : _ = false) => ?_⟩) <;> (try simp only [BB, List.length_map] at hb)) | refine Ka ?_ | refine Kb ?_ | refine Kc (hd := rfl) (e := ?_) | refine Kc (hd := Cond.cells_eq _) (e := ?_) | refine Kd (e := ?_) | refine ⟨(rfl : look _ _ = look _ _), ?_⟩ | fail) <;> ((conv => whnf); repeat' (refine vcC_go tok {rs := [30]} rfl ?_; conv => whnf)))
  all_goals (try (exfalso; omega))
  refine ⟨fun _ => by simp [inKind], ?_⟩
  ((conv => whnf); repeat' (refine vcC_go tok {rs := [30]} rfl ?_; conv => whnf))
  refine ⟨fun _ => by simp only [inKind] at *; omega, ?_⟩
  ((conv => whnf); repeat' (refine vcC_go tok {rs := [30]} rfl ?_; conv => whnf))
  obtain ⟨n, rfl⟩ := Int.eq_ofNat_of_zero_le (show 0 ≤ c by omega)
  refine Meets.k (Mul_meets 1 n (by omega) (by omega)) ?_
  rw [show 1 * n / 18446744073709551616 = 0 by omega, show 1 * n % 18446744073709551616 = n by omega]
  ((conv => whnf); repeat' (refine vcC_go tok {rs := [30]} rfl ?_; conv => whnf))
  repeat' ((first | (intro hlq; (try simp only [List.length_map, maxLen] at hlq)) | ((refine ⟨fun (hb : _ = true) => ?_, fun (hb : _ = false) => ?_⟩) <;> (try simp only [BB, List.length_map] at hb)) | refine Ka ?_ | refine Kb ?_ | refine Kc (hd := rfl) (e := ?_) | refine Kc (hd := Cond.cells_eq _) (e := ?_) | refine Kd (e := ?_) | refine ⟨(rfl : look _ _ = look _ _), ?_⟩ | fail) <;> ((conv => whnf); repeat' (refine vcC_go tok {rs := [30]} rfl ?_; conv => whnf)))
  all_goals (try (exfalso; omega))
  refine ⟨fun _ => by simp only [inKind] at *; omega, ?_⟩
  ((conv => whnf); repeat' (refine vcC_go tok {rs := [30]} rfl ?_; conv => whnf))
  refine ⟨⟨rfl, by simp [inKind], rfl, by omega, by show (8 : Int) * _ ≤ _; omega, by omega⟩, ?_⟩
  rw [Int.toNat_natCast]
  ((conv => whnf); repeat' (refine vcC_go tok {rs := [30]} rfl ?_; conv => whnf))
  refine ⟨fun e => by have := congrArg List.length e; simp at this; omega, ?_⟩
  ((conv => whnf); repeat' (refine vcC_go tok {rs := [30]} rfl ?_; conv => whnf))
  refine ⟨⟨by simp, by simp; omega, rfl, by simp⟩, ?_⟩
  have e1 : ∀ j, j = n → setRun (List.replicate n [D.v (.int .i64 0)]) 0 (List.take (j - 0) [icells z]) = List.replicate 1 (icells z) ++ List.replicate (n - 1) [iD 0] := fun j hj => by
    have := setRun_rep (z := icells z) (w := [iD 0]) (c := n) (n := 0) (m := 1) (by omega)
    rw [hj, List.take_of_length_le (by simp; omega)]
    simpa using this
  have e2 : ∀ j, j = n → ((Nat.min [icells z].length (j - 0) : Nat) : Int) = (1 : Nat) := fun j hj => by
    rw [hj]
    show ((min 1 (n - 0) : Nat) : Int) = _
    rw [Nat.min_def]; split <;> omega
  rw [e1 _ (by simp), e2 _ (by simp)]
  ((conv => whnf); repeat' (refine vcC_go tok {rs := [30]} rfl ?_; conv => whnf))
  refine loop_upd tok {rs := [30]} [] (X := Nat) (fun k => [(8, iB k)]) (fun k => [(30, .sl ⟨3, 1, List.replicate k (icells z) ++ List.replicate (n - k) [iD 0], false⟩)]) [] (fun k => 1 ≤ k ∧ k ≤ n) (fun k => n - k) 1 ?_
  ((conv => whnf); repeat' (refine vcC_go tok {rs := [30]} rfl ?_; conv => whnf))
  refine And.intro ?_ ⟨by omega, fun k hk => ?_⟩
  · repeat' (first | exact True.intro | exact rfl | refine And.intro ?_ ?_)
  ((conv => whnf); repeat' (refine vcC_go tok {rs := [30]} rfl ?_; conv => whnf))
  repeat' ((first | (intro hlq; (try simp only [List.length_map, maxLen] at hlq)) | refine Ka ?_ | refine Kb ?_ | refine Kc (hd := rfl) (e := ?_) | refine Kc (hd := Cond.cells_eq _) (e := ?_) | refine Kd (e := ?_) | refine ⟨(rfl : look _ _ = look _ _), ?_⟩ | fail) <;> ((conv => whnf); repeat' (refine vcC_go tok {rs := [30]} rfl ?_; conv => whnf)))
  have hlen : ((List.replicate k (icells z) ++ List.replicate (n - k) [iD 0]).length : Int) = n := by simp; omega
  refine ⟨fun h3 => ?_, fun h3 => ?_⟩ <;> (try simp only [BB, List.length_map] at h3) <;> ((conv => whnf); repeat' (refine vcC_go tok {rs := [30]} rfl ?_; conv => whnf))
  · have e3 : ∀ a b c q E, E = min (n - k) k → q = 0 → a = k → b = k → c = n - k → setRun (List.replicate k (icells z) ++ List.replicate (n - k) [iD 0]) a (List.take c (List.drop q (List.take b (List.replicate k (icells z) ++ List.replicate (n - k) [iD 0])))) = List.replicate (k + E) (icells z) ++ List.replicate (n - (k + E)) [iD 0] := fun a b c q E hE hq ha hb hc => by
      rw [hE, hq, ha, hb, hc, List.drop_zero, List.take_left' (by simp), List.take_replicate]
      exact setRun_rep (by omega)
    refine draw_rule tok (cf := {rs := [30]}) (by kernel_rfl) [.p 0, .p 1, .p 2, .p 3, .p 4, .p 5, .p 6, .s 7 [3,6,1,2,4,5], .p 8, .p 9] (by kernel_rfl) ?_
    ((conv => whnf); repeat' (refine vcC_go tok {rs := [30]} rfl ?_; conv => whnf))
    refine ⟨fun _ => ⟨by (try dsimp only); omega, by (try dsimp only); omega, by (try dsimp only); omega, by (try dsimp only); omega, rfl⟩, ?_⟩
    ((conv => whnf); repeat' (refine vcC_go tok {rs := [30]} rfl ?_; conv => whnf))
    refine ⟨fun _ => ⟨by (try dsimp only); omega, by (try dsimp only); omega, by (try dsimp only); omega, by (try dsimp only); omega, rfl⟩, ?_⟩
    ((conv => whnf); repeat' (refine vcC_go tok {rs := [30]} rfl ?_; conv => whnf))
    repeat' (first | (refine ⟨(rfl : look _ _ = look _ _), ?_⟩; ((conv => whnf); repeat' (refine vcC_go tok {rs := [30]} rfl ?_; conv => whnf))) | fail)
    refine ⟨⟨rfl, by (try dsimp only); omega, by (try dsimp only); omega⟩, ?_⟩
    ((conv => whnf); repeat' (refine vcC_go tok {rs := [30]} rfl ?_; conv => whnf))
    refine ⟨⟨rfl, by (try dsimp only); omega, by (try dsimp only); omega⟩, ?_⟩
    ((conv => whnf); repeat' (refine vcC_go tok {rs := [30]} rfl ?_; conv => whnf))
    have e4 : (List.drop (Int.toNat 0) (List.take (k : Int).toNat (List.replicate k (icells z) ++ List.replicate (n - k) [iD 0]))) = List.replicate k (icells z) := by rw [Int.toNat_zero, Int.toNat_natCast, List.drop_zero, List.take_left' (by simp)]
    refine ⟨⟨?_, by (try dsimp only); omega, rfl, ?_⟩, ?_⟩
    · intro e
      have := congrArg List.length (e4.symm.trans e)
      simp at this; omega
    · intro ds hd
      have hd := e4 ▸ hd
      rw [(List.mem_replicate.1 hd).2]; rfl
    change setO 30 (.sl ⟨_, _, setRun (List.replicate k (icells z) ++ List.replicate (n - k) [iD 0]) _ (List.take _ (List.drop _ (List.take _ (List.replicate k (icells z) ++ List.replicate (n - k) [iD 0])))), _⟩) _ _
    have hE : Nat.min (List.drop (Int.toNat 0) (List.take (k : Int).toNat (List.replicate k (icells z) ++ List.replicate (n - k) [iD 0]))).length (((List.replicate k (icells z) ++ List.replicate (n - k) [iD 0]).length : Int).toNat - (k : Int).toNat) = min (n - k) k := by
      rw [e4, List.length_replicate, hlen, Nat.min_comm]
      simp
    rw [e3 _ _ _ (Int.toNat 0) _ hE Int.toNat_zero (by simp) (by simp) (by dsimp only; omega)]
    generalize hEE : Nat.min (List.drop (Int.toNat 0) (List.take (k : Int).toNat (List.replicate k (icells z) ++ List.replicate (n - k) [iD 0]))).length (((List.replicate k (icells z) ++ List.replicate (n - k) [iD 0]).length : Int).toNat - (k : Int).toNat) = E at hE
    ((conv => whnf); repeat' (refine vcC_go tok {rs := [30]} rfl ?_; conv => whnf))
    refine ⟨fun _ _ => ?_, ?_⟩
    · rw [hE]
      simp only [inKind]; omega
    ((conv => whnf); repeat' (refine vcC_go tok {rs := [30]} rfl ?_; conv => whnf))
    repeat' ((first | (intro hlq; (try simp only [List.length_map, maxLen] at hlq)) | refine Ka ?_ | refine Kb ?_ | refine Kc (hd := rfl) (e := ?_) | refine Kc (hd := Cond.cells_eq _) (e := ?_) | refine Kd (e := ?_) | refine ⟨(rfl : look _ _ = look _ _), ?_⟩ | fail) <;> ((conv => whnf); repeat' (refine vcC_go tok {rs := [30]} rfl ?_; conv => whnf)))
    refine ⟨⟨k + E, ?_, by rw [hE]; omega, by rw [hE]; omega⟩⟩
    repeat' (first | exact True.intro | exact rfl | refine And.intro ?_ ?_)
  · obtain rfl : k = n := by omega
    refine ⟨_, .own 30, ?_, ⟨rfl, rfl⟩⟩
    repeat' (first | exact True.intro | exact rfl | refine And.intro ?_ ?_)
    simp
end Go.Proofs.YtkkohadkpogdfaaGreat.Dx

