/- The code of chapter 10: slices.Sort and slices.Compact by the shelf. -/
import Derived.Test.YtacclfgmgphljaaGreatSd
import Derived.Test.YtacclfgmgphljaaGreatRz
import Derived.Lib.SortBridge
import Derived.Lib.SlicesCompact
set_option linter.all false
namespace Go.Proofs.YtacclfgmgphljaaGreat.Dx
open Go Go.RowKit Go.Proofs
set_option maxRecDepth 100000
set_option maxHeartbeats 4000000
/-- nothing but block b has turned, and its cells from o on are vs -/
theorem setCells_spec (b : Nat) (ty : TypeId) (fz : Nat × Nat) : ∀ (vs : List Value) (o : Nat) (w : World) (cs : Array Value), w.heap[b]? = some (.cells cs ty fz) → o + vs.length ≤ cs.size →
 ∃ cs', (w.setCells b o vs).heap[b]? = some (.cells cs' ty fz) ∧ cs'.size = cs.size ∧ (∀ j, j < o → cs'[j]? = cs[j]?) ∧ (∀ j, j < vs.length → cs'[o + j]? = vs[j]?) ∧ (∀ j, o + vs.length ≤ j → cs'[j]? = cs[j]?) ∧
   (w.setCells b o vs).heap.size = w.heap.size ∧ (∀ k : Nat, k ≠ b → (w.setCells b o vs).heap[k]? = w.heap[k]?) ∧ (w.setCells b o vs).os = w.os ∧ (w.setCells b o vs).tape = w.tape ∧ (w.setCells b o vs).output = w.output := by
 intro vs
 induction vs with
 | nil => intro o w cs h _; exact ⟨cs, h, rfl, fun _ _ => rfl, fun j h => by simp at h, fun _ _ => rfl, rfl, fun _ _ => rfl, rfl, rfl, rfl⟩
 | cons v vs ih =>
   intro o w cs h hl
   simp only [List.length_cons] at hl
   have h1 : (w.setCell ⟨b, o, none⟩ v).heap[b]? = some (.cells (cs.setIfInBounds o v) ty fz) := by
    simp [World.setCell, Array.getElem?_modify, h]
   obtain ⟨cs', e1, e2, e3, e4, e5, e6, e7, e8, e9, e10⟩ := ih (o + 1) _ _ h1 (by rw [Array.size_setIfInBounds]; omega)
   refine ⟨cs', e1, by rw [e2, Array.size_setIfInBounds], fun j hj => ?_, fun j hj => ?_, fun j hj => ?_, by rw [World.setCells, e6, World.size_setCell], fun k hk => ?_, e8, e9, e10⟩
   · rw [e3 j (by omega), Array.getElem?_setIfInBounds_ne (by omega)]
   · cases j with
     | zero => rw [Nat.add_zero, e3 o (by omega)]; simp [show o < cs.size by omega]
     | succ j => rw [show o + (j + 1) = o + 1 + j by omega, e4 j (by simpa using hj)]; simp
   · simp only [List.length_cons] at hj
     rw [e5 j (by omega), Array.getElem?_setIfInBounds_ne (by omega)]
   · rw [World.setCells, e7 k hk]
     simp [World.setCell, Array.getElem?_modify, Ne.symm hk]
theorem ints_flat (xs : List Int) : (xs.map icells).flatten = xs.map iD := by
 induction xs with
 | nil => rfl
 | cons x xs ih => simp [ih]
theorem ints_vals {V : Know} {vals : List Value} {xs : List Int} (h : Reps V vals (xs.map icells).flatten) : vals = xs.map (.int .i64) ∧ ∀ x ∈ xs, inKind .i64 x := by
 rw [ints_flat] at h
 have hl : vals.length = xs.length := by have := h.len; simpa using this
 refine ⟨List.ext_getElem? fun i => ?_, fun x hx => ?_⟩
 · rcases Nat.lt_or_ge i xs.length with hi | hi
   · have := h.get i vals[i] (iD xs[i]) (List.getElem?_eq_getElem (by omega)) (by simp [hi])
     rw [List.getElem?_eq_getElem (by omega), this.v_inv.1]
     simp [hi]
   · rw [List.getElem?_eq_none (by omega), List.getElem?_eq_none (by simpa using hi)]
 · obtain ⟨i, hi, rfl⟩ := List.mem_iff_getElem.1 hx
   exact (h.get i vals[i] (iD xs[i]) (List.getElem?_eq_getElem (by omega)) (by simp [hi])).int_inv.2
theorem ints_rep (V : Know) {xs : List Int} (h : ∀ x ∈ xs, inKind .i64 x) : Reps V (xs.map (.int .i64)) (xs.map icells).flatten := by
 rw [ints_flat]
 refine ⟨by simp, fun i u d hu hd => ?_⟩
 rcases Nat.lt_or_ge i xs.length with hi | hi
 · simp [hi] at hu hd
   subst hu hd
   exact .int (h _ (List.getElem_mem hi))
 · simp [Nat.not_lt.2 hi] at hu
/-- a slice of integers of one's own has moved on, or was written: what comes back of a call -/
theorem ints_back {γ : Gm} {V : Know} {W W' : World} {O : List (Nat × Blk)} {n g0 gr c : Nat} {cur : Array Value} {zs : List Int} {s0 : OwnS} (hn9 : Nat.ble 9000 n = false) (hs : Sees V W) (hn : look n O = some (.sl s0)) (hγ : (γ n).2 = some g0) (hpriv : ∀ o, V.cell g0 o = none) (hg0 : ∃ cs t f, W.heap[g0]? = some (.cells cs t f))
 (hos : W'.os = W.os) (htp : W'.tape = W.tape) (hout : W'.output = W.output) (hsz : W.heap.size ≤ W'.heap.size) (hk : ∀ k, k < W.heap.size → k ≠ g0 → W'.heap[k]? = W.heap[k]?)
 (hg : W'.heap[gr]? = some (.cells cur 3 (0, 0))) (hgr : gr = g0 ∨ W.heap.size ≤ gr) (hcl : zs.length ≤ c) (hcm : c ≤ maxLen) (hcs : cur.size = c) (ht : cur.toList.take zs.length = zs.map (.int .i64)) (hin : ∀ x ∈ zs, inKind .i64 x) :
 ∃ γ' V' o O', OutR γ' V' (.returned (.slice (some ⟨gr, 0, none⟩) zs.length c)) o ∧ BelowX (blks γ O) W.heap.size W W' ∧ Fresh V V' (blks γ O) W.heap.size ∧ Sees V' W' ∧ OwnOk γ' V' W' O' ∧
   (∀ n b, look n O' = some b → ∀ k, (γ' n).2 = some k → k ∈ blks γ O ∨ W.heap.size ≤ k) ∧ InjOk γ' O' ∧ (∀ n b, look n O = some b → isBoxB n b = true → γ' n = γ n) ∧ o = .ret (.own n) ∧ O' = [(n, .sl ⟨3, 1, zs.map icells, false⟩)] := by
 have hgb : g0 ∈ blks γ O := look_blks hn hγ
 have one : ∀ m b, look m [(n, Blk.sl ⟨3, 1, zs.map icells, false⟩)] = some b → m = n ∧ b = .sl ⟨3, 1, zs.map icells, false⟩ := fun m b hm => by
  by_cases e : n = m
  · subst e; rw [look_cons_eq] at hm; cases hm; exact ⟨rfl, rfl⟩
  · rw [look_cons_ne e, look_nil] at hm; cases hm
 refine ⟨updG γ n (.slice (some ⟨gr, 0, none⟩) zs.length c, some gr), V, .ret (.own n), _, ?_, ⟨hos, htp, hout, hsz, fun k h1 h2 => hk k h1 fun e => h2 (e ▸ hgb)⟩, .refl _ _ _, ⟨fun b o v h => ?_, fun q x h => ?_, hs.lib, hs.keepRow fun b o v h => hk b (hs.lt h) fun e => by subst e; rw [hpriv] at h; cases h⟩, fun m b hm => ?_, fun m b hm k hk' => ?_, fun m m' b b' hm hm' hne => ?_, fun m b hm hb => ?_, rfl, rfl⟩
 · show _ = (updG γ n _ n).1
   rw [updG_same]
 · have h0 := hs.cell b o v h
   have hne : b ≠ g0 := fun e => by subst e; rw [hpriv] at h; cases h
   have := hk b (hs.lt h) hne
   simp only [World.cell?, this] at h0 ⊢
   exact h0
 · have h0 := hs.obj q x h
   have hne : q ≠ g0 := fun e => by
    subst e
    obtain ⟨_, _, _, e1⟩ := hg0
    obtain ⟨_, _, e2⟩ := h0.2
    rw [e1, e2] at h0; cases h0.1
   exact ⟨(hk q (heap_lt h0.1) hne).trans h0.1, h0.2⟩
 · obtain ⟨rfl, rfl⟩ := one m b hm
   rw [updG_same]
   refine .inl ⟨gr, zs.length, c, zs.map (.int .i64), rfl, ⟨by simp, .inr ⟨gr, c, cur, by simp, Nat.zero_le _, hg, by simpa using hcl, hcm, by simpa using hcs, by simpa using ht⟩⟩, fun ds hds => ?_, ints_rep V hin, fun u hu => ?_, fun o => ?_⟩
   · obtain ⟨x, _, rfl⟩ := List.mem_map.1 hds; rfl
   · obtain ⟨x, _, rfl⟩ := List.mem_map.1 hu; rfl
   · rcases hgr with rfl | h
     · exact hpriv o
     · cases hx : V.cell gr o with
       | none => rfl
       | some u => have := hs.lt hx; omega
 · obtain ⟨rfl, rfl⟩ := one m b hm
   rw [updG_same] at hk'
   cases hk'
   exact hgr.imp (fun e => by rw [e]; exact hgb) id
 · obtain ⟨rfl, _⟩ := one m b hm
   obtain ⟨rfl, _⟩ := one m' b' hm'
   exact absurd rfl hne
 · refine updG_ne fun e => ?_
   subst e
   rw [hn] at hm
   cases hm
   rw [show isBoxB m (Blk.sl s0) = Nat.ble 9000 m from rfl, hn9] at hb
   cases hb
theorem take_arr {cs : Array Value} {l : List Value} (hl : l.length ≤ cs.size) (h : ∀ j, j < l.length → cs[j]? = l[j]?) : cs.toList.take l.length = l := by
 refine List.ext_getElem? fun j => ?_
 rw [List.getElem?_take]
 split
 · rename_i hj
   rw [Array.getElem?_toList]; exact h j hj
 · rename_i hj
   rw [List.getElem?_eq_none (by omega)]
theorem tail_sorted {d : Array Int} (hs : ∀ a b, a < b → b < d.size → d[a]! ≤ d[b]!) : ∀ m, m ≤ d.size → (Lib.compactUpTo d m).Pairwise (· < ·) ∧ ∀ x, x ∈ Lib.compactUpTo d m ↔ ∃ j, j < m ∧ d[j]! = x := by
 intro m
 induction m with
 | zero => intro _; simp [Lib.compactUpTo]
 | succ m ih =>
   intro hm
   obtain ⟨h1, h2⟩ := ih (by omega)
   rw [Lib.compactUpTo_succ]
   by_cases hk : Lib.keeps d m = true
   · rw [if_pos hk]
     refine ⟨?_, fun x => ?_⟩
     · rw [List.pairwise_append]
       refine ⟨h1, List.pairwise_singleton _ _, fun a ha b hb => ?_⟩
       rw [List.mem_singleton.1 hb]
       obtain ⟨j, hj, rfl⟩ := (h2 a).1 ha
       have q1 := hs j m hj (by omega)
       rcases (by omega : d[j]! < d[m]! ∨ d[j]! = d[m]!) with h | h
       · exact h
       · exfalso
         have hk := of_decide_eq_true hk
         have q2 : d[j]! ≤ d[m - 1]! := by
          rcases (by omega : j = m - 1 ∨ j < m - 1) with e | e
          · rw [e]; exact Int.le_refl _
          · exact hs j (m - 1) e (by omega)
         have q3 := hs (m - 1) m (by omega) (by omega)
         have q4 : d[m]! = d[m - 1]! := by omega
         rcases hk with e | e
         · omega
         · exact e q4
     · rw [List.mem_append, h2, List.mem_singleton]
       constructor
       · rintro (⟨j, hj, rfl⟩ | rfl)
         · exact ⟨j, by omega, rfl⟩
         · exact ⟨m, by omega, rfl⟩
       · rintro ⟨j, hj, rfl⟩
         rcases (by omega : j < m ∨ j = m) with h | rfl
         · exact .inl ⟨j, h, rfl⟩
         · exact .inr rfl
   · rw [if_neg hk, List.append_nil]
     refine ⟨h1, fun x => ?_⟩
     rw [h2]
     have hm0 : 0 < m ∧ d[m]! = d[m - 1]! := by
      have hk : ¬ (m = 0 ∨ d[m]! ≠ d[m - 1]!) := fun h => hk (decide_eq_true h)
      exact ⟨by omega, Decidable.not_not.1 fun e => hk (.inr e)⟩
     constructor
     · rintro ⟨j, hj, rfl⟩; exact ⟨j, by omega, rfl⟩
     · rintro ⟨j, hj, rfl⟩
       rcases (by omega : j < m ∨ j = m) with h | rfl
       · exact ⟨j, h, rfl⟩
       · exact ⟨j - 1, by omega, hm0.2.symm⟩
/-- the numbers in order, each once -/
def srt (l : List Int) : List Int := l.mergeSort fun x y => decide (x ≤ y)
noncomputable def vals1 (l : List Int) : List Int := Lib.compact (srt l)
theorem srt_len (l : List Int) : (srt l).length = l.length := List.length_mergeSort _
theorem srt_sorted (l : List Int) : (srt l).Pairwise (· ≤ ·) := by
 have := List.pairwise_mergeSort (le := fun x y : Int => decide (x ≤ y)) (fun a b c h1 h2 => by simp at *; omega) (fun a b => by simp; omega) l
 exact this.imp fun h => by simpa using h
theorem srt_mem {l : List Int} {x : Int} : x ∈ srt l ↔ x ∈ l := List.mem_mergeSort
theorem vals1_spec (l : List Int) : (vals1 l).Pairwise (· < ·) ∧ ∀ x, x ∈ vals1 l ↔ x ∈ l := by
 have hs := srt_sorted l
 obtain ⟨h1, h2⟩ := tail_sorted (d := (srt l).toArray) (fun a b hab hb => by
  have hb' : b < (srt l).length := by simpa using hb
  have := List.pairwise_iff_getElem.1 hs a b (by omega) hb' hab
  simp only [List.getElem!_toArray]
  rw [getElem!_pos (srt l) a (by omega), getElem!_pos (srt l) b hb']
  exact this) (srt l).length (by simp)
 refine ⟨h1, fun x => (h2 x).trans ?_⟩
 rw [← srt_mem, List.mem_iff_getElem]
 constructor
 · rintro ⟨j, hj, rfl⟩
   exact ⟨j, hj, by simp only [List.getElem!_toArray]; rw [getElem!_pos (srt l) j hj]⟩
 · rintro ⟨j, hj, rfl⟩
   exact ⟨j, hj, by simp only [List.getElem!_toArray]; rw [getElem!_pos (srt l) j hj]⟩
theorem setInts_holds {W : World} {g : Nat} {cur : Array Value} {xs : List Int} (hg : W.heap[g]? = some (.cells cur 3 (0, 0))) (ht : cur.toList.take xs.length = xs.map (.int .i64)) (hl : xs.length ≤ cur.size) : Go.Sort.Holds (Value.int .i64) W g 0 xs.toArray := by
 intro j hj
 have hj' : j < xs.length := by simpa using hj
 have h1 : cur[j]? = some (Value.int .i64 xs[j]) := by
  have : (cur.toList.take xs.length)[j]? = (xs.map (Value.int .i64))[j]? := by rw [ht]
  rw [List.getElem?_take, if_pos hj', List.getElem?_map, List.getElem?_eq_getElem hj'] at this
  simpa using this
 refine ⟨?_, ?_⟩
 · simp only [World.cell?, hg, Nat.zero_add]
   rw [show xs.toArray[j]! = xs[j] from by simp [getElem!_pos xs j hj']]
   simpa using h1
 · simp [World.frozen?, hg]
theorem tsort_meets (n : Nat) (rest : List (Nat × Blk)) (hr : look n rest = none) (xs : List Int) (hx : xs ≠ []) (hbig : xs.length ≤ 1048576) :
 MeetsR Tryz.prog 21 [.own n] ((n, .sl ⟨3, 1, xs.map icells, false⟩) :: rest) fun o O' => o = .ret (.d (.tup [])) ∧ O' = (n, .sl ⟨3, 1, (srt xs).map icells, false⟩) :: rest := by
 refine ⟨⟨_, _, Tryz.func21, rfl, by kernel_rfl⟩, fun γ V W ys hs hxv hown hinj => ?_⟩
 obtain ⟨y1, ys, rfl, h1, hxv⟩ := hxv.cons_l
 obtain rfl := hxv.nil_l
 have hln : look n ((n, Blk.sl ⟨3, 1, xs.map icells, false⟩) :: rest) = some (.sl ⟨3, 1, xs.map icells, false⟩) := look_cons_eq ..
 rcases hown n _ hln with ⟨g, m, c, cs, e1, hrow, _, hrep, h1c, hpr⟩ | ⟨hp, _⟩
 case inr =>
  rcases hp with hp | hp
  · cases hp
  · exact absurd (List.map_eq_nil_iff.1 hp) hx
 rw [e1] at hrow
 obtain ⟨cur, rfl, hg, hnc, hcm, hcs, ht, hcl⟩ := own_cap hrow
 simp only [List.length_map, Nat.mul_one] at hnc hcs ht hcl
 obtain ⟨rfl, hin⟩ := ints_vals hrep
 have he1 : y1 = .slice (some ⟨g, 0, none⟩) xs.length c := by have : y1 = (γ n).1 := h1; rw [this, e1]; simp
 subst he1
 have hH := setInts_holds hg ht (by omega)
 refine Calls.mono (Tryz.slices_Sort_int g 0 c xs W hH (heap_lt hg) (by omega)) ?_
 rintro e W' ⟨rfl, q, os, rfl⟩
 rw [show (xs.mergeSort fun x y => decide (x ≤ y)) = srt xs from rfl, Lib.sorted_world (Value.int .i64) W g 0 q xs.toArray (srt xs) os hH (by simp [srt_len])]
 obtain ⟨c1, q1, q2, q3, q4, q5, q6, q7, q8, q9, q10⟩ := setCells_spec g 3 (0, 0) ((srt xs).map (Value.int .i64)) 0 (W.drewN q) cur hg (by simp [srt_len]; omega)
 generalize (W.drewN q).setCells g 0 ((srt xs).map (Value.int .i64)) = W1 at q1 q6 q7 q8 q9 q10
 have hW1 : W1.heap.size = W.heap.size := q6
 have hold : ∀ k, k < W.heap.size → (Go.Sort.grow W1 os).heap[k]? = W1.heap[k]? := fun k hk => by
  simp only [Go.Sort.grow]; exact Array.getElem?_append_left (by omega)
 have hother : ∀ k, k < W.heap.size → k ≠ g → (Go.Sort.grow W1 os).heap[k]? = W.heap[k]? := fun k hk hne => (hold k hk).trans (q7 k hne)
 have hpriv : ∀ o, V.cell g o = none := hpr
 have hgb : g ∈ blks γ ((n, Blk.sl ⟨3, 1, xs.map icells, false⟩) :: rest) := look_blks hln (by rw [e1])
 have hsees : Sees V (Go.Sort.grow W1 os) := by
  refine ⟨fun b o v h => ?_, fun q x h => ?_, hs.lib, hs.keepRow fun b o v h => hother b (hs.lt h) fun e => by subst e; rw [hpriv] at h; cases h⟩
  · have h0 := hs.cell b o v h
    have hne : b ≠ g := fun e => by subst e; rw [hpriv] at h; cases h
    have := hother b (hs.lt h) hne
    simp only [World.cell?, this] at h0 ⊢
    exact h0
  · have h0 := hs.obj q x h
    have hne : q ≠ g := fun e => by
     subst e
     obtain ⟨_, _, e2⟩ := h0.2
     rw [hg, e2] at h0; cases h0.1
    exact ⟨(hother q (heap_lt h0.1) hne).trans h0.1, h0.2⟩
 have two : ∀ (s : Blk) m x, look m ((n, s) :: rest) = some x → (m ≠ n ∧ look m rest = some x ∧ look m ((n, Blk.sl ⟨3, 1, xs.map icells, false⟩) :: rest) = some x) ∨ (m = n ∧ x = s) := fun s m x hm => by
  by_cases e : n = m
  · subst e; rw [look_cons_eq] at hm; cases hm; exact .inr ⟨rfl, rfl⟩
  · rw [look_cons_ne e] at hm
    exact .inl ⟨fun h => e h.symm, hm, by rw [look_cons_ne e]; exact hm⟩
 refine ⟨γ, V, .ret (.d (.tup [])), _, ?_, ⟨q8, q9, q10, by simp only [Go.Sort.grow, Array.size_append]; omega, fun k h1 h2 => hother k h1 fun e => h2 (e ▸ hgb)⟩, .refl _ _ _, hsees, fun m x hm => ?_, fun m x hm k hk => ?_, fun m m' x x' hm hm' hne' k hk => ?_, fun _ _ _ _ => rfl, rfl, rfl⟩
 · exact .tup [] [] rfl (fun i u d h => by simp at h)
 · rcases two _ m x hm with ⟨hne, _, hlb⟩ | ⟨rfl, rfl⟩
   · refine (hown m _ hlb).keep (.refl V) (fun k hk => hother k (own_lt (hown m _ hlb) hk) fun e => ?_) (fun _ _ _ _ h => h) (fun _ _ _ h => h)
     subst e
     exact hinj m n _ _ hlb hln hne k hk (by rw [e1])
   · refine .inl ⟨g, xs.length, c, (srt xs).map (.int .i64), by rw [e1]; simp, ?_, fun ds hds => ?_, ints_rep V (fun x hx => hin x (srt_mem.1 hx)), fun u hu => ?_, hpriv⟩
     · rw [e1]
       refine ⟨by simp, .inr ⟨g, c, c1, by simp [srt_len], Nat.zero_le _, (hold g (heap_lt hg)).trans q1, by simpa [srt_len] using hnc, hcm, by rw [q2, hcs]; simp, ?_⟩⟩
       have h := take_arr (cs := c1) (l := (srt xs).map (Value.int .i64)) (by rw [q2, List.length_map, srt_len]; omega) (fun j hj => by have := q4 j hj; rwa [Nat.zero_add] at this)
       simpa using h
     · obtain ⟨x, _, rfl⟩ := List.mem_map.1 hds; rfl
     · obtain ⟨x, _, rfl⟩ := List.mem_map.1 hu; rfl
 · rcases two _ m x hm with ⟨_, _, hlb⟩ | ⟨rfl, rfl⟩
   · exact .inl (look_blks hlb hk)
   · exact .inl (look_blks hln hk)
 · rcases two _ m x hm with ⟨_, _, hlb⟩ | ⟨rfl, rfl⟩
   · rcases two _ m' x' hm' with ⟨_, _, hlb'⟩ | ⟨rfl, rfl⟩
     · exact hinj _ _ _ _ hlb hlb' hne' k hk
     · exact hinj _ _ _ _ hlb hln hne' k hk
   · rcases two _ m' x' hm' with ⟨_, _, hlb'⟩ | ⟨rfl, rfl⟩
     · exact hinj _ _ _ _ hln hlb' hne' k hk
     · exact absurd rfl hne'
theorem tcompact_meets (n : Nat) (hn9 : Nat.ble 9000 n = false) (xs : List Int) (hx : xs ≠ []) (hbig : xs.length ≤ 1048576) :
 MeetsR Tryz.prog 22 [.own n] [(n, .sl ⟨3, 1, xs.map icells, false⟩)] fun o O' => o = .ret (.own n) ∧ O' = [(n, .sl ⟨3, 1, (Lib.compact xs).map icells, false⟩)] := by
 refine ⟨⟨_, _, Tryz.func22, rfl, by kernel_rfl⟩, fun γ V W ys hs hxv hown hinj => ?_⟩
 obtain ⟨y1, ys, rfl, h1, hxv⟩ := hxv.cons_l
 obtain rfl := hxv.nil_l
 have hln : look n [(n, Blk.sl ⟨3, 1, xs.map icells, false⟩)] = some (.sl ⟨3, 1, xs.map icells, false⟩) := look_cons_eq ..
 rcases hown n _ hln with ⟨g, m, c, cs, e1, hrow, _, hrep, h1c, hpr⟩ | ⟨hp, _⟩
 case inr =>
  rcases hp with hp | hp
  · cases hp
  · exact absurd (List.map_eq_nil_iff.1 hp) hx
 rw [e1] at hrow
 obtain ⟨cur, rfl, hg, hnc, hcm, hcs, ht, hcl⟩ := own_cap hrow
 simp only [List.length_map, Nat.mul_one] at hnc hcs ht hcl
 obtain ⟨rfl, hin⟩ := ints_vals hrep
 have he1 : y1 = .slice (some ⟨g, 0, none⟩) xs.length c := by have : y1 = (γ n).1 := h1; rw [this, e1]; simp
 subst he1
 have hH := setInts_holds hg ht (by omega)
 have hlc := Lib.compact_length_le xs
 have hmem : ∀ x ∈ Lib.compact xs, x ∈ xs := fun x hx => by
  unfold Lib.compact Lib.compactUpTo at hx
  obtain ⟨j, hj, rfl⟩ := List.mem_map.1 hx
  have hj' : j < xs.length := by simpa using (List.mem_filter.1 hj).1
  simp only [List.getElem!_toArray]
  rw [getElem!_pos xs j hj']
  exact List.getElem_mem hj'
 have hcall := Tryz.slices_Compact_int_cells g 0 xs.length c xs W (Nat.le_refl _) (by omega) hnc (fun j hj => by
  have := (hH j (by simpa using hj)).1
  rw [this]
  simp [List.getD_eq_getElem?_getD, getElem!_pos xs j hj, List.getElem?_eq_getElem hj]) (fun j hj => (hH j (by simpa using hj)).2)
 rw [List.take_length] at hcall
 refine Calls.mono hcall ?_
 rintro e W' ⟨rfl, q, rfl⟩
 obtain ⟨c1, q1, q2, q3, q4, q5, q6, q7, q8, q9, q10⟩ := setCells_spec g 3 (0, 0) ((Lib.compact xs ++ List.replicate (xs.length - (Lib.compact xs).length) 0).map (Value.int .i64)) 0 (W.drewN q) cur hg (by simp; omega)
 have hpr' : ∀ o, V.cell g o = none := hpr
 exact ints_back (γ := γ) (zs := Lib.compact xs) (c := c) hn9 hs hln (by rw [e1]) hpr' ⟨_, _, _, hg⟩ q8 q9 q10 (by rw [q6]; exact Nat.le_refl _) (fun k hk hne => q7 k hne) q1 (.inl rfl) (by omega) hcm (by rw [q2, hcs]) (by
  have h := take_arr (cs := c1) (l := (Lib.compact xs).map (Value.int .i64)) (by rw [q2, List.length_map]; omega) (fun j hj => by
   rw [List.length_map] at hj
   have := q4 j (by simp; omega)
   rw [Nat.zero_add] at this
   rw [this, List.map_append, List.getElem?_append_left (by simpa using hj)])
  rwa [List.length_map] at h) (fun x hx => hin x (hmem x hx))
end Go.Proofs.YtacclfgmgphljaaGreat.Dx
