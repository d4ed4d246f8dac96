/- The executor over data, part Z: loops over functions. -/
import Derived.Test.YtacclfgmgphljaaGreatRi
import Derived.Test.YtacclfgmgphljaaGreatRg
import Derived.Test.YtacclfgmgphljaaGreatRj
set_option linter.all false
namespace Go.Proofs.YtacclfgmgphljaaGreat.Dx
open Go Go.RowKit
/-- a round's arguments lie in the loop's parameters -/
def zipL : List Nat → List D → List (Nat × Base)
 | t :: ts, d :: ds => (t, .d d) :: zipL ts ds
 | _, _ => []
theorem fold_zip : ∀ (ts : List Nat) (vs : List Value) (tm : Array Value), ts.Nodup → ts.length = vs.length → (∀ t ∈ ts, t < tm.size) →
 ((ts.zip vs).foldl (fun (tm : Array Value) p => tm.setIfInBounds p.1 p.2) tm).size = tm.size ∧
 (∀ t, t ∉ ts → ((ts.zip vs).foldl (fun (tm : Array Value) p => tm.setIfInBounds p.1 p.2) tm).getD t undef = tm.getD t undef) ∧
 ∀ (i : Nat) t v, ts[i]? = some t → vs[i]? = some v → ((ts.zip vs).foldl (fun (tm : Array Value) p => tm.setIfInBounds p.1 p.2) tm).getD t undef = v := by
 intro ts
 induction ts with
 | nil => intro vs tm _ _ _; exact ⟨rfl, fun _ _ => rfl, fun i t v h => by simp at h⟩
 | cons t ts ih =>
   intro vs tm hn hl hlt
   cases vs with
   | nil => simp at hl
   | cons v vs =>
     obtain ⟨hnt, hn⟩ := List.nodup_cons.1 hn
     obtain ⟨h1, h2, h3⟩ := ih vs (tm.setIfInBounds t v) hn (by simpa using hl) (fun s hs => by rw [Array.size_setIfInBounds]; exact hlt s (List.mem_cons_of_mem _ hs))
     have ht := hlt t (List.mem_cons_self ..)
     refine ⟨by simpa using h1, fun s hs => ?_, fun i s u hi hu => ?_⟩
     · have hne : s ≠ t := fun e => hs (e ▸ List.mem_cons_self ..)
       simp only [List.zip_cons_cons, List.foldl_cons]
       rw [h2 s fun h => hs (List.mem_cons_of_mem _ h)]
       simp [Array.getD_eq_getD_getElem?, Array.getElem?_setIfInBounds_ne (Ne.symm hne)]
     · simp only [List.zip_cons_cons, List.foldl_cons]
       cases i with
       | zero =>
         simp only [List.getElem?_cons_zero, Option.some.injEq] at hi hu
         subst hi hu
         rw [h2 _ hnt]
         simp [Array.getD_eq_getD_getElem?, ht]
       | succ i => exact h3 i s u (by simpa using hi) (by simpa using hu)
theorem look_zipL : ∀ (ts : List Nat) (ds : List D) (t : Nat) (b : Base) (L : List (Nat × Base)), ts.Nodup → ts.length = ds.length → look t (zipL ts ds ++ L) = some b →
 (∃ (i : Nat) (d : D), ts[i]? = some t ∧ ds[i]? = some d ∧ b = .d d) ∨ (t ∉ ts ∧ look t L = some b) := by
 intro ts
 induction ts with
 | nil => intro ds t b L _ hl h; cases ds with | nil => exact .inr ⟨by simp, h⟩ | cons d ds => simp at hl
 | cons s ts ih =>
   intro ds t b L hn hl h
   cases ds with
   | nil => simp at hl
   | cons d ds =>
     simp only [zipL, List.cons_append] at h
     by_cases e : s = t
     · subst e
       rw [look_cons_eq] at h
       cases h
       exact .inl ⟨0, d, rfl, rfl, rfl⟩
     · rw [look_cons_ne e] at h
       rcases ih ds t b L (List.nodup_cons.1 hn).2 (by simpa using hl) h with ⟨i, d', h1, h2, h3⟩ | ⟨h1, h2⟩
       · exact .inl ⟨i + 1, d', by simpa using h1, by simpa using h2, h3⟩
       · exact .inr ⟨fun hm => (List.mem_cons.1 hm).elim (fun h => e h.symm) h1, h2⟩
section
variable {P : Program} {T : List (Nat × TI)} {C : Cx} {γ : Gm} {st : SSt} {V : Know} {a : Act} {W : World}
theorem blks_look {O : List (Nat × Blk)} {k : Nat} (h : k ∈ blks γ O) : ∃ n b, look n O = some b ∧ (γ n).2 = some k := by
 obtain ⟨⟨n, b⟩, hm, hk⟩ := List.mem_filterMap.1 h
 have : ∀ l : List (Nat × Blk), (n, b) ∈ l → ∃ z, look n l = some z := by
  intro l
  induction l with
  | nil => intro h; cases h
  | cons p l ih =>
    obtain ⟨t, y⟩ := p
    intro h
    by_cases e : t = n
    · subst e; exact ⟨y, look_cons_eq ..⟩
    · rw [look_cons_ne e]
      rcases List.mem_cons.1 h with h | h
      · cases h; exact absurd rfl e
      · exact ih h
 obtain ⟨z, hz⟩ := this _ hm
 exact ⟨n, z, hz, hk⟩
theorem look_blks {O : List (Nat × Blk)} {n k : Nat} {b : Blk} (h : look n O = some b) (hk : (γ n).2 = some k) : k ∈ blks γ O := List.mem_filterMap.2 ⟨(n, b), look_mem h, hk⟩
/-- the record of a loop turns: what is known and owned is as before -/
theorem side_obj (hs : Sees V W) {W' : World} {l : Nat} {r : Loop} (hl : W.heap[l]? = some (.loop r)) (hg : W.grownBy W' (some l)) :
 Sees V W' ∧ (∀ m b, BlkOk γ V W (γ m) b → (γ m).2 ≠ some l → BlkOk γ V W' (γ m) b) ∧ (∀ m0, MarksOk m0 a W → MarksOk m0 a W') ∧ ∀ k, k < W.heap.size → k ≠ l → W'.heap[k]? = W.heap[k]? := by
 have hk : ∀ k, k < W.heap.size → k ≠ l → W'.heap[k]? = W.heap[k]? := fun k h1 h2 => hg.block k h1 (fun e => h2 (by cases e; rfl))
 refine ⟨⟨fun b o v h => ?_, fun q x h => ?_, hs.lib, hs.keepRow fun b o v h => hk b (hs.lt h) fun e => by subst e; have h0 := hs.cell b o v h; simp only [World.cell?, hl] at h0; cases h0⟩, fun m b hb hne => hb.keep (.refl V) (fun k hk' => hk k (own_lt hb hk') fun e => hne (by rw [hk', e])) (fun _ _ _ _ h => h) (fun _ _ _ h => h), fun m0 hm => hm.keep rfl fun k h => (hk k (heap_lt h) fun e => by rw [e, hl] at h; cases h).trans h, hk⟩
 · have h0 := hs.cell b o v h
   have hne : b ≠ l := fun e => by subst e; simp only [World.cell?, hl] at h0; cases h0
   have := hk b (hs.lt h) hne
   simp only [World.cell?, this] at h0 ⊢
   exact h0
 · have h0 := hs.obj q x h
   have hne : q ≠ l := fun e => by subst e; obtain ⟨_, _, e⟩ := h0.2; rw [hl, e] at h0; cases h0.1
   exact ⟨(hk q (heap_lt h0.1) hne).trans h0.1, h0.2⟩
theorem unknown_obj (hs : Sees V W) {l : Nat} {r : Loop} (hl : W.heap[l]? = some (.loop r)) : V.obj l = none ∧ ∀ o, V.cell l o = none := by
 refine ⟨?_, fun o => ?_⟩
 · cases hx : V.obj l with
   | none => rfl
   | some u => have h0 := hs.obj l u hx; obtain ⟨_, _, e⟩ := h0.2; rw [hl, e] at h0; cases h0.1
 · cases hx : V.cell l o with
   | none => rfl
   | some u => have h0 := hs.cell l o u hx; simp only [World.cell?, hl] at h0; cases h0
theorem noment {n : Nat} {O : List (Nat × Blk)} (h : noMentO n O = true) {m : Nat} {b : Blk} (hl : look m O = some b) : m ≠ n ∧ mentBlk n b = false := by
 have := List.all_eq_true.1 h _ (look_mem hl)
 simp only [Bool.and_eq_true, Bool.not_eq_true'] at this
 exact ⟨beq_ne this.1, this.2⟩
end
/-- the record of a loop between two rounds -/
abbrev lpRec (fn : FuncId) (tm : Array Value) (ps : Array Tmp) (asg bd : Code) (dk : Nat) (j : Option Code) : Loop :=
 { state := match j with | none => .ready | some _ => .done, pending := j, fn, tmps := tm, params := ps, assign := asg, body := bd, defers := dk }
/-- how a round ends -/
def RndR {X Y : Type} (n : Nat) (rc : Option Code → Loop) (g : Gm) (V0 : Know) (pn : List Nat) (S : X → List (Nat × Blk)) (St : Y → List (Nat × Blk)) (Jm : Y → Code) (Nx : X → Prop) (Sx : Y → Prop) (o : Out) (O' : List (Nat × Blk)) : Prop :=
 (∃ x', Nx x' ∧ o = .ret (.d (.bl true)) ∧ O' = (n, .lp (rc none) g V0 pn) :: S x') ∨ (∃ y, Sx y ∧ o = .ret (.d (.bl false)) ∧ O' = (n, .lp (rc (some (Jm y))) g V0 pn) :: St y)
/-- what the body of a round must come to -/
noncomputable def bodyQ {X Y : Type} (pn : List Nat) (S : X → List (Nat × Blk)) (St : Y → List (Nat × Blk)) (Jm : Y → Code) (Nx : X → Prop) (Sx : Y → Prop) : Post := fun e st =>
 match e with
 | .nrm => Rnd (∃ x', (SubO st.O (S x') ∧ (pn.all fun m => memB m st.pins) = true) ∧ Nx x')
 | .ret => Rnd (∃ y, (SubO st.O (St y) ∧ (pn.all fun m => memB m st.pins) = true) ∧ Jm y = .ret ∧ Sx y)
 | .exit k => Rnd (∃ y, (SubO st.O (St y) ∧ (pn.all fun m => memB m st.pins) = true) ∧ Jm y = .exit k ∧ Sx y)
 | .pan _ => False
/-- A ROUND, out of the walk of the loop's body. -/
theorem round_meets {P : Program} {T : List (Nat × TI)} {X Y : Type} {S : X → List (Nat × Blk)} {St : Y → List (Nat × Blk)} {Jm : Y → Code} {Nx : X → Prop} {Sx : Y → Prop} (hT : TOk P T) {cf : Cfg} {n : Nat} {fn : FuncId} {tm : Array Value} {ps : Array Tmp} {asg bd : Code} {dk : Nat} {g : Gm} {V0 : Know} {pn : List Nat} {Lb : List (Nat × Base)} {N : Nat} {O : List (Nat × Blk)} {ds : List D}
 (hsz : tm.size = N) (hslots : ∀ t b, look t Lb = some b → RVb g V0 b (tm.getD t undef)) (hkeys : ∀ t b m, look t Lb = some b → ment m b = true → m ∈ pn)
 (hnd : ps.toList.Nodup) (hpl : ps.toList.length = ds.length) (hpN : ∀ t ∈ ps.toList, t < N)
 (hbx : ∀ m b, look m O = some b → isBoxB m b = true → m ∈ pn) (hn : look n O = none) (hSn : ∀ x, noMentO n (S x) = true) (hTn : ∀ y, noMentO n (St y) = true)
 (h : ∀ (B0 : Nat) (W0 : World) (V0 : Know) (lent : List Nat) (g0 : Gm) (l m0 : Nat), vcC P T ⟨B0, N, W0, V0, lent, g0, some l, m0⟩ cf asg (fun e st => match e with
   | .nrm => (pn.all fun m => memB m st.pins) = true ∧ ∀ (B0 : Nat) (W0 : World) (V0 : Know) (lent : List Nat) (g0 : Gm) (l m0 : Nat), J P ⟨B0, N, W0, V0, lent, g0, some l, m0⟩ bd (bodyQ pn S St Jm Nx Sx) st
   | _ => False) ⟨zipL ps.toList ds ++ Lb, O, pn⟩) :
 MeetsY P n ds ((n, .lp (lpRec fn tm ps asg bd dk none) g V0 pn) :: O) (RndR n (lpRec fn tm ps asg bd dk) g V0 pn S St Jm Nx Sx) := by
 refine ⟨⟨_, _, _, _, look_cons_eq ..⟩, fun γ V W xs l hs hx hown hinj hγ => ?_⟩
 obtain ⟨⟨l', hγ', hl, _⟩, hle, hpn⟩ := hown n _ (look_cons_eq ..)
 obtain rfl : l' = l := by rw [hγ] at hγ'; simpa using hγ'.symm
 clear hγ'
 have hlW := heap_lt hl
 have hO : ∀ m b, look m O = some b → m ≠ n ∧ look m ((n, .lp (lpRec fn tm ps asg bd dk none) g V0 pn) :: O) = some b := fun m b hm => by
  have hne : m ≠ n := fun e => by subst e; rw [hn] at hm; cases hm
  exact ⟨hne, by rw [look_cons_ne (Ne.symm hne)]; exact hm⟩
 have hnl : l' ∉ blks γ O := fun hm => by
  obtain ⟨m, b, hlk, hk⟩ := blks_look hm
  obtain ⟨hne, h2⟩ := hO m b hlk
  exact hinj n m _ _ (look_cons_eq ..) h2 (Ne.symm hne) l' (by rw [hγ]) hk
 have hbl : ∀ k, k ∈ blks γ ((n, .lp (lpRec fn tm ps asg bd dk none) g V0 pn) :: O) ↔ k = l' ∨ k ∈ blks γ O := fun k => by
  simp only [blks, List.filterMap_cons, hγ, List.mem_cons]
 have hxl : ps.toList.length = xs.length := hpl.trans hx.len.symm
 refine ⟨fn, _, asg, bd, run_yield hl (by rw [List.size_toArray, ← hxl, Array.length_toList]), roundIn_of_wpIn trivial ?_⟩
 have htm : (ps.zip xs.toArray).foldl (fun (tmps : Array Value) (t, a) => tmps.setIfInBounds t a) tm = (ps.toList.zip xs).foldl (fun (tm : Array Value) p => tm.setIfInBounds p.1 p.2) tm := by
  rw [← Array.foldl_toList, Array.toList_zip]
 obtain ⟨f1, f2, f3⟩ := fold_zip ps.toList xs tm hnd hxl (fun t ht => by rw [hsz]; exact hpN t ht)
 have hr : Rel ⟨W.heap.size, N, W, V, blks γ O, γ, some l', W.heap.size⟩ γ ⟨zipL ps.toList ds ++ Lb, O, pn⟩ V { tmps := (ps.zip xs.toArray).foldl (fun (tmps : Array Value) (t, a) => tmps.setIfInBounds t a) tm, defers := [] } W := by
  refine ⟨by rw [htm]; exact f1.trans hsz, MarksOk.nil rfl, fun t b hlk => ?_, fun m b hm => hown m b (hO m b hm).2, fun m b hm k hk => .inl (look_blks hm hk), fun m m' b b' hm hm' => hinj m m' b b' (hO m b hm).2 (hO m' b' hm').2, fun _ _ => rfl, hs, .refl _ _ _, .refl _ _ _, Nat.le_refl _⟩
  rw [htm]
  rcases look_zipL _ _ _ _ _ hnd hpl hlk with ⟨i, d, h1, h2, rfl⟩ | ⟨h1, h2⟩
  · have hi : i < xs.length := by rw [← hxl]; exact (List.getElem?_eq_some_iff.1 h1).1
    rw [f3 i t xs[i] h1 (List.getElem?_eq_getElem hi)]
    exact hx.get i _ _ (List.getElem?_eq_getElem hi) h2
  · rw [f2 t h1]
    exact ((hslots t b h2).mono hle).congr fun m hm => by rw [(hpn m (hkeys t b m h2 hm)).1]
 refine Go.wpIn_mono (F := Fence.wide.inRound l') (((vcC_run hT cf asg (h W.heap.size W V (blks γ O) γ l' W.heap.size)).run _ _ _ _ hr)) fun e a1 W1 hq => ?_
 cases e with
 | normal =>
   obtain ⟨γ1, st1, V1, hr1, hpin1, hJ⟩ := hq
   have hl1 : W1.heap[l']? = some (.loop (lpRec fn tm ps asg bd dk none)) := (hr1.below.block l' hlW hnl).trans hl
   refine ⟨_, run_beginRound hl1 rfl, ?_⟩
   obtain ⟨s1, s2, s3, s4⟩ := side_obj (γ := γ1) (a := a1) hr1.sees hl1 (grownBy_putObj' W1 l' (.loop { lpRec fn tm ps asg bd dk none with state := .busy }))
   have hnot1 : ∀ m b, look m st1.O = some b → (γ1 m).2 ≠ some l' := fun m b hm hk => by
    rcases hr1.okb m b hm l' hk with h1 | h1
    · exact hnl h1
    · exact absurd hlW (Nat.not_lt.2 h1)
   generalize hW1' : W1.putObj l' (.loop { lpRec fn tm ps asg bd dk none with state := .busy }) = W1' at s1 s2 s3 s4 ⊢
   have hsz1 : W1'.heap.size = W1.heap.size := by rw [← hW1']; simp
   have hl1' : W1'.heap[l']? = some (.loop { lpRec fn tm ps asg bd dk none with state := .busy }) := by rw [← hW1']; exact World.putObj_heap_same (heap_lt hl1)
   have hr2 : Rel ⟨W1'.heap.size, N, W1', V1, blks γ1 st1.O, γ1, some l', W.heap.size⟩ γ1 st1 V1 a1 W1' :=
    ⟨hr1.size, s3 _ hr1.defers, hr1.slots, fun m b hm => s2 m b (hr1.own m b hm) (hnot1 m b hm), fun m b hm k hk => .inl (look_blks hm hk), hr1.inj, fun _ _ => rfl, s1, .refl _ _ _, .refl _ _ _, Nat.le_refl _⟩
   refine Go.wpIn_mono (F := Fence.wide.inRound l') ((hJ W1'.heap.size W1' V1 (blks γ1 st1.O) γ1 l' W.heap.size).run _ _ _ _ hr2) fun e a2 W2 hq => ?_
   have fin : ∀ {γ2 : Gm} {st2 : SSt} {V2 : Know} {O2 : List (Nat × Blk)} (j : Option Code), Rel ⟨W1'.heap.size, N, W1', V1, blks γ1 st1.O, γ1, some l', W.heap.size⟩ γ2 st2 V2 a2 W2 → SubO st2.O O2 → (pn.all fun m => memB m st2.pins) = true → noMentO n O2 = true →
    RndR n (lpRec fn tm ps asg bd dk) g V0 pn S St Jm Nx Sx (.ret (.d (.bl j.isNone))) ((n, .lp (lpRec fn tm ps asg bd dk j) g V0 pn) :: O2) →
    ∃ v w', (Instr.endRound l' j).run P W2 = .ok v w' ∧ ∃ γ' V' o O', OutR γ' V' (.returned v) o ∧ BelowX (blks γ ((n, .lp (lpRec fn tm ps asg bd dk none) g V0 pn) :: O)) W.heap.size W w' ∧ Fresh V V' (blks γ ((n, .lp (lpRec fn tm ps asg bd dk none) g V0 pn) :: O)) W.heap.size ∧ Sees V' w' ∧ OwnOk γ' V' w' O' ∧
      (∀ m b, look m O' = some b → ∀ k, (γ' m).2 = some k → k ∈ blks γ ((n, .lp (lpRec fn tm ps asg bd dk none) g V0 pn) :: O) ∨ W.heap.size ≤ k) ∧ InjOk γ' O' ∧ (∀ m b, look m ((n, .lp (lpRec fn tm ps asg bd dk none) g V0 pn) :: O) = some b → isBoxB m b = true → γ' m = γ m) ∧ RndR n (lpRec fn tm ps asg bd dk) g V0 pn S St Jm Nx Sx o O' := by
    intro γ2 st2 V2 O2 j hr3 hsub hpin hno hR
    have hnl1 : l' ∉ blks γ1 st1.O := fun hm => by
     obtain ⟨m, b, hlk, hk⟩ := blks_look hm
     exact hnot1 m b hlk hk
    have hl2 : W2.heap[l']? = some (.loop { lpRec fn tm ps asg bd dk none with state := .busy }) := (hr3.below.block l' (heap_lt hl1') hnl1).trans hl1'
    obtain ⟨t1, t2, _, t4⟩ := side_obj (γ := γ2) (a := a2) hr3.sees hl2 (grownBy_putObj' W2 l' (.loop (lpRec fn tm ps asg bd dk j)))
    have hend := run_endRound (P := P) j hl2
    have hrec : ({ ({ lpRec fn tm ps asg bd dk none with state := .busy } : Loop) with state := if j.isNone then .ready else .done, pending := j } : Loop) = lpRec fn tm ps asg bd dk j := by cases j <;> rfl
    rw [hrec] at hend
    refine ⟨_, _, hend, ?_⟩
    have hl3 : (W2.putObj l' (.loop (lpRec fn tm ps asg bd dk j))).heap[l']? = some (.loop (lpRec fn tm ps asg bd dk j)) := World.putObj_heap_same (heap_lt hl2)
    have hsz3 : (W2.putObj l' (.loop (lpRec fn tm ps asg bd dk j))).heap.size = W2.heap.size := by simp
    have hos : (W2.putObj l' (.loop (lpRec fn tm ps asg bd dk j))).os = W2.os ∧ (W2.putObj l' (.loop (lpRec fn tm ps asg bd dk j))).tape = W2.tape ∧ (W2.putObj l' (.loop (lpRec fn tm ps asg bd dk j))).output = W2.output := ⟨rfl, rfl, rfl⟩
    have hos1 : W1'.os = W1.os ∧ W1'.tape = W1.tape ∧ W1'.output = W1.output := by rw [← hW1']; exact ⟨rfl, rfl, rfl⟩
    generalize W2.putObj l' (.loop (lpRec fn tm ps asg bd dk j)) = W3 at t1 t2 t4 hl3 hsz3 hos ⊢
    have okb : ∀ {k : Nat}, k ∈ blks γ1 st1.O → k ∈ blks γ O ∨ W.heap.size ≤ k := fun hk => by
     obtain ⟨m, b, hlk, hk⟩ := blks_look hk
     exact hr1.okb m b hlk _ hk
    have hs1 : W.heap.size ≤ W1'.heap.size := by rw [hsz1]; exact hr1.below.size
    have hnot2 : ∀ m b, look m st2.O = some b → (γ2 m).2 ≠ some l' := fun m b hm hk => by
     rcases hr3.okb m b hm l' hk with h1 | h1
     · exact hnl1 h1
     · exact absurd (heap_lt hl1') (Nat.not_lt.2 h1)
    have hpins : ∀ m ∈ pn, γ2 m = γ m := fun m hm => (hr3.pin m (memB_mem.1 (List.all_eq_true.1 hpin m hm))).trans (hr1.pin m (memB_mem.1 (List.all_eq_true.1 hpin1 m hm)))
    have hnpn : n ∉ pn := fun hm => by
     obtain ⟨e1, ad, e2⟩ := hpn n hm
     rw [← e1, hγ] at e2
     cases e2
    have hO2 : ∀ m b, look m ((n, .lp (lpRec fn tm ps asg bd dk j) g V0 pn) :: O2) = some b → (m = n ∧ b = .lp (lpRec fn tm ps asg bd dk j) g V0 pn) ∨ (m ≠ n ∧ look m O2 = some b) := fun m b hm => by
     by_cases e : m = n
     · subst e; rw [look_cons_eq] at hm; cases hm; exact .inl ⟨rfl, rfl⟩
     · rw [look_cons_ne (Ne.symm e)] at hm; exact .inr ⟨e, hm⟩
    obtain ⟨u1, u2⟩ := unknown_obj t1 hl3
    have hleV : V.Le V2 := hr1.fresh.le.trans hr3.fresh.le
    refine ⟨updG γ2 n (.func (.yield l') #[] #[], some l'), V2, .ret (.d (.bl j.isNone)), (n, .lp (lpRec fn tm ps asg bd dk j) g V0 pn) :: O2, Rep.bl _, ⟨?_, ?_, ?_, ?_, fun k hk hnk => ?_⟩, ⟨hleV, fun b o v hv => ?_, fun r x hx => ?_⟩, t1, fun m b hm => ?_, fun m b hm k hk => ?_, fun m m' b b' hm hm' hne k hk => ?_, fun m b hm hb => ?_, hR⟩
    · rw [hos.1, hr3.below.os, hos1.1, hr1.below.os]
    · rw [hos.2.1, hr3.below.tape, hos1.2.1, hr1.below.tape]
    · rw [hos.2.2, hr3.below.output, hos1.2.2, hr1.below.output]
    · rw [hsz3]; exact Nat.le_trans hs1 hr3.below.size
    · rw [hbl] at hnk
      have hne : k ≠ l' := fun e => hnk (.inl e)
      have hkO : k ∉ blks γ O := fun e => hnk (.inr e)
      have hk1 : k < W1.heap.size := Nat.lt_of_lt_of_le hk hr1.below.size
      have hk1' : k < W1'.heap.size := by rw [hsz1]; exact hk1
      rw [t4 k (Nat.lt_of_lt_of_le hk1' hr3.below.size) hne, hr3.below.block k hk1' (fun hm => (okb hm).elim hkO fun h => absurd hk (Nat.not_lt.2 h)), s4 k hk1 hne, hr1.below.block k hk hkO]
    · rcases hr3.fresh.cell b o v hv with h1 | h1 | h1
      · rcases hr1.fresh.cell b o v h1 with h2 | h2 | h2
        · exact .inl h2
        · exact .inr (.inl ((hbl b).2 (.inr h2)))
        · exact .inr (.inr h2)
      · exact .inr ((okb h1).imp (fun h => (hbl b).2 (.inr h)) id)
      · exact .inr (.inr (Nat.le_trans hs1 h1))
    · rcases hr3.fresh.obj r x hx with h1 | h1 | h1
      · rcases hr1.fresh.obj r x h1 with h2 | h2 | h2
        · exact .inl h2
        · exact .inr (.inl ((hbl r).2 (.inr h2)))
        · exact .inr (.inr h2)
      · exact .inr ((okb h1).imp (fun h => (hbl r).2 (.inr h)) id)
      · exact .inr (.inr (Nat.le_trans hs1 h1))
    · rcases hO2 m b hm with ⟨rfl, rfl⟩ | ⟨hne, hm⟩
      · rw [updG_same]
        refine ⟨⟨l', rfl, hl3, u1, u2⟩, hle.trans hleV, fun q hq => ⟨?_, (hpn q hq).2⟩⟩
        rw [updG_ne (fun e => hnpn (by rw [← e]; exact hq)), hpins q hq]
        exact (hpn q hq).1
      · rw [updG_ne hne]
        obtain ⟨y, hy, hyk⟩ := SubO_run hsub m b hm
        have hown3 : OwnOk γ2 V2 W3 st2.O := fun q c hq => t2 q c (hr3.own q c hq) (hnot2 q c hq)
        exact (SubK_run hown3 hyk (hown3 m y hy)).gamma (noment hno hm).2
    · rcases hO2 m b hm with ⟨rfl, rfl⟩ | ⟨hne, hm⟩
      · rw [updG_same] at hk
        cases hk
        exact .inl ((hbl l').2 (.inl rfl))
      · rw [updG_ne hne] at hk
        obtain ⟨y, hy, _⟩ := SubO_run hsub m b hm
        rcases hr3.okb m y hy k hk with h1 | h1
        · exact (okb h1).imp (fun h => (hbl k).2 (.inr h)) id
        · exact .inr (Nat.le_trans hs1 h1)
    · rcases hO2 m b hm with ⟨rfl, rfl⟩ | ⟨hnm, hm⟩
      · rw [updG_same] at hk
        cases hk
        rcases hO2 m' b' hm' with ⟨rfl, rfl⟩ | ⟨hnm', hm'⟩
        · exact absurd rfl hne
        · rw [updG_ne hnm']
          obtain ⟨y, hy, _⟩ := SubO_run hsub m' b' hm'
          exact hnot2 m' y hy
      · rw [updG_ne hnm] at hk
        obtain ⟨y, hy, _⟩ := SubO_run hsub m b hm
        rcases hO2 m' b' hm' with ⟨rfl, rfl⟩ | ⟨hnm', hm'⟩
        · rw [updG_same]
          intro e
          cases e
          exact hnot2 m y hy hk
        · rw [updG_ne hnm']
          obtain ⟨y', hy', _⟩ := SubO_run hsub m' b' hm'
          exact hr3.inj m m' y y' hy hy' hne k hk
    · by_cases e : m = n
      · subst e; rw [updG_same, hγ]
      · rw [look_cons_ne (Ne.symm e)] at hm
        rw [updG_ne e]
        exact hpins m (hbx m b hm hb)
   cases e with
   | normal =>
     obtain ⟨γ2, st2, V2, hr3, ⟨x', ⟨h1, h2⟩, h3⟩⟩ := hq
     exact fin none hr3 h1 h2 (hSn x') (.inl ⟨x', h3, rfl, rfl⟩)
   | ret =>
     obtain ⟨γ2, st2, V2, hr3, ⟨y, ⟨h1, h2⟩, h3, h4⟩⟩ := hq
     exact fin (some .ret) hr3 h1 h2 (hTn y) (.inr ⟨y, h4, rfl, by rw [h3]⟩)
   | exit k =>
     obtain ⟨γ2, st2, V2, hr3, ⟨y, ⟨h1, h2⟩, h3, h4⟩⟩ := hq
     exact fin (some (.exit k)) hr3 h1 h2 (hTn y) (.inr ⟨y, h4, rfl, by rw [h3]⟩)
   | panic c => obtain ⟨γ2, st2, V2, v, d, _, _, _, hk⟩ := hq; exact hk.elim
   | goto l => exact hq.elim
   | outgrown => exact hq.elim
 | ret => obtain ⟨_, _, _, _, hk⟩ := hq; exact hk.elim
 | exit k => obtain ⟨_, _, _, _, hk⟩ := hq; exact hk.elim
 | panic c => obtain ⟨_, _, _, _, _, _, _, _, hk⟩ := hq; exact hk.elim
 | goto l => exact hq.elim
 | outgrown => exact hq.elim
/-- a function value, as what it is called with ahead of the arguments and behind them -/
def fnB (b : Base) : Option (FuncId × List Base × List Base) :=
 match b with
 | .d (.fn F fs cs) => some (F, fs.map .d, cs.map .d)
 | .fn F fs cs => some (F, capBs fs, capBs cs)
 | _ => none
/-- the slots that speak of nothing but the boxes pn -/
noncomputable def keepL (pn : List Nat) : List Nat → List (Nat × Base) → (List (Nat × Base) → Prop) → Prop
 | _, [], k => k []
 | w, (t, b) :: r, k => match memB t w with
   | true => keepL pn w r k
   | false => match (keysOf b).all (fun m => memB m pn) with
     | true => keepL pn (t :: w) r fun l => k ((t, b) :: l)
     | false => keepL pn (t :: w) r k
theorem keepL_run {pn : List Nat} : ∀ (L : List (Nat × Base)) (w : List Nat) {k : List (Nat × Base) → Prop}, keepL pn w L k →
 ∃ Lb, k Lb ∧ ∀ t b, look t Lb = some b → t ∉ w ∧ look t L = some b ∧ ∀ m, ment m b = true → m ∈ pn := by
 intro L
 induction L with
 | nil => intro w k h; exact ⟨[], h, fun t b hl => by rw [look_nil] at hl; cases hl⟩
 | cons p L ih =>
   obtain ⟨t, b⟩ := p
   intro w k h
   simp only [keepL] at h
   split at h
   · rename_i hw
     obtain ⟨Lb, hk, hl⟩ := ih w h
     refine ⟨Lb, hk, fun s c hs => ?_⟩
     obtain ⟨h1, h2, h3⟩ := hl s c hs
     exact ⟨h1, by rw [look_cons_ne (fun e => h1 (by rw [← e]; exact memB_mem.1 hw))]; exact h2, h3⟩
   · rename_i hw
     have hnw : t ∉ w := fun hm => by rw [memB_mem.2 hm] at hw; cases hw
     split at h
     · rename_i hb
       obtain ⟨Lb, hk, hl⟩ := ih (t :: w) h
       refine ⟨_, hk, fun s c hs => ?_⟩
       by_cases e : t = s
       · subst e
         rw [look_cons_eq] at hs
         cases hs
         exact ⟨hnw, look_cons_eq .., fun m hm => memB_mem.1 (List.all_eq_true.1 hb m (keys_ment hm))⟩
       · rw [look_cons_ne e] at hs
         obtain ⟨h1, h2, h3⟩ := hl s c hs
         exact ⟨fun hm => h1 (List.mem_cons_of_mem _ hm), by rw [look_cons_ne e]; exact h2, h3⟩
     · obtain ⟨Lb, hk, hl⟩ := ih (t :: w) h
       refine ⟨Lb, hk, fun s c hs => ?_⟩
       obtain ⟨h1, h2, h3⟩ := hl s c hs
       exact ⟨fun hm => h1 (List.mem_cons_of_mem _ hm), by rw [look_cons_ne (fun e => h1 (by rw [e]; exact List.mem_cons_self ..))]; exact h2, h3⟩
theorem boxKeys_look : ∀ {l : List (Nat × Blk)} {m : Nat}, (l.map (·.1)).Nodup → (l.all fun e => match e.2 with | .lp _ _ _ _ => false | .sl _ => !Nat.ble 9000 e.1 | _ => true) = true → m ∈ boxKeys l → ∃ cells ty, look m l = some (.box cells ty) := by
 intro l
 induction l with
 | nil => intro m _ _ h; cases h
 | cons p l ih =>
   obtain ⟨t, b⟩ := p
   intro m hn ha h
   obtain ⟨h1, h2⟩ := List.nodup_cons.1 hn
   simp only [List.all_cons, Bool.and_eq_true] at ha
   have rest : m ∈ boxKeys l → ∃ cells ty, look m ((t, b) :: l) = some (.box cells ty) := fun h => by
    obtain ⟨cells, ty, hl⟩ := ih h2 ha.2 h
    have hne : t ≠ m := fun e => h1 (by subst e; exact List.mem_map.2 ⟨_, look_mem hl, rfl⟩)
    exact ⟨cells, ty, by rw [look_cons_ne hne]; exact hl⟩
   cases b with
   | box cells ty =>
     rcases List.mem_cons.1 h with rfl | h
     · exact ⟨cells, ty, look_cons_eq ..⟩
     · exact rest h
   | sl s =>
     have hf : Nat.ble 9000 t = false := by simpa using ha.1
     simp only [boxKeys, hf] at h
     exact rest h
   | mp l => exact rest h
   | pn g ns => exact rest h
   | lp r g V pn => cases ha.1
/-- what lies behind a loop over a function -/
def afterQ (Q : Post) (j : Code) (st : SSt) : Prop :=
 match j with
 | .ret => Q .ret st
 | .exit k => Q (.exit k) st
 | _ => False
/-- A LOOP OVER A FUNCTION. -/
theorem range_rule {P : Program} {T : List (Nat × TI)} {C : Cx} {st : SSt} {Q : Post} {X Y : Type} (hT : TOk P T) (cfA cfF : Cfg) (n : Nat) (S : X → List (Nat × Blk)) (St : Y → List (Nat × Blk)) (Jm : Y → Code) (A : X → List D → Prop) (Nx : X → List D → X → Prop) (Sx : X → List D → Y → Prop) (Fin : X → Prop) (x0 : X)
 {gop : Operand} {ps : Array Tmp} {asg bd : Code} {F : FuncId} {fn : Func} {c : Code} {N : Nat} {fs cs : List Base}
 (hC : C.round = none) (hm : C.m0 ≤ C.B0) (hb : getB st gop fun b => fnB b = some (F, fs, cs)) (hf : P.funcs[F]? = some fn) (hbd : fn.body = some c) (hnm : (fn.name == "runtime.NumGoroutine") = false) (hN : fn.ntmps = N) (hlen : (fs ++ (.own n :: cs)).length ≤ N)
 (hps : ps.toList.Nodup) (hpN : ∀ t ∈ ps.toList, t < C.N) (hsub : SubO st.O (S x0)) (hpin : (st.pins.all fun m => memB m (boxKeys (S x0))) = true) (hnd : ((S x0).map (·.1)).Nodup) (hno0 : ((S x0).all fun e => match e.2 with | .lp _ _ _ _ => false | .sl _ => !Nat.ble 9000 e.1 | _ => true) = true)
 (hSn : ∀ x, noMentO n (S x) = true) (hTn : ∀ y, noMentO n (St y) = true) (hSb : ∀ x, boxKeys (S x) = boxKeys (S x0)) (hcl : clearOf n st = true) (hfs : ((fs ++ cs).all fun b => (keysOf b).all fun m => memB m (boxKeys (S x0))) = true)
 (hA : ∀ x ds, A x ds → ps.toList.length = ds.length)
 (hF : ∀ (B0 : Nat) (W0 : World) (V0 : Know) (lent : List Nat) (g0 : Gm) (rc : Option Code → Loop) (g : Gm) (V1 : Know), (∀ x ds, A x ds → MeetsY P n ds ((n, .lp (rc none) g V1 (boxKeys (S x0))) :: S x) (RndR n rc g V1 (boxKeys (S x0)) S St Jm (Nx x ds) (Sx x ds))) →
   vcC P T ⟨B0, N, W0, V0, lent, g0, none, B0⟩ cfF c (retQR T cfF fn.results.toList ((n, .lp (rc none) g V1 (boxKeys (S x0))) :: S x0) (fun o O' => ∃ b, o = .ret b ∧ ((∃ x, Fin x ∧ O' = (n, .lp (rc none) g V1 (boxKeys (S x0))) :: S x) ∨ (∃ y, O' = (n, .lp (rc (some (Jm y))) g V1 (boxKeys (S x0))) :: St y))))
    ⟨argB 0 (fs ++ (.own n :: cs)), (n, .lp (rc none) g V1 (boxKeys (S x0))) :: S x0, n :: boxKeys (S x0)⟩)
 (h : keepL (boxKeys (S x0)) [] st.L fun Lb =>
   (∀ x ds, A x ds → ∀ (B0 : Nat) (W0 : World) (V0 : Know) (lent : List Nat) (g0 : Gm) (l m0 : Nat), vcC P T ⟨B0, C.N, W0, V0, lent, g0, some l, m0⟩ cfA asg (fun e st => match e with
     | .nrm => ((boxKeys (S x0)).all fun m => memB m st.pins) = true ∧ ∀ (B0 : Nat) (W0 : World) (V0 : Know) (lent : List Nat) (g0 : Gm) (l m0 : Nat), J P ⟨B0, C.N, W0, V0, lent, g0, some l, m0⟩ bd (bodyQ (boxKeys (S x0)) S St Jm (Nx x ds) (Sx x ds)) st
     | _ => False) ⟨zipL ps.toList ds ++ Lb, S x, boxKeys (S x0)⟩) ∧
   (∀ x, Fin x → Q .nrm ⟨Lb, S x, st.pins⟩) ∧ ∀ y, afterQ Q (Jm y) ⟨Lb, St y, st.pins⟩) : J P C (.rangeFunc gop ps asg bd) Q st := by
 obtain ⟨Lb, ⟨h1, h2, h3⟩, hLb⟩ := keepL_run _ _ h
 clear h
 refine ⟨fun γ V a W hr => ?_⟩
 obtain ⟨b, hb, hbv⟩ := getB_run hr.slots hb
 have hown0 : OwnOk γ V W (S x0) := fun m b hm => by
  obtain ⟨y, hy, hs⟩ := SubO_run hsub m b hm
  exact SubK_run hr.own hs (hr.own m y hy)
 have hokb0 : ∀ {k : Nat}, k ∈ blks γ (S x0) → Okb C k ∧ k < W.heap.size := fun hk => by
  obtain ⟨m, b, hlk, hk⟩ := blks_look hk
  obtain ⟨y, hy, _⟩ := SubO_run hsub m b hlk
  exact ⟨hr.okb m y hy _ hk, own_lt (hr.own m y hy) hk⟩
 have hptr : ∀ m ∈ boxKeys (S x0), ∃ ad, (γ m).1 = .pointer ad := fun m hm => by
  obtain ⟨cells, ty, hl⟩ := boxKeys_look hnd hno0 hm
  obtain ⟨blk, _, e, _⟩ := hown0 m _ hl
  exact ⟨_, by rw [e]⟩
 have hSn0 : ∀ m b, look m (S x0) = some b → m ≠ n ∧ mentBlk n b = false := fun m b hl => noment (hSn x0) hl
 -- the function's value
 obtain ⟨us, ws, hfv, hus, hws⟩ : ∃ us ws : List Value, a.eval gop = .func (.func F) ⟨us⟩ ⟨ws⟩ ∧ Vals γ V fs us ∧ Vals γ V cs ws := by
  unfold fnB at hb
  split at hb
  · cases hb
    generalize a.eval gop = fv at hbv
    cases hbv with
    | fn _ us ws _ _ hl1 hl2 g1 g2 => exact ⟨us, ws, rfl, vals_d ⟨hl1, g1⟩, vals_d ⟨hl2, g2⟩⟩
  · cases hb
    obtain ⟨us, ws, e, g1, g2⟩ := hbv
    exact ⟨us, ws, e, capBs_run g1, capBs_run g2⟩
  · cases hb
 show (Code.rangeFunc gop ps asg bd).wpIn (fen C) 0 P (LiftQ C Q) a W
 refine wpIn_rangeFunc fun f0 _ => ?_
 rw [show (fen C).round = none from hC]
 -- two blocks are laid: for what the rounds defer, and the record
 obtain ⟨W1, hW1⟩ : ∃ W1, (W.alloc (.deferred (some []))).alloc (.loop (lpRec f0 a.tmps ps asg bd W.heap.size none)) = W1 := ⟨_, rfl⟩
 have hsz1 : W1.heap.size = W.heap.size + 2 := by rw [← hW1, World.size_alloc, World.size_alloc]
 have hD1 : W1.heap[W.heap.size]? = some (.deferred (some [])) := by rw [← hW1]; exact (Below.heap_alloc _ _ _ (by simp)).trans (World.alloc_heap_new W _)
 have hl1 : W1.heap[W.heap.size + 1]? = some (.loop (lpRec f0 a.tmps ps asg bd W.heap.size none)) := by
  rw [← hW1]; have := World.alloc_heap_new (W.alloc (.deferred (some []))) (.loop (lpRec f0 a.tmps ps asg bd W.heap.size none)); rwa [World.size_alloc] at this
 have hgr : Grow V W V W1 := by
  have g1 := alloc_grow hr.sees (.deferred (some []))
  have g2 := alloc_grow g1.sees (.loop (lpRec f0 a.tmps ps asg bd W.heap.size none))
  rw [hW1] at g2
  exact ⟨g1.below.trans (g2.below.mono g1.below.size), .refl _ _ _, g2.sees⟩
 have hr1 := rel_grow hr hgr
 obtain ⟨u1, u2⟩ := unknown_obj hr1.sees hl1
 -- the iterator's own view
 have hγn : ∀ m, m ≠ n → updG γ n (.func (.yield (W.heap.size + 1)) #[] #[], some (W.heap.size + 1)) m = γ m := fun m h => updG_ne h
 have hnpn : n ∉ boxKeys (S x0) := fun hm => by
  obtain ⟨cells, ty, hl⟩ := boxKeys_look hnd hno0 hm
  exact (hSn0 n _ hl).1 rfl
 have hown1 : OwnOk (updG γ n (.func (.yield (W.heap.size + 1)) #[] #[], some (W.heap.size + 1))) V W1 ((n, .lp (lpRec f0 a.tmps ps asg bd W.heap.size none) γ V (boxKeys (S x0))) :: S x0) := fun m b hm => by
  by_cases e : m = n
  · subst e
    rw [look_cons_eq] at hm
    cases hm
    rw [updG_same]
    exact ⟨⟨_, rfl, hl1, u1, u2⟩, .refl V, fun q hq => ⟨hγn q (fun e => hnpn (e ▸ hq)), hptr q hq⟩⟩
  · rw [look_cons_ne (Ne.symm e)] at hm
    rw [updG_ne e]
    exact ((hown0 m b hm).keep (.refl V) (fun k hk => hgr.below.block k (own_lt (hown0 m b hm) hk)) (fun _ _ _ _ h => h) (fun _ _ _ h => h)).gamma (hSn0 m b hm).2
 have hinj1 : InjOk (updG γ n (.func (.yield (W.heap.size + 1)) #[] #[], some (W.heap.size + 1))) ((n, .lp (lpRec f0 a.tmps ps asg bd W.heap.size none) γ V (boxKeys (S x0))) :: S x0) := fun m m' b b' hm hm' hne k hk => by
  have lt : ∀ {q : Nat} {x : Blk}, look q (S x0) = some x → (γ q).2 ≠ some (W.heap.size + 1) := fun hq e => by have := own_lt (hown0 _ _ hq) e; omega
  by_cases e : m = n
  · subst e
    rw [updG_same] at hk
    cases hk
    rw [look_cons_ne hne] at hm'
    rw [updG_ne (Ne.symm hne)]
    exact lt hm'
  · rw [look_cons_ne (Ne.symm e)] at hm
    rw [updG_ne e] at hk
    by_cases e' : m' = n
    · subst e'
      rw [updG_same]
      intro h
      cases h
      exact lt hm hk
    · rw [look_cons_ne (Ne.symm e')] at hm'
      rw [updG_ne e']
      obtain ⟨y, hy, _⟩ := SubO_run hsub m b hm
      obtain ⟨y', hy', _⟩ := SubO_run hsub m' b' hm'
      exact hr.inj m m' y y' hy hy' hne k hk
 have hkeys : ∀ bs : List Base, (∀ b ∈ bs, b ∈ fs ++ cs) → ∀ xs, Vals γ V bs xs → Vals (updG γ n (.func (.yield (W.heap.size + 1)) #[] #[], some (W.heap.size + 1))) V bs xs := fun bs hbs xs hx =>
  ⟨hx.len, fun i b x hbi hxi => (hx.get i b x hbi hxi).congr fun m hm => by
   rw [hγn m (fun e => hnpn (by rw [← e]; exact memB_mem.1 (List.all_eq_true.1 (List.all_eq_true.1 hfs b (hbs b (List.mem_of_getElem? hbi))) m (keys_ment hm))))]⟩
 have hvals : Vals (updG γ n (.func (.yield (W.heap.size + 1)) #[] #[], some (W.heap.size + 1))) V (fs ++ (.own n :: cs)) (us ++ (.func (.yield (W.heap.size + 1)) #[] #[] :: ws)) :=
  All2.append (hkeys fs (fun b hb => List.mem_append.2 (.inl hb)) us hus) (.cons (by show _ = (updG γ n _ n).1; rw [updG_same]) (hkeys cs (fun b hb => List.mem_append.2 (.inr hb)) ws hws))
 have hcall := enterR_at hT cfF hf hbd hN hlen hr1.sees hvals hown1 hinj1 (hF _ _ _ _ _ (lpRec f0 a.tmps ps asg bd W.heap.size) γ V fun x ds hx =>
  round_meets hT hr.size (fun t b hl => hr.slots t b (hLb t b hl).2.1) (fun t b m hl hm => (hLb t b hl).2.2 m hm) hps (hA x ds hx) hpN (fun m b hl hb => by rw [← hSb x]; exact mem_boxKeys hb (look_mem hl)) (by
   cases hl : look n (S x) with
   | none => rfl
   | some b => exact absurd rfl (noment (hSn x) hl).1) hSn hTn (h1 x ds hx))
 refine ⟨W.heap.size + 1, [{ target := .collected W.heap.size, args := #[] }], W1, { target := .fn (.func F) ⟨ws⟩, args := ⟨us⟩ ++ #[.func (.yield (W.heap.size + 1)) #[] #[]] }, W1, F, (us ++ (.func (.yield (W.heap.size + 1)) #[] #[] :: ws)).toArray, W1, ?_, ?_, fun _ _ => trivial, ?_, fun h => (by cases h), ?_⟩
 · rw [← hW1]; exact run_enterLoop_outer _ _ _ _ _
 · simp only [resolve, hfv]
   simp [go_sem]
 · have : (⟨us⟩ ++ #[.func (.yield (W.heap.size + 1)) #[] #[]] ++ ⟨ws⟩ : Array Value) = (us ++ (.func (.yield (W.heap.size + 1)) #[] #[] :: ws)).toArray := by apply Array.toList_inj.1; simp
   simp only [invoke]
   rw [this]
   exact callFunc_run ⟨fn, c, hf, hbd, hnm⟩ _ W1
 refine CallsIn.mono (callsIn_fen (C := C) hcall) ?_
 rintro e W2 ⟨γ', V', o, O', hout, hbel, hfr, hsees, hres, hres2, hinj, hbox, b', rfl, hK⟩
 have hbl : ∀ {k : Nat}, k ∈ blks (updG γ n (.func (.yield (W.heap.size + 1)) #[] #[], some (W.heap.size + 1))) ((n, .lp (lpRec f0 a.tmps ps asg bd W.heap.size none) γ V (boxKeys (S x0))) :: S x0) → k = W.heap.size + 1 ∨ k ∈ blks γ (S x0) := fun hk => by
  obtain ⟨m, b, hlk, hk⟩ := blks_look hk
  by_cases e : m = n
  · subst e; rw [updG_same] at hk; cases hk; exact .inl rfl
  · rw [look_cons_ne (Ne.symm e)] at hlk
    rw [updG_ne e] at hk
    exact .inr (look_blks hlk hk)
 cases e with
 | panicked ch => exact hout.elim
 | outgrown => exact hout.elim
 | returned v =>
   -- whichever way the iterator has ended: the record's block, and what is left of the caller
   have fin : ∀ (j : Option Code) (Oe : List (Nat × Blk)), O' = (n, .lp (lpRec f0 a.tmps ps asg bd W.heap.size j) γ V (boxKeys (S x0))) :: Oe → noMentO n Oe = true →
    ∃ w4, (Instr.endLoop (W.heap.size + 1)).run P W2 = .ok j w4 ∧ Rel C γ' ⟨Lb, Oe, st.pins⟩ V' { a with defers := { target := .collected W.heap.size, args := #[] } :: a.defers } w4 := by
    rintro j Oe rfl hno
    obtain ⟨⟨l2, e2, hl2, _⟩, _, hpn2⟩ := hres n _ (look_cons_eq ..)
    have e3 := hbox n _ (look_cons_eq ..) rfl
    rw [updG_same, e2] at e3
    obtain rfl : l2 = W.heap.size + 1 := by simpa using congrArg Prod.snd e3
    clear e3
    have hO2 : ∀ m b, look m Oe = some b → m ≠ n ∧ look m ((n, .lp (lpRec f0 a.tmps ps asg bd W.heap.size j) γ V (boxKeys (S x0))) :: Oe) = some b := fun m b hm => by
     have hne := (noment hno hm).1
     exact ⟨hne, by rw [look_cons_ne (Ne.symm hne)]; exact hm⟩
    obtain ⟨t1, t2, _, t4⟩ := side_obj (γ := γ') (a := a) hsees hl2 (grownBy_putObj' W2 (W.heap.size + 1) (.loop { lpRec f0 a.tmps ps asg bd W.heap.size j with state := .exhausted }))
    have hend := run_endLoop (P := P) hl2 (by cases j <;> simp)
    refine ⟨_, hend, ?_⟩
    have hsz3 : (W2.putObj (W.heap.size + 1) (.loop { lpRec f0 a.tmps ps asg bd W.heap.size j with state := .exhausted })).heap.size = W2.heap.size := by simp
    have hos : (W2.putObj (W.heap.size + 1) (.loop { lpRec f0 a.tmps ps asg bd W.heap.size j with state := .exhausted })).os = W2.os ∧ (W2.putObj (W.heap.size + 1) (.loop { lpRec f0 a.tmps ps asg bd W.heap.size j with state := .exhausted })).tape = W2.tape ∧ (W2.putObj (W.heap.size + 1) (.loop { lpRec f0 a.tmps ps asg bd W.heap.size j with state := .exhausted })).output = W2.output := ⟨rfl, rfl, rfl⟩
    generalize W2.putObj (W.heap.size + 1) (.loop { lpRec f0 a.tmps ps asg bd W.heap.size j with state := .exhausted }) = W4 at t1 t2 t4 hsz3 hos ⊢
    have hszW : W.heap.size + 2 ≤ W2.heap.size := by rw [← hsz1]; exact hbel.size
    have okb : ∀ {k : Nat}, k ∈ blks (updG γ n (.func (.yield (W.heap.size + 1)) #[] #[], some (W.heap.size + 1))) ((n, .lp (lpRec f0 a.tmps ps asg bd W.heap.size none) γ V (boxKeys (S x0))) :: S x0) → Okb C k := fun hk => by
     rcases hbl hk with rfl | hk
     · exact .inr (Nat.le_succ_of_le hr.bsize)
     · exact (hokb0 hk).1
    have same : ∀ k, k < W.heap.size + 1 → k ∉ blks γ (S x0) → W4.heap[k]? = W1.heap[k]? := fun k hk hnk => by
     rw [t4 k (by omega) (by omega), hbel.block k (by omega) fun hm => (hbl hm).elim (fun e => by omega) hnk]
    have hnot : ∀ m b, look m Oe = some b → (γ' m).2 ≠ some (W.heap.size + 1) := fun m b hm hk => by
     obtain ⟨hne, hm⟩ := hO2 m b hm
     exact hinj m n _ _ hm (look_cons_eq ..) hne _ hk (by rw [e2])
    refine ⟨hr.size, ?_, fun t b hl => ?_, fun m b hm => t2 m b (hres m b (hO2 m b hm).2) (hnot m b hm), fun m b hm k hk => ?_, fun m m' b b' hm hm' => hinj m m' b b' (hO2 m b hm).2 (hO2 m' b' hm').2, fun m hm => ?_, t1, ?_, ?_, ?_⟩
    · obtain ⟨ks, k1, k2, k3⟩ := hr.defers
      have hlt : ∀ k ∈ ks, k < W.heap.size := fun k hk => heap_lt (k3 k hk).2
      refine ⟨W.heap.size :: ks, by simp [k1], List.nodup_cons.2 ⟨fun hk => Nat.lt_irrefl _ (hlt _ hk), k2⟩, fun k hk => ?_⟩
      rcases List.mem_cons.1 hk with rfl | hk
      · exact ⟨Nat.le_trans hm hr.bsize, (same _ (by omega) fun hk => Nat.lt_irrefl _ (hokb0 hk).2).trans hD1⟩
      · refine ⟨(k3 k hk).1, (same k (by have := hlt k hk; omega) fun hkm => ?_).trans ((hgr.below.block k (hlt k hk)).trans (k3 k hk).2)⟩
        obtain ⟨m, b, hlk, hk2⟩ := blks_look hkm
        exact own_notdef (hown0 m b hlk) hk2 (k3 k hk).2
    · obtain ⟨_, hl0, hmn⟩ := hLb t b hl
      refine ((hr.slots t b hl0).mono hfr.le).congr fun m hm => ?_
      have hmp := hmn m hm
      obtain ⟨cells, ty, hlm⟩ := boxKeys_look hnd hno0 hmp
      have hne := (hSn0 m _ hlm).1
      rw [hbox m _ (by rw [look_cons_ne (Ne.symm hne)]; exact hlm) rfl, hγn m hne]
    · rcases hres2 m b (hO2 m b hm).2 k hk with h | h
      · exact okb h
      · exact .inr (Nat.le_trans hr1.bsize h)
    · have hmp := memB_mem.1 (List.all_eq_true.1 hpin m hm)
      obtain ⟨cells, ty, hlm⟩ := boxKeys_look hnd hno0 hmp
      have hne := (hSn0 m _ hlm).1
      rw [hbox m _ (by rw [look_cons_ne (Ne.symm hne)]; exact hlm) rfl, hγn m hne]
      exact hr.pin m hm
    · exact hr1.fresh.trans hfr hr1.bsize fun k hk => okb hk
    · refine hr1.below.trans ⟨hos.1.trans hbel.os, hos.2.1.trans hbel.tape, hos.2.2.trans hbel.output, by rw [hsz3]; exact hbel.size, fun k hk hnl => ?_⟩
      have hkW : k < W.heap.size := Nat.lt_of_lt_of_le hk hr.bsize
      exact same k (by omega) fun hkm => (hokb0 hkm).1.elim hnl fun h => absurd hk (Nat.not_lt.2 h)
    · rw [hsz3]; exact Nat.le_trans hr1.bsize hbel.size
   rcases hK with ⟨x, hx, rfl⟩ | ⟨y, rfl⟩
   · obtain ⟨w4, he, hrel⟩ := fin none (S x) rfl (hSn x)
     exact ⟨none, w4, he, γ', _, V', hrel, h2 x hx⟩
   · obtain ⟨w4, he, hrel⟩ := fin (some (Jm y)) (St y) rfl (hTn y)
     refine ⟨some (Jm y), w4, he, ?_⟩
     have h3 := h3 y
     revert h3
     generalize Jm y = jm
     intro h3
     cases jm with
     | ret => exact wpIn_ret ⟨γ', _, V', hrel, h3⟩
     | exit k => exact wpIn_exit ⟨γ', _, V', hrel, h3⟩
     | _ => exact h3.elim
end Go.Proofs.YtacclfgmgphljaaGreat.Dx
/- Small laws for walks over data. -/
namespace Go.Proofs.YtacclfgmgphljaaGreat.Dx
open Go Go.RowKit
theorem getD_at {α : Type} {xs : List α} (f : α → List D) {i : Nat} (h : i < xs.length) {ds : List D} (hd : f xs[i] = ds) : (xs.map f)[((i : Nat) : Int).toNat]? = some ds := by
 rw [Int.toNat_natCast, List.getElem?_map, List.getElem?_eq_getElem h, Option.map_some, hd]
theorem str_at {s : List UInt8} {i : Nat} (h : i < s.length) : s[((i : Nat) : Int).toNat]? = some s[i] := by
 rw [Int.toNat_natCast, List.getElem?_eq_getElem h]
/-- truth values as propositions -/
theorem BB : (∀ (p : Prop) [Decidable p], (decide p = true) = p) ∧ (∀ (p : Prop) [Decidable p], (decide p = false) = ¬ p) ∧ (∀ b : Bool, ((!b) = true) = (b = false)) ∧ (∀ b : Bool, ((!b) = false) = (b = true)) ∧
 (∀ b : Bool, (¬ (b = true)) = (b = false)) ∧ (∀ b : Bool, (¬ (b = false)) = (b = true)) ∧ (∀ a b : Bool, ((a || b) = true) = (a = true ∨ b = true)) ∧ (∀ a b : Bool, ((a && b) = true) = (a = true ∧ b = true)) ∧
 (∀ a b : Bool, ((a || b) = false) = (a = false ∧ b = false)) ∧ (∀ a b : Bool, ((a && b) = false) = (a = true → b = false)) :=
 ⟨fun p _ => by simp, fun p _ => by simp, by decide, by decide, by decide, by decide, by decide, by decide, by decide, by decide⟩
theorem i64 {n : Int} (h0 : -9223372036854775808 ≤ n) (h1 : n ≤ 9223372036854775807) : inKind .i64 n := ⟨h0, h1⟩
/-! ### obligations that come again and again: what is left over is shown by the tactic in the argument's place -/
theorem Ka {H1 H2 C E : Prop} (e : E) (h : H1 → H2 → C := by (intro h1 h2; have := h1.1; have := h1.2; have := h2.1; have := h2.2; refine ⟨?_, ?_⟩ <;> ((try dsimp only at *); first | omega | (simp only [List.length_map] at *; omega)))) : (H1 → H2 → C) ∧ E := ⟨h, e⟩
theorem Kb {a b c d : Int} {E : Prop} (e : E) (h1 : a ≤ b := by ((try dsimp only at *); omega)) (h2 : c < d := by ((try dsimp only at *); omega)) : (a ≤ b ∧ c < d) ∧ E := ⟨⟨h1, h2⟩, e⟩
theorem Kc {α : Type} {xs : List α} {f : α → List D} {i n : Nat} {ds : List D} {E : List D → Prop} (h : i < xs.length := by ((try dsimp only at *); (try simp only [List.length_map] at *); omega)) (hd : f (xs[i]'h) = ds) (e : E ds)
 (hl : ds.length = n := by rfl) : ∃ ds, (0 ≤ (i : Int) ∧ (xs.map f)[((i : Nat) : Int).toNat]? = some ds ∧ ds.length = n) ∧ E ds :=
 ⟨ds, ⟨Int.natCast_nonneg _, getD_at f h hd, hl⟩, e⟩
theorem Kd {s : List UInt8} {i : Nat} {E : UInt8 → Prop} (h : i < s.length := by ((try dsimp only at *); (try simp only [List.length_map] at *); omega)) (e : E (s[i]'h)) : ∃ c, (0 ≤ (i : Int) ∧ s[((i : Nat) : Int).toNat]? = some c) ∧ E c :=
 ⟨s[i], ⟨Int.natCast_nonneg _, str_at h⟩, e⟩
theorem Z {C : Cx} {st : SSt} {c : Code} {Q : Post} (h : plainC c = true) (k : vcC Tryz.prog T C {} c Q st) : J Tryz.prog C c Q st := vcC_go tok {} h k
theorem Kl {n m : Nat} {O O' : List (Nat × Blk)} {E : Prop} (h : look n O = look m O') (e : E) : look n O = look m O' ∧ E := ⟨h, e⟩
theorem Kh {c d : Bool} {E F : Prop} (h : c = true → E) (k : d = false → F) : (c = true → E) ∧ (d = false → F) := ⟨h, k⟩
theorem Kr {E : Prop} (h : E := by repeat' (first | exact True.intro | exact rfl | refine And.intro ?_ ?_)) : E := h
theorem SL : (∀ (α β : Type) (f : α → β) (l : List α), (l.map f).length = l.length) ∧ maxLen = 2 ^ 63 - 1 := ⟨fun _ _ _ _ => List.length_map .., rfl⟩
theorem BL : ((∀ (p : Prop) [Decidable p], (decide p = true) = p) ∧ (∀ (p : Prop) [Decidable p], (decide p = false) = ¬ p) ∧ (∀ b : Bool, ((!b) = true) = (b = false)) ∧ (∀ b : Bool, ((!b) = false) = (b = true)) ∧
 (∀ b : Bool, (¬ (b = true)) = (b = false)) ∧ (∀ b : Bool, (¬ (b = false)) = (b = true)) ∧ (∀ a b : Bool, ((a || b) = true) = (a = true ∨ b = true)) ∧ (∀ a b : Bool, ((a && b) = true) = (a = true ∧ b = true)) ∧
 (∀ a b : Bool, ((a || b) = false) = (a = false ∧ b = false)) ∧ (∀ a b : Bool, ((a && b) = false) = (a = true → b = false))) ∧ ∀ (α β : Type) (f : α → β) (l : List α), (l.map f).length = l.length := ⟨BB, fun _ _ _ _ => List.length_map ..⟩
end Go.Proofs.YtacclfgmgphljaaGreat.Dx
