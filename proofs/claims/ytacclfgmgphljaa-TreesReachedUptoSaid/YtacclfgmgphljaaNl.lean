/- Chapter 10: which environments lead through a node, and the first of them. -/
import Derived.Test.YtacclfgmgphljaaNc
import Derived.Test.YtacclfgmgphljaaNh
import Derived.Test.YtacclfgmgphljaaNj
set_option linter.all false
namespace Go.Proofs.Ytacclfgmgphljaa.Dx
open Go Go.RowKit
set_option maxRecDepth 100000
/-- the path of an environment goes through S -/
def thr (S : Tr) : Tr → Env → Bool
 | .leaf c, _ => decide (S = .leaf c)
 | .node v n y o, x => decide (S = .node v n y o) || (if n ≤ x.value v then thr S y x else thr S o x)
theorem thr_sub {S t : Tr} {x : Env} (h : thr S t x = true) : subT S t = true := by
 induction t with
 | leaf c => exact h
 | node v n y o ihy iho =>
   rw [thr, Bool.or_eq_true] at h
   rw [subT, Bool.or_eq_true, Bool.or_eq_true]
   rcases h with h | h
   · exact .inl h
   · split at h
     · exact .inr (.inl (ihy h))
     · exact .inr (.inr (iho h))
def lexLe (a b : Env) : Prop := a.distance < b.distance ∨ (a.distance = b.distance ∧ (a.field < b.field ∨ (a.field = b.field ∧ a.short ≤ b.short)))
def Tr.lvl : Tr → Int | .leaf _ => 4 | .node v _ _ _ => v
/-- an environment below all that go on from a tree -/
def Low (e : Env) : Tr → Prop
 | .leaf _ => True
 | .node v n _ _ => e.value v < n ∧ ∀ w, v < w → w ≤ 3 → e.value w = 0
theorem value_set {e : Env} {v n w : Int} (hv : 1 ≤ v ∧ v ≤ 3) (hw : 1 ≤ w ∧ w ≤ 3) : (e.set v n).value w = if w = v then n else e.value w := by
 rcases (by omega : v = 1 ∨ v = 2 ∨ v = 3) with rfl | rfl | rfl <;> rcases (by omega : w = 1 ∨ w = 2 ∨ w = 3) with rfl | rfl | rfl <;> rfl
theorem lvl_no {v n : Int} {y o : Tr} (h : (Tr.node v n y o).ok) : v < o.lvl := by
 obtain ⟨⟨h1, h2, h3, h4, h5⟩, hy, ho⟩ := h
 cases o with
 | leaf c => simp only [Tr.lvl]; omega
 | node v' n' y' o' => have := ho.1.1; simp only [Tr.var, Tr.lvl] at *; omega
theorem lvl_yes {v n : Int} {y o : Tr} (h : (Tr.node v n y o).ok) : v < y.lvl ∨ (y.lvl = v ∧ n < y.num) := by
 obtain ⟨⟨h1, h2, h3, h4, h5⟩, hy, ho⟩ := h
 cases y with
 | leaf c => simp only [Tr.lvl]; omega
 | node v' n' y' o' => have := hy.1.1; simp only [Tr.var, Tr.num, Tr.lvl] at *; omega
theorem low_no {e : Env} {v n : Int} {y o : Tr} (h : (Tr.node v n y o).ok) (he : Low e (.node v n y o)) : Low e o := by
 have hl := lvl_no h
 cases o with
 | leaf c => trivial
 | node v' n' y' o' =>
   have h1 := h.2.2.1
   simp only [Tr.lvl] at hl
   refine ⟨?_, fun w h2 h3 => he.2 w (by omega) h3⟩
   rw [he.2 v' hl h1.1.2]; exact h1.2.1.1
theorem low_yes {e : Env} {v n : Int} {y o : Tr} (h : (Tr.node v n y o).ok) (he : Low e (.node v n y o)) : Low (e.set v n) y := by
 have hl := lvl_yes h
 have hv := h.1.1
 cases y with
 | leaf c => trivial
 | node v' n' y' o' =>
   have h1 := h.2.1.1
   simp only [Tr.lvl, Tr.num] at hl
   refine ⟨?_, fun w h2 h3 => ?_⟩
   · rw [value_set hv h1.1]
     split
     · omega
     · rw [he.2 v' (by omega) h1.1.2]; exact h1.2.1.1
   · rw [value_set hv (by have := h1.1; omega), if_neg (by omega), he.2 w (by omega) h3]
theorem greedy_keep {S t : Tr} : ∀ {e : Env}, t.ok → Low e t → ∀ w, 1 ≤ w ∧ w ≤ 3 → (w < t.lvl → (greedy S t e).value w = e.value w) ∧ (w = t.lvl → e.value w ≤ (greedy S t e).value w) := by
 induction t with
 | leaf c => intro e _ _ w hw; exact ⟨fun _ => rfl, fun h => by simp only [Tr.lvl] at h; omega⟩
 | node v n y o ihy iho =>
   intro e hok hlow w hw
   rw [greedy]
   split
   · exact ⟨fun _ => rfl, fun _ => Int.le_refl _⟩
   · have hv := hok.1.1
     have ln := lvl_no hok
     have ly := lvl_yes hok
     split
     · have := iho hok.2.2 (low_no hok hlow) w hw
       simp only [Tr.lvl]
       exact ⟨fun h => this.1 (by omega), fun h => Int.le_of_eq (this.1 (by omega)).symm⟩
     · have := ihy hok.2.1 (low_yes hok hlow) w hw
       rw [value_set hv hw] at this
       simp only [Tr.lvl]
       refine ⟨fun h => ?_, fun h => ?_⟩
       · rw [this.1 (by omega), if_neg (by omega)]
       · subst h
         have hl := hlow.1
         rw [if_pos rfl] at this
         rcases ly with ly | ly
         · rw [this.1 ly]; omega
         · have := this.2 ly.1.symm; omega
/-- the way that is found leads there -/
theorem greedy_thr {S t : Tr} : ∀ {e : Env}, t.ok → Low e t → subT S t = true → thr S t (greedy S t e) = true := by
 induction t with
 | leaf c => intro e _ _ h; exact h
 | node v n y o ihy iho =>
   intro e hok hlow h
   have hv := hok.1.1
   have ln := lvl_no hok
   have ly := lvl_yes hok
   rw [subT, Bool.or_eq_true, Bool.or_eq_true] at h
   rw [thr, greedy]
   by_cases hs : S = .node v n y o
   · rw [if_pos hs, decide_eq_true hs, Bool.true_or]
   · rw [if_neg hs, decide_eq_false hs, Bool.false_or]
     by_cases ho : subT S o = true
     · rw [if_pos ho]
       have hk := (greedy_keep (S := S) hok.2.2 (low_no hok hlow) v hv).1 ln
       rw [if_neg (by rw [hk]; have := hlow.1; omega)]
       exact iho hok.2.2 (low_no hok hlow) ho
     · rw [if_neg ho]
       have hy : subT S y = true := by
        rcases h with h | h | h
        · exact absurd (of_decide_eq_true h) hs
        · exact h
        · exact absurd h ho
       have hk := greedy_keep (S := S) hok.2.1 (low_yes hok hlow) v hv
       rw [value_set hv hv, if_pos rfl] at hk
       rw [if_pos (by
        rcases ly with ly | ly
        · rw [hk.1 ly]; omega
        · exact hk.2 ly.1.symm)]
       exact ihy hok.2.1 (low_yes hok hlow) hy
theorem lex_keep {e r x : Env} {v : Int} (hv : 1 ≤ v ∧ v ≤ 3) (h : ∀ w, 1 ≤ w ∧ w ≤ 3 → w ≤ v → r.value w = e.value w) (he : lexLe e x) (hlt : e.value v < x.value v) : lexLe r x := by
 have h1 := h 1 (by decide) hv.1
 have h2 := h 2 (by decide)
 have h3 := h 3 (by decide)
 simp only [Env.value] at h1 h2 h3 hlt
 simp only [lexLe] at *
 rcases (by omega : v = 1 ∨ v = 2 ∨ v = 3) with rfl | rfl | rfl <;> simp at * <;> omega
theorem lex_set {e x : Env} {v n : Int} (hx : x.good = true) (hv : 1 ≤ v ∧ v ≤ 3) (hz : ∀ w, v < w → w ≤ 3 → e.value w = 0) (he : lexLe e x) (hlt : e.value v < n) (hn : n ≤ x.value v) : lexLe (e.set v n) x := by
 have hg := good_iff.1 hx
 have h2 := hz 2
 have h3 := hz 3
 simp only [Env.value] at h2 h3 hlt hn
 simp only [lexLe] at *
 rcases (by omega : v = 1 ∨ v = 2 ∨ v = 3) with rfl | rfl | rfl <;> simp [Env.set] at * <;> omega
/-- no other one that leads there comes before it -/
theorem greedy_first {S t : Tr} {x : Env} (hx : x.good = true) : ∀ {e : Env}, t.ok → Low e t → thr S t x = true → lexLe e x → lexLe (greedy S t e) x := by
 induction t with
 | leaf c => intro e _ _ _ h; exact h
 | node v n y o ihy iho =>
   intro e hok hlow h he
   have hv := hok.1.1
   have ln := lvl_no hok
   rw [thr, Bool.or_eq_true] at h
   rw [greedy]
   by_cases hs : S = .node v n y o
   · rw [if_pos hs]; exact he
   · rw [if_neg hs]
     rcases h with h | h
     · exact absurd (of_decide_eq_true h) hs
     by_cases ho : subT S o = true
     · rw [if_pos ho]
       by_cases hc : n ≤ x.value v
       · refine lex_keep hv (fun w hw hwv => (greedy_keep (S := S) hok.2.2 (low_no hok hlow) w hw).1 (by omega)) he (by have := hlow.1; omega)
       · rw [if_neg hc] at h
         exact iho hok.2.2 (low_no hok hlow) h he
     · rw [if_neg ho]
       by_cases hc : n ≤ x.value v
       · rw [if_pos hc] at h
         exact ihy hok.2.1 (low_yes hok hlow) h (lex_set hx hv hlow.2 he hlow.1 hc)
       · rw [if_neg hc] at h
         exact absurd (thr_sub h) ho
theorem eset_good {e : Env} {v n : Int} (he : e.good = true) (hv : 1 ≤ v ∧ v ≤ 3) (hn : 0 ≤ n ∧ n ≤ Tr.most v) : (e.set v n).good = true := by
 have hg := good_iff.1 he
 rw [good_iff]
 rcases (by omega : v = 1 ∨ v = 2 ∨ v = 3) with rfl | rfl | rfl <;> simp [Env.set, Tr.most] at * <;> omega
theorem greedy_good {S t : Tr} : ∀ {e : Env}, t.ok → e.good = true → (greedy S t e).good = true := by
 induction t with
 | leaf c => intro e _ h; exact h
 | node v n y o ihy iho =>
   intro e hok he
   rw [greedy]
   split
   · exact he
   · split
     · exact iho hok.2.2 he
     · exact ihy hok.2.1 (eset_good he hok.1.1 ⟨by have := hok.1.2.1; omega, hok.1.2.1.2⟩)
/-- its values are those with which the tree compares -/
theorem greedy_from {S t : Tr} : ∀ {e : Env}, t.ok → ∀ w, 1 ≤ w ∧ w ≤ 3 → (greedy S t e).value w = e.value w ∨ ∃ y o, Sub (.node w ((greedy S t e).value w) y o) t := by
 induction t with
 | leaf c => intro e _ w _; exact .inl rfl
 | node v n y o ihy iho =>
   intro e hok w hw
   rw [greedy]
   split
   · exact .inl rfl
   · split
     · rcases iho (e := e) hok.2.2 w hw with h | ⟨a, b, h⟩
       · exact .inl h
       · exact .inr ⟨a, b, .no h⟩
     · rcases ihy (e := e.set v n) hok.2.1 w hw with h | ⟨a, b, h⟩
       · rw [value_set hok.1.1 hw] at h
         by_cases hwv : w = v
         · rw [if_pos hwv] at h
           rw [h, hwv]
           exact .inr ⟨y, o, .refl⟩
         · rw [if_neg hwv] at h
           exact .inl h
       · exact .inr ⟨a, b, .yes h⟩
/-! ### paths -/
def pathI (ns : List Node) : Tr → Nat → Env → List Nat
 | .leaf _, i, _ => [i]
 | .node v n y o, i, x => i :: (if n ≤ x.value v then pathI ns y (yesI ns i) x else pathI ns o (noI ns i) x)
theorem pathI_sz {ns : List Node} {d : Nat → Tr} (hf : Forest ns d) {x : Env} {t : Tr} : ∀ {i : Nat}, Den ns i t → ∀ j ∈ pathI ns t i x, j < ns.length ∧ (d j).sz ≤ t.sz := by
 induction t with
 | leaf c =>
   intro i h j hj
   rw [pathI, List.mem_singleton] at hj
   subst hj
   exact ⟨h.lt, by rw [(hf.den j h.lt).func h]; exact Nat.le_refl _⟩
 | node v n y o ihy iho =>
   intro i h j hj
   have hd := (hf.den i h.lt).func h
   have hl := h.lt
   cases h with
   | node _ _ _ yi oi _ _ hg hv hy ho =>
     rw [pathI, show yesI ns i = yi from by simp [yesI, hg], show noI ns i = oi from by simp [noI, hg]] at hj
     rcases List.mem_cons.1 hj with rfl | hj
     · exact ⟨hl, by rw [hd]; exact Nat.le_refl _⟩
     · split at hj
       · have := ihy hy j hj; exact ⟨this.1, by simp only [Tr.sz]; omega⟩
       · have := iho ho j hj; exact ⟨this.1, by simp only [Tr.sz]; omega⟩
theorem pathI_nodup {ns : List Node} {d : Nat → Tr} (hf : Forest ns d) {x : Env} {t : Tr} : ∀ {i : Nat}, Den ns i t → (pathI ns t i x).Nodup := by
 induction t with
 | leaf c => intro i _; rw [pathI]; exact List.nodup_cons.2 ⟨by simp, by simp⟩
 | node v n y o ihy iho =>
   intro i h
   have hd := (hf.den i h.lt).func h
   cases h with
   | node _ _ _ yi oi _ _ hg hv hy ho =>
     rw [pathI, show yesI ns i = yi from by simp [yesI, hg], show noI ns i = oi from by simp [noI, hg], List.nodup_cons]
     have h1 := y.sz_pos
     have h2 := o.sz_pos
     split
     · refine ⟨fun hm => ?_, ihy hy⟩
       have := (pathI_sz hf hy i hm).2
       rw [hd] at this; simp only [Tr.sz] at this; omega
     · refine ⟨fun hm => ?_, iho ho⟩
       have := (pathI_sz hf ho i hm).2
       rw [hd] at this; simp only [Tr.sz] at this; omega
theorem pathI_len {ns : List Node} {d : Nat → Tr} (hf : Forest ns d) {x : Env} {t : Tr} {i : Nat} (h : Den ns i t) : (pathI ns t i x).length ≤ ns.length :=
 nodup_len (pathI_nodup hf h) fun j hj => (pathI_sz hf h j hj).1
theorem pathI_thr {ns : List Node} {d : Nat → Tr} (hf : Forest ns d) {x : Env} {j : Nat} (hj : j < ns.length) {t : Tr} : ∀ {i : Nat}, Den ns i t → (decide (j ∈ pathI ns t i x) = thr (d j) t x) := by
 induction t with
 | leaf c =>
   intro i h
   rw [pathI, thr]
   refine decide_eq_decide.2 ?_
   rw [List.mem_singleton, ← (hf.den i h.lt).func h]
   exact ⟨fun e => by rw [e], fun e => hf.inj hj h.lt e⟩
 | node v n y o ihy iho =>
   intro i h
   have hd := (hf.den i h.lt).func h
   have hl := h.lt
   cases h with
   | node _ _ _ yi oi _ _ hg hv hy ho =>
     rw [pathI, thr, show yesI ns i = yi from by simp [yesI, hg], show noI ns i = oi from by simp [noI, hg], ← hd]
     have e1 : (decide (d j = d i)) = decide (j = i) := decide_eq_decide.2 ⟨fun e => hf.inj hj hl e, fun e => by rw [e]⟩
     rw [e1]
     split
     · rw [← ihy hy]; simp
     · rw [← iho ho]; simp
theorem pathI_head {ns : List Node} {t : Tr} {i : Nat} {x : Env} : ∃ r, pathI ns t i x = i :: r := by
 cases t with
 | leaf c => exact ⟨[], rfl⟩
 | node v n y o => exact ⟨_, rfl⟩
end Go.Proofs.Ytacclfgmgphljaa.Dx
/- Chapter 10: when two rules have one tree; a negated choice, a repetition. -/
namespace Go.Proofs.Ytacclfgmgphljaa.Dx
open Go Go.RowKit
set_option maxRecDepth 100000
theorem ties_zero {l : List Step} : tiesE l = 0 ↔ l ≠ [] ∧ (∀ s ∈ l, s.valid = true) ∧ Step.deepL l ≤ 17 ∧ Step.dokL l = true ∧ Step.nstL l ≤ 64 ∧ Step.ncdL l ≤ 256 := by
 obtain ⟨k1, k2, k3, k4⟩ := F_S l
 unfold tiesE
 cases hf : fitsF (formsS l) 0 0 0 with
 | false =>
   refine ⟨fun h => by simp at h, fun ⟨h1, h2, h3, h4, h5, h6⟩ => ?_⟩
   exfalso
   simp only [fitsF, Bool.or_eq_false_iff, Bool.and_eq_false_iff, decide_eq_false_iff_not, k1, k2, k3, k4, h4] at hf
   rcases hf.2 with (hf | hf) | hf | hf
   · omega
   · exact absurd hf (by decide)
   · omega
   · omega
 | true =>
   simp only [fitsF, Bool.or_eq_true, Bool.and_eq_true, decide_eq_true_eq, k1, k2, k3, k4] at hf
   rw [if_pos rfl]
   constructor
   · intro h
     split at h
     · rename_i hv
       have hne : ¬ formsS l = [] := by simpa [formsS] using hv.1
       rcases hf with hf | hf
       · exact absurd hf hne
       · exact ⟨hv.1, List.all_eq_true.1 hv.2, by omega, hf.1.2, by omega, by omega⟩
     · cases h
   · rintro ⟨h1, h2, _⟩
     rw [if_pos ⟨h1, List.all_eq_true.2 h2⟩]
theorem ties_20 {l : List Step} (hne : l ≠ []) (hv : ∀ s ∈ l, s.valid = true) : tiesE l = 0 ∨ tiesE l = 2 := by
 unfold tiesE
 split
 · rw [if_pos ⟨hne, List.all_eq_true.2 hv⟩]; exact .inl rfl
 · exact .inr rfl
theorem valid_if {c : Cond} {l m : List Step} {b : Int} (h : (⟨2, b, c, l, m⟩ : Step).valid = true) : c.valid = true ∧ (∀ s ∈ l, s.valid = true) ∧ ∀ s ∈ m, s.valid = true := by
 simp only [Step.valid, show ¬ ((2 : Int) = 1) from by decide, if_false, if_true, Bool.and_eq_true, decide_eq_true_eq, Step.validL_eq] at h
 exact ⟨h.2.1, List.all_eq_true.1 h.2.2.2.1, List.all_eq_true.1 h.2.2.2.2⟩
theorem ties_if {c : Cond} {l m : List Step} {b : Int} (h : tiesE [⟨2, b, c, l, m⟩] = 0) (hl : l ≠ []) : tiesE l = 0 := by
 obtain ⟨_, h2, h3, h4, h5, h6⟩ := ties_zero.1 h
 have hv := valid_if (h2 ⟨2, b, c, l, m⟩ (by simp))
 rw [ties_zero]
 simp only [Step.deepL, Step.deep, Step.dokL, Step.dok, Step.nstL, Step.nst, Step.ncdL, Step.ncd, Bool.and_eq_true] at h3 h4 h5 h6
 exact ⟨hl, hv.2.1, by omega, h4.1.2.1, by omega, by omega⟩
/-- a function of the environment that is the same over the values is the same -/
theorem treeL_over {l m : List Step} (h : tiesE l = 0) (h' : tiesE m = 0) :
 treeL l = treeL m ↔ ∀ a ∈ valsL (l ++ m) 1, ∀ b ∈ valsL (l ++ m) 2, ∀ c ∈ valsL (l ++ m) 3, Step.appL ⟨a, b, c⟩ l [] = Step.appL ⟨a, b, c⟩ m [] := by
 have k1 := valsL_ok (l ++ m) (v := 1) (by decide)
 have k2 := valsL_ok (l ++ m) (v := 2) (by decide)
 have k3 := valsL_ok (l ++ m) (v := 3) (by decide)
 have in1 : ∀ v, ∀ n ∈ l.flatMap (Step.nums v), n ∈ valsL (l ++ m) v := fun v n hn => mem_valsL (by rw [List.flatMap_append]; exact List.mem_append_left _ hn)
 have in2 : ∀ v, ∀ n ∈ m.flatMap (Step.nums v), n ∈ valsL (l ++ m) v := fun v n hn => mem_valsL (by rw [List.flatMap_append]; exact List.mem_append_right _ hn)
 rw [treeL_eq h h']
 constructor
 · intro hx a ha b hb c hc
   exact hx _ (good_iff.2 ⟨⟨k1.pos ha, k1.most a ha⟩, ⟨k2.pos hb, k2.most b hb⟩, k3.pos hc, k3.most c hc⟩)
 · intro hx x hg
   refine (fits_of (ties_ok h).1 k1 k2 k3 (in1 1) (in1 2) (in1 3) x hg).trans (Eq.trans ?_ (fits_of (ties_ok h').1 k1 k2 k3 (in2 1) (in2 2) (in2 3) x hg).symm)
   exact hx _ (lastLe_mem _ _ k1.ne) _ (lastLe_mem _ _ k2.ne) _ (lastLe_mem _ _ k3.ne)
theorem compile_eq {l m : List Step} (h : (compileE l).2 = 0) (h' : (compileE m).2 = 0) : (compileE l).1 = (compileE m).1 ↔ treeL l = treeL m := by
 obtain ⟨h1, _, h3⟩ := compile_ok h
 obtain ⟨k1, _, k3⟩ := compile_ok h'
 rw [h3, k3]
 exact ⟨fun e => serT_inj (treeL_ok h1) (treeL_ok k1) e, fun e => by rw [e]⟩
/-- a negated choice -/
theorem app_not (x : Env) (c : Cond) (l m : List Step) : Step.appL x [⟨2, 0, c, l, m⟩] [] = Step.appL x [⟨2, 0, ⟨4, 0, 0, [c]⟩, m, l⟩] [] := by
 simp only [Step.appL, Step.app, if_true]
 have : (⟨4, 0, 0, [c]⟩ : Cond).holds x = !c.holds x := by rw [holds_eq]; rfl
 rw [this]
 cases c.holds x <;> rfl
theorem app_twice (x : Env) (l : List Step) : Step.appL x (l ++ l) [] = Step.appL x l [] := by
 rw [appL_append, appL_after]
 have : (Step.appL x l []).filter (fun y => !hasI (Step.appL x l []) y) = [] := by
  rw [List.filter_eq_nil_iff]
  intro y hy
  rw [hasI_iff.2 hy]; decide
 rw [this, List.append_nil]
/-! ### how large a tree is -/
theorem fold1_sz {v : Int} {g : Int → Tr} {k : Nat} : ∀ {l : List Int}, (∀ a ∈ l, (g a).sz ≤ k) → (fold1 v g l).sz ≤ l.length * (k + 1) + 1
 | [], _ => by simp [fold1, Tr.sz]
 | [a], h => by have := h a (by simp); simp only [fold1, List.length_cons, List.length_nil]; omega
 | a :: b :: r, h => by
   have h1 := h a (by simp)
   have ih := fold1_sz (v := v) (g := g) (k := k) (l := b :: r) fun c hc => h c (List.mem_cons_of_mem _ hc)
   have e : (a :: b :: r).length * (k + 1) = (b :: r).length * (k + 1) + (k + 1) := by simp only [List.length_cons]; rw [Nat.succ_mul]
   rw [fold1, e]
   split
   · omega
   · simp only [Tr.sz]; omega
theorem tree3_sz {f : Env → List Int} {l1 l2 l3 : List Int} : (tree3 f l1 l2 l3).sz ≤ l1.length * (l2.length * (l3.length * 2 + 2) + 2) + 1 :=
 fold1_sz fun _ _ => fold1_sz fun _ _ => fold1_sz (k := 1) fun _ _ => Nat.le_refl _
theorem preT_sz {t : Tr} : ∀ {met : List Tr}, (preT t met).length ≤ met.length + t.sz := by
 induction t with
 | leaf c =>
   intro met
   rw [preT]
   split
   · simp only [Tr.sz]; omega
   · rw [List.length_append, List.length_singleton]; exact Nat.le_refl _
 | node v n y o ihy iho =>
   intro met
   rw [preT]
   split
   · omega
   · have h1 := ihy (met := met ++ [.node v n y o])
     have h2 := iho (met := preT y (met ++ [.node v n y o]))
     rw [List.length_append, List.length_singleton] at h1
     simp only [Tr.sz]; omega
theorem nodup_sub : ∀ {l m : List Int}, l.Nodup → (∀ x ∈ l, x ∈ m) → l.length ≤ m.length
 | [], _, _, _ => Nat.zero_le _
 | a :: l, m, h, hs => by
   rw [List.nodup_cons] at h
   have h1 := nodup_sub (l := l) (m := m.erase a) h.2 fun x hx => (List.mem_erase_of_ne (fun e : x = a => h.1 (by rw [← e]; exact hx))).2 (hs x (List.mem_cons_of_mem _ hx))
   have h2 := List.length_erase_of_mem (hs a (by simp))
   have h3 := List.length_pos_of_mem (hs a (by simp))
   rw [List.length_cons]; omega
theorem valsL_sub {l m : List Step} (h : ∀ s ∈ l, s ∈ m) (v : Int) : (valsL l v).length ≤ (valsL m v).length := by
 refine nodup_sub ((vals1_spec _).1.imp fun h => by omega) fun x hx => ?_
 have h1 := ((vals1_spec _).2 x).1 hx
 refine ((vals1_spec _).2 x).2 ?_
 rcases List.mem_append.1 h1 with h1 | h1
 · obtain ⟨s, hs, hx⟩ := List.mem_flatMap.1 h1
   exact List.mem_append_left _ (List.mem_flatMap.2 ⟨s, h s hs, hx⟩)
 · exact List.mem_append_right _ h1
/-- few values: the tree is not too large -/
theorem few_tree {l m : List Step} (h : ∀ s ∈ l, s ∈ m) (hf : (valsL m 1).length * (valsL m 2).length * (valsL m 3).length ≤ 300) : (preT (treeL l) []).length ≤ 4096 := by
 have hs := preT_sz (t := treeL l) (met := [])
 have ht := tree3_sz (f := fun x => Step.appL x l []) (l1 := valsL l 1) (l2 := valsL l 2) (l3 := valsL l 3)
 have e1 := valsL_sub h 1
 have e2 := valsL_sub h 2
 have e3 := valsL_sub h 3
 have p1 := List.length_pos_iff.2 (valsL_ok m (v := 1) (by decide)).ne
 have p2 := List.length_pos_iff.2 (valsL_ok m (v := 2) (by decide)).ne
 have p3 := List.length_pos_iff.2 (valsL_ok m (v := 3) (by decide)).ne
 rw [← treeL] at ht
 simp only [List.length_nil] at hs
 generalize (valsL m 1).length = A at *
 generalize (valsL m 2).length = B at *
 generalize (valsL m 3).length = C at *
 have b1 : (valsL l 2).length * ((valsL l 3).length * 2 + 2) + 2 ≤ B * (C * 2 + 2) + 2 := Nat.add_le_add_right (Nat.mul_le_mul e2 (by omega)) _
 have b2 := Nat.mul_le_mul e1 b1
 have b3 : B * (C * 2 + 2) + 2 ≤ 6 * (B * C) := by
  have : 1 ≤ B * C := Nat.mul_pos p2 p3
  have : B ≤ B * C := Nat.le_mul_of_pos_right _ p3
  rw [Nat.mul_add, ← Nat.mul_assoc]; omega
 have b4 := Nat.mul_le_mul_left A b3
 have b5 : A * (6 * (B * C)) = 6 * (A * B * C) := by rw [Nat.mul_left_comm, Nat.mul_assoc]
 omega
theorem ties_less {l : List Step} (h : tiesE l = 0) (hf : (preT (treeL l) []).length ≤ 4096) : (compileE l).2 = 0 := by
 rw [compileE, if_pos h, if_pos hf]
/-- the second part of the law of rewritten rules -/
theorem rewritten_two {c : Cond} {l m X : List Step} (h : (compileE [⟨2, 0, c, l, m⟩]).2 = 0) (hl : l ≠ []) (hX : ∀ s ∈ l, s ∈ X)
 (hf : (valsL X 1).length * (valsL X 2).length * (valsL X 3).length ≤ 300) :
 (compileE l).2 = 0 ∧ ((compileE (l ++ l)).2 = 2 ∨ ((compileE (l ++ l)).2 = 0 ∧ (compileE l).1 = (compileE (l ++ l)).1)) := by
 have h1 := ties_if (compile_ok h).1 hl
 have h2 := ties_less h1 (few_tree hX hf)
 refine ⟨h2, ?_⟩
 by_cases h3 : (compileE (l ++ l)).2 = 0
 · refine .inr ⟨h3, ?_⟩
   rw [compile_eq h2 h3, treeL_eq h1 (compile_ok h3).1]
   intro x _
   exact (app_twice x l).symm
 · rcases (compile_bad h3).2 with h4 | h4
   · have := ties_20 (l := l ++ l) (by simpa using hl) fun s hs => (ties_ok h1).1 s (by simpa using hs)
     rcases this with h5 | h5
     · rw [h5] at h4; exact absurd h4 h3
     · rw [h5] at h4; exact .inl h4
   · exact .inl h4
theorem rewritten_one {c : Cond} {l m : List Step} (h : (compileE [⟨2, 0, c, l, m⟩]).2 = 0) (h' : (compileE [⟨2, 0, ⟨4, 0, 0, [c]⟩, m, l⟩]).2 = 0) :
 (compileE [⟨2, 0, c, l, m⟩]).1 = (compileE [⟨2, 0, ⟨4, 0, 0, [c]⟩, m, l⟩]).1 := by
 rw [compile_eq h h', treeL_eq (compile_ok h).1 (compile_ok h').1]
 exact fun x _ => app_not x c l m
end Go.Proofs.Ytacclfgmgphljaa.Dx
