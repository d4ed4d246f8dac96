/- Decision trees as plain data, part A: trees, how they are read, the tree of a function of the variables. -/
import Derived.Test.YtacclfgmgphljaaGreatRp
import Derived.Test.YtacclfgmgphljaaGreatRm
import Derived.Test.YtacclfgmgphljaaGreatRj
import Derived.Test.YtacclfgmgphljaaGreatRl
set_option linter.all false
namespace Go.Proofs.YtacclfgmgphljaaGreat.Dx
open Go Go.RowKit
structure Node where
 var : Int
 n : Int
 yes : Int
 no : Int
 crit : List Int
deriving DecidableEq
abbrev Node.cells (x : Node) : List D := [iD x.var, iD x.n, iD x.yes, iD x.no, .sl (x.crit.map icells)]
abbrev Node.d (x : Node) : D := .agg x.cells
/-- a tree without indices -/
inductive Tr where
 | leaf (c : List Int)
 | node (v n : Int) (y o : Tr)
deriving DecidableEq
def Tr.var : Tr → Int | .leaf _ => 0 | .node v _ _ _ => v
def Tr.num : Tr → Int | .leaf _ => 0 | .node _ n _ _ => n
def Tr.no : Tr → Tr | .leaf c => .leaf c | .node _ _ _ o => o
def Tr.eval : Tr → Env → List Int
 | .leaf c, _ => c
 | .node v n y o, x => if n ≤ x.value v then y.eval x else o.eval x
/-- the tree over the values of one variable -/
def fold1 (v : Int) (g : Int → Tr) : List Int → Tr
 | [] => .leaf []
 | [a] => g a
 | a :: b :: r => if g a = g b then fold1 v g (b :: r) else .node v b (fold1 v g (b :: r)) (g a)
theorem fold1_congr {v : Int} {g g' : Int → Tr} : ∀ {l : List Int}, (∀ a ∈ l, g a = g' a) → fold1 v g l = fold1 v g' l
 | [], _ => rfl
 | [a], h => h a (by simp)
 | a :: b :: r, h => by
   rw [fold1, fold1, h a (by simp), h b (by simp), fold1_congr fun c hc => h c (List.mem_cons_of_mem _ hc)]
/-- k numbers from a on -/
def upto (a : Int) : Nat → List Int
 | 0 => []
 | k + 1 => a :: upto (a + 1) k
/-- what a tree over one variable looks like at its root -/
theorem fold1_head {v : Int} {g : Int → Tr} : ∀ {l : List Int} {a : Int}, (a :: l).Pairwise (· < ·) → fold1 v g (a :: l) = g a ∨ ∃ c t, c ∈ l ∧ a < c ∧ fold1 v g (a :: l) = .node v c t (g a)
 | [], a, _ => .inl rfl
 | b :: r, a, hp => by
   have h1 := (List.pairwise_cons.1 hp).1
   rw [fold1]
   split
   · rename_i hg
     rcases fold1_head (v := v) (g := g) (List.pairwise_cons.1 hp).2 with h | ⟨c, t, hc, hlt, h⟩
     · exact .inl (h.trans hg.symm)
     · exact .inr ⟨c, t, List.mem_cons_of_mem _ hc, h1 c (List.mem_cons_of_mem _ hc), by rw [h, hg]⟩
   · exact .inr ⟨b, _, by simp, h1 b (by simp), rfl⟩
/-! ### Valid trees -/
def Tr.most (v : Int) : Int := if v = 1 then 7 else if v = 2 then 4000 else 1
def Tr.okRoot : Tr → Prop
 | .leaf c => Crits c
 | .node v n y o => (1 ≤ v ∧ v ≤ 3) ∧ (0 < n ∧ n ≤ Tr.most v) ∧ y ≠ o ∧ (o.var = 0 ∨ v < o.var) ∧ (y.var = 0 ∨ v < y.var ∨ (y.var = v ∧ n < y.num ∧ y.no ≠ o))
def Tr.ok : Tr → Prop
 | .leaf c => Crits c
 | .node v n y o => Tr.okRoot (.node v n y o) ∧ y.ok ∧ o.ok
theorem fold1_ok {v : Int} {g : Int → Tr} (hv : 1 ≤ v ∧ v ≤ 3) : ∀ {l : List Int} {a : Int}, (a :: l).Pairwise (· < ·) → 0 ≤ a → (∀ b ∈ a :: l, b ≤ Tr.most v) → (∀ b ∈ a :: l, (g b).ok ∧ ((g b).var = 0 ∨ v < (g b).var)) →
 (fold1 v g (a :: l)).ok ∧ ((fold1 v g (a :: l)).var = 0 ∨ v ≤ (fold1 v g (a :: l)).var)
 | [], a, hp, ha, hm, hg => ⟨(hg a (by simp)).1, (hg a (by simp)).2.imp id fun h => by rw [fold1]; omega⟩
 | b :: r, a, hp, ha, hm, hg => by
   have h1 := (List.pairwise_cons.1 hp).1 b (by simp)
   have h2 := (List.pairwise_cons.1 hp).2
   obtain ⟨i1, i2⟩ := fold1_ok hv (g := g) h2 (by omega) (fun c hc => hm c (List.mem_cons_of_mem _ hc)) fun c hc => hg c (List.mem_cons_of_mem _ hc)
   have hga := hg a (by simp)
   have hgb := hg b (by simp)
   rw [fold1]
   split
   · exact ⟨i1, i2⟩
   · rename_i hne
     refine ⟨⟨⟨hv, ⟨by omega, hm b (by simp)⟩, ?_, hga.2, ?_⟩, i1, hga.1⟩, .inr (Int.le_refl _)⟩
     · rcases fold1_head (v := v) (g := g) h2 with h | ⟨c, t, hc, hlt, h⟩
       · rw [h]; exact fun e => hne e.symm
       · rw [h]
         intro e
         have h3 := hga.2
         rw [← e] at h3
         simp only [Tr.var] at h3
         omega
     · rcases fold1_head (v := v) (g := g) h2 with h | ⟨c, t, hc, hlt, h⟩
       · rw [h]
         rcases hgb.2 with h3 | h3
         · exact .inl h3
         · exact .inr (.inl h3)
       · rw [h]
         exact .inr (.inr ⟨rfl, hlt, fun e => hne e.symm⟩)
/-! ### The tree of a function of three variables -/
def tree3 (f : Env → List Int) (l1 l2 l3 : List Int) : Tr := fold1 1 (fun a => fold1 2 (fun b => fold1 3 (fun c => .leaf (f ⟨a, b, c⟩)) l3) l2) l1
/-- values that begin at 0, in order, at most the greatest one -/
structure Vals1 (v : Int) (l : List Int) : Prop where
 sorted : l.Pairwise (· < ·)
 zero : ∃ r, l = 0 :: r
 most : ∀ b ∈ l, b ≤ Tr.most v
theorem Vals1.ne {v : Int} {l : List Int} (h : Vals1 v l) : l ≠ [] := by obtain ⟨r, e⟩ := h.zero; rw [e]; simp
theorem Vals1.pos {v : Int} {l : List Int} (h : Vals1 v l) {b : Int} (hb : b ∈ l) : 0 ≤ b := by
 obtain ⟨r, e⟩ := h.zero
 have := h.sorted
 rw [e] at this hb
 rcases List.mem_cons.1 hb with rfl | hb
 · exact Int.le_refl _
 · exact Int.le_of_lt ((List.pairwise_cons.1 this).1 b hb)
theorem tree3_ok {f : Env → List Int} {l1 l2 l3 : List Int} (h1 : Vals1 1 l1) (h2 : Vals1 2 l2) (h3 : Vals1 3 l3) (hf : ∀ x : Env, x.good = true → Crits (f x)) : (tree3 f l1 l2 l3).ok := by
 have m1 := @Vals1.pos _ _ h1
 have m2 := @Vals1.pos _ _ h2
 have m3 := @Vals1.pos _ _ h3
 obtain ⟨r1, e1⟩ := h1.zero
 obtain ⟨r2, e2⟩ := h2.zero
 obtain ⟨r3, e3⟩ := h3.zero
 have s1 := h1.sorted; have s2 := h2.sorted; have s3 := h3.sorted
 have t1 := h1.most; have t2 := h2.most; have t3 := h3.most
 rw [e1] at s1 t1 m1; rw [e2] at s2 t2 m2; rw [e3] at s3 t3 m3
 rw [tree3, e1, e2, e3]
 have k3 : ∀ a b, a ∈ 0 :: r1 → b ∈ 0 :: r2 → (fold1 3 (fun c => Tr.leaf (f ⟨a, b, c⟩)) (0 :: r3)).ok ∧ ((fold1 3 (fun c => Tr.leaf (f ⟨a, b, c⟩)) (0 :: r3)).var = 0 ∨ 3 ≤ (fold1 3 (fun c => Tr.leaf (f ⟨a, b, c⟩)) (0 :: r3)).var) := by
  intro a b ha hb
  refine fold1_ok (v := 3) (by omega) s3 (by omega) t3 fun c hc => ⟨hf _ ?_, .inl rfl⟩
  have := t1 a ha; have := t2 b hb; have := t3 c hc
  have := m1 ha; have := m2 hb; have := m3 hc
  simp only [Tr.most] at *
  simp only [Env.good, inR, Bool.and_eq_true, decide_eq_true_eq]
  simp at *
  all_goals omega
 have k2 : ∀ a, a ∈ 0 :: r1 → (fold1 2 (fun b => fold1 3 (fun c => Tr.leaf (f ⟨a, b, c⟩)) (0 :: r3)) (0 :: r2)).ok ∧ ((fold1 2 (fun b => fold1 3 (fun c => Tr.leaf (f ⟨a, b, c⟩)) (0 :: r3)) (0 :: r2)).var = 0 ∨ 2 ≤ (fold1 2 (fun b => fold1 3 (fun c => Tr.leaf (f ⟨a, b, c⟩)) (0 :: r3)) (0 :: r2)).var) := by
  intro a ha
  exact fold1_ok (v := 2) (by omega) s2 (by omega) t2 fun b hb => ⟨(k3 a b ha hb).1, (k3 a b ha hb).2.imp id fun h => by omega⟩
 exact (fold1_ok (v := 1) (by omega) s1 (by omega) t1 fun a ha => ⟨(k2 a ha).1, (k2 a ha).2.imp id fun h => by omega⟩).1
theorem good_iff {x : Env} : x.good = true ↔ (0 ≤ x.distance ∧ x.distance ≤ 7) ∧ (0 ≤ x.field ∧ x.field ≤ 4000) ∧ 0 ≤ x.short ∧ x.short ≤ 1 := by
 simp only [Env.good, inR, Bool.and_eq_true, decide_eq_true_eq]
end Go.Proofs.YtacclfgmgphljaaGreat.Dx
/- Decision trees as plain data, part B: nodes with indices, the order in which they are visited, validity. -/
namespace Go.Proofs.YtacclfgmgphljaaGreat.Dx
open Go Go.RowKit
/-- node i of ns stands for a tree -/
inductive Den (ns : List Node) : Nat → Tr → Prop
 | leaf (i : Nat) (c : List Int) (h : ns[i]? = some ⟨0, 0, 0, 0, c⟩) : Den ns i (.leaf c)
 | node (i : Nat) (v n : Int) (y o : Nat) (s t : Tr) (h : ns[i]? = some ⟨v, n, (y : Int), (o : Int), []⟩) (hv : v ≠ 0) (hy : Den ns y s) (ho : Den ns o t) : Den ns i (.node v n s t)
theorem Den.lt {ns : List Node} {i : Nat} {t : Tr} (h : Den ns i t) : i < ns.length := by
 cases h with
 | leaf _ c h => exact (List.getElem?_eq_some_iff.1 h).1
 | node _ v n y o s t h => exact (List.getElem?_eq_some_iff.1 h).1
theorem Den.func {ns : List Node} {i : Nat} {t t' : Tr} (h : Den ns i t) (h' : Den ns i t') : t = t' := by
 induction h generalizing t' with
 | leaf i c h =>
   cases h' with
   | leaf _ c' h2 => rw [h] at h2; cases h2; rfl
   | node _ v n y o s t h2 hv => rw [h] at h2; cases h2; exact absurd rfl hv
 | node i v n y o s t h hv hy ho ihy iho =>
   cases h' with
   | leaf _ c' h2 => rw [h] at h2; cases h2; exact absurd rfl hv
   | node _ v' n' y' o' s' t' h2 hv' hy' ho' =>
     rw [h] at h2
     simp only [Option.some.injEq, Node.mk.injEq, Int.natCast_inj] at h2
     obtain ⟨rfl, rfl, rfl, rfl, _⟩ := h2
     rw [ihy hy', iho ho']
theorem Den.inj {ns : List Node} (hn : ns.Nodup) {t : Tr} : ∀ {i j : Nat}, Den ns i t → Den ns j t → i = j := by
 induction t with
 | leaf c =>
   intro i j h h'
   have hl := h.lt
   cases h with
   | leaf _ _ h => cases h' with
     | leaf _ _ h' => exact (List.getElem?_inj hl hn).1 (h.trans h'.symm)
 | node v n s t ihs iht =>
   intro i j h h'
   have hl := h.lt
   cases h with
   | node _ _ _ y o _ _ h hv hy ho => cases h' with
     | node _ _ _ y' o' _ _ h' hv' hy' ho' =>
       obtain rfl := ihs hy hy'
       obtain rfl := iht ho ho'
       exact (List.getElem?_inj hl hn).1 (h.trans h'.symm)
theorem Den.mono {ns ns' : List Node} (hp : ns <+: ns') {i : Nat} {t : Tr} (h : Den ns i t) : Den ns' i t := by
 obtain ⟨r, rfl⟩ := hp
 induction h with
 | leaf i c h => exact .leaf i c (by rw [List.getElem?_append_left (List.getElem?_eq_some_iff.1 h).1, h])
 | node i v n y o s t h hv _ _ ihy iho => exact .node i v n y o s t (by rw [List.getElem?_append_left (List.getElem?_eq_some_iff.1 h).1, h]) hv ihy iho
/-- the subtrees in the order in which they are met, behind others -/
def preT : Tr → List Tr → List Tr
 | .leaf c, met => if Tr.leaf c ∈ met then met else met ++ [Tr.leaf c]
 | .node v n y o, met => if Tr.node v n y o ∈ met then met else preT o (preT y (met ++ [Tr.node v n y o]))
def yesI (ns : List Node) (i : Nat) : Nat := match ns[i]? with | some x => x.yes.toNat | none => 0
def noI (ns : List Node) (i : Nat) : Nat := match ns[i]? with | some x => x.no.toNat | none => 0
/-- the same for indices -/
def preI (ns : List Node) : Tr → Nat → List Nat → List Nat
 | .leaf _, i, met => if i ∈ met then met else met ++ [i]
 | .node _ _ y o, i, met => if i ∈ met then met else preI ns o (noI ns i) (preI ns y (yesI ns i) (met ++ [i]))
structure Forest (ns : List Node) (d : Nat → Tr) : Prop where
 nodup : ns.Nodup
 den : ∀ i, i < ns.length → Den ns i (d i)
theorem Forest.inj {ns : List Node} {d : Nat → Tr} (hf : Forest ns d) {i j : Nat} (hi : i < ns.length) (hj : j < ns.length) (h : d i = d j) : i = j :=
 Den.inj hf.nodup (hf.den i hi) (h ▸ hf.den j hj)
theorem Forest.mem {ns : List Node} {d : Nat → Tr} (hf : Forest ns d) {i : Nat} (hi : i < ns.length) {met : List Nat} (hm : ∀ j ∈ met, j < ns.length) : i ∈ met ↔ d i ∈ met.map d := by
 constructor
 · exact fun h => List.mem_map_of_mem h
 · intro h
   obtain ⟨j, hj, e⟩ := List.mem_map.1 h
   rw [← hf.inj (hm j hj) hi e]
   exact hj
theorem preI_lt {ns : List Node} {t : Tr} : ∀ {i : Nat} {met : List Nat}, Den ns i t → (∀ j ∈ met, j < ns.length) → ∀ j ∈ preI ns t i met, j < ns.length := by
 induction t with
 | leaf c =>
   intro i met h hm j hj
   rw [preI] at hj
   split at hj
   · exact hm j hj
   · rcases List.mem_append.1 hj with hj | hj
     · exact hm j hj
     · rw [List.mem_singleton.1 hj]; exact h.lt
 | node v n s t ihs iht =>
   intro i met h hm j hj
   rw [preI] at hj
   split at hj
   · exact hm j hj
   · have hl := h.lt
     cases h with
     | node _ _ _ y o _ _ h hv hy ho =>
       have e1 : yesI ns i = y := by simp [yesI, h]
       have e2 : noI ns i = o := by simp [noI, h]
       rw [e1, e2] at hj
       refine iht ho (ihs hy fun k hk => ?_) j hj
       rcases List.mem_append.1 hk with hk | hk
       · exact hm k hk
       · rw [List.mem_singleton.1 hk]; exact hl
theorem pre_map {ns : List Node} {d : Nat → Tr} (hf : Forest ns d) {t : Tr} : ∀ {i : Nat} {met : List Nat}, Den ns i t → (∀ j ∈ met, j < ns.length) → (preI ns t i met).map d = preT t (met.map d) := by
 induction t with
 | leaf c =>
   intro i met h hm
   have hd : d i = Tr.leaf c := (hf.den i h.lt).func h
   have hmem := hf.mem h.lt hm
   rw [hd] at hmem
   rw [preI, preT]
   by_cases hi : i ∈ met
   · rw [if_pos hi, if_pos (hmem.1 hi)]
   · rw [if_neg hi, if_neg (fun h => hi (hmem.2 h)), List.map_append, List.map_cons, hd, List.map_nil]
 | node v n s t ihs iht =>
   intro i met h hm
   have hd : d i = Tr.node v n s t := (hf.den i h.lt).func h
   have hmem := hf.mem h.lt hm
   have hl := h.lt
   rw [hd] at hmem
   rw [preI, preT]
   by_cases hi : i ∈ met
   · rw [if_pos hi, if_pos (hmem.1 hi)]
   · rw [if_neg hi, if_neg (fun h => hi (hmem.2 h))]
     cases h with
     | node _ _ _ y o _ _ h hv hy ho =>
       have e1 : yesI ns i = y := by simp [yesI, h]
       have e2 : noI ns i = o := by simp [noI, h]
       have hm' : ∀ k ∈ met ++ [i], k < ns.length := by
        intro k hk
        rcases List.mem_append.1 hk with hk | hk
        · exact hm k hk
        · rw [List.mem_singleton.1 hk]; exact hl
       rw [e1, e2, iht ho (preI_lt hy hm'), ihs hy hm', List.map_append, List.map_cons, hd, List.map_nil]
theorem preT_prefix {t : Tr} : ∀ {met : List Tr}, met <+: preT t met := by
 induction t with
 | leaf c =>
   intro met
   rw [preT]
   split
   · exact List.prefix_refl _
   · exact List.prefix_append _ _
 | node v n s t ihs iht =>
   intro met
   rw [preT]
   split
   · exact List.prefix_refl _
   · exact (List.prefix_append _ _).trans (ihs.trans iht)
theorem preT_self (t : Tr) (met : List Tr) : t ∈ preT t met := by
 cases t with
 | leaf c =>
   rw [preT]
   split
   · assumption
   · simp
 | node v n s t =>
   rw [preT]
   split
   · assumption
   · exact preT_prefix.subset (preT_prefix.subset (by simp))
theorem preT_nodup {t : Tr} : ∀ {met : List Tr}, met.Nodup → (preT t met).Nodup := by
 have snoc : ∀ {met : List Tr} {x : Tr}, met.Nodup → x ∉ met → (met ++ [x]).Nodup := by
  intro met x h hx
  rw [List.nodup_append]
  exact ⟨h, by simp, fun a ha b hb => by rw [List.mem_singleton.1 hb]; exact fun e => hx (e ▸ ha)⟩
 induction t with
 | leaf c =>
   intro met h
   rw [preT]
   split
   · exact h
   · rename_i hx; exact snoc h hx
 | node v n s t ihs iht =>
   intro met h
   rw [preT]
   split
   · exact h
   · rename_i hx; exact iht (ihs (snoc h hx))
/-- whose children are there -/
def kids (L : List Tr) : Tr → Prop
 | .leaf _ => True
 | .node _ _ y o => y ∈ L ∧ o ∈ L
theorem kids.mono {L M : List Tr} (h : ∀ x ∈ L, x ∈ M) {t : Tr} (hk : kids L t) : kids M t := by
 cases t with
 | leaf => trivial
 | node => exact ⟨h _ hk.1, h _ hk.2⟩
theorem preT_kids {t : Tr} : ∀ {met : List Tr} {s : Tr}, s ∈ preT t met → s ∈ met ∨ kids (preT t met) s := by
 induction t with
 | leaf c =>
   intro met s hs
   rw [preT] at hs ⊢
   split at hs
   · exact .inl hs
   · rcases List.mem_append.1 hs with h | h
     · exact .inl h
     · rw [List.mem_singleton.1 h]; exact .inr trivial
 | node v n y o ihy iho =>
   intro met s hs
   rw [preT] at hs ⊢
   split at hs
   · exact .inl hs
   · rename_i hx
     rw [if_neg hx]
     rcases iho hs with h | h
     · rcases ihy h with h | h
       · rcases List.mem_append.1 h with h | h
         · exact .inl h
         · rw [List.mem_singleton.1 h]
           exact .inr ⟨preT_prefix.subset (preT_self y _), preT_self o _⟩
       · exact .inr (h.mono fun x hx => preT_prefix.subset hx)
     · exact .inr h
inductive Sub (s : Tr) : Tr → Prop
 | refl : Sub s s
 | yes {v n : Int} {y o : Tr} (h : Sub s y) : Sub s (.node v n y o)
 | no {v n : Int} {y o : Tr} (h : Sub s o) : Sub s (.node v n y o)
theorem preT_sub {t : Tr} : ∀ {met : List Tr} {s : Tr}, s ∈ preT t met → s ∈ met ∨ Sub s t := by
 induction t with
 | leaf c =>
   intro met s hs
   rw [preT] at hs
   split at hs
   · exact .inl hs
   · rcases List.mem_append.1 hs with h | h
     · exact .inl h
     · rw [List.mem_singleton.1 h]; exact .inr .refl
 | node v n y o ihy iho =>
   intro met s hs
   rw [preT] at hs
   split at hs
   · exact .inl hs
   · rcases iho hs with h | h
     · rcases ihy h with h | h
       · rcases List.mem_append.1 h with h | h
         · exact .inl h
         · rw [List.mem_singleton.1 h]; exact .inr .refl
       · exact .inr (.yes h)
     · exact .inr (.no h)
theorem Tr.ok_sub {s t : Tr} (h : Sub s t) (ht : t.ok) : s.ok := by
 induction h with
 | refl => exact ht
 | yes _ ih => exact ih ht.2.1
 | no _ ih => exact ih ht.2.2
def nodeOf (L : List Tr) : Tr → Node
 | .leaf c => ⟨0, 0, 0, 0, c⟩
 | .node v n y o => ⟨v, n, (L.idxOf y : Nat), (L.idxOf o : Nat), []⟩
/-- a tree as nodes -/
def serT (t : Tr) : List Node := (preT t []).map (nodeOf (preT t []))
theorem idxOf_get {L : List Tr} {t : Tr} (h : t ∈ L) : L[L.idxOf t]? = some t := by
 rw [List.getElem?_eq_getElem (List.idxOf_lt_length_of_mem h), List.getElem_idxOf]
theorem idxOf_inj' {L : List Tr} {s t : Tr} (hs : s ∈ L) (ht : t ∈ L) (h : L.idxOf s = L.idxOf t) : s = t := by
 have h1 := idxOf_get hs
 rw [h, idxOf_get ht] at h1
 simpa using h1.symm
theorem ser_kids {t s : Tr} (h : s ∈ preT t []) : kids (preT t []) s := by
 rcases preT_kids h with h | h
 · cases h
 · exact h
theorem ser_ok {t s : Tr} (ht : t.ok) (h : s ∈ preT t []) : s.ok := by
 rcases preT_sub h with h | h
 · cases h
 · exact Tr.ok_sub h ht
theorem ser_den {t : Tr} (ht : t.ok) {s : Tr} : s ∈ preT t [] → Den (serT t) ((preT t []).idxOf s) s := by
 induction s with
 | leaf c =>
   intro h
   refine .leaf _ c ?_
   rw [serT, List.getElem?_map, idxOf_get h]
   rfl
 | node v n y o ihy iho =>
   intro h
   obtain ⟨h1, h2⟩ := ser_kids h
   refine .node _ v n _ _ y o ?_ (by have := (ser_ok ht h).1.1; omega) (ihy h1) (iho h2)
   rw [serT, List.getElem?_map, idxOf_get h]
   rfl
theorem ser_head (t : Tr) : ∃ r, preT t [] = t :: r := by
 cases t with
 | leaf c => exact ⟨[], by simp [preT]⟩
 | node v n y o =>
   rw [preT, if_neg (by simp)]
   obtain ⟨r, h⟩ := (preT_prefix (t := y) (met := [] ++ [Tr.node v n y o])).trans (preT_prefix (t := o))
   exact ⟨r, h.symm⟩
theorem ser_root {t : Tr} (ht : t.ok) : Den (serT t) 0 t := by
 have h := ser_den ht (preT_self t [])
 obtain ⟨r, e⟩ := ser_head t
 have : (preT t []).idxOf t = 0 := by rw [e]; simp
 rw [this] at h
 exact h
theorem ser_len (t : Tr) : (serT t).length = (preT t []).length := by simp [serT]
theorem nodeOf_inj {L : List Tr} {s t : Tr} (hs : s.ok) (ht : t.ok) (ks : kids L s) (kt : kids L t) (h : nodeOf L s = nodeOf L t) : s = t := by
 cases s with
 | leaf c =>
   cases t with
   | leaf c' => simp only [nodeOf, Node.mk.injEq] at h; rw [h.2.2.2.2]
   | node v n y o => simp only [nodeOf, Node.mk.injEq] at h; have := ht.1.1; omega
 | node v n y o =>
   cases t with
   | leaf c' => simp only [nodeOf, Node.mk.injEq] at h; have := hs.1.1; omega
   | node v' n' y' o' =>
     simp only [nodeOf, Node.mk.injEq, Int.natCast_inj] at h
     rw [h.1, h.2.1, idxOf_inj' ks.1 kt.1 h.2.2.1, idxOf_inj' ks.2 kt.2 h.2.2.2.1]
theorem nodup_map' {α β : Type} {f : α → β} : ∀ {l : List α}, l.Nodup → (∀ x ∈ l, ∀ y ∈ l, f x = f y → x = y) → (l.map f).Nodup
 | [], _, _ => by simp
 | a :: l, h, hf => by
   rw [List.nodup_cons] at h
   rw [List.map_cons, List.nodup_cons]
   refine ⟨fun hm => ?_, nodup_map' h.2 fun x hx y hy => hf x (by simp [hx]) y (by simp [hy])⟩
   obtain ⟨b, hb, e⟩ := List.mem_map.1 hm
   rw [hf b (by simp [hb]) a (by simp) e] at hb
   exact h.1 hb
theorem ser_forest {t : Tr} (ht : t.ok) : Forest (serT t) fun i => (preT t []).getD i t := by
 refine ⟨nodup_map' (preT_nodup (by simp)) fun x hx y hy h => nodeOf_inj (ser_ok ht hx) (ser_ok ht hy) (ser_kids hx) (ser_kids hy) h, fun i hi => ?_⟩
 rw [ser_len] at hi
 have hm : (preT t []).getD i t ∈ preT t [] := by
  rw [List.getD_eq_getElem?_getD, List.getElem?_eq_getElem hi]
  exact List.getElem_mem hi
 have h := ser_den ht hm
 have e : (preT t []).idxOf ((preT t []).getD i t) = i := by
  rw [List.getD_eq_getElem?_getD, List.getElem?_eq_getElem hi, Option.getD_some]
  exact List.Nodup.idxOf_getElem (preT_nodup (by simp)) i hi
 rw [e] at h
 exact h
theorem idxOf_map {α β : Type} [BEq α] [LawfulBEq α] [BEq β] [LawfulBEq β] {f : α → β} {a : α} : ∀ {l : List α}, (∀ b ∈ l, f b = f a → b = a) → (l.map f).idxOf (f a) = l.idxOf a
 | [], _ => rfl
 | b :: l, h => by
   rw [List.map_cons, List.idxOf_cons, List.idxOf_cons, idxOf_map fun c hc => h c (by simp [hc])]
   by_cases hb : b = a
   · subst hb; simp
   · have : f b ≠ f a := fun e => hb (h b (by simp) e)
     rw [show (b == a) = false from by simpa using hb, show (f b == f a) = false from by simpa using this]
/-- a node with its children's places -/
def renum (order : List Nat) (x : Node) : Node := if x.var = 0 then x else { x with yes := (order.idxOf x.yes.toNat : Nat), no := (order.idxOf x.no.toNat : Nat) }
theorem preI_mem {ns : List Node} {t : Tr} {i : Nat} {d : Nat → Tr} (hf : Forest ns d) (h : Den ns i t) : ∀ j ∈ preI ns t i [], d j ∈ preT t [] := by
 intro j hj
 have := pre_map hf h (met := []) (by simp)
 rw [List.map_nil] at this
 rw [← this]
 exact List.mem_map_of_mem hj
theorem ser_of_forest {ns : List Node} {d : Nat → Tr} (hf : Forest ns d) {r : Nat} {t : Tr} (h : Den ns r t) :
 ((preI ns t r []).map fun i => renum (preI ns t r []) ((ns[i]?).getD ⟨0, 0, 0, 0, []⟩)) = serT t := by
 have hm := pre_map hf h (met := []) (by simp)
 rw [List.map_nil] at hm
 have hlt := preI_lt h (met := []) (by simp)
 generalize preI ns t r [] = order at hm hlt ⊢
 rw [serT, ← hm, List.map_map]
 refine List.map_congr_left fun i hi => ?_
 have hil := hlt i hi
 have hd := hf.den i hil
 simp only [Function.comp]
 generalize d i = s at hd
 have key : ∀ (j : Nat) (u : Tr), Den ns j u → (order.map d).idxOf u = order.idxOf j := by
  intro j u hu
  have : u = d j := hu.func (hf.den j hu.lt)
  rw [this]
  exact idxOf_map fun b hb e => hf.inj (hlt b hb) hu.lt e
 cases hd with
 | leaf _ c h1 => rw [h1]; simp [renum, nodeOf]
 | node _ v n y o s' t' h1 hv hy ho =>
   rw [h1]
   simp only [Option.getD_some, renum, if_neg hv, nodeOf, Int.toNat_natCast, key y s' hy, key o t' ho]
/-! ### Validity -/
def Inner (ns : List Node) (x : Node) : Prop :=
 (1 ≤ x.var ∧ x.var ≤ 3) ∧ x.crit = [] ∧ (0 < x.n ∧ x.n ≤ Tr.most x.var) ∧ x.yes ≠ x.no ∧
   ∃ y o : Node, (0 ≤ x.yes ∧ ns[x.yes.toNat]? = some y) ∧ (0 ≤ x.no ∧ ns[x.no.toNat]? = some o) ∧ (o.var = 0 ∨ x.var < o.var) ∧ (y.var = 0 ∨ x.var < y.var ∨ (y.var = x.var ∧ x.n < y.n ∧ y.no ≠ x.no))
def Leaf (x : Node) : Prop := Crits x.crit ∧ x.var = 0 ∧ x.n = 0 ∧ x.yes = 0 ∧ x.no = 0
def NodesOk (ns : List Node) : Prop := (∀ x ∈ ns, Leaf x ∨ Inner ns x) ∧ ns.Nodup
structure TreeOk (ns : List Node) : Prop where
 ne : ns ≠ []
 nodes : NodesOk ns
 order : ∃ t, Den ns 0 t ∧ preI ns t 0 [] = List.range ns.length
open Classical in
noncomputable def checkE (ns : List Node) : Int := if 4096 < ns.length then 2 else if TreeOk ns then 0 else 100
def rankN (x : Node) : Nat := if x.var = 0 then 0 else ((4 - x.var) * 5000 - x.n).toNat
theorem nodes_den {ns : List Node} (h : NodesOk ns) : ∀ (k i : Nat) (x : Node), ns[i]? = some x → rankN x < k → ∃ t, Den ns i t := by
 intro k
 induction k with
 | zero => intro i x _ h; omega
 | succ k ih =>
   intro i x hx hk
   rcases h.1 x (List.mem_of_getElem? hx) with ⟨_, h1, h2, h3, h4⟩ | ⟨h1, h2, h3, h4, y, o, ⟨hy0, hy⟩, ⟨ho0, ho⟩, h5, h6⟩
   · obtain ⟨v, n, a, b, c⟩ := x
     simp only at h1 h2 h3 h4
     subst h1 h2 h3 h4
     exact ⟨_, .leaf i c hx⟩
   · have most : ∀ v : Int, Tr.most v ≤ 4000 := by intro v; simp only [Tr.most]; split <;> (try split) <;> omega
     have hmv := most x.var
     have rank : ∀ z : Node, z ∈ ns → (z.var = 0 ∨ x.var < z.var ∨ (z.var = x.var ∧ x.n < z.n)) → rankN z < k := by
      intro z hz hc
      simp only [rankN] at hk ⊢
      rw [if_neg (by omega)] at hk
      split
      · omega
      · rename_i hz0
        rcases h.1 z hz with ⟨_, h1, _⟩ | ⟨q1, _, q3, _⟩
        · exact absurd h1 hz0
        · have := most z.var
          omega
     obtain ⟨s, hs⟩ := ih _ y hy (rank y (List.mem_of_getElem? hy) (h6.imp id (Or.imp id fun h => ⟨h.1, h.2.1⟩)))
     obtain ⟨t, ht⟩ := ih _ o ho (rank o (List.mem_of_getElem? ho) (h5.imp id .inl))
     obtain ⟨v, n, a, b, c⟩ := x
     simp only at h1 h2 h3 h4 hs ht hy0 ho0
     subst h2
     refine ⟨.node v n s t, .node i v n a.toNat b.toNat s t ?_ (by omega) hs ht⟩
     rw [hx, show ((a.toNat : Nat) : Int) = a from by omega, show ((b.toNat : Nat) : Int) = b from by omega]
theorem nodes_forest {ns : List Node} (h : NodesOk ns) : ∃ d, Forest ns d := by
 have : ∀ i, ∃ t, i < ns.length → Den ns i t := by
  intro i
  by_cases hi : i < ns.length
  · obtain ⟨t, ht⟩ := nodes_den h (rankN ns[i] + 1) i ns[i] (List.getElem?_eq_getElem hi) (by omega)
    exact ⟨t, fun _ => ht⟩
  · exact ⟨.leaf [], fun h => absurd h hi⟩
 exact ⟨fun i => Classical.choose (this i), h.2, fun i hi => Classical.choose_spec (this i) hi⟩
/-- the tree of a canonical tree's nodes is valid -/
theorem ser_check {t : Tr} (ht : t.ok) (hl : (preT t []).length ≤ 4096) : checkE (serT t) = 0 := by
 have hf := ser_forest ht
 have hnd := preT_nodup (t := t) (met := []) (by simp)
 rw [checkE, if_neg (by rw [ser_len]; omega), if_pos]
 refine ⟨?_, ⟨?_, hf.nodup⟩, t, ser_root ht, ?_⟩
 · obtain ⟨r, e⟩ := ser_head t
   simp [serT, e]
 · intro x hx
   rw [serT] at hx
   obtain ⟨s, hs, rfl⟩ := List.mem_map.1 hx
   have hok := ser_ok ht hs
   have hk := ser_kids hs
   cases s with
   | leaf c => exact .inl ⟨hok, rfl, rfl, rfl, rfl⟩
   | node v n y o =>
     obtain ⟨⟨h1, h2, h3, h4, h5⟩, hy, ho⟩ := hok
     have gy : (serT t)[(preT t []).idxOf y]? = some (nodeOf (preT t []) y) := by rw [serT, List.getElem?_map, idxOf_get hk.1]; rfl
     have go : (serT t)[(preT t []).idxOf o]? = some (nodeOf (preT t []) o) := by rw [serT, List.getElem?_map, idxOf_get hk.2]; rfl
     have vy : ∀ s : Tr, (nodeOf (preT t []) s).var = s.var ∧ (nodeOf (preT t []) s).n = s.num := fun s => by cases s <;> exact ⟨rfl, rfl⟩
     refine .inr ⟨h1, rfl, h2, fun e => h3 (idxOf_inj' hk.1 hk.2 (Int.ofNat_inj.1 e)), nodeOf (preT t []) y, nodeOf (preT t []) o, ⟨Int.natCast_nonneg _, gy⟩, ⟨Int.natCast_nonneg _, go⟩, ?_, ?_⟩
     · rw [(vy o).1]; exact h4
     · rw [(vy y).1, (vy y).2]
       rcases h5 with h | h | ⟨q1, q2, q3⟩
       · exact .inl h
       · exact .inr (.inl h)
       · refine .inr (.inr ⟨q1, q2, ?_⟩)
         cases y with
         | leaf c => simp only [Tr.var] at q1; omega
         | node v' n' y' o' =>
           simp only [nodeOf, ne_eq, Int.natCast_inj]
           intro e
           exact q3 (idxOf_inj' (ser_kids hk.1).2 hk.2 e)
 · have hm := pre_map hf (ser_root ht) (met := []) (by simp)
   rw [List.map_nil] at hm
   have hlt := preI_lt (ser_root ht) (met := []) (by simp)
   generalize preI (serT t) t 0 [] = order at hm hlt ⊢
   have hlen : order.length = (preT t []).length := by rw [← hm]; simp
   apply List.ext_getElem
   · rw [hlen, List.length_range, ser_len]
   · intro j h1 h2
     rw [List.getElem_range]
     have hlj := hlt _ (List.getElem_mem h1)
     rw [ser_len] at hlj
     have h3 : (order.map fun i => (preT t []).getD i t)[j]? = (preT t [])[j]? := by rw [hm]
     rw [List.getElem?_map, List.getElem?_eq_getElem h1, Option.map_some, List.getD_eq_getElem?_getD, List.getElem?_eq_getElem hlj, Option.getD_some, ← List.getElem?_eq_getElem hlj] at h3
     exact (List.getElem?_inj hlj hnd).1 h3
end Go.Proofs.YtacclfgmgphljaaGreat.Dx
/- Small laws: sections that meet again; what is returned reads otherwise. -/
namespace Go.Proofs.YtacclfgmgphljaaGreat.Dx
open Go Go.RowKit Go.Proofs
set_option maxRecDepth 100000
set_option maxHeartbeats 8000000
/-! scopes and labels -/
theorem stepR_scope {P : Program} {b : Frame} {a : Act} {k : List Item} {cs : List Frame} {w : World} {c : Code} : step P (lone (b.atR a (.code (.scope c) :: k)) cs w) = .next (lone (b.atR a (.code c :: .inScope c :: k)) cs w) :=
 step_lone_go (by simp [stepG, stepG.exec, Frame.atR])
theorem stepR_inScope {P : Program} {b : Frame} {a : Act} {k : List Item} {cs : List Frame} {w : World} {c : Code} : step P (lone (b.atR a (.inScope c :: k)) cs w) = .next (lone (b.atR a k) cs w) :=
 step_lone_go (by simp [stepG, stepG.exec, Frame.atR])
theorem wpIn_scope_straight {F : Fence} {n : Nat} {P : Program} {Q : Exit → Act → World → Prop} {a : Act} {w : World} {c : Code} (h : c.wpIn F n P (Exit.noGoto Q) a w) : (Code.scope c).wpIn F n P Q a w := by
 intro b k cs hro hb hr
 have h0 : (lone (b.atR a (.code (.scope c) :: k)) cs w).fenced P F := fenced_calm hb hr rfl
 obtain ⟨e, a₁, w₁, hq, harr⟩ := h b (.inScope c :: k) cs hro hb hr
 cases e with
 | normal => exact ⟨.normal, a₁, w₁, hq, .head h0 stepR_scope (StepsIn.trans harr (.one (fenced_calm hb hr rfl) stepR_inScope))⟩
 | exit id =>
   have hx : exitTo id (.inScope c :: k) = exitTo id k := by simp [exitTo]
   exact ⟨.exit id, a₁, w₁, hq, fun k' hk => .head h0 stepR_scope (harr.1 k' (by rw [hx]; exact hk)),
    fun hr' hk => let ⟨k₁, h1, h2⟩ := harr.2 hr' (by rw [hx]; exact hk); ⟨k₁, h1, .head h0 stepR_scope h2⟩⟩
 | goto l => exact hq.elim
 | ret => exact ⟨_, a₁, w₁, hq, .of_steps (.one h0 stepR_scope) harr⟩
 | panic ch => exact ⟨_, a₁, w₁, hq, .of_steps (.one h0 stepR_scope) harr⟩
 | outgrown => exact ⟨_, a₁, w₁, hq, .of_steps (.one h0 stepR_scope) harr⟩
theorem J_scope {P : Program} {C : Cx} {st : SSt} {x : Code} {Q : Post} (h : J P C x Q st) : J P C (.scope x) Q st := by
 refine ⟨fun γ V a W hr => wpIn_scope_straight (Go.wpIn_mono (h.run γ V a W hr) fun e a W hq => ?_)⟩
 cases e with
 | goto l => exact hq.elim
 | _ => exact hq
theorem J_label {P : Program} {C : Cx} {st : SSt} {l : Nat} {Q : Post} (h : Q .nrm st) : J P C (.label l) Q st :=
 ⟨fun γ V a W hr => wpIn_label ⟨γ, st, V, hr, h⟩⟩
end Go.Proofs.YtacclfgmgphljaaGreat.Dx
