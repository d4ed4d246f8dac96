/- A private row of one's own is lent to a function over data: it comes back private. -/
import Derived.Test.YteckbkljaneppaaGreatDoorMi
set_option linter.all false
namespace Go.Proofs.YteckbkljaneppaaGreatDoor.Dx
open Go Go.RowKit
set_option maxHeartbeats 1000000
def clash (d e : D) : Bool :=
 match d, e with
 | .v (.int k a), .v (.int k' b) => !decide (a = b)
 | .v (.int _ _), .str _ => true
 | .v (.int _ _), .sl _ => true
 | .str _, .v (.int _ _) => true
 | .str s, .str t => !decide (s = t)
 | .str _, .sl _ => true
 | .sl _, .v (.int _ _) => true
 | .sl _, .str _ => true
 | _, _ => false
theorem sl_val {V : Know} {x : Value} {xs : List (List D)} (h : Rep V x (.sl xs)) : ∃ a n c, x = .slice a n c := by
 cases h
 · exact ⟨_, _, _, rfl⟩
 · exact ⟨_, _, _, rfl⟩
 · exact ⟨_, _, _, rfl⟩
theorem clash_run {V : Know} {u : Value} {d e : D} (h : clash d e = true) (h1 : Rep V u d) (h2 : Rep V u e) : False := by
 unfold clash at h
 split at h
 · have e1 := h1.v_inv.1
   have e2 := h2.v_inv.1
   rw [e1] at e2
   cases e2
   simp at h
 · rw [h1.v_inv.1] at h2; have := h2.str_inv.1; cases this
 · rw [h1.v_inv.1] at h2; obtain ⟨_, _, _, e⟩ := sl_val h2; cases e
 · rw [h2.v_inv.1] at h1; have := h1.str_inv.1; cases this
 · have e1 := h1.str_inv.1
   have e2 := h2.str_inv.1
   rw [e1] at e2
   have : (⟨⟨_⟩⟩ : ByteArray) = ⟨⟨_⟩⟩ := Value.string.inj e2
   have := congrArg (fun b : ByteArray => b.data.toList) this
   simp at this
   simp [this] at h
 · rw [h1.str_inv.1] at h2; obtain ⟨_, _, _, e⟩ := sl_val h2; cases e
 · rw [h2.v_inv.1] at h1; obtain ⟨_, _, _, e⟩ := sl_val h1; cases e
 · rw [h2.str_inv.1] at h1; obtain ⟨_, _, _, e⟩ := sl_val h1; cases e
 · cases h
def missAt (gs fl : List D) (o : Nat) : Bool := (List.range fl.length).any fun j => match gs[o + j]?, fl[j]? with
 | none, _ => true
 | some e, some d => clash d e
 | some _, none => false
def missed (gs fl : List D) : Bool := fl.isEmpty || (List.range gs.length).all (missAt gs fl)
mutual
def keepD (gs : List D) : D → Bool
 | .v _ => true
 | .bl _ => true
 | .junk => true
 | .str _ => true
 | .agg ds => keepDs gs ds
 | .tup ds => keepDs gs ds
 | .sl xs => missed gs xs.flatten && keepDss gs xs
 | _ => false
def keepDs (gs : List D) : List D → Bool
 | [] => true
 | d :: ds => keepD gs d && keepDs gs ds
def keepDss (gs : List D) : List (List D) → Bool
 | [] => true
 | ds :: xs => keepDs gs ds && keepDss gs xs
end
theorem keepDs_get {gs : List D} : ∀ {ds : List D}, keepDs gs ds = true → ∀ {i : Nat} {d : D}, ds[i]? = some d → keepD gs d = true
 | [], _, i, d, h => by simp at h
 | x :: ds, h, i, d, hi => by
   simp only [keepDs, Bool.and_eq_true] at h
   cases i with
   | zero => simp at hi; subst hi; exact h.1
   | succ i => exact keepDs_get h.2 (by simpa using hi)
theorem keepDss_get {gs : List D} : ∀ {xs : List (List D)}, keepDss gs xs = true → ∀ {i : Nat} {ds : List D}, xs[i]? = some ds → keepDs gs ds = true
 | [], _, i, d, h => by simp at h
 | x :: ds, h, i, d, hi => by
   simp only [keepDss, Bool.and_eq_true] at h
   cases i with
   | zero => simp at hi; subst hi; exact h.1
   | succ i => exact keepDss_get h.2 (by simpa using hi)
def Know.less (V : Know) (g : Nat) : Know := { V with cell := fun b o => if b = g then none else V.cell b o }
theorem less_cell {V : Know} {g b o : Nat} {u : Value} : (V.less g).cell b o = some u ↔ b ≠ g ∧ V.cell b o = some u := by
 show (if b = g then none else V.cell b o) = some u ↔ _
 split
 · rename_i h; simp [h]
 · rename_i h; simp [h]
theorem flatten_idx {k : Nat} : ∀ {xs : List (List D)}, (∀ ds ∈ xs, ds.length = k) → ∀ {q : Nat} {d : D}, xs.flatten[q]? = some d → ∃ i ds j, xs[i]? = some ds ∧ ds[j]? = some d ∧ q = i * k + j := by
 intro xs
 induction xs with
 | nil => intro _ q d h; simp at h
 | cons x xs ih =>
   intro hk q d h
   rw [List.flatten_cons] at h
   have hx := hk x (by simp)
   by_cases hq : q < x.length
   · rw [List.getElem?_append_left hq] at h
     exact ⟨0, x, q, rfl, h, by omega⟩
   · rw [List.getElem?_append_right (by omega)] at h
     obtain ⟨i, ds, j, h1, h2, h3⟩ := ih (fun z hz => hk z (by simp [hz])) h
     exact ⟨i + 1, ds, j, by simpa using h1, h2, by rw [Nat.succ_mul]; omega⟩
theorem keep_run {V : Know} {g : Nat} {gs : List D} (hg : ∀ o u, V.cell g o = some u → ∃ e, gs[o]? = some e ∧ Rep V u e) {x : Value} {d : D} (h : Rep V x d) : keepD gs d = true → Rep (V.less g) x d := by
 induction h with
 | v x h => intro _; exact .v x h
 | bl b => intro _; exact .bl b
 | junk x => intro _; exact .junk x
 | raw x => intro hk; simp [keepD] at hk
 | str l h => intro _; exact .str l h
 | agg us ds hl h1 h ih =>
   intro hk
   simp only [keepD] at hk
   exact .agg us ds hl h1 fun i u d hu hd => ih i u d hu hd (keepDs_get hk hd)
 | tup us ds hl h ih =>
   intro hk
   simp only [keepD] at hk
   exact .tup us ds hl fun i u d hu hd => ih i u d hu hd (keepDs_get hk hd)
 | nil => intro _; exact .nil
 | empty a => intro _; exact .empty a
 | sl b o c k xs hc hm hk hex h ih =>
   intro hkk
   simp only [keepD, Bool.and_eq_true] at hkk
   obtain ⟨hmiss, hcells⟩ := hkk
   have hne : ∀ {i : Nat} {ds : List D} {j : Nat} {d : D}, xs[i]? = some ds → ds[j]? = some d → b ≠ g := by
    intro i ds j d hi hj e
    subst e
    have hfl := flatten_get hk hi hj
    simp only [missed, Bool.or_eq_true, List.isEmpty_iff, List.all_eq_true, List.mem_range] at hmiss
    rcases hmiss with hm0 | hm0
    · rw [hm0] at hfl; simp at hfl
    have at' : ∀ q d, xs.flatten[q]? = some d → ∃ u, V.cell b (o + q) = some u ∧ Rep V u d := by
     intro q d hq
     obtain ⟨i, ds, j, h1, h2, rfl⟩ := flatten_idx hk hq
     obtain ⟨u, hu, _⟩ := hex i ds j d h1 h2
     refine ⟨u, ?_, h i ds j d u h1 h2 hu⟩
     rwa [← Nat.add_assoc]
    have hlt0 : 0 < xs.flatten.length := by
     rcases Nat.lt_or_ge (i * k + j) xs.flatten.length with h3 | h3
     · omega
     · rw [List.getElem?_eq_none h3] at hfl; cases hfl
    obtain ⟨u0, hu0, _⟩ := at' 0 _ (List.getElem?_eq_getElem hlt0)
    obtain ⟨e0, he0, _⟩ := hg _ _ hu0
    have ho : o < gs.length := by
     rcases Nat.lt_or_ge o gs.length with h3 | h3
     · exact h3
     · rw [List.getElem?_eq_none (by omega)] at he0; cases he0
    have hma := hm0 o ho
    simp only [missAt, List.any_eq_true, List.mem_range] at hma
    obtain ⟨q, hq, hmq⟩ := hma
    obtain ⟨u, hu, hru⟩ := at' q _ (List.getElem?_eq_getElem hq)
    obtain ⟨e, he, hre⟩ := hg _ _ hu
    rw [he, List.getElem?_eq_getElem hq] at hmq
    exact clash_run hmq hru hre
   refine .sl b o c k xs hc hm hk (fun i ds j d h1 h2 => ?_) (fun i ds j d u h1 h2 h3 => ?_)
   · obtain ⟨u, hu, ho⟩ := hex i ds j d h1 h2
     exact ⟨u, less_cell.2 ⟨hne h1 h2, hu⟩, ho⟩
   · exact ih i ds j d u h1 h2 (less_cell.1 h3).2 (keepDs_get (keepDss_get hcells h1) h2)
 | ptr => intro hk; simp [keepD] at hk
 | mnil => intro hk; simp [keepD] at hk
 | mp => intro hk; simp [keepD] at hk
 | iface => intro hk; simp [keepD] at hk
 | fn => intro hk; simp [keepD] at hk
def lendB (n : Nat) (xs : List (List D)) (b : Base) : Option D :=
 match b with
 | .d d => some d
 | .ag p m q => match Nat.beq m n with
   | true => some (.agg (p ++ .sl xs :: q))
   | false => none
 | _ => none
def lendBs (n : Nat) (xs : List (List D)) : List Base → Option (List D)
 | [] => some []
 | b :: bs => match lendB n xs b with
   | some d => match lendBs n xs bs with
     | some ds => some (d :: ds)
     | none => none
   | none => none
theorem lendBs_run {γ : Gm} {V V' : Know} (hle : V.Le V') {n : Nat} {xs : List (List D)} (hr : Rep V' (γ n).1 (.sl xs)) : ∀ {bs : List Base} {ds : List D} {vs : List Value}, lendBs n xs bs = some ds → Vals γ V bs vs → Vals γ V' (ds.map .d) vs
 | [], ds, vs, h, hv => by
   cases h
   obtain rfl := hv.nil_l
   exact All2.nil
 | b :: bs, ds, vs, h, hv => by
   obtain ⟨x, vs, rfl, h1, h2⟩ := hv.cons_l
   simp only [lendBs] at h
   split at h
   case h_2 => cases h
   rename_i d hd
   split at h
   case h_2 => cases h
   rename_i ds' hds
   cases h
   refine .cons ?_ (lendBs_run hle hr hds h2)
   unfold lendB at hd
   split at hd
   · cases hd; exact Rep.mono hle h1
   · split at hd
     · rename_i e
       obtain rfl := Nat.eq_of_beq_eq_true e
       cases hd
       obtain ⟨us, ws, rfl, r1, r2, r3⟩ := h1
       have := (r1.mono hle).append (Reps.cons hr (r2.mono hle))
       exact .agg _ _ this.len r3 this.get
     · cases hd
   · cases hd
theorem lend_meets {P : Program} {F : FuncId} {ds : List D} {bs : List Base} {n : Nat} {e : TypeId} {k : Nat} {xs : List (List D)} {R : D → Prop} (h : Meets P F ds R) (O : List (Nat × Blk)) (hlk : look n O = some (.sl ⟨e, k, xs, false⟩)) (hl : lendBs n xs bs = some ds) (hx : xs ≠ []) (hk : ∀ d, R d → keepD xs.flatten d = true) :
 MeetsR P F bs O fun o O' => ∃ d, o = .ret (.d d) ∧ O' = O ∧ R d := by
 refine ⟨h.out.fn, fun γ V W vs hs hv hown hinj => ?_⟩
 rcases hown n _ hlk with ⟨g, m, c, vals, hγ, hrow, hkk, hvr, h1, hnone⟩ | ⟨hp, _⟩
 case inr =>
  rcases hp with hp | hp
  · cases hp
  · exact absurd hp hx
 simp only at hkk hvr hnone hrow
 have hcells := hrow.cells (g := g) (by rw [hγ]; rfl)
 have hle : V.Le (V.with g vals) := with_le' fun o u hu => by rw [hnone] at hu; cases hu
 have hs1 := with_sees' hs hle fun j u hj => by have := hcells j u hj; rwa [addr_add, Nat.zero_add] at this
 rw [hγ] at hrow
 obtain ⟨cur, hm, hh, hnc, hcm, hcs, ht, hvl⟩ := own_cap hrow
 have hrep : Rep (V.with g vals) (γ n).1 (.sl xs) := by
  rw [hγ]
  exact rep_row hm (by omega) hcm hkk (hvr.mono hle) h1 fun j u hj => by
   show (if g = g then vals[j]? else _) = some u
   rw [if_pos rfl]; exact hj
 have hgW : g < W.heap.size := (Array.getElem?_eq_some_iff.1 hh).1
 refine (h.out.run γ (V.with g vals) W vs hs1 (lendBs_run hle hrep hl hv) (fun m b hl => by rw [look_nil] at hl; cases hl) (fun m m' b b' hl => by rw [look_nil] at hl; cases hl)).mono ?_
 rintro ev W' ⟨γ', V2, o, O', hout, hbel, hfr, hsees, _, _, _, _, d, rfl, rfl, hR⟩
 have hV2 : ∀ o u, V2.cell g o = some u → vals[o]? = some u := fun o u hu => by
  rcases hfr.cell g o u hu with h2 | h2 | h2
  · have h3 : (if g = g then vals[o]? else V.cell g o) = some u := h2
    rwa [if_pos rfl] at h3
  · simp [blks] at h2
  · omega
 have hle2 : V.Le V2 := hle.trans hfr.le
 have hle3 : V.Le (V2.less g) := ⟨fun b o v hc => less_cell.2 ⟨fun e => (by rw [e, hnone] at hc; cases hc), hle2.cell b o v hc⟩, fun r x hx => hle2.obj r x hx⟩
 have hbel0 : BelowX [] W.heap.size W W' := hbel
 refine ⟨γ, V2.less g, .ret (.d d), O, ?_, ⟨hbel0.os, hbel0.tape, hbel0.output, hbel0.size, fun q hq _ => hbel0.block q hq (by simp)⟩, ⟨hle3, fun b o v hc => ?_, fun r x hx => ?_⟩, ⟨fun b o v hc => hsees.cell b o v (less_cell.1 hc).2, hsees.obj, hs.lib.mono hle3, hsees.row⟩, fun m b hlm => ?_, fun m b hlm q hq => .inl (List.mem_filterMap.2 ⟨(m, b), look_mem hlm, hq⟩), hinj, fun _ _ _ _ => rfl, d, rfl, rfl, hR⟩
 · cases ev with
   | returned v =>
     refine keep_run (V := V2) (gs := xs.flatten) (fun o u hu => ?_) hout (hk d hR)
     have hvo := hV2 o u hu
     have hol : o < vals.length := (List.getElem?_eq_some_iff.1 hvo).1
     have hol2 : o < xs.flatten.length := by rw [← hvr.len]; exact hol
     exact ⟨_, List.getElem?_eq_getElem hol2, (hvr.get o u _ hvo (List.getElem?_eq_getElem hol2)).mono hle2⟩
   | panicked _ => exact hout.elim
   | outgrown => exact hout.elim
 · obtain ⟨hbg, hc⟩ := less_cell.1 hc
   rcases hfr.cell b o v hc with h2 | h2 | h2
   · have h3 : (if b = g then vals[o]? else V.cell b o) = some v := h2
     rw [if_neg hbg] at h3
     exact .inl h3
   · simp [blks] at h2
   · exact .inr (.inr h2)
 · rcases hfr.obj r x hx with h2 | h2 | h2
   · exact .inl h2
   · simp [blks] at h2
   · exact .inr (.inr h2)
 · have hb := hown m b hlm
   refine hb.keep hle3 (fun q hq => hbel0.block q (own_lt hb hq) (by simp)) (fun q hq o u hu => ?_) (fun r hr x hx => ?_)
   · obtain ⟨hqg, hc⟩ := less_cell.1 hu
     rcases hfr.cell q o u hc with h2 | h2 | h2
     · have h3 : (if q = g then vals[o]? else V.cell q o) = some u := h2
       rwa [if_neg hqg] at h3
     · simp [blks] at h2
     · have := own_lt hb hq; omega
   · rcases hfr.obj r x hx with h2 | h2 | h2
     · exact h2
     · simp [blks] at h2
     · have := own_lt hb hr; omega
end Go.Proofs.YteckbkljaneppaaGreatDoor.Dx
