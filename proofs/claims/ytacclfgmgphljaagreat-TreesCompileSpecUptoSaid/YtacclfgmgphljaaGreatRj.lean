/- Functions that hand back a slice of their own. -/
import Derived.Test.YtacclfgmgphljaaGreatRi
set_option linter.all false
namespace Go.Proofs.YtacclfgmgphljaaGreat.Dx
open Go Go.RowKit
/-- the function hands back a slice that nobody else writes -/
structure MeetsO (P : Program) (f : FuncId) (ds : List D) (e : TypeId) (k : Nat) (R : List (List D) → Prop) : Prop where
 own : ∀ r, MeetsR P f (ds.map .d) [] fun o O' => ∃ xs, o = .ret (.own r) ∧ O' = [(r, .sl ⟨e, k, xs, true⟩)] ∧ R xs
theorem MeetsO.of {P : Program} {f : FuncId} {ds : List D} {e : TypeId} {k : Nat} {R : List (List D) → Prop} (r0 : Nat)
 (h : MeetsR P f (ds.map .d) [] fun o O' => ∃ xs, o = .ret (.own r0) ∧ O' = [(r0, .sl ⟨e, k, xs, true⟩)] ∧ R xs) : MeetsO P f ds e k R := by
 refine ⟨fun r => ⟨h.fn, fun γ V W xs h1 h2 h3 h4 => (h.run γ V W xs h1 h2 h3 h4).mono ?_⟩⟩
 rintro en W' ⟨γ', V', o, O', a1, a2, a3, a4, a5, a6, a7, a8, ys, rfl, rfl, hR⟩
 refine ⟨updG γ' r (γ' r0), V', .ret (.own r), _, ?_, a2, a3, a4, fun n b hl => ?_, fun n b hl q hq => ?_, fun n n' b b' hl hl' hne => ?_, fun n b hl => (by rw [look_nil] at hl; cases hl), ys, rfl, rfl, hR⟩
 · cases en with
   | returned v =>
     show v = (updG γ' r (γ' r0) r).1
     rw [updG_same]; exact a1
   | _ => exact a1
 · have h5 := a5 r0 _ (look_cons_eq ..)
   by_cases e : r = n
   · subst e; rw [look_cons_eq] at hl; cases hl; rw [updG_same]; exact h5
   · rw [look_cons_ne e, look_nil] at hl; cases hl
 · by_cases e : r = n
   · subst e; rw [updG_same] at hq; exact a6 r0 _ (look_cons_eq ..) q hq
   · rw [look_cons_ne e, look_nil] at hl; cases hl
 · by_cases e : r = n
   · by_cases e' : r = n'
     · exact absurd (e.symm.trans e') hne
     · rw [look_cons_ne e', look_nil] at hl'; cases hl'
   · rw [look_cons_ne e, look_nil] at hl; cases hl
theorem MeetsO.data {P : Program} {f : FuncId} {ds : List D} {e : TypeId} {k : Nat} {R : List (List D) → Prop} (h : MeetsO P f ds e k R) : Meets P f ds fun d => ∃ xs, d = .sl xs ∧ R xs := by
 refine ⟨⟨(h.own 0).fn, fun γ V W xs h1 h2 h3 h4 => ((h.own 0).run γ V W xs h1 h2 h3 h4).mono ?_⟩⟩
 rintro en W' ⟨γ', V', o, O', a1, a2, a3, a4, a5, a6, a7, a8, ys, rfl, rfl, hR⟩
 refine ⟨γ', V', .ret (.d (.sl ys)), [], ?_, a2, a3, a4, fun n b hl => (by rw [look_nil] at hl; cases hl), fun n b hl => (by rw [look_nil] at hl; cases hl), fun n n' b b' hl => (by rw [look_nil] at hl; cases hl), fun n b hl => (by rw [look_nil] at hl; cases hl), _, rfl, rfl, ys, rfl, hR⟩
 cases en with
 | returned v =>
   have hs := sl_rep (a5 0 _ (look_cons_eq ..)) rfl
   have e : v = (γ' 0).1 := a1
   show Rep V' v (.sl ys)
   rw [e]; exact hs
 | _ => exact a1
end Go.Proofs.YtacclfgmgphljaaGreat.Dx
/- The executor over data: a box that a function value in it has captured (a closure that calls itself) becomes public: it reads as data unrolled to any depth. -/
namespace Go.Proofs.YtacclfgmgphljaaGreat.Dx
open Go Go.RowKit
section
variable {P : Program} {T : List (Nat × TI)} {C : Cx} {γ : Gm} {st : SSt} {V : Know} {a : Act} {W : World}
/-- a mark: the next region is n -/
theorem J_at {Q : Post} (n : Nat) {ops : Array Oper} {d : Bool} {y : Code} (h : J P C (.seq (.region n ops d) y) Q st) : J P C (.seq (.region n ops d) y) Q st := h
end
end Go.Proofs.YtacclfgmgphljaaGreat.Dx
/- The executor over data, part Y: regions that draw their order, where one of several operations may come next. -/
namespace Go.Proofs.YtacclfgmgphljaaGreat.Dx
open Go Go.RowKit
/-- one operation that only gives a value is put off -/
noncomputable def vcP1 (T : List (Nat × TI)) (N : Nat) (cf : Cfg) (ops : Array Oper) (i : Nat) (F : List Fl) (st : SSt) (K : List Fl → SSt → Prop) : Prop :=
 match ops[i]? with
  | none => False
  | some o => match (match o.dst with | some d => Nat.blt d N | none => true) with
    | false => False
    | true => vcGd ops o.guard F st fun run F st => match run with
      | false => dropD o.dst st.L fun L => forceO o.dst fun d => normS ⟨L, st.O, st.pins⟩ fun st => K (⟨i, d, .d (.tup []), [], []⟩ :: F) st
      | true => getBs ⟨envF F st.L, [], []⟩ o.op.operands.toList fun bs => vcV T cf st.O o.op bs fun b => forceB b fun b => addN (bs.flatMap keysOf) (keysOf b) fun ks => addN (depsO T st.O o.op bs) [] fun dp =>
        dropD o.dst st.L fun L => forceO o.dst fun d => normS ⟨L, st.O, st.pins⟩ fun st => K (⟨i, d, b, ks, dp⟩ :: F) st
noncomputable def vcPs (T : List (Nat × TI)) (N : Nat) (cf : Cfg) (ops : Array Oper) : List Nat → List Fl → SSt → (List Fl → SSt → Prop) → Prop
 | [], F, st, K => K F st
 | i :: r, F, st, K => vcP1 T N cf ops i F st fun F st => vcPs T N cf ops r F st K
abbrev Alt := Nat × List Nat × List Stp
noncomputable def vcAlts (P : Program) (T : List (Nat × TI)) (N : Nat) (cf : Cfg) (ops : Array Oper) (kp : D → SSt → Prop) (k : SSt → Prop) : List Alt → List Fl → SSt → Prop
 | [], _, _ => True
 | x :: r, F, st => vcD P T N cf ops kp (.s x.1 x.2.1 :: x.2.2) F st k ∧ vcAlts P T N cf ops kp k r F st
def chkA (ops : Array Oper) (alts : List Alt) (lc : List Nat) : Bool :=
 (!alts.isEmpty) && (((List.range ops.size).all fun j => !rdyB ops lc j || alts.any fun x => Nat.beq x.1 j) && alts.all fun x => rdyB ops lc x.1 && (ancB ops [x.1] x.2.1 && chkB ops x.2.2 (x.1 :: lc)))
def chkPs (ops : Array Oper) (alts : List Alt) : List Nat → List Nat → Bool
 | [], lc => chkA ops alts lc
 | i :: r, lc => rdyB ops lc i && chkPs ops alts r (i :: lc)
section
variable {P : Program} {T : List (Nat × TI)} {cf : Cfg} {ops : Array Oper} {C : Cx} {γ : Gm} {V : Know} {a : Act} {W : World} {lc : List Nat} {l : Array Bool} {F : List Fl} {st : SSt} {Q : Exit → Act → World → Prop}
theorem adv_p1 (hT : TOk P T) (hs : Static ops) {i : Nat} {K : List Fl → SSt → Prop} (h : Inv P ops C γ V a W lc l F st) (hb : rdyB ops lc i = true) (hv : vcP1 T C.N cf ops i F st K) :
 ∃ F' st', K F' st' ∧ Inv P ops C γ V a W (i :: lc) l F' st' := by
 obtain ⟨hi, o, ho, hoa⟩ := rdy_run.1 hb
 simp only [vcP1, ho] at hv
 split at hv
 · exact hv.elim
 rename_i hN
 have hdN : ∀ t, o.dst = some t → t < C.N := by
  intro t ht
  rw [ht] at hN
  exact Nat.le_of_ble_eq_true hN
 obtain ⟨run, F, st, hv, h, hg⟩ := vcGd_run hs h hv
 -- what the guard asks
 obtain ⟨gn, hgn1, hgn2, hgn3⟩ : ∃ gn : List (Operand × Base), (∀ p ∈ gn, ∀ n, ment n p.2 = false) ∧ (∀ f : Fl, f.i = i → ∀ p ∈ gn, NeedOk ops γ V a F l f p) ∧ ∀ γ V (a : Act), (∀ p ∈ gn, RVb γ V p.2 (a.eval p.1)) → (Region.wanted o (yielded ops a.tmps) = true ↔ run = true) := by
  cases hog : o.guard with
  | none =>
    rw [hog] at hg
    refine ⟨[], by simp, by simp, fun γ V a _ => ?_⟩
    simp only [Region.wanted, hog]
    exact ⟨fun _ => hg, fun _ => (by first | rfl | trivial)⟩
  | some q =>
    obtain ⟨j, w⟩ := q
    rw [hog] at hg
    obtain ⟨c, b, hc, hl, hgk⟩ := hg
    refine ⟨[(.tmp c, b)], by simpa using hgk.1, fun f hf p hp => ?_, fun γ V a hp => ?_⟩
    · obtain rfl := List.mem_singleton.1 hp
      exact need_new hs h ho hi hoa hf (fun t ht => by cases ht; exact looks_guard hog hc) (.inl ⟨c, rfl, hl⟩)
    · rw [wanted_iff hog hc]
      exact hgk.2 γ V _ (hp _ (List.mem_singleton.2 rfl))
 split at hv
 · -- not run
   rename_i hrun
   obtain ⟨L, hv, hL⟩ := dropD_run hv
   rw [forceO_eq, normS_eq] at hv
   refine ⟨_, _, hv, inv_add h ho hi hoa rfl rfl hL hdN (need := gn) ?_ (fun p hp n hn => by rw [hgn1 p hp n] at hn; cases hn) (fun n hn => by cases hn) (fun p hp => hgn2 _ rfl p hp)⟩
   intro γ V W O' a _ hsees _ hn
   refine ⟨undef, V, W, .refl hsees, undef_rep V, fun C' K' Q hK => ?_⟩
   have hw : ¬ Region.wanted o (yielded ops a.tmps) = true := fun e => by have := (hgn3 γ V a hn).1 e; cases this
   simp only [wpOpIn, ho, if_neg hw]
   exact ⟨fun _ _ => trivial, hK⟩
 · rename_i hrun
   obtain ⟨bs, hv, hfr⟩ := getBs_from _ hv
   obtain ⟨V', a', W', l', hinv, hall⟩ := inv_all hs h
   have hvals : Vals γ V' bs (o.op.operands.toList.map a'.eval) := by
    refine ⟨by simp [hfr.len], fun j b x hb hx => ?_⟩
    rw [List.getElem?_map] at hx
    cases hox : o.op.operands.toList[j]? with
    | none => simp [hox] at hx
    | some y =>
      simp only [hox, Option.map_some, Option.some.injEq] at hx
      subst hx
      rcases hfr.get j y b hox hb with ⟨t, rfl, hl⟩ | ⟨_, hc⟩
      · exact env_ok hinv hall t b hl
      · exact hc _ _ _
   obtain ⟨b, hv, hgive⟩ := vcV_run hT ⟨γ, V', W', _, hinv.rel.sees, hinv.rel.own, hvals⟩ hv
   rw [forceB_eq] at hv
   obtain ⟨ks, hv, hk1, hk2⟩ := addN_run _ hv
   obtain ⟨dp, hv, hd1, _⟩ := addN_run _ hv
   obtain ⟨L, hv, hL⟩ := dropD_run hv
   rw [forceO_eq, normS_eq] at hv
   refine ⟨_, _, hv, inv_add h ho hi hoa rfl rfl hL hdN (need := gn ++ o.op.operands.toList.zip bs) ?_ ?_ (fun n hn => hk2 n (keys_ment hn)) ?_⟩
   · intro γ V W O' a hag hsees hown hn
     have hw : Region.wanted o (yielded ops a.tmps) = true := (hgn3 γ V a fun p hp => hn p (List.mem_append.2 (.inl hp))).2 rfl
     obtain ⟨v, V', W', h1, h2, h3⟩ := hgive γ V W O' _ (fun n hn => hag n (hd1 n hn)) hsees hown (show Vals γ V bs (o.op.operands.toList.map a.eval) from ⟨by simp [hfr.len], fun j b x hb hx => by
      rw [List.getElem?_map] at hx
      cases hox : o.op.operands.toList[j]? with
      | none => simp [hox] at hx
      | some y =>
        simp only [hox, Option.map_some, Option.some.injEq] at hx
        subst hx
        refine hn (y, b) (List.mem_append.2 (.inr (List.mem_iff_getElem?.2 ⟨j, ?_⟩)))
        rw [List.getElem?_zip_eq_some]
        exact ⟨hox, hb⟩⟩) o a.eval rfl rfl
     refine ⟨v, V', W', h2, h3, fun C' K' Q hK => ?_⟩
     simp only [wpOpIn, ho, if_pos hw]
     exact (wp_value (C := C') h1 hK).2
   · intro p hp n hn
     rcases List.mem_append.1 hp with hp | hp
     · rw [hgn1 p hp n] at hn; cases hn
     · obtain ⟨x, b⟩ := p
       exact hk1 n (List.mem_flatMap.2 ⟨b, (List.of_mem_zip hp).2, keys_ment hn⟩)
   · intro p hp
     rcases List.mem_append.1 hp with hp | hp
     · exact hgn2 _ rfl p hp
     · obtain ⟨x, b⟩ := p
       obtain ⟨j, hj⟩ := List.mem_iff_getElem?.1 hp
       rw [List.getElem?_zip_eq_some] at hj
       exact need_new hs h ho hi hoa rfl (fun t ht => looks_operand (by rw [← ht]; exact List.mem_of_getElem? hj.1)) (hfr.get j x b hj.1 hj.2)
theorem advPs (hT : TOk P T) (hs : Static ops) {alts : List Alt} {K : List Fl → SSt → Prop} : ∀ (r : List Nat) {lc : List Nat} {F : List Fl} {st : SSt}, Inv P ops C γ V a W lc l F st → chkPs ops alts r lc = true → vcPs T C.N cf ops r F st K →
 ∃ lc' F' st', chkA ops alts lc' = true ∧ K F' st' ∧ Inv P ops C γ V a W lc' l F' st' := by
 intro r
 induction r with
 | nil => intro lc F st h hb hv; exact ⟨lc, F, st, hb, hv, h⟩
 | cons i r ih =>
   intro lc F st h hb hv
   simp only [chkPs, Bool.and_eq_true] at hb
   obtain ⟨F', st', hv', h'⟩ := adv_p1 hT hs h hb.1 hv
   exact ih h' hb.2 hv'
theorem vcAlts_at {kp : D → SSt → Prop} {k : SSt → Prop} : ∀ {alts : List Alt}, vcAlts P T C.N cf ops kp k alts F st → ∀ x ∈ alts, vcD P T C.N cf ops kp (.s x.1 x.2.1 :: x.2.2) F st k := by
 intro alts
 induction alts with
 | nil => intro _ x hx; cases hx
 | cons y r ih =>
   intro h x hx
   rcases List.mem_cons.1 hx with rfl | hx
   · exact h.1
   · exact ih h.2 x hx
theorem draw_alts (hT : TOk P T) (hs : Static ops) {kp : D → SSt → Prop} {k : SSt → Prop} (hp : NxP C kp Q) (hn : ∀ γ st V a W, Rel C γ st V a W → k st → Q .normal a W) {alts : List Alt} : ∀ (fuel : Nat) {γ : Gm} {V : Know} {a : Act} {W : World} {lc : List Nat} {l : Array Bool} {F : List Fl} {st : SSt},
 Inv P ops C γ V a W lc l F st → chkA ops alts lc = true → vcAlts P T C.N cf ops kp k alts F st → (∀ J : List Nat, J.Nodup → (∀ j ∈ J, l.getD j true = false) → J.length ≤ fuel) → wpAnyIn (fen C) 0 P .any ops Q fuel l a W := by
 have last : ∀ {γ : Gm} {V : Know} {a : Act} {W : World} {lc : List Nat} {l : Array Bool} {F : List Fl} {st : SSt},
  Inv P ops C γ V a W lc l F st → chkA ops alts lc = true → Region.ready .any ops l ≠ [] := by
  intro γ V a W lc l F st h hb hr
  have hall := inv_done hs h hr
  simp only [chkA, Bool.and_eq_true, List.all_eq_true] at hb
  obtain ⟨hne, _, hal⟩ := hb
  cases alts with
  | nil => simp at hne
  | cons x r =>
    obtain ⟨hi, o, ho, hoa⟩ := rdy_run.1 (hal x (by simp)).1
    have hlt : x.1 < l.size := by rw [h.size]; exact (Array.getElem?_eq_some_iff.1 ho).1
    have hil : l.getD x.1 false = false := by
     cases e : l.getD x.1 false with
     | false => rfl
     | true => exact absurd (h.sub x.1 e) hi
    have : x.1 ∈ Region.ready .any ops l := mem_ready.2 ⟨lis_true hil hlt, o, ho, fun e he hb => by
     rcases h.cov e.on (hoa e he hb) with h3 | ⟨g, hg, hgi⟩
     · exact h3
     · rw [← hgi]; exact hall g hg⟩
    rw [hr] at this; cases this
 have less : ∀ {n i : Nat} {l : Array Bool}, l.getD i true = false → (∀ J : List Nat, J.Nodup → (∀ j ∈ J, l.getD j true = false) → J.length ≤ n + 1) →
  ∀ J : List Nat, J.Nodup → (∀ j ∈ J, (l.setIfInBounds i true).getD j true = false) → J.length ≤ n := by
  intro n i l hi hb J hJ hj
  have hlt := (lis_false hi).2
  have hni : i ∉ J := fun hm => by
   have := hj i hm
   simp [hlt] at this
  have := hb (i :: J) (List.nodup_cons.2 ⟨hni, hJ⟩) fun j hm => by
   rcases List.mem_cons.1 hm with rfl | hm
   · exact hi
   · have h1 := hj j hm
     have hne : i ≠ j := fun e => hni (e ▸ hm)
     rwa [getD_set_ne true hne] at h1
  simp only [List.length_cons] at this
  omega
 intro fuel
 induction fuel with
 | zero =>
   intro γ V a W lc l F st h hb hv hf
   exfalso
   refine last h hb ?_
   cases hr : Region.ready .any ops l with
   | nil => rfl
   | cons i is =>
     have hi : i ∈ Region.ready .any ops l := by rw [hr]; exact List.mem_cons_self ..
     have := hf [i] (List.nodup_cons.2 ⟨by simp, List.nodup_nil⟩) fun j hj => by
      obtain rfl := List.mem_singleton.1 hj
      exact (mem_ready.1 hi).1
     simp at this
 | succ n ih =>
   intro γ V a W lc l F st h hb hv hf
   refine ⟨fun hr => absurd hr (last h hb), fun i hi => ?_⟩
   obtain ⟨hun, o, ho, hrl⟩ := mem_ready.1 hi
   have hul := (lis_false hun).1
   have hlt : i < ops.size := (Array.getElem?_eq_some_iff.1 ho).1
   by_cases hlc : i ∈ lc
   · rcases h.cov i hlc with h1 | ⟨f, hf', rfl⟩
     · rw [hul] at h1; cases h1
     · obtain ⟨v, V', W', hrun, h'⟩ := inv_float hs h hf' hul fun o' ho' => by
        rw [ho] at ho'; cases ho'; exact hrl
       exact hrun _ _ (ih h' hb hv (less hun hf))
   · have hb' := hb
     simp only [chkA, Bool.and_eq_true, List.all_eq_true] at hb'
     obtain ⟨_, hin, hal⟩ := hb'
     have hrdy : rdyB ops lc i = true := rdy_run.2 ⟨hlc, o, ho, fun e he hb => h.sub _ (hrl e he hb)⟩
     have h1 := hin i (List.mem_range.2 hlt)
     rw [hrdy, Bool.not_true, Bool.false_or, List.any_eq_true] at h1
     obtain ⟨x, hx, hxi⟩ := h1
     obtain rfl : x.1 = i := Nat.eq_of_beq_eq_true hxi
     obtain ⟨_, hanc, hb2⟩ := hal x hx
     obtain ⟨_, o', ho', hoa⟩ := rdy_run.1 hrdy
     rw [ho] at ho'; cases ho'
     exact step_s hT hs h ho hlc hoa hrl hanc (vcAlts_at hv x hx) hp fun γ' V' a' W' F' st' h' hv' => draw_any hT hs hp hn n h' hb2 hv' (less hun hf)
/-- A REGION THAT DRAWS ITS ORDER, where after some operations that only give values one of several may come. -/
theorem draw_rule2 (hT : TOk P T) (hm : P.follows .mixedOrders = true) (ps : List Nat) (alts : List Alt) {id : Nat} {Q : Post} (hb : (staticB ops && chkPs ops alts ps []) = true)
 (h : vcPs T C.N cf ops ps [] st fun F st => vcAlts P T C.N cf ops (fun d st => Q (.pan d) st) (fun st => Q .nrm st) alts F st) : J P C (.region id ops true) Q st := by
 simp only [Bool.and_eq_true] at hb
 refine ⟨fun γ V a W hr => wpIn_region_any hm ?_⟩
 have hr' : Rel C γ st V a { W with drawn := W.drawn + 1 } := rel_grow hr ⟨⟨rfl, rfl, rfl, Nat.le_refl _, fun _ _ => rfl⟩, Fresh.refl V _ _, ⟨fun b o v hc => hr.sees.cell b o v hc, fun r x hx => hr.sees.obj r x hx, hr.sees.lib, hr.sees.keepRow fun _ _ _ _ => rfl⟩⟩
 have no : ∀ j, (Array.replicate ops.size false).getD j false = true → False := fun j hj => by
  by_cases e : j < ops.size <;> simp [e] at hj
 obtain ⟨lc, F, st', hb', hv, hinv⟩ := advPs hT (static_run hb.1) (lc := []) (F := []) (l := Array.replicate ops.size false) ps ⟨hr', by simp, fun j hj => (no j hj).elim, by simp, by simp, fun j o hj => (no j hj).elim, by simp, by simp, by simp, by simp, by simp, by simp, by simp⟩ hb.2 h
 refine draw_alts (C := C) hT (static_run hb.1) (k := fun st => Q .nrm st) (kp := fun d st => Q (.pan d) st) (fun γ' st' V' a' W' v d hr' hv hk => ⟨γ', st', V', v, d, rfl, hv, hr', hk⟩) (fun γ st V a W hr hk => ⟨γ, st, V, hr, hk⟩) ops.size hinv hb' hv ?_
 intro J hJ hj
 refine nodup_bound _ J hJ fun j hm => ?_
 have := (lis_false (hj j hm)).2
 simpa using this
end
end Go.Proofs.YtacclfgmgphljaaGreat.Dx
