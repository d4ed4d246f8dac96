/- Functions that hand back a slice of their own. -/
import Derived.Test.YteckbkljaneppaaGreatDoorMi
set_option linter.all false
namespace Go.Proofs.YteckbkljaneppaaGreatDoor.Dx
open Go Go.RowKit
structure MeetsO (P : Program) (f : FuncId) (ds : List D) (e : TypeId) (k : Nat) (R : List (List D) → Prop) : Prop where
 own : ∀ r, MeetsR P f (ds.map .d) [] fun o O' => ∃ xs, o = .ret (.own r) ∧ O' = [(r, .sl ⟨e, k, xs, true⟩)] ∧ R xs
theorem MeetsO.of {P : Program} {f : FuncId} {ds : List D} {e : TypeId} {k : Nat} {R : List (List D) → Prop} (r0 : Nat)
 (h : MeetsR P f (ds.map .d) [] fun o O' => ∃ xs, o = .ret (.own r0) ∧ O' = [(r0, .sl ⟨e, k, xs, true⟩)] ∧ R xs) : MeetsO P f ds e k R := by
 refine ⟨fun r => ⟨h.fn, fun γ V W xs h1 h2 h3 h4 => (h.run γ V W xs h1 h2 h3 h4).mono ?_⟩⟩
 rintro en W' ⟨γ', V', o, O', a1, a2, a3, a4, a5, a6, a7, a8, ys, rfl, rfl, hR⟩
 refine ⟨updG γ' r (γ' r0), V', .ret (.own r), _, ?_, a2, a3, a4, fun n b hl => ?_, fun n b hl q hq => ?_, fun n n' b b' hl hl' hne => ?_, fun n b hl => (by rw [look_nil] at hl; cases hl), ys, rfl, rfl, hR⟩
 · cases en with
   | returned v =>
     show v = (updG γ' r (γ' r0) r).1
     rw [updG_same]; exact a1
   | _ => exact a1
 · have h5 := a5 r0 _ (look_cons_eq ..)
   by_cases e : r = n
   · subst e; rw [look_cons_eq] at hl; cases hl; rw [updG_same]; exact h5
   · rw [look_cons_ne e, look_nil] at hl; cases hl
 · by_cases e : r = n
   · subst e; rw [updG_same] at hq; exact a6 r0 _ (look_cons_eq ..) q hq
   · rw [look_cons_ne e, look_nil] at hl; cases hl
 · by_cases e : r = n
   · by_cases e' : r = n'
     · exact absurd (e.symm.trans e') hne
     · rw [look_cons_ne e', look_nil] at hl'; cases hl'
   · rw [look_cons_ne e, look_nil] at hl; cases hl
theorem MeetsO.data {P : Program} {f : FuncId} {ds : List D} {e : TypeId} {k : Nat} {R : List (List D) → Prop} (h : MeetsO P f ds e k R) : Meets P f ds fun d => ∃ xs, d = .sl xs ∧ R xs := by
 refine ⟨⟨(h.own 0).fn, fun γ V W xs h1 h2 h3 h4 => ((h.own 0).run γ V W xs h1 h2 h3 h4).mono ?_⟩⟩
 rintro en W' ⟨γ', V', o, O', a1, a2, a3, a4, a5, a6, a7, a8, ys, rfl, rfl, hR⟩
 refine ⟨γ', V', .ret (.d (.sl ys)), [], ?_, a2, a3, a4, fun n b hl => (by rw [look_nil] at hl; cases hl), fun n b hl => (by rw [look_nil] at hl; cases hl), fun n n' b b' hl => (by rw [look_nil] at hl; cases hl), fun n b hl => (by rw [look_nil] at hl; cases hl), _, rfl, rfl, ys, rfl, hR⟩
 cases en with
 | returned v =>
   have hs := sl_rep (a5 0 _ (look_cons_eq ..)) rfl
   have e : v = (γ' 0).1 := a1
   show Rep V' v (.sl ys)
   rw [e]; exact hs
 | _ => exact a1
end Go.Proofs.YteckbkljaneppaaGreatDoor.Dx
/- The executor over data: a box that a function value in it has captured (a closure that calls itself) becomes public: it reads as data unrolled to any depth. -/
namespace Go.Proofs.YteckbkljaneppaaGreatDoor.Dx
open Go Go.RowKit
def iterD (F : List D → List D) (x0 : List D) : Nat → List D
 | 0 => x0
 | n + 1 => F (iterD F x0 n)
section
variable {P : Program} {T : List (Nat × TI)} {C : Cx} {γ : Gm} {st : SSt} {V : Know} {a : Act} {W : World}
theorem reps_junk (V : Know) (us : List Value) : Reps V us (us.map fun _ => .junk) := by
 refine ⟨by simp, fun i u d h1 h2 => ?_⟩
 simp only [List.getElem?_map, h1, Option.map_some, Option.some.injEq] at h2
 subst h2
 exact .junk u
theorem rel_cyc (hr : Rel C γ st V a W) {n : Nat} {cells : List Base} {ty : TypeId} (hn : look n st.O = some (.box cells ty)) (F : List D → List D) (x0 : List D) (N : Nat)
 (hx0 : x0 = cells.map fun _ => .junk) (hF : ∀ x, valBs [] (cells.map (subB n (fun off => .ptr x off) .junk)) = some (F x))
 {k : SSt → Prop} (h : mapLB (subB n (fun off => .ptr (F (iterD F x0 N)) off) .junk) st.L fun L' => mapO n (subB n (fun off => .ptr (F (iterD F x0 N)) off) .junk) st.O fun O' => k { st with L := L', O := O' }) :
 ∃ st' V', k st' ∧ Rel C γ st' V' a W := by
 obtain ⟨L', h, hL⟩ := mapLB_run h
 obtain ⟨O', h, hO⟩ := mapO_run h
 obtain ⟨blk, cs, hv, hh, hc, h1, hnone⟩ := hr.own n _ hn
 have hle : V.Le (V.with blk cs.toList) := with_le' fun o u hu => by rw [hnone] at hu; cases hu
 have hcell : ∀ (j : Nat) u, cs.toList[j]? = some u → (V.with blk cs.toList).cell blk j = some u := fun j u hj => by
  show (if blk = blk then cs.toList[j]? else _) = some u
  rw [if_pos rfl]; exact hj
 have subx : ∀ ds, Reps (V.with blk cs.toList) cs.toList ds → ∀ b x, RVb γ V b x → RVb γ (V.with blk cs.toList) (subB n (fun off => .ptr ds off) .junk b) x := by
  intro ds hreps b x hx
  refine subB_run (fun off y hy => ?_) (fun hne => absurd (by rw [hv]) (hne blk)) (fun _ => rfl) (hx.mono hle)
  obtain ⟨blk', e, rfl⟩ := hy
  rw [hv] at e
  obtain rfl : blk = blk' := by simpa using e
  have := Rep.ptr (V := V.with blk cs.toList) blk 0 ds off (fun j d hj => by
   obtain ⟨u, hu, _⟩ := hreps.at hj
   exact ⟨u, by rw [Nat.zero_add]; exact hcell j u hu, h1 u (List.mem_of_getElem? hu)⟩) (fun j d u hj hu => by
   obtain ⟨u', hu', hr'⟩ := hreps.at hj
   rw [Nat.zero_add, hcell j u' hu'] at hu
   cases hu
   exact hr')
  rwa [Nat.zero_add] at this
 have stepx : ∀ ds, Reps (V.with blk cs.toList) cs.toList ds → Reps (V.with blk cs.toList) cs.toList (F ds) := by
  intro ds hreps
  have hv' : Vals γ (V.with blk cs.toList) (cells.map (subB n (fun off => .ptr ds off) .junk)) cs.toList := by
   refine ⟨by simp [hc.len], fun i b x hb hx => ?_⟩
   simp only [List.getElem?_map] at hb
   cases hl : cells[i]? with
   | none => simp [hl] at hb
   | some b0 =>
     simp only [hl, Option.map_some, Option.some.injEq] at hb
     subst hb
     exact subx ds hreps _ _ (hc.get i b0 x hl hx)
  exact valBs_rep (O := []) (W := W) (fun m b h => by rw [look_nil] at h; cases h) (hF ds) hv'
 have hall : ∀ m, Reps (V.with blk cs.toList) cs.toList (iterD F x0 m) := by
  intro m
  induction m with
  | zero =>
    rw [iterD, hx0]
    have := reps_junk (V.with blk cs.toList) cs.toList
    have e : (cells.map fun _ => D.junk) = cs.toList.map fun _ => D.junk := by
     apply List.ext_getElem?
     intro i
     simp only [List.getElem?_map]
     have hl := hc.len
     by_cases hi : i < cells.length
     · rw [List.getElem?_eq_getElem hi, List.getElem?_eq_getElem (by omega)]; rfl
     · rw [List.getElem?_eq_none (by omega), List.getElem?_eq_none (by omega)]; rfl
    rw [e]; exact this
  | succ m ih => exact stepx _ ih
 have sub := subx _ (stepx _ (hall N))
 refine ⟨_, V.with blk cs.toList, h, rel_know hr hn (by rw [hv]) hle (with_sees' hr.sees hle fun j u hj => by simp only [World.cell?, hh]; simpa using hj) with_only (fun r x h => .inl h) (fun t b hb => ?_) (fun m x hx => ?_)⟩
 · obtain ⟨b0, hb0, rfl⟩ := hL t b hb
   exact sub b0 _ (hr.slots t b0 hb0)
 · obtain ⟨hne, y, hy, rfl⟩ := hO m x hx
   refine .inr ⟨hne, y, hy, fun hyok => ?_⟩
   have hy0 := hr.own m y hy
   cases y with
   | box cells' ty' =>
     obtain ⟨blk', cs', e', g1, g2, g3, g4⟩ := hyok
     obtain ⟨blk'', cs'', e'', q1, q2, q3, q4⟩ := hy0
     rw [e''] at e'
     obtain rfl : blk'' = blk' := by simpa using e'
     rw [q1] at g1
     obtain rfl : cs'' = cs' := by simpa using g1
     refine ⟨blk'', cs'', e'', q1, ⟨by simp [q2.len], fun i b x hb hx => ?_⟩, q3, g4⟩
     simp only [List.getElem?_map] at hb
     cases hl : cells'[i]? with
     | none => simp [hl] at hb
     | some b0 =>
       simp only [hl, Option.map_some, Option.some.injEq] at hb
       subst hb
       exact sub _ _ (q2.get i b0 x hl hx)
   | pn g ns => exact ⟨hyok.1, fun m hm => hyok.2 m (List.mem_filter.1 hm).1⟩
   | _ => exact hyok
theorem J_cyc {c : Code} {Q : Post} (n : Nat) (F : List D → List D) (x0 : List D) (N : Nat) (h : match st with
 | ⟨L, O, p⟩ => match look n O with
   | some (.box cells _) => (x0 = cells.map fun _ => .junk) ∧ (∀ x, valBs [] (cells.map (subB n (fun off => .ptr x off) .junk)) = some (F x)) ∧
      mapLB (subB n (fun off => .ptr (F (iterD F x0 N)) off) .junk) L fun L' => mapO n (subB n (fun off => .ptr (F (iterD F x0 N)) off) .junk) O fun O' => J P C c Q ⟨L', O', p⟩
   | _ => False) : J P C c Q st := by
 refine ⟨fun γ V a W hr => ?_⟩
 obtain ⟨L, O, p⟩ := st
 simp only at h
 split at h
 case h_2 => exact h.elim
 rename_i cells ty hn
 obtain ⟨h1, h2, h3⟩ := h
 obtain ⟨st', V', hj, hr'⟩ := rel_cyc hr hn F x0 N h1 h2 (k := fun st => J P C c Q st) h3
 exact hj.run γ V' a W hr'
theorem J_at {Q : Post} (n : Nat) {ops : Array Oper} {d : Bool} {y : Code} (h : J P C (.seq (.region n ops d) y) Q st) : J P C (.seq (.region n ops d) y) Q st := h
theorem cut_to (hT : TOk P T) (cf : Cfg) {x y : Code} {Q : Post} (us : List (Nat × Base)) (h : match st with
 | ⟨L, O, p⟩ => forceL (us.map (·.1) ++ wrote x) fun w => upL w L fun L' =>
   vcC P T C cf x (fun e st' => match e with | .nrm => Rnd (SubSt st' ⟨us ++ L', O, p⟩) | .ret => Q .ret st' | .exit n => Q (.exit n) st' | .pan d => Q (.pan d) st') ⟨L, O, p⟩ ∧ J P C y Q ⟨us ++ L', O, p⟩) : J P C (.seq x y) Q st := by
 refine ⟨fun γ V a W hr => ?_⟩
 obtain ⟨L, O, p⟩ := st
 simp only at h
 rw [forceL_eq] at h
 obtain ⟨L', h⟩ := upL_ok _ _ h
 refine wpIn_seq (Go.wpIn_mono ((vcC_run hT cf x h.1).run γ V a W hr) fun e a W hq => ?_)
 cases e with
 | normal => obtain ⟨γ, st, V, h1, h2⟩ := hq; exact h.2.run γ V a W (sub_rel h1 h2.out)
 | ret => exact hq
 | exit n => exact hq
 | panic c => exact hq
 | goto l => exact hq.elim
 | outgrown => exact hq.elim
end
end Go.Proofs.YteckbkljaneppaaGreatDoor.Dx
/- The executor over data, part Y: regions that draw their order, where one of several operations may come next. -/
namespace Go.Proofs.YteckbkljaneppaaGreatDoor.Dx
open Go Go.RowKit
section
variable {P : Program} {T : List (Nat × TI)} {cf : Cfg} {ops : Array Oper} {C : Cx} {γ : Gm} {V : Know} {a : Act} {W : World} {lc : List Nat} {l : Array Bool} {F : List Fl} {st : SSt} {Q : Exit → Act → World → Prop}
end
end Go.Proofs.YteckbkljaneppaaGreatDoor.Dx
