/- Functions that hand back a slice of their own. -/
import Derived.Test.YtedjnaggkakphaaGreatDoorDi
set_option linter.all false
namespace Go.Proofs.YtedjnaggkakphaaGreatDoor.Dx
open Go Go.RowKit
/-- the function hands back a slice that nobody else writes -/
structure MeetsO (P : Program) (f : FuncId) (ds : List D) (e : TypeId) (k : Nat) (R : List (List D) → Prop) : Prop where
 own : ∀ r, MeetsR P f (ds.map .d) [] fun o O' => ∃ xs, o = .ret (.own r) ∧ O' = [(r, .sl ⟨e, k, xs, true⟩)] ∧ R xs
theorem MeetsO.of {P : Program} {f : FuncId} {ds : List D} {e : TypeId} {k : Nat} {R : List (List D) → Prop} (r0 : Nat)
 (h : MeetsR P f (ds.map .d) [] fun o O' => ∃ xs, o = .ret (.own r0) ∧ O' = [(r0, .sl ⟨e, k, xs, true⟩)] ∧ R xs) : MeetsO P f ds e k R := by
 refine ⟨fun r => ⟨h.fn, fun γ V W xs h1 h2 h3 h4 => (h.run γ V W xs h1 h2 h3 h4).mono ?_⟩⟩
 rintro en W' ⟨γ', V', o, O', a1, a2, a3, a4, a5, a6, a7, a8, ys, rfl, rfl, hR⟩
 refine ⟨updG γ' r (γ' r0), V', .ret (.own r), _, ?_, a2, a3, a4, fun n b hl => ?_, fun n b hl q hq => ?_, fun n n' b b' hl hl' hne => ?_, fun n b hl => (by rw [look_nil] at hl; cases hl), ys, rfl, rfl, hR⟩
 · cases en with
   | returned v =>
     show v = (updG γ' r (γ' r0) r).1
     rw [updG_same]; exact a1
   | _ => exact a1
 · have h5 := a5 r0 _ (look_cons_eq ..)
   by_cases e : r = n
   · subst e; rw [look_cons_eq] at hl; cases hl; rw [updG_same]; exact h5
   · rw [look_cons_ne e, look_nil] at hl; cases hl
 · by_cases e : r = n
   · subst e; rw [updG_same] at hq; exact a6 r0 _ (look_cons_eq ..) q hq
   · rw [look_cons_ne e, look_nil] at hl; cases hl
 · by_cases e : r = n
   · by_cases e' : r = n'
     · exact absurd (e.symm.trans e') hne
     · rw [look_cons_ne e', look_nil] at hl'; cases hl'
   · rw [look_cons_ne e, look_nil] at hl; cases hl
theorem MeetsO.data {P : Program} {f : FuncId} {ds : List D} {e : TypeId} {k : Nat} {R : List (List D) → Prop} (h : MeetsO P f ds e k R) : Meets P f ds fun d => ∃ xs, d = .sl xs ∧ R xs := by
 refine ⟨⟨(h.own 0).fn, fun γ V W xs h1 h2 h3 h4 => ((h.own 0).run γ V W xs h1 h2 h3 h4).mono ?_⟩⟩
 rintro en W' ⟨γ', V', o, O', a1, a2, a3, a4, a5, a6, a7, a8, ys, rfl, rfl, hR⟩
 refine ⟨γ', V', .ret (.d (.sl ys)), [], ?_, a2, a3, a4, fun n b hl => (by rw [look_nil] at hl; cases hl), fun n b hl => (by rw [look_nil] at hl; cases hl), fun n n' b b' hl => (by rw [look_nil] at hl; cases hl), fun n b hl => (by rw [look_nil] at hl; cases hl), _, rfl, rfl, ys, rfl, hR⟩
 cases en with
 | returned v =>
   have hs := sl_rep (a5 0 _ (look_cons_eq ..)) rfl
   have e : v = (γ' 0).1 := a1
   show Rep V' v (.sl ys)
   rw [e]; exact hs
 | _ => exact a1
end Go.Proofs.YtedjnaggkakphaaGreatDoor.Dx
/- The executor over data: a box that a function value in it has captured (a closure that calls itself) becomes public: it reads as data unrolled to any depth. -/
namespace Go.Proofs.YtedjnaggkakphaaGreatDoor.Dx
open Go Go.RowKit
section
variable {P : Program} {T : List (Nat × TI)} {C : Cx} {γ : Gm} {st : SSt} {V : Know} {a : Act} {W : World}
/-- a mark: the next region is n -/
theorem J_at {Q : Post} (n : Nat) {ops : Array Oper} {d : Bool} {y : Code} (h : J P C (.seq (.region n ops d) y) Q st) : J P C (.seq (.region n ops d) y) Q st := h
/-- the ways of a statement meet again: behind it the slots us hold what is said, whatever the way -/
theorem cut_to (hT : TOk P T) (cf : Cfg) {x y : Code} {Q : Post} (us : List (Nat × Base)) (h : match st with
 | ⟨L, O, p⟩ => forceL (us.map (·.1) ++ wrote x) fun w => upL w L fun L' =>
   vcC P T C cf x (fun e st' => match e with | .nrm => Rnd (SubSt st' ⟨us ++ L', O, p⟩) | .ret => Q .ret st' | .exit n => Q (.exit n) st' | .pan d => Q (.pan d) st') ⟨L, O, p⟩ ∧ J P C y Q ⟨us ++ L', O, p⟩) : J P C (.seq x y) Q st := by
 refine ⟨fun γ V a W hr => ?_⟩
 obtain ⟨L, O, p⟩ := st
 simp only at h
 rw [forceL_eq] at h
 obtain ⟨L', h⟩ := upL_ok _ _ h
 refine wpIn_seq (Go.wpIn_mono ((vcC_run hT cf x h.1).run γ V a W hr) fun e a W hq => ?_)
 cases e with
 | normal => obtain ⟨γ, st, V, h1, h2⟩ := hq; exact h.2.run γ V a W (sub_rel h1 h2.out)
 | ret => exact hq
 | exit n => exact hq
 | panic c => exact hq
 | goto l => exact hq.elim
 | outgrown => exact hq.elim
end
end Go.Proofs.YtedjnaggkakphaaGreatDoor.Dx
/- The executor over data, part Y: regions that draw their order, where one of several operations may come next. -/
namespace Go.Proofs.YtedjnaggkakphaaGreatDoor.Dx
open Go Go.RowKit
section
variable {P : Program} {T : List (Nat × TI)} {cf : Cfg} {ops : Array Oper} {C : Cx} {γ : Gm} {V : Know} {a : Act} {W : World} {lc : List Nat} {l : Array Bool} {F : List Fl} {st : SSt} {Q : Exit → Act → World → Prop}
end
end Go.Proofs.YtedjnaggkakphaaGreatDoor.Dx
