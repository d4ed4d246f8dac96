/- Functions that hand back a slice of their own. -/
import Derived.Test.YtaopegkpjhkooaaGreatDoorBi
set_option linter.all false
namespace Go.Proofs.YtaopegkpjhkooaaGreatDoor.Dx
open Go Go.RowKit
/-- the function hands back a slice that nobody else writes -/
structure MeetsO (P : Program) (f : FuncId) (ds : List D) (e : TypeId) (k : Nat) (R : List (List D) → Prop) : Prop where
 own : ∀ r, MeetsR P f (ds.map .d) [] fun o O' => ∃ xs, o = .ret (.own r) ∧ O' = [(r, .sl ⟨e, k, xs, true⟩)] ∧ R xs
theorem MeetsO.of {P : Program} {f : FuncId} {ds : List D} {e : TypeId} {k : Nat} {R : List (List D) → Prop} (r0 : Nat)
 (h : MeetsR P f (ds.map .d) [] fun o O' => ∃ xs, o = .ret (.own r0) ∧ O' = [(r0, .sl ⟨e, k, xs, true⟩)] ∧ R xs) : MeetsO P f ds e k R := by
 refine ⟨fun r => ⟨h.fn, fun γ V W xs h1 h2 h3 h4 => (h.run γ V W xs h1 h2 h3 h4).mono ?_⟩⟩
 rintro en W' ⟨γ', V', o, O', a1, a2, a3, a4, a5, a6, a7, a8, ys, rfl, rfl, hR⟩
 refine ⟨updG γ' r (γ' r0), V', .ret (.own r), _, ?_, a2, a3, a4, fun n b hl => ?_, fun n b hl q hq => ?_, fun n n' b b' hl hl' hne => ?_, fun n b hl => (by rw [look_nil] at hl; cases hl), ys, rfl, rfl, hR⟩
 · cases en with
   | returned v =>
     show v = (updG γ' r (γ' r0) r).1
     rw [updG_same]; exact a1
   | _ => exact a1
 · have h5 := a5 r0 _ (look_cons_eq ..)
   by_cases e : r = n
   · subst e; rw [look_cons_eq] at hl; cases hl; rw [updG_same]; exact h5
   · rw [look_cons_ne e, look_nil] at hl; cases hl
 · by_cases e : r = n
   · subst e; rw [updG_same] at hq; exact a6 r0 _ (look_cons_eq ..) q hq
   · rw [look_cons_ne e, look_nil] at hl; cases hl
 · by_cases e : r = n
   · by_cases e' : r = n'
     · exact absurd (e.symm.trans e') hne
     · rw [look_cons_ne e', look_nil] at hl'; cases hl'
   · rw [look_cons_ne e, look_nil] at hl; cases hl
theorem MeetsO.data {P : Program} {f : FuncId} {ds : List D} {e : TypeId} {k : Nat} {R : List (List D) → Prop} (h : MeetsO P f ds e k R) : Meets P f ds fun d => ∃ xs, d = .sl xs ∧ R xs := by
 refine ⟨⟨(h.own 0).fn, fun γ V W xs h1 h2 h3 h4 => ((h.own 0).run γ V W xs h1 h2 h3 h4).mono ?_⟩⟩
 rintro en W' ⟨γ', V', o, O', a1, a2, a3, a4, a5, a6, a7, a8, ys, rfl, rfl, hR⟩
 refine ⟨γ', V', .ret (.d (.sl ys)), [], ?_, a2, a3, a4, fun n b hl => (by rw [look_nil] at hl; cases hl), fun n b hl => (by rw [look_nil] at hl; cases hl), fun n n' b b' hl => (by rw [look_nil] at hl; cases hl), fun n b hl => (by rw [look_nil] at hl; cases hl), _, rfl, rfl, ys, rfl, hR⟩
 cases en with
 | returned v =>
   have hs := sl_rep (a5 0 _ (look_cons_eq ..)) rfl
   have e : v = (γ' 0).1 := a1
   show Rep V' v (.sl ys)
   rw [e]; exact hs
 | _ => exact a1
end Go.Proofs.YtaopegkpjhkooaaGreatDoor.Dx
/- The executor over data: a box that a function value in it has captured (a closure that calls itself) becomes public: it reads as data unrolled to any depth. -/
namespace Go.Proofs.YtaopegkpjhkooaaGreatDoor.Dx
open Go Go.RowKit
section
variable {P : Program} {T : List (Nat × TI)} {C : Cx} {γ : Gm} {st : SSt} {V : Know} {a : Act} {W : World}
/-- a mark: the next region is n -/
theorem J_at {Q : Post} (n : Nat) {ops : Array Oper} {d : Bool} {y : Code} (h : J P C (.seq (.region n ops d) y) Q st) : J P C (.seq (.region n ops d) y) Q st := h
end
end Go.Proofs.YtaopegkpjhkooaaGreatDoor.Dx
/- The executor over data, part Y: regions that draw their order, where one of several operations may come next. -/
namespace Go.Proofs.YtaopegkpjhkooaaGreatDoor.Dx
open Go Go.RowKit
section
variable {P : Program} {T : List (Nat × TI)} {cf : Cfg} {ops : Array Oper} {C : Cx} {γ : Gm} {V : Know} {a : Act} {W : World} {lc : List Nat} {l : Array Bool} {F : List Fl} {st : SSt} {Q : Exit → Act → World → Prop}
end
end Go.Proofs.YtaopegkpjhkooaaGreatDoor.Dx
