/- Functions that hand back a slice of their own. -/
import Derived.Test.YtedjnaggkakphaaGreatDoorMi
set_option linter.all false
namespace Go.Proofs.YtedjnaggkakphaaGreatDoor.Dx
open Go Go.RowKit
set_option linter.all false

/-- the function hands back a slice that nobody else writes -/
structure MeetsO (P : Program) (f : FuncId) (ds : List D) (e : TypeId) (k : Nat) (R : List (List D) → Prop) : Prop where
  own : ∀ r, MeetsR P f (ds.map .d) [] fun o O' => ∃ xs, o = .ret (.own r) ∧ O' = [(r, .sl ⟨e, k, xs, true⟩)] ∧ R xs

end Go.Proofs.YtedjnaggkakphaaGreatDoor.Dx

/- The executor over data: a box that a function value in it has captured (a closure that calls itself) becomes public: it reads as data unrolled to any depth. -/
namespace Go.Proofs.YtedjnaggkakphaaGreatDoor.Dx
open Go Go.RowKit
set_option linter.all false

section
variable {P : Program} {T : List (Nat × TI)} {C : Cx} {γ : Gm} {st : SSt} {V : Know} {a : Act} {W : World}

/-- a mark: the next region is n -/
theorem J_at {Q : Post} (n : Nat) {ops : Array Oper} {d : Bool} {y : Code} (h : J P C (.seq (.region n ops d) y) Q st) : J P C (.seq (.region n ops d) y) Q st := h

end
end Go.Proofs.YtedjnaggkakphaaGreatDoor.Dx

/- The executor over data, part Y: regions that draw their order, where one of several operations may come next. -/
namespace Go.Proofs.YtedjnaggkakphaaGreatDoor.Dx
open Go Go.RowKit
set_option linter.all false

section
variable {P : Program} {T : List (Nat × TI)} {cf : Cfg} {ops : Array Oper} {C : Cx} {γ : Gm} {V : Know} {a : Act} {W : World} {lc : List Nat} {l : Array Bool} {F : List Fl} {st : SSt} {Q : Exit → Act → World → Prop}

end
end Go.Proofs.YtedjnaggkakphaaGreatDoor.Dx

