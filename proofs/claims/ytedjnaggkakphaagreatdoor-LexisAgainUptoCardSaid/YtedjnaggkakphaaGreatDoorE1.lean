/- The executor over data: a function that puts off a call of a closure, which may recover. -/
import Derived.Test.YtedjnaggkakphaaGreatDoorDk
import Derived.RecoverIn
import Derived.RangeFuncLeaves
import Derived.LoopNIn
set_option linter.all false
namespace Go.Proofs.YtedjnaggkakphaaGreatDoor.Dx
open Go Go.RowKit
def seqs : List Code → Code → Code
 | [], r => r
 | x :: xs, r => .seq x (seqs xs r)
/-- what the frame below does while a deferred call runs -/
def ModeOk (V : Know) (m : Option D) (u : FrameMode) : Prop := match m with
 | none => u = .returning
 | some d => ∃ v, u = .panicking [{ v, recovered := false }] ∧ Rep V v d
/-- a deferred call that is handed resources: it gives back, and the frame below goes on to return -/
structure MeetsD (P : Program) (f : FuncId) (args : List Base) (O : List (Nat × Blk)) (m : Option D) (R : List (Nat × Blk) → Prop) : Prop where
 fn : FnOk P f
 run : ∀ (γ : Gm) (V : Know) (W : World) (xs : List Value) (u : FrameMode), Sees V W → Vals γ V args xs → OwnOk γ V W O → InjOk γ O → ModeOk V m u →
  CallsDIn Fence.wide 0 P f xs.toArray u W fun e u' W' => ∃ γ' V' O', (∃ v, e = .returned v) ∧ settle u' = .returning ∧ BelowX (blks γ O) W.heap.size W W' ∧ Fresh V V' (blks γ O) W.heap.size ∧ Sees V' W' ∧ OwnOk γ' V' W' O' ∧
   (∀ n b, look n O' = some b → ∀ k, (γ' n).2 = some k → k ∈ blks γ O ∨ W.heap.size ≤ k) ∧ InjOk γ' O' ∧ (∀ n b, look n O = some b → isBoxB n b = true → γ' n = γ n) ∧ R O'
theorem MeetsD.mono {P : Program} {f : FuncId} {args : List Base} {O : List (Nat × Blk)} {m : Option D} {R R' : List (Nat × Blk) → Prop} (h : MeetsD P f args O m R) (hr : ∀ O', R O' → R' O') : MeetsD P f args O m R' :=
 ⟨h.fn, fun γ V W xs u h1 h2 h3 h4 h5 => (h.run γ V W xs u h1 h2 h3 h4 h5).mono fun _ _ _ ⟨γ', V', O', a1, a2, a3, a4, a5, a6, a7, a8, a9, a10⟩ => ⟨γ', V', O', a1, a2, a3, a4, a5, a6, a7, a8, a9, hr O' a10⟩⟩
/-- from every frame and world that the state describes, the statements come to K, or leave to Q -/
structure JL (P : Program) (C : Cx) (xs : List Code) (Q : Post) (K : SSt → Prop) (st : SSt) : Prop where
 run : ∀ γ V a W, Rel C γ st V a W → ∀ (rest : Code) (Qf : Exit → Act → World → Prop), (∀ γ st V a W, Rel C γ st V a W → K st → rest.wpIn (fen C) 0 P Qf a W) →
  (∀ e a W, e ≠ .normal → LiftQ C Q e a W → Qf e a W) → (seqs xs rest).wpIn (fen C) 0 P Qf a W
section
variable {P : Program} {T : List (Nat × TI)} {C : Cx} {st : SSt} {Q : Post} {K : SSt → Prop}
end
end Go.Proofs.YtedjnaggkakphaaGreatDoor.Dx
/- The executor over data, part AB: zero slices that stand raw in a box's cells; function values that have captured a box's address, as data. -/
namespace Go.Proofs.YtedjnaggkakphaaGreatDoor.Dx
open Go Go.RowKit
section
variable {P : Program} {C : Cx} {st : SSt} {c : Code} {Q : Post}
/-- a nil slice that stands raw reads as one that may grow, or as data -/
def NilOk (b b' : Base) : Prop := b' = b ∨ (b = .d (.raw (.slice none 0 0)) ∧ (b' = .full [] ∨ b' = .d (.sl [])))
def NilOks : List Base → List Base → Prop
 | [], [] => True
 | b :: r, b' :: r' => NilOk b b' ∧ NilOks r r'
 | _, _ => False
theorem NilOk.run {b b' : Base} (h : NilOk b b') {γ : Gm} {V : Know} {x : Value} (hx : RVb γ V b x) : RVb γ V b' x := by
 rcases h with rfl | ⟨rfl, rfl | rfl⟩
 · exact hx
 · cases hx; exact ⟨.nil, none, 0, rfl⟩
 · cases hx; exact .nil
theorem NilOks.get : ∀ {l l' : List Base}, NilOks l l' → l'.length = l.length ∧ ∀ (i : Nat) b b', l[i]? = some b → l'[i]? = some b' → NilOk b b'
 | [], [], _ => ⟨rfl, fun i b b' h => by simp at h⟩
 | [], _ :: _, h => h.elim
 | _ :: _, [], h => h.elim
 | b :: r, b' :: r', h => by
   obtain ⟨h1, h2⟩ := NilOks.get h.2
   refine ⟨by simp [h1], fun i x y hx hy => ?_⟩
   cases i with
   | zero => simp at hx hy; subst hx hy; exact h.1
   | succ i => exact h2 i x y (by simpa using hx) (by simpa using hy)
/-- a loop of at most m rounds, round by round -/
structure JR (P : Program) (C : Cx) (c : Code) (Q : Post) (m : Nat) (st : SSt) : Prop where
 run : ∀ γ V a W, Rel C γ st V a W → Code.roundsIn (fen C) 0 P c (LiftQ C Q) m a W
def thenR (P : Program) (C : Cx) (c : Code) (Q : Post) (m : Nat) : Post := fun e st => match e with | .nrm => JR P C c Q m st | .ret => Q .ret st | .exit n => Q (.exit n) st | .pan d => Q (.pan d) st
theorem JR_go {T : List (Nat × TI)} (hT : TOk P T) (cf : Cfg) {m : Nat} (h : vcC P T C cf c (thenR P C c Q m) st) : JR P C c Q (m + 1) st := by
 refine ⟨fun γ V a W hr => ?_⟩
 rw [roundsIn_succ]
 refine Go.wpIn_mono ((vcC_run hT cf c h).run γ V a W hr) fun e a W hq => ?_
 cases e with
 | normal => obtain ⟨γ, st, V, h1, h2⟩ := hq; exact h2.run γ V a W h1
 | ret => exact hq
 | exit n => exact hq
 | panic c => exact hq
 | goto l => exact hq.elim
 | outgrown => exact hq.elim
theorem J_rounds {T : List (Nat × TI)} (hT : TOk P T) (cf : Cfg) (m : Nat) (h : vcC P T C cf c (thenR P C c Q m) st) : J P C (.loop c) Q st :=
 ⟨fun γ V a W hr => wpIn_loop_rounds (m + 1) ((JR_go hT cf h).run γ V a W hr)⟩
end
end Go.Proofs.YtedjnaggkakphaaGreatDoor.Dx
