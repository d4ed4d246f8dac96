/-
  NARROWER THAN 'FOR EVERY INPUT', by the rows' own cells (each row's printed sentence says how): TypingCourseSpec: loops · TypingCondSpec: loops · TypingOnce: loops · TypingRoutes: loops · TypingLess: loops · TypingDirectSpec: loops · TypingLogic: loops.
  DERIVED. THE GIVEN ROWS OF THIS SEAT. 7 by the template 'for every input the law returns true; each argument reads behind the call as it read before'; 0 by the template 'total and deterministic' (their statements: YtiejhmfeppflaaaGreatTotals.lean).
  GIVEN WITH THE SEED: the statements are not yours to turn. If you find one false, say at which input.
  Laid BY PROGRAM, IN A SANDBOX (cutbox-rows.mjs): the forced cells as the released guide's own fill.sh prints them over the translation 71ca75fba4590b1c… (all of the seat's roots in one cut). By AI agents, Wed Nov 11 2026. No macro, syntax, notation, axiom, sorry.
-/
import Derived.Test.YtiejhmfeppflaaaGreatChecked
import GoSem.Claim
import GoSem.ClaimJoined
import GoSem.ClaimMapViews
import Derived.JoinedTies
import Derived.KernelRfl
namespace Go.Proofs.YtiejhmfeppflaaaGreat
/- THE CELL 'sum', in the pinned program and in every row, IS THE sha256 OF THE DUMP (.gsa) THAT YtiejhmfeppflaaaGreatProg.lean LOADS. Nothing in Lean hashes anything: it is a label: what it is worth is what the hold of that sum in a sandbox is worth. -/
noncomputable def Tryz.pinned : Pinned := { name := "ytiejhmfeppflaaagreat", sum := "71ca75fba4590b1c25580ffe42c1792e53ad64d2ab9472c3200646abc3ceec95", checked := Tryz.checked }
namespace Rows
def none {H : Type} : Left H := { results := [], args := [] }

/-- 'stopwatchlaw07.TypingCourseSpec': WHATEVER THE INPUT: true; the input reads as it did. -/
def typingCourseSpecSpec : ChangeSpec := { name := "typingCourseSpec", fn := fun _ => fun
  | [d] => { results := [.lit (.bool true)], args := [d] }
  | _ => none }
def typingCourseSpecRow : OpenClaim := { program := "ytiejhmfeppflaaagreat", sum := "71ca75fba4590b1c25580ffe42c1792e53ad64d2ab9472c3200646abc3ceec95", func := "stopwatch/stopwatchlaw07.TypingCourseSpec", spec := "typingCourseSpec", inPlace := ["internal/bytealg.IndexByteString", "internal/bytealg.IndexString"], unfollowed := true, recurses := true, named := ["internal/bytealg.MaxLen"], loops := true, plainKeys := false, apart := false }
def TypingCourseSpecSaid : Prop := typingCourseSpecRow.holds Tryz.pinned (OpenSpec.ofChange typingCourseSpecSpec)

/-- ITS FALSE NEIGHBOUR: 'it returns false'. Refute it at one input. -/
def typingCourseSpecWrong : ChangeSpec := { name := "typingCourseSpec", fn := fun _ => fun
  | [d] => { results := [.lit (.bool false)], args := [d] }
  | _ => none }
def TypingCourseSpecWrongFalsely : Prop := typingCourseSpecRow.holds Tryz.pinned (OpenSpec.ofChange typingCourseSpecWrong)

/-- 'stopwatchlaw07.TypingCondSpec': WHATEVER THE INPUT: true; the input reads as it did. -/
def typingCondSpecSpec : ChangeSpec := { name := "typingCondSpec", fn := fun _ => fun
  | [d1, d2, d3] => { results := [.lit (.bool true)], args := [d1, d2, d3] }
  | _ => none }
def typingCondSpecRow : OpenClaim := { program := "ytiejhmfeppflaaagreat", sum := "71ca75fba4590b1c25580ffe42c1792e53ad64d2ab9472c3200646abc3ceec95", func := "stopwatch/stopwatchlaw07.TypingCondSpec", spec := "typingCondSpec", inPlace := ["internal/bytealg.IndexByteString", "internal/bytealg.IndexString"], unfollowed := true, recurses := true, named := ["internal/bytealg.MaxLen"], loops := true, plainKeys := false, apart := false }
def TypingCondSpecSaid : Prop := typingCondSpecRow.holds Tryz.pinned (OpenSpec.ofChange typingCondSpecSpec)

/-- ITS FALSE NEIGHBOUR: 'it returns false'. Refute it at one input. -/
def typingCondSpecWrong : ChangeSpec := { name := "typingCondSpec", fn := fun _ => fun
  | [d1, d2, d3] => { results := [.lit (.bool false)], args := [d1, d2, d3] }
  | _ => none }
def TypingCondSpecWrongFalsely : Prop := typingCondSpecRow.holds Tryz.pinned (OpenSpec.ofChange typingCondSpecWrong)

/-- 'stopwatchlaw07.TypingOnce': WHATEVER THE INPUT: true; the input reads as it did. -/
def typingOnceSpec : ChangeSpec := { name := "typingOnce", fn := fun _ => fun
  | [d1, d2, d3] => { results := [.lit (.bool true)], args := [d1, d2, d3] }
  | _ => none }
def typingOnceRow : OpenClaim := { program := "ytiejhmfeppflaaagreat", sum := "71ca75fba4590b1c25580ffe42c1792e53ad64d2ab9472c3200646abc3ceec95", func := "stopwatch/stopwatchlaw07.TypingOnce", spec := "typingOnce", inPlace := ["internal/bytealg.IndexByteString", "internal/bytealg.IndexString"], unfollowed := true, recurses := true, named := ["internal/bytealg.MaxLen"], loops := true, plainKeys := false, apart := false }
def TypingOnceSaid : Prop := typingOnceRow.holds Tryz.pinned (OpenSpec.ofChange typingOnceSpec)

/-- ITS FALSE NEIGHBOUR: 'it returns false'. Refute it at one input. -/
def typingOnceWrong : ChangeSpec := { name := "typingOnce", fn := fun _ => fun
  | [d1, d2, d3] => { results := [.lit (.bool false)], args := [d1, d2, d3] }
  | _ => none }
def TypingOnceWrongFalsely : Prop := typingOnceRow.holds Tryz.pinned (OpenSpec.ofChange typingOnceWrong)

/-- 'stopwatchlaw07.TypingRoutes': WHATEVER THE INPUT: true; the input reads as it did. -/
def typingRoutesSpec : ChangeSpec := { name := "typingRoutes", fn := fun _ => fun
  | [d] => { results := [.lit (.bool true)], args := [d] }
  | _ => none }
def typingRoutesRow : OpenClaim := { program := "ytiejhmfeppflaaagreat", sum := "71ca75fba4590b1c25580ffe42c1792e53ad64d2ab9472c3200646abc3ceec95", func := "stopwatch/stopwatchlaw07.TypingRoutes", spec := "typingRoutes", inPlace := ["internal/bytealg.IndexByteString", "internal/bytealg.IndexString"], unfollowed := true, recurses := true, named := ["internal/bytealg.MaxLen"], loops := true, plainKeys := false, apart := false }
def TypingRoutesSaid : Prop := typingRoutesRow.holds Tryz.pinned (OpenSpec.ofChange typingRoutesSpec)

/-- ITS FALSE NEIGHBOUR: 'it returns false'. Refute it at one input. -/
def typingRoutesWrong : ChangeSpec := { name := "typingRoutes", fn := fun _ => fun
  | [d] => { results := [.lit (.bool false)], args := [d] }
  | _ => none }
def TypingRoutesWrongFalsely : Prop := typingRoutesRow.holds Tryz.pinned (OpenSpec.ofChange typingRoutesWrong)

/-- 'stopwatchlaw07.TypingLess': WHATEVER THE INPUT: true; the input reads as it did. -/
def typingLessSpec : ChangeSpec := { name := "typingLess", fn := fun _ => fun
  | [d1, d2] => { results := [.lit (.bool true)], args := [d1, d2] }
  | _ => none }
def typingLessRow : OpenClaim := { program := "ytiejhmfeppflaaagreat", sum := "71ca75fba4590b1c25580ffe42c1792e53ad64d2ab9472c3200646abc3ceec95", func := "stopwatch/stopwatchlaw07.TypingLess", spec := "typingLess", inPlace := ["internal/bytealg.IndexByteString", "internal/bytealg.IndexString"], unfollowed := true, recurses := true, named := ["internal/bytealg.MaxLen"], loops := true, plainKeys := false, apart := false }
def TypingLessSaid : Prop := typingLessRow.holds Tryz.pinned (OpenSpec.ofChange typingLessSpec)

/-- ITS FALSE NEIGHBOUR: 'it returns false'. Refute it at one input. -/
def typingLessWrong : ChangeSpec := { name := "typingLess", fn := fun _ => fun
  | [d1, d2] => { results := [.lit (.bool false)], args := [d1, d2] }
  | _ => none }
def TypingLessWrongFalsely : Prop := typingLessRow.holds Tryz.pinned (OpenSpec.ofChange typingLessWrong)

/-- 'stopwatchlaw07.TypingDirectSpec': WHATEVER THE INPUT: true; the input reads as it did. -/
def typingDirectSpecSpec : ChangeSpec := { name := "typingDirectSpec", fn := fun _ => fun
  | [d1, d2, d3] => { results := [.lit (.bool true)], args := [d1, d2, d3] }
  | _ => none }
def typingDirectSpecRow : OpenClaim := { program := "ytiejhmfeppflaaagreat", sum := "71ca75fba4590b1c25580ffe42c1792e53ad64d2ab9472c3200646abc3ceec95", func := "stopwatch/stopwatchlaw07.TypingDirectSpec", spec := "typingDirectSpec", inPlace := ["internal/bytealg.IndexByteString", "internal/bytealg.IndexString"], unfollowed := true, recurses := true, named := ["internal/bytealg.MaxLen"], loops := true, plainKeys := false, apart := false }
def TypingDirectSpecSaid : Prop := typingDirectSpecRow.holds Tryz.pinned (OpenSpec.ofChange typingDirectSpecSpec)

/-- ITS FALSE NEIGHBOUR: 'it returns false'. Refute it at one input. -/
def typingDirectSpecWrong : ChangeSpec := { name := "typingDirectSpec", fn := fun _ => fun
  | [d1, d2, d3] => { results := [.lit (.bool false)], args := [d1, d2, d3] }
  | _ => none }
def TypingDirectSpecWrongFalsely : Prop := typingDirectSpecRow.holds Tryz.pinned (OpenSpec.ofChange typingDirectSpecWrong)

/-- 'stopwatchlaw07.TypingLogic': WHATEVER THE INPUT: true; the input reads as it did. -/
def typingLogicSpec : ChangeSpec := { name := "typingLogic", fn := fun _ => fun
  | [d1, d2, d3] => { results := [.lit (.bool true)], args := [d1, d2, d3] }
  | _ => none }
def typingLogicRow : OpenClaim := { program := "ytiejhmfeppflaaagreat", sum := "71ca75fba4590b1c25580ffe42c1792e53ad64d2ab9472c3200646abc3ceec95", func := "stopwatch/stopwatchlaw07.TypingLogic", spec := "typingLogic", inPlace := ["internal/bytealg.IndexByteString", "internal/bytealg.IndexString"], unfollowed := true, recurses := true, named := ["internal/bytealg.MaxLen"], loops := true, plainKeys := false, apart := false }
def TypingLogicSaid : Prop := typingLogicRow.holds Tryz.pinned (OpenSpec.ofChange typingLogicSpec)

/-- ITS FALSE NEIGHBOUR: 'it returns false'. Refute it at one input. -/
def typingLogicWrong : ChangeSpec := { name := "typingLogic", fn := fun _ => fun
  | [d1, d2, d3] => { results := [.lit (.bool false)], args := [d1, d2, d3] }
  | _ => none }
def TypingLogicWrongFalsely : Prop := typingLogicRow.holds Tryz.pinned (OpenSpec.ofChange typingLogicWrong)

/- THE SECOND FORM. 'bulk': how many values and letters a reading holds, each counted each time it is reached (what is shared counts as often as it is met; a slice's spare places count too). A statement '..UptoSaid' is the law's where the arguments, and the package variables that the reading takes, are together of bulk at most 1048576: NARROWER than '..Said'. Prove '..Said' where nothing that the law and all that it calls make is longer than what came in: it says more and counts as full. Else prove '..UptoSaid'. A law counts once. -/
mutual
def uptoBulk {H : Type} : DataW H → Nat
  | .lit (.string bytes) => bytes.length + 1
  | .lit _ => 1
  | .nil => 1
  | .ptr d => uptoBulk d + 1
  | .slice elems spare => uptoBulkAll elems + uptoBulkAll spare + 1
  | .agg parts => uptoBulkAll parts + 1
  | .iface _ d => uptoBulk d + 1
  | .map entries => uptoBulkEntries entries + 1
  | .held _ => 1
def uptoBulkAll {H : Type} : List (DataW H) → Nat
  | [] => 0
  | d :: r => uptoBulk d + uptoBulkAll r
def uptoBulkEntries {H : Type} : List (Lit × DataW H) → Nat
  | [] => 0
  | x :: r => uptoBulkEntry x + uptoBulkEntries r
def uptoBulkEntry {H : Type} : Lit × DataW H → Nat
  | (.string bytes, d) => bytes.length + uptoBulk d + 1
  | (_, d) => uptoBulk d + 1
 end
def uptoSmall : (H : Type) → List (DataW H) → Bool := fun _ ds => decide (uptoBulkAll ds ≤ 1048576)
def OpenSpec.upto (s : _root_.Go.ChangeSpec) : _root_.Go.OpenSpec := { _root_.Go.OpenSpec.ofChange s with cond := some uptoSmall }

/-- 'stopwatchlaw07.TypingCourseSpec', WHERE WHAT IT READS IS OF BULK AT MOST 1048576: true; the input reads as it did. -/
def typingCourseSpecUptoRow : OpenClaim := { program := "ytiejhmfeppflaaagreat", sum := "71ca75fba4590b1c25580ffe42c1792e53ad64d2ab9472c3200646abc3ceec95", func := "stopwatch/stopwatchlaw07.TypingCourseSpec", spec := "typingCourseSpec", inPlace := ["internal/bytealg.IndexByteString", "internal/bytealg.IndexString"], unfollowed := true, recurses := true, named := ["internal/bytealg.MaxLen"], loops := true, plainKeys := false, apart := false, narrowed := true }
def TypingCourseSpecUptoSaid : Prop := typingCourseSpecUptoRow.holds Tryz.pinned (OpenSpec.upto typingCourseSpecSpec)

/-- 'stopwatchlaw07.TypingCondSpec', WHERE WHAT IT READS IS OF BULK AT MOST 1048576: true; the input reads as it did. -/
def typingCondSpecUptoRow : OpenClaim := { program := "ytiejhmfeppflaaagreat", sum := "71ca75fba4590b1c25580ffe42c1792e53ad64d2ab9472c3200646abc3ceec95", func := "stopwatch/stopwatchlaw07.TypingCondSpec", spec := "typingCondSpec", inPlace := ["internal/bytealg.IndexByteString", "internal/bytealg.IndexString"], unfollowed := true, recurses := true, named := ["internal/bytealg.MaxLen"], loops := true, plainKeys := false, apart := false, narrowed := true }
def TypingCondSpecUptoSaid : Prop := typingCondSpecUptoRow.holds Tryz.pinned (OpenSpec.upto typingCondSpecSpec)

/-- 'stopwatchlaw07.TypingOnce', WHERE WHAT IT READS IS OF BULK AT MOST 1048576: true; the input reads as it did. -/
def typingOnceUptoRow : OpenClaim := { program := "ytiejhmfeppflaaagreat", sum := "71ca75fba4590b1c25580ffe42c1792e53ad64d2ab9472c3200646abc3ceec95", func := "stopwatch/stopwatchlaw07.TypingOnce", spec := "typingOnce", inPlace := ["internal/bytealg.IndexByteString", "internal/bytealg.IndexString"], unfollowed := true, recurses := true, named := ["internal/bytealg.MaxLen"], loops := true, plainKeys := false, apart := false, narrowed := true }
def TypingOnceUptoSaid : Prop := typingOnceUptoRow.holds Tryz.pinned (OpenSpec.upto typingOnceSpec)

/-- 'stopwatchlaw07.TypingRoutes', WHERE WHAT IT READS IS OF BULK AT MOST 1048576: true; the input reads as it did. -/
def typingRoutesUptoRow : OpenClaim := { program := "ytiejhmfeppflaaagreat", sum := "71ca75fba4590b1c25580ffe42c1792e53ad64d2ab9472c3200646abc3ceec95", func := "stopwatch/stopwatchlaw07.TypingRoutes", spec := "typingRoutes", inPlace := ["internal/bytealg.IndexByteString", "internal/bytealg.IndexString"], unfollowed := true, recurses := true, named := ["internal/bytealg.MaxLen"], loops := true, plainKeys := false, apart := false, narrowed := true }
def TypingRoutesUptoSaid : Prop := typingRoutesUptoRow.holds Tryz.pinned (OpenSpec.upto typingRoutesSpec)

/-- 'stopwatchlaw07.TypingLess', WHERE WHAT IT READS IS OF BULK AT MOST 1048576: true; the input reads as it did. -/
def typingLessUptoRow : OpenClaim := { program := "ytiejhmfeppflaaagreat", sum := "71ca75fba4590b1c25580ffe42c1792e53ad64d2ab9472c3200646abc3ceec95", func := "stopwatch/stopwatchlaw07.TypingLess", spec := "typingLess", inPlace := ["internal/bytealg.IndexByteString", "internal/bytealg.IndexString"], unfollowed := true, recurses := true, named := ["internal/bytealg.MaxLen"], loops := true, plainKeys := false, apart := false, narrowed := true }
def TypingLessUptoSaid : Prop := typingLessUptoRow.holds Tryz.pinned (OpenSpec.upto typingLessSpec)

/-- 'stopwatchlaw07.TypingDirectSpec', WHERE WHAT IT READS IS OF BULK AT MOST 1048576: true; the input reads as it did. -/
def typingDirectSpecUptoRow : OpenClaim := { program := "ytiejhmfeppflaaagreat", sum := "71ca75fba4590b1c25580ffe42c1792e53ad64d2ab9472c3200646abc3ceec95", func := "stopwatch/stopwatchlaw07.TypingDirectSpec", spec := "typingDirectSpec", inPlace := ["internal/bytealg.IndexByteString", "internal/bytealg.IndexString"], unfollowed := true, recurses := true, named := ["internal/bytealg.MaxLen"], loops := true, plainKeys := false, apart := false, narrowed := true }
def TypingDirectSpecUptoSaid : Prop := typingDirectSpecUptoRow.holds Tryz.pinned (OpenSpec.upto typingDirectSpecSpec)

/-- 'stopwatchlaw07.TypingLogic', WHERE WHAT IT READS IS OF BULK AT MOST 1048576: true; the input reads as it did. -/
def typingLogicUptoRow : OpenClaim := { program := "ytiejhmfeppflaaagreat", sum := "71ca75fba4590b1c25580ffe42c1792e53ad64d2ab9472c3200646abc3ceec95", func := "stopwatch/stopwatchlaw07.TypingLogic", spec := "typingLogic", inPlace := ["internal/bytealg.IndexByteString", "internal/bytealg.IndexString"], unfollowed := true, recurses := true, named := ["internal/bytealg.MaxLen"], loops := true, plainKeys := false, apart := false, narrowed := true }
def TypingLogicUptoSaid : Prop := typingLogicUptoRow.holds Tryz.pinned (OpenSpec.upto typingLogicSpec)

end Rows
end Go.Proofs.YtiejhmfeppflaaaGreat
