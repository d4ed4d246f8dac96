/-
  NARROWER THAN 'FOR EVERY INPUT', by the rows' own cells (each row's printed sentence says how): CourseRouteSpec: loops · CourseBetweenSpec: loops · CourseSums: loops · CourseExtra: loops · CourseFinish: loops.
  DERIVED. THE GIVEN ROWS OF THIS SEAT. 5 by the template 'for every input the law returns true; each argument reads behind the call as it read before'; 0 by the template 'total and deterministic' (their statements: YtkkohadkpogdfaaGreatTotals.lean).
  GIVEN WITH THE SEED: the statements are not yours to turn. If you find one false, say at which input.
  Laid BY PROGRAM, IN A SANDBOX (cutbox-rows.mjs): the forced cells as the released guide's own fill.sh prints them over the translation cde74be7c6529c96… (all of the seat's roots in one cut). By AI agents, Wed Nov 11 2026. No macro, syntax, notation, axiom, sorry.
-/
import Derived.Test.YtkkohadkpogdfaaGreatChecked
import GoSem.Claim
import GoSem.ClaimJoined
import GoSem.ClaimMapViews
import Derived.JoinedTies
import Derived.KernelRfl
namespace Go.Proofs.YtkkohadkpogdfaaGreat
/- THE CELL 'sum', in the pinned program and in every row, IS THE sha256 OF THE DUMP (.gsa) THAT YtkkohadkpogdfaaGreatProg.lean LOADS. Nothing in Lean hashes anything: it is a label: what it is worth is what the hold of that sum in a sandbox is worth. -/
noncomputable def Tryz.pinned : Pinned := { name := "ytkkohadkpogdfaagreat", sum := "cde74be7c6529c96be3997f277e3fabc0d3bd05010fc4aaf9dabac4e2310bd30", checked := Tryz.checked }
namespace Rows
def none {H : Type} : Left H := { results := [], args := [] }

/-- 'stopwatchlaw09.CourseRouteSpec': WHATEVER THE INPUT: true; the input reads as it did. -/
def courseRouteSpecSpec : ChangeSpec := { name := "courseRouteSpec", fn := fun _ => fun
  | [d1, d2, d3, d4, d5] => { results := [.lit (.bool true)], args := [d1, d2, d3, d4, d5] }
  | _ => none }
def courseRouteSpecRow : OpenClaim := { program := "ytkkohadkpogdfaagreat", sum := "cde74be7c6529c96be3997f277e3fabc0d3bd05010fc4aaf9dabac4e2310bd30", func := "stopwatch/stopwatchlaw09.CourseRouteSpec", spec := "courseRouteSpec", inPlace := ["internal/bytealg.IndexByteString", "internal/bytealg.IndexString", "slices.overlaps[int]"], unfollowed := true, recurses := true, named := ["internal/bytealg.MaxLen"], loops := true, plainKeys := false, apart := false }
def CourseRouteSpecSaid : Prop := courseRouteSpecRow.holds Tryz.pinned (OpenSpec.ofChange courseRouteSpecSpec)

/-- ITS FALSE NEIGHBOUR: 'it returns false'. Refute it at one input. -/
def courseRouteSpecWrong : ChangeSpec := { name := "courseRouteSpec", fn := fun _ => fun
  | [d1, d2, d3, d4, d5] => { results := [.lit (.bool false)], args := [d1, d2, d3, d4, d5] }
  | _ => none }
def CourseRouteSpecWrongFalsely : Prop := courseRouteSpecRow.holds Tryz.pinned (OpenSpec.ofChange courseRouteSpecWrong)

/-- 'stopwatchlaw09.CourseBetweenSpec': WHATEVER THE INPUT: true; the input reads as it did. -/
def courseBetweenSpecSpec : ChangeSpec := { name := "courseBetweenSpec", fn := fun _ => fun
  | [d1, d2, d3, d4, d5] => { results := [.lit (.bool true)], args := [d1, d2, d3, d4, d5] }
  | _ => none }
def courseBetweenSpecRow : OpenClaim := { program := "ytkkohadkpogdfaagreat", sum := "cde74be7c6529c96be3997f277e3fabc0d3bd05010fc4aaf9dabac4e2310bd30", func := "stopwatch/stopwatchlaw09.CourseBetweenSpec", spec := "courseBetweenSpec", inPlace := ["internal/bytealg.IndexByteString", "internal/bytealg.IndexString", "slices.overlaps[int]"], unfollowed := true, recurses := true, named := ["internal/bytealg.MaxLen"], loops := true, plainKeys := false, apart := false }
def CourseBetweenSpecSaid : Prop := courseBetweenSpecRow.holds Tryz.pinned (OpenSpec.ofChange courseBetweenSpecSpec)

/-- ITS FALSE NEIGHBOUR: 'it returns false'. Refute it at one input. -/
def courseBetweenSpecWrong : ChangeSpec := { name := "courseBetweenSpec", fn := fun _ => fun
  | [d1, d2, d3, d4, d5] => { results := [.lit (.bool false)], args := [d1, d2, d3, d4, d5] }
  | _ => none }
def CourseBetweenSpecWrongFalsely : Prop := courseBetweenSpecRow.holds Tryz.pinned (OpenSpec.ofChange courseBetweenSpecWrong)

/-- 'stopwatchlaw09.CourseSums': WHATEVER THE INPUT: true; the input reads as it did. -/
def courseSumsSpec : ChangeSpec := { name := "courseSums", fn := fun _ => fun
  | [d1, d2, d3, d4, d5, d6] => { results := [.lit (.bool true)], args := [d1, d2, d3, d4, d5, d6] }
  | _ => none }
def courseSumsRow : OpenClaim := { program := "ytkkohadkpogdfaagreat", sum := "cde74be7c6529c96be3997f277e3fabc0d3bd05010fc4aaf9dabac4e2310bd30", func := "stopwatch/stopwatchlaw09.CourseSums", spec := "courseSums", inPlace := ["internal/bytealg.IndexByteString", "internal/bytealg.IndexString", "slices.overlaps[int]"], unfollowed := true, recurses := true, named := ["internal/bytealg.MaxLen"], loops := true, plainKeys := false, apart := false }
def CourseSumsSaid : Prop := courseSumsRow.holds Tryz.pinned (OpenSpec.ofChange courseSumsSpec)

/-- ITS FALSE NEIGHBOUR: 'it returns false'. Refute it at one input. -/
def courseSumsWrong : ChangeSpec := { name := "courseSums", fn := fun _ => fun
  | [d1, d2, d3, d4, d5, d6] => { results := [.lit (.bool false)], args := [d1, d2, d3, d4, d5, d6] }
  | _ => none }
def CourseSumsWrongFalsely : Prop := courseSumsRow.holds Tryz.pinned (OpenSpec.ofChange courseSumsWrong)

/-- 'stopwatchlaw09.CourseExtra': WHATEVER THE INPUT: true; the input reads as it did. -/
def courseExtraSpec : ChangeSpec := { name := "courseExtra", fn := fun _ => fun
  | [d1, d2, d3] => { results := [.lit (.bool true)], args := [d1, d2, d3] }
  | _ => none }
def courseExtraRow : OpenClaim := { program := "ytkkohadkpogdfaagreat", sum := "cde74be7c6529c96be3997f277e3fabc0d3bd05010fc4aaf9dabac4e2310bd30", func := "stopwatch/stopwatchlaw09.CourseExtra", spec := "courseExtra", inPlace := ["internal/bytealg.IndexByteString", "internal/bytealg.IndexString", "slices.overlaps[int]"], unfollowed := true, recurses := true, named := ["internal/bytealg.MaxLen"], loops := true, plainKeys := false, apart := false }
def CourseExtraSaid : Prop := courseExtraRow.holds Tryz.pinned (OpenSpec.ofChange courseExtraSpec)

/-- ITS FALSE NEIGHBOUR: 'it returns false'. Refute it at one input. -/
def courseExtraWrong : ChangeSpec := { name := "courseExtra", fn := fun _ => fun
  | [d1, d2, d3] => { results := [.lit (.bool false)], args := [d1, d2, d3] }
  | _ => none }
def CourseExtraWrongFalsely : Prop := courseExtraRow.holds Tryz.pinned (OpenSpec.ofChange courseExtraWrong)

/-- 'stopwatchlaw09.CourseFinish': WHATEVER THE INPUT: true; the input reads as it did. -/
def courseFinishSpec : ChangeSpec := { name := "courseFinish", fn := fun _ => fun
  | [d1, d2, d3] => { results := [.lit (.bool true)], args := [d1, d2, d3] }
  | _ => none }
def courseFinishRow : OpenClaim := { program := "ytkkohadkpogdfaagreat", sum := "cde74be7c6529c96be3997f277e3fabc0d3bd05010fc4aaf9dabac4e2310bd30", func := "stopwatch/stopwatchlaw09.CourseFinish", spec := "courseFinish", inPlace := ["internal/bytealg.IndexByteString", "internal/bytealg.IndexString", "slices.overlaps[int]"], unfollowed := true, recurses := true, named := ["internal/bytealg.MaxLen"], loops := true, plainKeys := false, apart := false }
def CourseFinishSaid : Prop := courseFinishRow.holds Tryz.pinned (OpenSpec.ofChange courseFinishSpec)

/-- ITS FALSE NEIGHBOUR: 'it returns false'. Refute it at one input. -/
def courseFinishWrong : ChangeSpec := { name := "courseFinish", fn := fun _ => fun
  | [d1, d2, d3] => { results := [.lit (.bool false)], args := [d1, d2, d3] }
  | _ => none }
def CourseFinishWrongFalsely : Prop := courseFinishRow.holds Tryz.pinned (OpenSpec.ofChange courseFinishWrong)

/- THE SECOND FORM. 'bulk': how many values and letters a reading holds, each counted each time it is reached (what is shared counts as often as it is met; a slice's spare places count too). A statement '..UptoSaid' is the law's where the arguments, and the package variables that the reading takes, are together of bulk at most 1048576: NARROWER than '..Said'. Prove '..Said' where nothing that the law and all that it calls make is longer than what came in: it says more and counts as full. Else prove '..UptoSaid'. A law counts once. -/
mutual
def uptoBulk {H : Type} : DataW H → Nat
  | .lit (.string bytes) => bytes.length + 1
  | .lit _ => 1
  | .nil => 1
  | .ptr d => uptoBulk d + 1
  | .slice elems spare => uptoBulkAll elems + uptoBulkAll spare + 1
  | .agg parts => uptoBulkAll parts + 1
  | .iface _ d => uptoBulk d + 1
  | .map entries => uptoBulkEntries entries + 1
  | .held _ => 1
def uptoBulkAll {H : Type} : List (DataW H) → Nat
  | [] => 0
  | d :: r => uptoBulk d + uptoBulkAll r
def uptoBulkEntries {H : Type} : List (Lit × DataW H) → Nat
  | [] => 0
  | x :: r => uptoBulkEntry x + uptoBulkEntries r
def uptoBulkEntry {H : Type} : Lit × DataW H → Nat
  | (.string bytes, d) => bytes.length + uptoBulk d + 1
  | (_, d) => uptoBulk d + 1
 end
def uptoSmall : (H : Type) → List (DataW H) → Bool := fun _ ds => decide (uptoBulkAll ds ≤ 1048576)
def OpenSpec.upto (s : _root_.Go.ChangeSpec) : _root_.Go.OpenSpec := { _root_.Go.OpenSpec.ofChange s with cond := some uptoSmall }

/-- 'stopwatchlaw09.CourseRouteSpec', WHERE WHAT IT READS IS OF BULK AT MOST 1048576: true; the input reads as it did. -/
def courseRouteSpecUptoRow : OpenClaim := { program := "ytkkohadkpogdfaagreat", sum := "cde74be7c6529c96be3997f277e3fabc0d3bd05010fc4aaf9dabac4e2310bd30", func := "stopwatch/stopwatchlaw09.CourseRouteSpec", spec := "courseRouteSpec", inPlace := ["internal/bytealg.IndexByteString", "internal/bytealg.IndexString", "slices.overlaps[int]"], unfollowed := true, recurses := true, named := ["internal/bytealg.MaxLen"], loops := true, plainKeys := false, apart := false, narrowed := true }
def CourseRouteSpecUptoSaid : Prop := courseRouteSpecUptoRow.holds Tryz.pinned (OpenSpec.upto courseRouteSpecSpec)

/-- 'stopwatchlaw09.CourseBetweenSpec', WHERE WHAT IT READS IS OF BULK AT MOST 1048576: true; the input reads as it did. -/
def courseBetweenSpecUptoRow : OpenClaim := { program := "ytkkohadkpogdfaagreat", sum := "cde74be7c6529c96be3997f277e3fabc0d3bd05010fc4aaf9dabac4e2310bd30", func := "stopwatch/stopwatchlaw09.CourseBetweenSpec", spec := "courseBetweenSpec", inPlace := ["internal/bytealg.IndexByteString", "internal/bytealg.IndexString", "slices.overlaps[int]"], unfollowed := true, recurses := true, named := ["internal/bytealg.MaxLen"], loops := true, plainKeys := false, apart := false, narrowed := true }
def CourseBetweenSpecUptoSaid : Prop := courseBetweenSpecUptoRow.holds Tryz.pinned (OpenSpec.upto courseBetweenSpecSpec)

/-- 'stopwatchlaw09.CourseSums', WHERE WHAT IT READS IS OF BULK AT MOST 1048576: true; the input reads as it did. -/
def courseSumsUptoRow : OpenClaim := { program := "ytkkohadkpogdfaagreat", sum := "cde74be7c6529c96be3997f277e3fabc0d3bd05010fc4aaf9dabac4e2310bd30", func := "stopwatch/stopwatchlaw09.CourseSums", spec := "courseSums", inPlace := ["internal/bytealg.IndexByteString", "internal/bytealg.IndexString", "slices.overlaps[int]"], unfollowed := true, recurses := true, named := ["internal/bytealg.MaxLen"], loops := true, plainKeys := false, apart := false, narrowed := true }
def CourseSumsUptoSaid : Prop := courseSumsUptoRow.holds Tryz.pinned (OpenSpec.upto courseSumsSpec)

/-- 'stopwatchlaw09.CourseExtra', WHERE WHAT IT READS IS OF BULK AT MOST 1048576: true; the input reads as it did. -/
def courseExtraUptoRow : OpenClaim := { program := "ytkkohadkpogdfaagreat", sum := "cde74be7c6529c96be3997f277e3fabc0d3bd05010fc4aaf9dabac4e2310bd30", func := "stopwatch/stopwatchlaw09.CourseExtra", spec := "courseExtra", inPlace := ["internal/bytealg.IndexByteString", "internal/bytealg.IndexString", "slices.overlaps[int]"], unfollowed := true, recurses := true, named := ["internal/bytealg.MaxLen"], loops := true, plainKeys := false, apart := false, narrowed := true }
def CourseExtraUptoSaid : Prop := courseExtraUptoRow.holds Tryz.pinned (OpenSpec.upto courseExtraSpec)

/-- 'stopwatchlaw09.CourseFinish', WHERE WHAT IT READS IS OF BULK AT MOST 1048576: true; the input reads as it did. -/
def courseFinishUptoRow : OpenClaim := { program := "ytkkohadkpogdfaagreat", sum := "cde74be7c6529c96be3997f277e3fabc0d3bd05010fc4aaf9dabac4e2310bd30", func := "stopwatch/stopwatchlaw09.CourseFinish", spec := "courseFinish", inPlace := ["internal/bytealg.IndexByteString", "internal/bytealg.IndexString", "slices.overlaps[int]"], unfollowed := true, recurses := true, named := ["internal/bytealg.MaxLen"], loops := true, plainKeys := false, apart := false, narrowed := true }
def CourseFinishUptoSaid : Prop := courseFinishUptoRow.holds Tryz.pinned (OpenSpec.upto courseFinishSpec)

end Rows
end Go.Proofs.YtkkohadkpogdfaaGreat
