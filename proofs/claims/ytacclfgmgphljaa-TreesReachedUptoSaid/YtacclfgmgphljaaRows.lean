/-
  NARROWER THAN 'FOR EVERY INPUT', by the rows' own cells (each row's printed sentence says how): TreesMeaning: loops · TreesUnique: loops · TreesRewritten: loops · TreesReached: loops.
  DERIVED. THE GIVEN ROWS OF THIS SEAT. 6 by the template 'for every input the law returns true; each argument reads behind the call as it read before'; 0 by the template 'total and deterministic' (their statements: YtacclfgmgphljaaTotals.lean).
  GIVEN WITH THE SEED: the statements are not yours to turn. If you find one false, say at which input.
  Laid BY PROGRAM, IN A SANDBOX (cutbox-rows.mjs): the forced cells as the released guide's own fill.sh prints them over the translation 18105959f14ae454… (all of the seat's roots in one cut). By AI agents, Wed Nov 11 2026. No macro, syntax, notation, axiom, sorry.
-/
import Derived.Test.YtacclfgmgphljaaChecked
import GoSem.Claim
import GoSem.ClaimJoined
import GoSem.ClaimMapViews
import Derived.JoinedTies
import Derived.KernelRfl
namespace Go.Proofs.Ytacclfgmgphljaa
/- THE CELL 'sum', in the pinned program and in every row, IS THE sha256 OF THE DUMP (.gsa) THAT YtacclfgmgphljaaProg.lean LOADS. Nothing in Lean hashes anything: it is a label: what it is worth is what the hold of that sum in a sandbox is worth. -/
noncomputable def Try.pinned : Pinned := { name := "ytacclfgmgphljaa", sum := "18105959f14ae45428c0c40ae8c67e5d980b2b830f4bec846abf5644a6c71aa1", checked := Try.checked }
namespace Rows
def none {H : Type} : Left H := { results := [], args := [] }

/-- 'stopwatchlaw10.TreesCheckSpec': WHATEVER THE INPUT: true; the input reads as it did. -/
def treesCheckSpecSpec : ChangeSpec := { name := "treesCheckSpec", fn := fun _ => fun
  | [d1, d2] => { results := [.lit (.bool true)], args := [d1, d2] }
  | _ => none }
def treesCheckSpecRow : OpenClaim := { program := "ytacclfgmgphljaa", sum := "18105959f14ae45428c0c40ae8c67e5d980b2b830f4bec846abf5644a6c71aa1", func := "stopwatch/stopwatchlaw10.TreesCheckSpec", spec := "treesCheckSpec", unfollowed := true, recurses := true, plainKeys := false, apart := false }
def TreesCheckSpecSaid : Prop := treesCheckSpecRow.holds Try.pinned (OpenSpec.ofChange treesCheckSpecSpec)

/-- ITS FALSE NEIGHBOUR: 'it returns false'. Refute it at one input. -/
def treesCheckSpecWrong : ChangeSpec := { name := "treesCheckSpec", fn := fun _ => fun
  | [d1, d2] => { results := [.lit (.bool false)], args := [d1, d2] }
  | _ => none }
def TreesCheckSpecWrongFalsely : Prop := treesCheckSpecRow.holds Try.pinned (OpenSpec.ofChange treesCheckSpecWrong)

/-- 'stopwatchlaw10.TreesEvalSpec': WHATEVER THE INPUT: true; the input reads as it did. -/
def treesEvalSpecSpec : ChangeSpec := { name := "treesEvalSpec", fn := fun _ => fun
  | [d1, d2, d3, d4] => { results := [.lit (.bool true)], args := [d1, d2, d3, d4] }
  | _ => none }
def treesEvalSpecRow : OpenClaim := { program := "ytacclfgmgphljaa", sum := "18105959f14ae45428c0c40ae8c67e5d980b2b830f4bec846abf5644a6c71aa1", func := "stopwatch/stopwatchlaw10.TreesEvalSpec", spec := "treesEvalSpec", unfollowed := true, recurses := true, plainKeys := false, apart := false }
def TreesEvalSpecSaid : Prop := treesEvalSpecRow.holds Try.pinned (OpenSpec.ofChange treesEvalSpecSpec)

/-- ITS FALSE NEIGHBOUR: 'it returns false'. Refute it at one input. -/
def treesEvalSpecWrong : ChangeSpec := { name := "treesEvalSpec", fn := fun _ => fun
  | [d1, d2, d3, d4] => { results := [.lit (.bool false)], args := [d1, d2, d3, d4] }
  | _ => none }
def TreesEvalSpecWrongFalsely : Prop := treesEvalSpecRow.holds Try.pinned (OpenSpec.ofChange treesEvalSpecWrong)

/-- 'stopwatchlaw10.TreesMeaning': WHATEVER THE INPUT: true; the input reads as it did. -/
def treesMeaningSpec : ChangeSpec := { name := "treesMeaning", fn := fun _ => fun
  | [d1, d2, d3] => { results := [.lit (.bool true)], args := [d1, d2, d3] }
  | _ => none }
def treesMeaningRow : OpenClaim := { program := "ytacclfgmgphljaa", sum := "18105959f14ae45428c0c40ae8c67e5d980b2b830f4bec846abf5644a6c71aa1", func := "stopwatch/stopwatchlaw10.TreesMeaning", spec := "treesMeaning", unfollowed := true, recurses := true, loops := true, plainKeys := false, apart := false }
def TreesMeaningSaid : Prop := treesMeaningRow.holds Try.pinned (OpenSpec.ofChange treesMeaningSpec)

/-- ITS FALSE NEIGHBOUR: 'it returns false'. Refute it at one input. -/
def treesMeaningWrong : ChangeSpec := { name := "treesMeaning", fn := fun _ => fun
  | [d1, d2, d3] => { results := [.lit (.bool false)], args := [d1, d2, d3] }
  | _ => none }
def TreesMeaningWrongFalsely : Prop := treesMeaningRow.holds Try.pinned (OpenSpec.ofChange treesMeaningWrong)

/-- 'stopwatchlaw10.TreesUnique': WHATEVER THE INPUT: true; the input reads as it did. -/
def treesUniqueSpec : ChangeSpec := { name := "treesUnique", fn := fun _ => fun
  | [d1, d2] => { results := [.lit (.bool true)], args := [d1, d2] }
  | _ => none }
def treesUniqueRow : OpenClaim := { program := "ytacclfgmgphljaa", sum := "18105959f14ae45428c0c40ae8c67e5d980b2b830f4bec846abf5644a6c71aa1", func := "stopwatch/stopwatchlaw10.TreesUnique", spec := "treesUnique", unfollowed := true, recurses := true, loops := true, plainKeys := false, apart := false }
def TreesUniqueSaid : Prop := treesUniqueRow.holds Try.pinned (OpenSpec.ofChange treesUniqueSpec)

/-- ITS FALSE NEIGHBOUR: 'it returns false'. Refute it at one input. -/
def treesUniqueWrong : ChangeSpec := { name := "treesUnique", fn := fun _ => fun
  | [d1, d2] => { results := [.lit (.bool false)], args := [d1, d2] }
  | _ => none }
def TreesUniqueWrongFalsely : Prop := treesUniqueRow.holds Try.pinned (OpenSpec.ofChange treesUniqueWrong)

/-- 'stopwatchlaw10.TreesRewritten': WHATEVER THE INPUT: true; the input reads as it did. -/
def treesRewrittenSpec : ChangeSpec := { name := "treesRewritten", fn := fun _ => fun
  | [d1, d2, d3] => { results := [.lit (.bool true)], args := [d1, d2, d3] }
  | _ => none }
def treesRewrittenRow : OpenClaim := { program := "ytacclfgmgphljaa", sum := "18105959f14ae45428c0c40ae8c67e5d980b2b830f4bec846abf5644a6c71aa1", func := "stopwatch/stopwatchlaw10.TreesRewritten", spec := "treesRewritten", unfollowed := true, recurses := true, loops := true, plainKeys := false, apart := false }
def TreesRewrittenSaid : Prop := treesRewrittenRow.holds Try.pinned (OpenSpec.ofChange treesRewrittenSpec)

/-- ITS FALSE NEIGHBOUR: 'it returns false'. Refute it at one input. -/
def treesRewrittenWrong : ChangeSpec := { name := "treesRewritten", fn := fun _ => fun
  | [d1, d2, d3] => { results := [.lit (.bool false)], args := [d1, d2, d3] }
  | _ => none }
def TreesRewrittenWrongFalsely : Prop := treesRewrittenRow.holds Try.pinned (OpenSpec.ofChange treesRewrittenWrong)

/-- 'stopwatchlaw10.TreesReached': WHATEVER THE INPUT: true; the input reads as it did. -/
def treesReachedSpec : ChangeSpec := { name := "treesReached", fn := fun _ => fun
  | [d1, d2] => { results := [.lit (.bool true)], args := [d1, d2] }
  | _ => none }
def treesReachedRow : OpenClaim := { program := "ytacclfgmgphljaa", sum := "18105959f14ae45428c0c40ae8c67e5d980b2b830f4bec846abf5644a6c71aa1", func := "stopwatch/stopwatchlaw10.TreesReached", spec := "treesReached", unfollowed := true, recurses := true, loops := true, plainKeys := false, apart := false }
def TreesReachedSaid : Prop := treesReachedRow.holds Try.pinned (OpenSpec.ofChange treesReachedSpec)

/-- ITS FALSE NEIGHBOUR: 'it returns false'. Refute it at one input. -/
def treesReachedWrong : ChangeSpec := { name := "treesReached", fn := fun _ => fun
  | [d1, d2] => { results := [.lit (.bool false)], args := [d1, d2] }
  | _ => none }
def TreesReachedWrongFalsely : Prop := treesReachedRow.holds Try.pinned (OpenSpec.ofChange treesReachedWrong)

/- THE SECOND FORM. 'bulk': how many values and letters a reading holds, each counted each time it is reached (what is shared counts as often as it is met; a slice's spare places count too). A statement '..UptoSaid' is the law's where the arguments, and the package variables that the reading takes, are together of bulk at most 1048576: NARROWER than '..Said'. Prove '..Said' where nothing that the law and all that it calls make is longer than what came in: it says more and counts as full. Else prove '..UptoSaid'. A law counts once. -/
mutual
def uptoBulk {H : Type} : DataW H → Nat
  | .lit (.string bytes) => bytes.length + 1
  | .lit _ => 1
  | .nil => 1
  | .ptr d => uptoBulk d + 1
  | .slice elems spare => uptoBulkAll elems + uptoBulkAll spare + 1
  | .agg parts => uptoBulkAll parts + 1
  | .iface _ d => uptoBulk d + 1
  | .map entries => uptoBulkEntries entries + 1
  | .held _ => 1
def uptoBulkAll {H : Type} : List (DataW H) → Nat
  | [] => 0
  | d :: r => uptoBulk d + uptoBulkAll r
def uptoBulkEntries {H : Type} : List (Lit × DataW H) → Nat
  | [] => 0
  | x :: r => uptoBulkEntry x + uptoBulkEntries r
def uptoBulkEntry {H : Type} : Lit × DataW H → Nat
  | (.string bytes, d) => bytes.length + uptoBulk d + 1
  | (_, d) => uptoBulk d + 1
 end
def uptoSmall : (H : Type) → List (DataW H) → Bool := fun _ ds => decide (uptoBulkAll ds ≤ 1048576)
def OpenSpec.upto (s : _root_.Go.ChangeSpec) : _root_.Go.OpenSpec := { _root_.Go.OpenSpec.ofChange s with cond := some uptoSmall }

/-- 'stopwatchlaw10.TreesCheckSpec', WHERE WHAT IT READS IS OF BULK AT MOST 1048576: true; the input reads as it did. -/
def treesCheckSpecUptoRow : OpenClaim := { program := "ytacclfgmgphljaa", sum := "18105959f14ae45428c0c40ae8c67e5d980b2b830f4bec846abf5644a6c71aa1", func := "stopwatch/stopwatchlaw10.TreesCheckSpec", spec := "treesCheckSpec", unfollowed := true, recurses := true, plainKeys := false, apart := false, narrowed := true }
def TreesCheckSpecUptoSaid : Prop := treesCheckSpecUptoRow.holds Try.pinned (OpenSpec.upto treesCheckSpecSpec)

/-- 'stopwatchlaw10.TreesEvalSpec', WHERE WHAT IT READS IS OF BULK AT MOST 1048576: true; the input reads as it did. -/
def treesEvalSpecUptoRow : OpenClaim := { program := "ytacclfgmgphljaa", sum := "18105959f14ae45428c0c40ae8c67e5d980b2b830f4bec846abf5644a6c71aa1", func := "stopwatch/stopwatchlaw10.TreesEvalSpec", spec := "treesEvalSpec", unfollowed := true, recurses := true, plainKeys := false, apart := false, narrowed := true }
def TreesEvalSpecUptoSaid : Prop := treesEvalSpecUptoRow.holds Try.pinned (OpenSpec.upto treesEvalSpecSpec)

/-- 'stopwatchlaw10.TreesMeaning', WHERE WHAT IT READS IS OF BULK AT MOST 1048576: true; the input reads as it did. -/
def treesMeaningUptoRow : OpenClaim := { program := "ytacclfgmgphljaa", sum := "18105959f14ae45428c0c40ae8c67e5d980b2b830f4bec846abf5644a6c71aa1", func := "stopwatch/stopwatchlaw10.TreesMeaning", spec := "treesMeaning", unfollowed := true, recurses := true, loops := true, plainKeys := false, apart := false, narrowed := true }
def TreesMeaningUptoSaid : Prop := treesMeaningUptoRow.holds Try.pinned (OpenSpec.upto treesMeaningSpec)

/-- 'stopwatchlaw10.TreesUnique', WHERE WHAT IT READS IS OF BULK AT MOST 1048576: true; the input reads as it did. -/
def treesUniqueUptoRow : OpenClaim := { program := "ytacclfgmgphljaa", sum := "18105959f14ae45428c0c40ae8c67e5d980b2b830f4bec846abf5644a6c71aa1", func := "stopwatch/stopwatchlaw10.TreesUnique", spec := "treesUnique", unfollowed := true, recurses := true, loops := true, plainKeys := false, apart := false, narrowed := true }
def TreesUniqueUptoSaid : Prop := treesUniqueUptoRow.holds Try.pinned (OpenSpec.upto treesUniqueSpec)

/-- 'stopwatchlaw10.TreesRewritten', WHERE WHAT IT READS IS OF BULK AT MOST 1048576: true; the input reads as it did. -/
def treesRewrittenUptoRow : OpenClaim := { program := "ytacclfgmgphljaa", sum := "18105959f14ae45428c0c40ae8c67e5d980b2b830f4bec846abf5644a6c71aa1", func := "stopwatch/stopwatchlaw10.TreesRewritten", spec := "treesRewritten", unfollowed := true, recurses := true, loops := true, plainKeys := false, apart := false, narrowed := true }
def TreesRewrittenUptoSaid : Prop := treesRewrittenUptoRow.holds Try.pinned (OpenSpec.upto treesRewrittenSpec)

/-- 'stopwatchlaw10.TreesReached', WHERE WHAT IT READS IS OF BULK AT MOST 1048576: true; the input reads as it did. -/
def treesReachedUptoRow : OpenClaim := { program := "ytacclfgmgphljaa", sum := "18105959f14ae45428c0c40ae8c67e5d980b2b830f4bec846abf5644a6c71aa1", func := "stopwatch/stopwatchlaw10.TreesReached", spec := "treesReached", unfollowed := true, recurses := true, loops := true, plainKeys := false, apart := false, narrowed := true }
def TreesReachedUptoSaid : Prop := treesReachedUptoRow.holds Try.pinned (OpenSpec.upto treesReachedSpec)

end Rows
end Go.Proofs.Ytacclfgmgphljaa
