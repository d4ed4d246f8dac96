/-
  DERIVED. GIVEN WITH THE SEED: THE CARDS: each row of YtaopegkpjhkooaaGreatDoorRows.lean that lists a variable, with what it lists TIED to the program's text (the seventh form; the later family's looks); each row that meets fmt, with fmt's text TOLD by the authors' own Lean function (tested against real Go, not proved from fmt's source: count such statements apart). THE CARD IS WHAT COUNTS. Prove the row's statement (the work); the ties are given (YtaopegkpjhkooaaGreatDoorTie.lean); close each card by the builder's one call (the guide's Derived/Test/ToyasCard.lean, 'card_holds'). Laid BY PROGRAM, IN A SANDBOX (cutbox-door.mjs). By AI agents, Wed Nov 11 2026. No macro, syntax, notation, axiom, sorry.
-/
import Derived.Test.YtaopegkpjhkooaaGreatDoorRows
import GoSem.ClaimSeven
namespace Go.Proofs.YtaopegkpjhkooaaGreatDoor
namespace Rows

/-- THE TIED CARD OF 'stopwatchlaw06.SyntaxBinds'. -/
def syntaxBindsCard : Claim7 := { stood := { row := syntaxBindsRow, standIns := [], harness := (true, "582fd6950e539198fad7475e8078dd49057c77a3d2a92d8761ea7c8ec87c12e1"), looks := true }, kinds := [], alts := [], laidByText := true, laidKinds := [.data, .data, .data, .data, .sentinel, .sentinel, .pinned], laidTests := true, laidLooks := .later }
def SyntaxBindsCardSaid : Prop := Claim7.holds Tryz.pinned (.plain (OpenSpec.ofChange syntaxBindsSpec)) syntaxBindsCard

/-- THE TIED CARD OF 'stopwatchlaw06.SyntaxSteps'. -/
def syntaxStepsCard : Claim7 := { stood := { row := syntaxStepsRow, standIns := [], harness := (true, "582fd6950e539198fad7475e8078dd49057c77a3d2a92d8761ea7c8ec87c12e1"), looks := true }, kinds := [], alts := [], laidByText := true, laidKinds := [.data, .data, .data, .data, .sentinel, .sentinel, .pinned], laidTests := true, laidLooks := .later }
def SyntaxStepsCardSaid : Prop := Claim7.holds Tryz.pinned (.plain (OpenSpec.ofChange syntaxStepsSpec)) syntaxStepsCard

/-- THE TIED CARD OF 'stopwatchlaw06.SyntaxWritten'. -/
def syntaxWrittenCard : Claim7 := { stood := { row := syntaxWrittenRow, standIns := [], harness := (true, "582fd6950e539198fad7475e8078dd49057c77a3d2a92d8761ea7c8ec87c12e1"), looks := true }, kinds := [], alts := [], laidByText := true, laidKinds := [.data, .data, .data, .data, .sentinel, .sentinel, .pinned], laidTests := true, laidLooks := .later }
def SyntaxWrittenCardSaid : Prop := Claim7.holds Tryz.pinned (.plain (OpenSpec.ofChange syntaxWrittenSpec)) syntaxWrittenCard

/-- THE TIED CARD OF 'stopwatchlaw06.SyntaxTokens'. -/
def syntaxTokensCard : Claim7 := { stood := { row := syntaxTokensRow, standIns := [], harness := (true, "582fd6950e539198fad7475e8078dd49057c77a3d2a92d8761ea7c8ec87c12e1"), looks := true }, kinds := [], alts := [], laidByText := true, laidKinds := [.data, .data, .data, .data, .sentinel, .sentinel, .pinned], laidTests := true, laidLooks := .later }
def SyntaxTokensCardSaid : Prop := Claim7.holds Tryz.pinned (.plain (OpenSpec.ofChange syntaxTokensSpec)) syntaxTokensCard

/-- THE TIED CARD OF 'stopwatchlaw06.SyntaxBehind'. -/
def syntaxBehindCard : Claim7 := { stood := { row := syntaxBehindRow, standIns := [], harness := (true, "582fd6950e539198fad7475e8078dd49057c77a3d2a92d8761ea7c8ec87c12e1"), looks := true }, kinds := [], alts := [], laidByText := true, laidKinds := [.data, .data, .data, .data, .sentinel, .sentinel, .pinned], laidTests := true, laidLooks := .later }
def SyntaxBehindCardSaid : Prop := Claim7.holds Tryz.pinned (.plain (OpenSpec.ofChange syntaxBehindSpec)) syntaxBehindCard

/-- THE TIED CARD OF 'stopwatchlaw06.SyntaxCut'. -/
def syntaxCutCard : Claim7 := { stood := { row := syntaxCutRow, standIns := [], harness := (true, "582fd6950e539198fad7475e8078dd49057c77a3d2a92d8761ea7c8ec87c12e1"), looks := true }, kinds := [], alts := [], laidByText := true, laidKinds := [.data, .data, .data, .data, .sentinel, .sentinel, .pinned], laidTests := true, laidLooks := .later }
def SyntaxCutCardSaid : Prop := Claim7.holds Tryz.pinned (.plain (OpenSpec.ofChange syntaxCutSpec)) syntaxCutCard

/-- THE SECOND FORM's CARD OF 'stopwatchlaw06.SyntaxBinds'. -/
def syntaxBindsUptoCard : Claim7 := { stood := { row := syntaxBindsUptoRow, standIns := [], harness := (true, "582fd6950e539198fad7475e8078dd49057c77a3d2a92d8761ea7c8ec87c12e1"), looks := true }, kinds := [], alts := [], laidByText := true, laidKinds := [.data, .data, .data, .data, .sentinel, .sentinel, .pinned], laidTests := true, laidLooks := .later }
def SyntaxBindsUptoCardSaid : Prop := Claim7.holds Tryz.pinned (.plain (OpenSpec.upto syntaxBindsSpec)) syntaxBindsUptoCard

/-- THE SECOND FORM's CARD OF 'stopwatchlaw06.SyntaxSteps'. -/
def syntaxStepsUptoCard : Claim7 := { stood := { row := syntaxStepsUptoRow, standIns := [], harness := (true, "582fd6950e539198fad7475e8078dd49057c77a3d2a92d8761ea7c8ec87c12e1"), looks := true }, kinds := [], alts := [], laidByText := true, laidKinds := [.data, .data, .data, .data, .sentinel, .sentinel, .pinned], laidTests := true, laidLooks := .later }
def SyntaxStepsUptoCardSaid : Prop := Claim7.holds Tryz.pinned (.plain (OpenSpec.upto syntaxStepsSpec)) syntaxStepsUptoCard

/-- THE SECOND FORM's CARD OF 'stopwatchlaw06.SyntaxWritten'. -/
def syntaxWrittenUptoCard : Claim7 := { stood := { row := syntaxWrittenUptoRow, standIns := [], harness := (true, "582fd6950e539198fad7475e8078dd49057c77a3d2a92d8761ea7c8ec87c12e1"), looks := true }, kinds := [], alts := [], laidByText := true, laidKinds := [.data, .data, .data, .data, .sentinel, .sentinel, .pinned], laidTests := true, laidLooks := .later }
def SyntaxWrittenUptoCardSaid : Prop := Claim7.holds Tryz.pinned (.plain (OpenSpec.upto syntaxWrittenSpec)) syntaxWrittenUptoCard

/-- THE SECOND FORM's CARD OF 'stopwatchlaw06.SyntaxTokens'. -/
def syntaxTokensUptoCard : Claim7 := { stood := { row := syntaxTokensUptoRow, standIns := [], harness := (true, "582fd6950e539198fad7475e8078dd49057c77a3d2a92d8761ea7c8ec87c12e1"), looks := true }, kinds := [], alts := [], laidByText := true, laidKinds := [.data, .data, .data, .data, .sentinel, .sentinel, .pinned], laidTests := true, laidLooks := .later }
def SyntaxTokensUptoCardSaid : Prop := Claim7.holds Tryz.pinned (.plain (OpenSpec.upto syntaxTokensSpec)) syntaxTokensUptoCard

/-- THE SECOND FORM's CARD OF 'stopwatchlaw06.SyntaxBehind'. -/
def syntaxBehindUptoCard : Claim7 := { stood := { row := syntaxBehindUptoRow, standIns := [], harness := (true, "582fd6950e539198fad7475e8078dd49057c77a3d2a92d8761ea7c8ec87c12e1"), looks := true }, kinds := [], alts := [], laidByText := true, laidKinds := [.data, .data, .data, .data, .sentinel, .sentinel, .pinned], laidTests := true, laidLooks := .later }
def SyntaxBehindUptoCardSaid : Prop := Claim7.holds Tryz.pinned (.plain (OpenSpec.upto syntaxBehindSpec)) syntaxBehindUptoCard

/-- THE SECOND FORM's CARD OF 'stopwatchlaw06.SyntaxCut'. -/
def syntaxCutUptoCard : Claim7 := { stood := { row := syntaxCutUptoRow, standIns := [], harness := (true, "582fd6950e539198fad7475e8078dd49057c77a3d2a92d8761ea7c8ec87c12e1"), looks := true }, kinds := [], alts := [], laidByText := true, laidKinds := [.data, .data, .data, .data, .sentinel, .sentinel, .pinned], laidTests := true, laidLooks := .later }
def SyntaxCutUptoCardSaid : Prop := Claim7.holds Tryz.pinned (.plain (OpenSpec.upto syntaxCutSpec)) syntaxCutUptoCard
end Rows
end Go.Proofs.YtaopegkpjhkooaaGreatDoor
