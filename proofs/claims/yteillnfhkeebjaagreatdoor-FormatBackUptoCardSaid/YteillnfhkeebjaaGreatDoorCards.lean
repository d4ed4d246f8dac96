/-
  DERIVED. GIVEN WITH THE SEED: THE CARDS: each row of YteillnfhkeebjaaGreatDoorRows.lean that lists a variable, with what it lists TIED to the program's text (the seventh form; the later family's looks); each row that meets fmt, with fmt's text TOLD by the authors' own Lean function (tested against real Go, not proved from fmt's source: count such statements apart). THE CARD IS WHAT COUNTS. Prove the row's statement (the work); the ties are given (YteillnfhkeebjaaGreatDoorTie.lean); close each card by the builder's one call (the guide's Derived/Test/ToyasCard.lean, 'card_holds'). Laid BY PROGRAM, IN A SANDBOX (cutbox-door.mjs). By AI agents, Wed Nov 11 2026. No macro, syntax, notation, axiom, sorry.
-/
import Derived.Test.YteillnfhkeebjaaGreatDoorRows
import GoSem.ClaimSeven
namespace Go.Proofs.YteillnfhkeebjaaGreatDoor
namespace Rows

/-- THE TIED CARD OF 'stopwatchlaw08.FormatBack'. -/
def formatBackCard : Claim7 := { stood := { row := formatBackRow, standIns := [], harness := (true, "7b26adcda0380141252c4afd18154b1de213ae2fa31cb0fdf8d1bb302704e0c7"), looks := true }, kinds := [], alts := [], laidByText := true, laidKinds := [.data, .data, .data, .data, .sentinel, .sentinel, .pinned], laidTests := true, laidLooks := .later }
def FormatBackCardSaid : Prop := Claim7.holds Tryz.pinned (.plain (OpenSpec.ofChange formatBackSpec)) formatBackCard

/-- THE TIED CARD OF 'stopwatchlaw08.FormatTies'. -/
def formatTiesCard : Claim7 := { stood := { row := formatTiesRow, standIns := [], harness := (true, "7b26adcda0380141252c4afd18154b1de213ae2fa31cb0fdf8d1bb302704e0c7"), looks := true }, kinds := [], alts := [], laidByText := true, laidKinds := [.data, .data, .data, .data, .sentinel, .sentinel, .pinned], laidTests := true, laidLooks := .later }
def FormatTiesCardSaid : Prop := Claim7.holds Tryz.pinned (.plain (OpenSpec.ofChange formatTiesSpec)) formatTiesCard

/-- THE SECOND FORM's CARD OF 'stopwatchlaw08.FormatBack'. -/
def formatBackUptoCard : Claim7 := { stood := { row := formatBackUptoRow, standIns := [], harness := (true, "7b26adcda0380141252c4afd18154b1de213ae2fa31cb0fdf8d1bb302704e0c7"), looks := true }, kinds := [], alts := [], laidByText := true, laidKinds := [.data, .data, .data, .data, .sentinel, .sentinel, .pinned], laidTests := true, laidLooks := .later }
def FormatBackUptoCardSaid : Prop := Claim7.holds Tryz.pinned (.plain (OpenSpec.upto formatBackSpec)) formatBackUptoCard

/-- THE SECOND FORM's CARD OF 'stopwatchlaw08.FormatTies'. -/
def formatTiesUptoCard : Claim7 := { stood := { row := formatTiesUptoRow, standIns := [], harness := (true, "7b26adcda0380141252c4afd18154b1de213ae2fa31cb0fdf8d1bb302704e0c7"), looks := true }, kinds := [], alts := [], laidByText := true, laidKinds := [.data, .data, .data, .data, .sentinel, .sentinel, .pinned], laidTests := true, laidLooks := .later }
def FormatTiesUptoCardSaid : Prop := Claim7.holds Tryz.pinned (.plain (OpenSpec.upto formatTiesSpec)) formatTiesUptoCard
end Rows
end Go.Proofs.YteillnfhkeebjaaGreatDoor
