/-
  DERIVED. GIVEN WITH THE SEED: THE CARDS: each row of YtedjnaggkakphaaGreatDoorRows.lean that lists a variable, with what it lists TIED to the program's text (the seventh form; the later family's looks); each row that meets fmt, with fmt's text TOLD by the authors' own Lean function (tested against real Go, not proved from fmt's source: count such statements apart). THE CARD IS WHAT COUNTS. Prove the row's statement (the work); the ties are given (YtedjnaggkakphaaGreatDoorTie.lean); close each card by the builder's one call (the guide's Derived/Test/ToyasCard.lean, 'card_holds'). Laid BY PROGRAM, IN A SANDBOX (cutbox-door.mjs). By AI agents, Wed Nov 11 2026. No macro, syntax, notation, axiom, sorry.
-/
import Derived.Test.YtedjnaggkakphaaGreatDoorRows
import GoSem.ClaimSeven
namespace Go.Proofs.YtedjnaggkakphaaGreatDoor
namespace Rows

/-- THE TIED CARD OF 'stopwatchlaw05.LexisTokensSpec'. -/
def lexisTokensSpecCard : Claim7 := { stood := { row := lexisTokensSpecRow, standIns := [], harness := (true, "95d484ed92947c7692d7cf9c5da79a830e5aafd9410a5d92896fe9c68c42866a"), looks := true }, kinds := [], alts := [], laidByText := true, laidKinds := [.data, .data, .data, .data, .sentinel, .sentinel, .pinned], laidTests := true, laidLooks := .later }
def LexisTokensSpecCardSaid : Prop := Claim7.holds Tryz.pinned (.plain (OpenSpec.ofChange lexisTokensSpecSpec)) lexisTokensSpecCard

/-- THE TIED CARD OF 'stopwatchlaw05.LexisJoinSpec'. -/
def lexisJoinSpecCard : Claim7 := { stood := { row := lexisJoinSpecRow, standIns := [], harness := (true, "95d484ed92947c7692d7cf9c5da79a830e5aafd9410a5d92896fe9c68c42866a"), looks := true }, kinds := [], alts := [], laidByText := true, laidKinds := [.data, .data, .data, .data, .sentinel, .sentinel, .pinned], laidTests := true, laidLooks := .later }
def LexisJoinSpecCardSaid : Prop := Claim7.holds Tryz.pinned (.plain (OpenSpec.ofChange lexisJoinSpecSpec)) lexisJoinSpecCard

/-- THE TIED CARD OF 'stopwatchlaw05.LexisBack'. -/
def lexisBackCard : Claim7 := { stood := { row := lexisBackRow, standIns := [], harness := (true, "95d484ed92947c7692d7cf9c5da79a830e5aafd9410a5d92896fe9c68c42866a"), looks := true }, kinds := [], alts := [], laidByText := true, laidKinds := [.data, .data, .data, .data, .sentinel, .sentinel, .pinned], laidTests := true, laidLooks := .later }
def LexisBackCardSaid : Prop := Claim7.holds Tryz.pinned (.plain (OpenSpec.ofChange lexisBackSpec)) lexisBackCard

/-- THE TIED CARD OF 'stopwatchlaw05.LexisAgain'. -/
def lexisAgainCard : Claim7 := { stood := { row := lexisAgainRow, standIns := [], harness := (true, "95d484ed92947c7692d7cf9c5da79a830e5aafd9410a5d92896fe9c68c42866a"), looks := true }, kinds := [], alts := [], laidByText := true, laidKinds := [.data, .data, .data, .data, .sentinel, .sentinel, .pinned], laidTests := true, laidLooks := .later }
def LexisAgainCardSaid : Prop := Claim7.holds Tryz.pinned (.plain (OpenSpec.ofChange lexisAgainSpec)) lexisAgainCard

/-- THE TIED CARD OF 'stopwatchlaw05.LexisOffsets'. -/
def lexisOffsetsCard : Claim7 := { stood := { row := lexisOffsetsRow, standIns := [], harness := (true, "95d484ed92947c7692d7cf9c5da79a830e5aafd9410a5d92896fe9c68c42866a"), looks := true }, kinds := [], alts := [], laidByText := true, laidKinds := [.data, .data, .data, .data, .sentinel, .sentinel, .pinned], laidTests := true, laidLooks := .later }
def LexisOffsetsCardSaid : Prop := Claim7.holds Tryz.pinned (.plain (OpenSpec.ofChange lexisOffsetsSpec)) lexisOffsetsCard

/-- THE TIED CARD OF 'stopwatchlaw05.LexisComments'. -/
def lexisCommentsCard : Claim7 := { stood := { row := lexisCommentsRow, standIns := [], harness := (true, "95d484ed92947c7692d7cf9c5da79a830e5aafd9410a5d92896fe9c68c42866a"), looks := true }, kinds := [], alts := [], laidByText := true, laidKinds := [.data, .data, .data, .data, .sentinel, .sentinel, .pinned], laidTests := true, laidLooks := .later }
def LexisCommentsCardSaid : Prop := Claim7.holds Tryz.pinned (.plain (OpenSpec.ofChange lexisCommentsSpec)) lexisCommentsCard

/-- THE TIED CARD OF 'stopwatchlaw05.LexisTimeSpec'. -/
def lexisTimeSpecCard : Claim7 := { stood := { row := lexisTimeSpecRow, standIns := [], harness := (true, "95d484ed92947c7692d7cf9c5da79a830e5aafd9410a5d92896fe9c68c42866a"), looks := true }, kinds := [], alts := [], laidByText := true, laidKinds := [.data, .data, .data, .data, .sentinel, .sentinel, .pinned], laidTests := true, laidLooks := .later }
def LexisTimeSpecCardSaid : Prop := Claim7.holds Tryz.pinned (.plain (OpenSpec.ofChange lexisTimeSpecSpec)) lexisTimeSpecCard

/-- THE TIED CARD OF 'stopwatchlaw05.LexisTimes'. -/
def lexisTimesCard : Claim7 := { stood := { row := lexisTimesRow, standIns := [], harness := (true, "95d484ed92947c7692d7cf9c5da79a830e5aafd9410a5d92896fe9c68c42866a"), looks := true }, kinds := [], alts := [], laidByText := true, laidKinds := [.data, .data, .data, .data, .sentinel, .sentinel, .pinned], laidTests := true, laidLooks := .later }
def LexisTimesCardSaid : Prop := Claim7.holds Tryz.pinned (.plain (OpenSpec.ofChange lexisTimesSpec)) lexisTimesCard

/-- THE SECOND FORM's CARD OF 'stopwatchlaw05.LexisTokensSpec'. -/
def lexisTokensSpecUptoCard : Claim7 := { stood := { row := lexisTokensSpecUptoRow, standIns := [], harness := (true, "95d484ed92947c7692d7cf9c5da79a830e5aafd9410a5d92896fe9c68c42866a"), looks := true }, kinds := [], alts := [], laidByText := true, laidKinds := [.data, .data, .data, .data, .sentinel, .sentinel, .pinned], laidTests := true, laidLooks := .later }
def LexisTokensSpecUptoCardSaid : Prop := Claim7.holds Tryz.pinned (.plain (OpenSpec.upto lexisTokensSpecSpec)) lexisTokensSpecUptoCard

/-- THE SECOND FORM's CARD OF 'stopwatchlaw05.LexisJoinSpec'. -/
def lexisJoinSpecUptoCard : Claim7 := { stood := { row := lexisJoinSpecUptoRow, standIns := [], harness := (true, "95d484ed92947c7692d7cf9c5da79a830e5aafd9410a5d92896fe9c68c42866a"), looks := true }, kinds := [], alts := [], laidByText := true, laidKinds := [.data, .data, .data, .data, .sentinel, .sentinel, .pinned], laidTests := true, laidLooks := .later }
def LexisJoinSpecUptoCardSaid : Prop := Claim7.holds Tryz.pinned (.plain (OpenSpec.upto lexisJoinSpecSpec)) lexisJoinSpecUptoCard

/-- THE SECOND FORM's CARD OF 'stopwatchlaw05.LexisBack'. -/
def lexisBackUptoCard : Claim7 := { stood := { row := lexisBackUptoRow, standIns := [], harness := (true, "95d484ed92947c7692d7cf9c5da79a830e5aafd9410a5d92896fe9c68c42866a"), looks := true }, kinds := [], alts := [], laidByText := true, laidKinds := [.data, .data, .data, .data, .sentinel, .sentinel, .pinned], laidTests := true, laidLooks := .later }
def LexisBackUptoCardSaid : Prop := Claim7.holds Tryz.pinned (.plain (OpenSpec.upto lexisBackSpec)) lexisBackUptoCard

/-- THE SECOND FORM's CARD OF 'stopwatchlaw05.LexisAgain'. -/
def lexisAgainUptoCard : Claim7 := { stood := { row := lexisAgainUptoRow, standIns := [], harness := (true, "95d484ed92947c7692d7cf9c5da79a830e5aafd9410a5d92896fe9c68c42866a"), looks := true }, kinds := [], alts := [], laidByText := true, laidKinds := [.data, .data, .data, .data, .sentinel, .sentinel, .pinned], laidTests := true, laidLooks := .later }
def LexisAgainUptoCardSaid : Prop := Claim7.holds Tryz.pinned (.plain (OpenSpec.upto lexisAgainSpec)) lexisAgainUptoCard

/-- THE SECOND FORM's CARD OF 'stopwatchlaw05.LexisOffsets'. -/
def lexisOffsetsUptoCard : Claim7 := { stood := { row := lexisOffsetsUptoRow, standIns := [], harness := (true, "95d484ed92947c7692d7cf9c5da79a830e5aafd9410a5d92896fe9c68c42866a"), looks := true }, kinds := [], alts := [], laidByText := true, laidKinds := [.data, .data, .data, .data, .sentinel, .sentinel, .pinned], laidTests := true, laidLooks := .later }
def LexisOffsetsUptoCardSaid : Prop := Claim7.holds Tryz.pinned (.plain (OpenSpec.upto lexisOffsetsSpec)) lexisOffsetsUptoCard

/-- THE SECOND FORM's CARD OF 'stopwatchlaw05.LexisComments'. -/
def lexisCommentsUptoCard : Claim7 := { stood := { row := lexisCommentsUptoRow, standIns := [], harness := (true, "95d484ed92947c7692d7cf9c5da79a830e5aafd9410a5d92896fe9c68c42866a"), looks := true }, kinds := [], alts := [], laidByText := true, laidKinds := [.data, .data, .data, .data, .sentinel, .sentinel, .pinned], laidTests := true, laidLooks := .later }
def LexisCommentsUptoCardSaid : Prop := Claim7.holds Tryz.pinned (.plain (OpenSpec.upto lexisCommentsSpec)) lexisCommentsUptoCard

/-- THE SECOND FORM's CARD OF 'stopwatchlaw05.LexisTimeSpec'. -/
def lexisTimeSpecUptoCard : Claim7 := { stood := { row := lexisTimeSpecUptoRow, standIns := [], harness := (true, "95d484ed92947c7692d7cf9c5da79a830e5aafd9410a5d92896fe9c68c42866a"), looks := true }, kinds := [], alts := [], laidByText := true, laidKinds := [.data, .data, .data, .data, .sentinel, .sentinel, .pinned], laidTests := true, laidLooks := .later }
def LexisTimeSpecUptoCardSaid : Prop := Claim7.holds Tryz.pinned (.plain (OpenSpec.upto lexisTimeSpecSpec)) lexisTimeSpecUptoCard

/-- THE SECOND FORM's CARD OF 'stopwatchlaw05.LexisTimes'. -/
def lexisTimesUptoCard : Claim7 := { stood := { row := lexisTimesUptoRow, standIns := [], harness := (true, "95d484ed92947c7692d7cf9c5da79a830e5aafd9410a5d92896fe9c68c42866a"), looks := true }, kinds := [], alts := [], laidByText := true, laidKinds := [.data, .data, .data, .data, .sentinel, .sentinel, .pinned], laidTests := true, laidLooks := .later }
def LexisTimesUptoCardSaid : Prop := Claim7.holds Tryz.pinned (.plain (OpenSpec.upto lexisTimesSpec)) lexisTimesUptoCard
end Rows
end Go.Proofs.YtedjnaggkakphaaGreatDoor
