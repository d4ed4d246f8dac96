/-
  DERIVED. GIVEN WITH THE SEED: THE CARDS: each row of YteckbkljaneppaaGreatDoorRows.lean that lists a variable, with what it lists TIED to the program's text (the seventh form; the later family's looks); each row that meets fmt, with fmt's text TOLD by the authors' own Lean function (tested against real Go, not proved from fmt's source: count such statements apart). THE CARD IS WHAT COUNTS. Prove the row's statement (the work); the ties are given (YteckbkljaneppaaGreatDoorTie.lean); close each card by the builder's one call (the guide's Derived/Test/ToyasCard.lean, 'card_holds'). Laid BY PROGRAM, IN A SANDBOX (cutbox-door.mjs). By AI agents, Wed Nov 11 2026. No macro, syntax, notation, axiom, sorry.
-/
import Derived.Test.YteckbkljaneppaaGreatDoorRows
import GoSem.ClaimSeven
namespace Go.Proofs.YteckbkljaneppaaGreatDoor
namespace Rows

/-- THE TIED CARD OF 'stopwatchlaw08.FormatCourseSpec'. -/
def formatCourseSpecCard : Claim7 := { stood := { row := formatCourseSpecRow, standIns := [], harness := (true, "6b1814ea5595f1f11b4abab29049f52ac1e7d4ece3a9f88ca32e71a7e0574613"), looks := true }, kinds := [], alts := [], laidByText := true, laidKinds := [.data, .data, .data, .data, .pinned], laidTests := true, laidLooks := .later }
def FormatCourseSpecCardSaid : Prop := Claim7.holds Tryz.pinned (.plain (OpenSpec.ofChange formatCourseSpecSpec)) formatCourseSpecCard

/-- THE TIED CARD OF 'stopwatchlaw08.FormatTiesSpec'. -/
def formatTiesSpecCard : Claim7 := { stood := { row := formatTiesSpecRow, standIns := [], harness := (true, "6b1814ea5595f1f11b4abab29049f52ac1e7d4ece3a9f88ca32e71a7e0574613"), looks := true }, kinds := [], alts := [], laidByText := true, laidKinds := [.data, .data, .data, .data, .pinned], laidTests := true, laidLooks := .later }
def FormatTiesSpecCardSaid : Prop := Claim7.holds Tryz.pinned (.plain (OpenSpec.ofChange formatTiesSpecSpec)) formatTiesSpecCard

/-- THE TIED CARD OF 'stopwatchlaw08.FormatSameSpec'. -/
def formatSameSpecCard : Claim7 := { stood := { row := formatSameSpecRow, standIns := [], harness := (true, "6b1814ea5595f1f11b4abab29049f52ac1e7d4ece3a9f88ca32e71a7e0574613"), looks := true }, kinds := [], alts := [], laidByText := true, laidKinds := [.data, .data, .data, .data, .pinned], laidTests := true, laidLooks := .later }
def FormatSameSpecCardSaid : Prop := Claim7.holds Tryz.pinned (.plain (OpenSpec.ofChange formatSameSpecSpec)) formatSameSpecCard

/-- THE TIED CARD OF 'stopwatchlaw08.FormatDifferent'. -/
def formatDifferentCard : Claim7 := { stood := { row := formatDifferentRow, standIns := [], harness := (true, "6b1814ea5595f1f11b4abab29049f52ac1e7d4ece3a9f88ca32e71a7e0574613"), looks := true }, kinds := [], alts := [], laidByText := true, laidKinds := [.data, .data, .data, .data, .pinned], laidTests := true, laidLooks := .later }
def FormatDifferentCardSaid : Prop := Claim7.holds Tryz.pinned (.plain (OpenSpec.ofChange formatDifferentSpec)) formatDifferentCard

/-- THE TIED CARD OF 'stopwatchlaw08.FormatLines'. -/
def formatLinesCard : Claim7 := { stood := { row := formatLinesRow, standIns := [], harness := (true, "6b1814ea5595f1f11b4abab29049f52ac1e7d4ece3a9f88ca32e71a7e0574613"), looks := true }, kinds := [], alts := [], laidByText := true, laidKinds := [.data, .data, .data, .data, .pinned], laidTests := true, laidLooks := .later }
def FormatLinesCardSaid : Prop := Claim7.holds Tryz.pinned (.plain (OpenSpec.ofChange formatLinesSpec)) formatLinesCard

/-- THE SECOND FORM's CARD OF 'stopwatchlaw08.FormatCourseSpec'. -/
def formatCourseSpecUptoCard : Claim7 := { stood := { row := formatCourseSpecUptoRow, standIns := [], harness := (true, "6b1814ea5595f1f11b4abab29049f52ac1e7d4ece3a9f88ca32e71a7e0574613"), looks := true }, kinds := [], alts := [], laidByText := true, laidKinds := [.data, .data, .data, .data, .pinned], laidTests := true, laidLooks := .later }
def FormatCourseSpecUptoCardSaid : Prop := Claim7.holds Tryz.pinned (.plain (OpenSpec.upto formatCourseSpecSpec)) formatCourseSpecUptoCard

/-- THE SECOND FORM's CARD OF 'stopwatchlaw08.FormatTiesSpec'. -/
def formatTiesSpecUptoCard : Claim7 := { stood := { row := formatTiesSpecUptoRow, standIns := [], harness := (true, "6b1814ea5595f1f11b4abab29049f52ac1e7d4ece3a9f88ca32e71a7e0574613"), looks := true }, kinds := [], alts := [], laidByText := true, laidKinds := [.data, .data, .data, .data, .pinned], laidTests := true, laidLooks := .later }
def FormatTiesSpecUptoCardSaid : Prop := Claim7.holds Tryz.pinned (.plain (OpenSpec.upto formatTiesSpecSpec)) formatTiesSpecUptoCard

/-- THE SECOND FORM's CARD OF 'stopwatchlaw08.FormatSameSpec'. -/
def formatSameSpecUptoCard : Claim7 := { stood := { row := formatSameSpecUptoRow, standIns := [], harness := (true, "6b1814ea5595f1f11b4abab29049f52ac1e7d4ece3a9f88ca32e71a7e0574613"), looks := true }, kinds := [], alts := [], laidByText := true, laidKinds := [.data, .data, .data, .data, .pinned], laidTests := true, laidLooks := .later }
def FormatSameSpecUptoCardSaid : Prop := Claim7.holds Tryz.pinned (.plain (OpenSpec.upto formatSameSpecSpec)) formatSameSpecUptoCard

/-- THE SECOND FORM's CARD OF 'stopwatchlaw08.FormatDifferent'. -/
def formatDifferentUptoCard : Claim7 := { stood := { row := formatDifferentUptoRow, standIns := [], harness := (true, "6b1814ea5595f1f11b4abab29049f52ac1e7d4ece3a9f88ca32e71a7e0574613"), looks := true }, kinds := [], alts := [], laidByText := true, laidKinds := [.data, .data, .data, .data, .pinned], laidTests := true, laidLooks := .later }
def FormatDifferentUptoCardSaid : Prop := Claim7.holds Tryz.pinned (.plain (OpenSpec.upto formatDifferentSpec)) formatDifferentUptoCard

/-- THE SECOND FORM's CARD OF 'stopwatchlaw08.FormatLines'. -/
def formatLinesUptoCard : Claim7 := { stood := { row := formatLinesUptoRow, standIns := [], harness := (true, "6b1814ea5595f1f11b4abab29049f52ac1e7d4ece3a9f88ca32e71a7e0574613"), looks := true }, kinds := [], alts := [], laidByText := true, laidKinds := [.data, .data, .data, .data, .pinned], laidTests := true, laidLooks := .later }
def FormatLinesUptoCardSaid : Prop := Claim7.holds Tryz.pinned (.plain (OpenSpec.upto formatLinesSpec)) formatLinesUptoCard
end Rows
end Go.Proofs.YteckbkljaneppaaGreatDoor
