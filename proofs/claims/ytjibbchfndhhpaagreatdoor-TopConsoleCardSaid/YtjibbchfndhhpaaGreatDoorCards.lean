/-
  DERIVED. GIVEN WITH THE SEED: THE CARDS: each row of YtjibbchfndhhpaaGreatDoorRows.lean that lists a variable, with what it lists TIED to the program's text (the seventh form; the later family's looks); each row that meets fmt, with fmt's text TOLD by the authors' own Lean function (tested against real Go, not proved from fmt's source: count such statements apart). THE CARD IS WHAT COUNTS. Prove the row's statement (the work); the ties are given (YtjibbchfndhhpaaGreatDoorTie.lean); close each card by the builder's one call (the guide's Derived/Test/ToyasCard.lean, 'card_holds'). Laid BY PROGRAM, IN A SANDBOX (cutbox-door.mjs). By AI agents, Wed Nov 11 2026. No macro, syntax, notation, axiom, sorry.
-/
import Derived.Test.YtjibbchfndhhpaaGreatDoorRows
import GoSem.ClaimSeven
namespace Go.Proofs.YtjibbchfndhhpaaGreatDoor
namespace Rows

/-- THE TIED CARD OF 'dogwatchtop.TopConsole'. -/
def topConsoleCard : Claim7 := { stood := { row := topConsoleRow, standIns := [], harness := (true, "3430a7c181c53345ac93b8d53f5de9208a12b46270a7af8382ef07a1a93a066b"), looks := true }, kinds := [], alts := [], laidByText := true, laidKinds := [.data, .data, .data, .data, .sentinel, .sentinel, .data, .pinned], laidTests := true, laidLooks := .later }
def TopConsoleCardSaid : Prop := Claim7.holds Tryz.pinned (.plain (OpenSpec.ofChange topConsoleSpec)) topConsoleCard

/-- THE TIED CARD OF 'dogwatchlaw23.ConsoleTexts'. -/
def consoleTextsCard : Claim7 := { stood := { row := consoleTextsRow, standIns := [], harness := (true, "3430a7c181c53345ac93b8d53f5de9208a12b46270a7af8382ef07a1a93a066b"), looks := true }, kinds := [], alts := [], laidByText := true, laidKinds := [.data, .data, .data, .data, .sentinel, .sentinel, .data, .pinned], laidTests := true, laidLooks := .later }
def ConsoleTextsCardSaid : Prop := Claim7.holds Tryz.pinned (.plain (OpenSpec.ofChange consoleTextsSpec)) consoleTextsCard

/-- THE TIED CARD OF 'dogwatchlaw23.ConsoleResets'. -/
def consoleResetsCard : Claim7 := { stood := { row := consoleResetsRow, standIns := [], harness := (true, "3430a7c181c53345ac93b8d53f5de9208a12b46270a7af8382ef07a1a93a066b"), looks := true }, kinds := [], alts := [], laidByText := true, laidKinds := [.data, .data, .data, .data, .sentinel, .sentinel, .data, .pinned], laidTests := true, laidLooks := .later }
def ConsoleResetsCardSaid : Prop := Claim7.holds Tryz.pinned (.plain (OpenSpec.ofChange consoleResetsSpec)) consoleResetsCard

/-- THE SECOND FORM's CARD OF 'dogwatchtop.TopConsole'. -/
def topConsoleUptoCard : Claim7 := { stood := { row := topConsoleUptoRow, standIns := [], harness := (true, "3430a7c181c53345ac93b8d53f5de9208a12b46270a7af8382ef07a1a93a066b"), looks := true }, kinds := [], alts := [], laidByText := true, laidKinds := [.data, .data, .data, .data, .sentinel, .sentinel, .data, .pinned], laidTests := true, laidLooks := .later }
def TopConsoleUptoCardSaid : Prop := Claim7.holds Tryz.pinned (.plain (OpenSpec.upto topConsoleSpec)) topConsoleUptoCard

/-- THE SECOND FORM's CARD OF 'dogwatchlaw23.ConsoleTexts'. -/
def consoleTextsUptoCard : Claim7 := { stood := { row := consoleTextsUptoRow, standIns := [], harness := (true, "3430a7c181c53345ac93b8d53f5de9208a12b46270a7af8382ef07a1a93a066b"), looks := true }, kinds := [], alts := [], laidByText := true, laidKinds := [.data, .data, .data, .data, .sentinel, .sentinel, .data, .pinned], laidTests := true, laidLooks := .later }
def ConsoleTextsUptoCardSaid : Prop := Claim7.holds Tryz.pinned (.plain (OpenSpec.upto consoleTextsSpec)) consoleTextsUptoCard

/-- THE SECOND FORM's CARD OF 'dogwatchlaw23.ConsoleResets'. -/
def consoleResetsUptoCard : Claim7 := { stood := { row := consoleResetsUptoRow, standIns := [], harness := (true, "3430a7c181c53345ac93b8d53f5de9208a12b46270a7af8382ef07a1a93a066b"), looks := true }, kinds := [], alts := [], laidByText := true, laidKinds := [.data, .data, .data, .data, .sentinel, .sentinel, .data, .pinned], laidTests := true, laidLooks := .later }
def ConsoleResetsUptoCardSaid : Prop := Claim7.holds Tryz.pinned (.plain (OpenSpec.upto consoleResetsSpec)) consoleResetsUptoCard
end Rows
end Go.Proofs.YtjibbchfndhhpaaGreatDoor
