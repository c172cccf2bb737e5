/-
  DERIVED. GIVEN WITH THE SEED: THE CARDS: each row of YtaniehjhmjecjaaGreatDoorRows.lean that lists a variable, with what it lists TIED to the program's text (the seventh form; the later family's looks); each row that meets fmt, with fmt's text TOLD by the authors' own Lean function (tested against real Go, not proved from fmt's source: count such statements apart). THE CARD IS WHAT COUNTS. Prove the row's statement (the work); the ties are given (YtaniehjhmjecjaaGreatDoorTie.lean); close each card by the builder's one call (the guide's Derived/Test/ToyasCard.lean, 'card_holds'). Laid BY PROGRAM, IN A SANDBOX (cutbox-door.mjs). By AI agents, Wed Nov 11 2026. No macro, syntax, notation, axiom, sorry.
-/
import Derived.Test.YtaniehjhmjecjaaGreatDoorRows
import GoSem.ClaimSeven
namespace Go.Proofs.YtaniehjhmjecjaaGreatDoor
namespace Rows

/-- THE TIED CARD OF 'dogwatchlaw11.PlanDone'. -/
def planDoneCard : Claim7 := { stood := { row := planDoneRow, standIns := [], harness := (true, "81584f29dbb27badd14ec59f55f6aa484f711937c9f3f5efd7cfdec3db72618c"), looks := true }, kinds := [], alts := [], laidByText := true, laidKinds := [.data], laidTests := true, laidLooks := .later }
def PlanDoneCardSaid : Prop := Claim7.holds Tryz.pinned (.plain (OpenSpec.ofChange planDoneSpec)) planDoneCard

/-- THE TIED CARD OF 'dogwatchlaw11.PlanCuts'. -/
def planCutsCard : Claim7 := { stood := { row := planCutsRow, standIns := [], harness := (true, "81584f29dbb27badd14ec59f55f6aa484f711937c9f3f5efd7cfdec3db72618c"), looks := true }, kinds := [], alts := [], laidByText := true, laidKinds := [.data], laidTests := true, laidLooks := .later }
def PlanCutsCardSaid : Prop := Claim7.holds Tryz.pinned (.plain (OpenSpec.ofChange planCutsSpec)) planCutsCard

/-- THE TIED CARD OF 'dogwatchlaw11.PlanAlike'. -/
def planAlikeCard : Claim7 := { stood := { row := planAlikeRow, standIns := [], harness := (true, "81584f29dbb27badd14ec59f55f6aa484f711937c9f3f5efd7cfdec3db72618c"), looks := true }, kinds := [], alts := [], laidByText := true, laidKinds := [.data], laidTests := true, laidLooks := .later }
def PlanAlikeCardSaid : Prop := Claim7.holds Tryz.pinned (.plain (OpenSpec.ofChange planAlikeSpec)) planAlikeCard

/-- THE TIED CARD OF 'dogwatchlaw12.JournalPuts'. -/
def journalPutsCard : Claim7 := { stood := { row := journalPutsRow, standIns := [], harness := (true, "81584f29dbb27badd14ec59f55f6aa484f711937c9f3f5efd7cfdec3db72618c"), looks := true }, kinds := [], alts := [], laidByText := true, laidKinds := [.data], laidTests := true, laidLooks := .later }
def JournalPutsCardSaid : Prop := Claim7.holds Tryz.pinned (.plain (OpenSpec.ofChange journalPutsSpec)) journalPutsCard

/-- THE TIED CARD OF 'dogwatchlaw12.JournalRuns'. -/
def journalRunsCard : Claim7 := { stood := { row := journalRunsRow, standIns := [], harness := (true, "81584f29dbb27badd14ec59f55f6aa484f711937c9f3f5efd7cfdec3db72618c"), looks := true }, kinds := [], alts := [], laidByText := true, laidKinds := [.data], laidTests := true, laidLooks := .later }
def JournalRunsCardSaid : Prop := Claim7.holds Tryz.pinned (.plain (OpenSpec.ofChange journalRunsSpec)) journalRunsCard

/-- THE TIED CARD OF 'dogwatchlaw12.JournalNumbers'. -/
def journalNumbersCard : Claim7 := { stood := { row := journalNumbersRow, standIns := [], harness := (true, "81584f29dbb27badd14ec59f55f6aa484f711937c9f3f5efd7cfdec3db72618c"), looks := true }, kinds := [], alts := [], laidByText := true, laidKinds := [.data], laidTests := true, laidLooks := .later }
def JournalNumbersCardSaid : Prop := Claim7.holds Tryz.pinned (.plain (OpenSpec.ofChange journalNumbersSpec)) journalNumbersCard

/-- THE SECOND FORM's CARD OF 'dogwatchlaw11.PlanDone'. -/
def planDoneUptoCard : Claim7 := { stood := { row := planDoneUptoRow, standIns := [], harness := (true, "81584f29dbb27badd14ec59f55f6aa484f711937c9f3f5efd7cfdec3db72618c"), looks := true }, kinds := [], alts := [], laidByText := true, laidKinds := [.data], laidTests := true, laidLooks := .later }
def PlanDoneUptoCardSaid : Prop := Claim7.holds Tryz.pinned (.plain (OpenSpec.upto planDoneSpec)) planDoneUptoCard

/-- THE SECOND FORM's CARD OF 'dogwatchlaw11.PlanCuts'. -/
def planCutsUptoCard : Claim7 := { stood := { row := planCutsUptoRow, standIns := [], harness := (true, "81584f29dbb27badd14ec59f55f6aa484f711937c9f3f5efd7cfdec3db72618c"), looks := true }, kinds := [], alts := [], laidByText := true, laidKinds := [.data], laidTests := true, laidLooks := .later }
def PlanCutsUptoCardSaid : Prop := Claim7.holds Tryz.pinned (.plain (OpenSpec.upto planCutsSpec)) planCutsUptoCard

/-- THE SECOND FORM's CARD OF 'dogwatchlaw11.PlanAlike'. -/
def planAlikeUptoCard : Claim7 := { stood := { row := planAlikeUptoRow, standIns := [], harness := (true, "81584f29dbb27badd14ec59f55f6aa484f711937c9f3f5efd7cfdec3db72618c"), looks := true }, kinds := [], alts := [], laidByText := true, laidKinds := [.data], laidTests := true, laidLooks := .later }
def PlanAlikeUptoCardSaid : Prop := Claim7.holds Tryz.pinned (.plain (OpenSpec.upto planAlikeSpec)) planAlikeUptoCard

/-- THE SECOND FORM's CARD OF 'dogwatchlaw12.JournalPuts'. -/
def journalPutsUptoCard : Claim7 := { stood := { row := journalPutsUptoRow, standIns := [], harness := (true, "81584f29dbb27badd14ec59f55f6aa484f711937c9f3f5efd7cfdec3db72618c"), looks := true }, kinds := [], alts := [], laidByText := true, laidKinds := [.data], laidTests := true, laidLooks := .later }
def JournalPutsUptoCardSaid : Prop := Claim7.holds Tryz.pinned (.plain (OpenSpec.upto journalPutsSpec)) journalPutsUptoCard

/-- THE SECOND FORM's CARD OF 'dogwatchlaw12.JournalRuns'. -/
def journalRunsUptoCard : Claim7 := { stood := { row := journalRunsUptoRow, standIns := [], harness := (true, "81584f29dbb27badd14ec59f55f6aa484f711937c9f3f5efd7cfdec3db72618c"), looks := true }, kinds := [], alts := [], laidByText := true, laidKinds := [.data], laidTests := true, laidLooks := .later }
def JournalRunsUptoCardSaid : Prop := Claim7.holds Tryz.pinned (.plain (OpenSpec.upto journalRunsSpec)) journalRunsUptoCard

/-- THE SECOND FORM's CARD OF 'dogwatchlaw12.JournalNumbers'. -/
def journalNumbersUptoCard : Claim7 := { stood := { row := journalNumbersUptoRow, standIns := [], harness := (true, "81584f29dbb27badd14ec59f55f6aa484f711937c9f3f5efd7cfdec3db72618c"), looks := true }, kinds := [], alts := [], laidByText := true, laidKinds := [.data], laidTests := true, laidLooks := .later }
def JournalNumbersUptoCardSaid : Prop := Claim7.holds Tryz.pinned (.plain (OpenSpec.upto journalNumbersSpec)) journalNumbersUptoCard
end Rows
end Go.Proofs.YtaniehjhmjecjaaGreatDoor
