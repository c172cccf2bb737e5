/-
  DERIVED. GIVEN WITH THE SEED: THE CARDS: each row of YtjonoojhdifjiaaGreatDoorRows.lean that lists a variable, with what it lists TIED to the program's text (the seventh form; the later family's looks); each row that meets fmt, with fmt's text TOLD by the authors' own Lean function (tested against real Go, not proved from fmt's source: count such statements apart). THE CARD IS WHAT COUNTS. Prove the row's statement (the work); the ties are given (YtjonoojhdifjiaaGreatDoorTie.lean); close each card by the builder's one call (the guide's Derived/Test/ToyasCard.lean, 'card_holds'). Laid BY PROGRAM, IN A SANDBOX (cutbox-door.mjs). By AI agents, Wed Nov 11 2026. No macro, syntax, notation, axiom, sorry.
-/
import Derived.Test.YtjonoojhdifjiaaGreatDoorRows
import GoSem.ClaimSeven
namespace Go.Proofs.YtjonoojhdifjiaaGreatDoor
namespace Rows

/-- THE TIED CARD OF 'dogwatchlaw20.SuperBoots'. -/
def superBootsCard : Claim7 := { stood := { row := superBootsRow, standIns := [], harness := (true, "70d65efb7bd126b44ccf00464675d834133fc5deee75bd6fbc90267f99b95703"), looks := true }, kinds := [], alts := [], laidByText := true, laidKinds := [.data], laidTests := true, laidLooks := .later }
def SuperBootsCardSaid : Prop := Claim7.holds Tryz.pinned (.plain (OpenSpec.ofChange superBootsSpec)) superBootsCard

/-- THE TIED CARD OF 'dogwatchlaw20.SuperWrites'. -/
def superWritesCard : Claim7 := { stood := { row := superWritesRow, standIns := [], harness := (true, "70d65efb7bd126b44ccf00464675d834133fc5deee75bd6fbc90267f99b95703"), looks := true }, kinds := [], alts := [], laidByText := true, laidKinds := [.data], laidTests := true, laidLooks := .later }
def SuperWritesCardSaid : Prop := Claim7.holds Tryz.pinned (.plain (OpenSpec.ofChange superWritesSpec)) superWritesCard

/-- THE TIED CARD OF 'dogwatchlaw20.SuperSamples'. -/
def superSamplesCard : Claim7 := { stood := { row := superSamplesRow, standIns := [], harness := (true, "70d65efb7bd126b44ccf00464675d834133fc5deee75bd6fbc90267f99b95703"), looks := true }, kinds := [], alts := [], laidByText := true, laidKinds := [.data], laidTests := true, laidLooks := .later }
def SuperSamplesCardSaid : Prop := Claim7.holds Tryz.pinned (.plain (OpenSpec.ofChange superSamplesSpec)) superSamplesCard

/-- THE TIED CARD OF 'dogwatchlaw20.SuperHolds'. -/
def superHoldsCard : Claim7 := { stood := { row := superHoldsRow, standIns := [], harness := (true, "70d65efb7bd126b44ccf00464675d834133fc5deee75bd6fbc90267f99b95703"), looks := true }, kinds := [], alts := [], laidByText := true, laidKinds := [.data], laidTests := true, laidLooks := .later }
def SuperHoldsCardSaid : Prop := Claim7.holds Tryz.pinned (.plain (OpenSpec.ofChange superHoldsSpec)) superHoldsCard

/-- THE TIED CARD OF 'dogwatchlaw20.SuperResolves'. -/
def superResolvesCard : Claim7 := { stood := { row := superResolvesRow, standIns := [], harness := (true, "70d65efb7bd126b44ccf00464675d834133fc5deee75bd6fbc90267f99b95703"), looks := true }, kinds := [], alts := [], laidByText := true, laidKinds := [.data], laidTests := true, laidLooks := .later }
def SuperResolvesCardSaid : Prop := Claim7.holds Tryz.pinned (.plain (OpenSpec.ofChange superResolvesSpec)) superResolvesCard

/-- THE TIED CARD OF 'dogwatchlaw20.SuperRefuses'. -/
def superRefusesCard : Claim7 := { stood := { row := superRefusesRow, standIns := [], harness := (true, "70d65efb7bd126b44ccf00464675d834133fc5deee75bd6fbc90267f99b95703"), looks := true }, kinds := [], alts := [], laidByText := true, laidKinds := [.data], laidTests := true, laidLooks := .later }
def SuperRefusesCardSaid : Prop := Claim7.holds Tryz.pinned (.plain (OpenSpec.ofChange superRefusesSpec)) superRefusesCard

/-- THE TIED CARD OF 'dogwatchlaw20.SuperCommands'. -/
def superCommandsCard : Claim7 := { stood := { row := superCommandsRow, standIns := [], harness := (true, "70d65efb7bd126b44ccf00464675d834133fc5deee75bd6fbc90267f99b95703"), looks := true }, kinds := [], alts := [], laidByText := true, laidKinds := [.data], laidTests := true, laidLooks := .later }
def SuperCommandsCardSaid : Prop := Claim7.holds Tryz.pinned (.plain (OpenSpec.ofChange superCommandsSpec)) superCommandsCard

/-- THE TIED CARD OF 'dogwatchlaw20.SuperModel'. -/
def superModelCard : Claim7 := { stood := { row := superModelRow, standIns := [], harness := (true, "70d65efb7bd126b44ccf00464675d834133fc5deee75bd6fbc90267f99b95703"), looks := true }, kinds := [], alts := [], laidByText := true, laidKinds := [.data], laidTests := true, laidLooks := .later }
def SuperModelCardSaid : Prop := Claim7.holds Tryz.pinned (.plain (OpenSpec.ofChange superModelSpec)) superModelCard

/-- THE TIED CARD OF 'dogwatchlaw20.SuperCrashes'. -/
def superCrashesCard : Claim7 := { stood := { row := superCrashesRow, standIns := [], harness := (true, "70d65efb7bd126b44ccf00464675d834133fc5deee75bd6fbc90267f99b95703"), looks := true }, kinds := [], alts := [], laidByText := true, laidKinds := [.data], laidTests := true, laidLooks := .later }
def SuperCrashesCardSaid : Prop := Claim7.holds Tryz.pinned (.plain (OpenSpec.ofChange superCrashesSpec)) superCrashesCard

/-- THE TIED CARD OF 'dogwatchlaw20.SuperFails'. -/
def superFailsCard : Claim7 := { stood := { row := superFailsRow, standIns := [], harness := (true, "70d65efb7bd126b44ccf00464675d834133fc5deee75bd6fbc90267f99b95703"), looks := true }, kinds := [], alts := [], laidByText := true, laidKinds := [.data], laidTests := true, laidLooks := .later }
def SuperFailsCardSaid : Prop := Claim7.holds Tryz.pinned (.plain (OpenSpec.ofChange superFailsSpec)) superFailsCard

/-- THE SECOND FORM's CARD OF 'dogwatchlaw20.SuperBoots'. -/
def superBootsUptoCard : Claim7 := { stood := { row := superBootsUptoRow, standIns := [], harness := (true, "70d65efb7bd126b44ccf00464675d834133fc5deee75bd6fbc90267f99b95703"), looks := true }, kinds := [], alts := [], laidByText := true, laidKinds := [.data], laidTests := true, laidLooks := .later }
def SuperBootsUptoCardSaid : Prop := Claim7.holds Tryz.pinned (.plain (OpenSpec.upto superBootsSpec)) superBootsUptoCard

/-- THE SECOND FORM's CARD OF 'dogwatchlaw20.SuperWrites'. -/
def superWritesUptoCard : Claim7 := { stood := { row := superWritesUptoRow, standIns := [], harness := (true, "70d65efb7bd126b44ccf00464675d834133fc5deee75bd6fbc90267f99b95703"), looks := true }, kinds := [], alts := [], laidByText := true, laidKinds := [.data], laidTests := true, laidLooks := .later }
def SuperWritesUptoCardSaid : Prop := Claim7.holds Tryz.pinned (.plain (OpenSpec.upto superWritesSpec)) superWritesUptoCard

/-- THE SECOND FORM's CARD OF 'dogwatchlaw20.SuperSamples'. -/
def superSamplesUptoCard : Claim7 := { stood := { row := superSamplesUptoRow, standIns := [], harness := (true, "70d65efb7bd126b44ccf00464675d834133fc5deee75bd6fbc90267f99b95703"), looks := true }, kinds := [], alts := [], laidByText := true, laidKinds := [.data], laidTests := true, laidLooks := .later }
def SuperSamplesUptoCardSaid : Prop := Claim7.holds Tryz.pinned (.plain (OpenSpec.upto superSamplesSpec)) superSamplesUptoCard

/-- THE SECOND FORM's CARD OF 'dogwatchlaw20.SuperHolds'. -/
def superHoldsUptoCard : Claim7 := { stood := { row := superHoldsUptoRow, standIns := [], harness := (true, "70d65efb7bd126b44ccf00464675d834133fc5deee75bd6fbc90267f99b95703"), looks := true }, kinds := [], alts := [], laidByText := true, laidKinds := [.data], laidTests := true, laidLooks := .later }
def SuperHoldsUptoCardSaid : Prop := Claim7.holds Tryz.pinned (.plain (OpenSpec.upto superHoldsSpec)) superHoldsUptoCard

/-- THE SECOND FORM's CARD OF 'dogwatchlaw20.SuperResolves'. -/
def superResolvesUptoCard : Claim7 := { stood := { row := superResolvesUptoRow, standIns := [], harness := (true, "70d65efb7bd126b44ccf00464675d834133fc5deee75bd6fbc90267f99b95703"), looks := true }, kinds := [], alts := [], laidByText := true, laidKinds := [.data], laidTests := true, laidLooks := .later }
def SuperResolvesUptoCardSaid : Prop := Claim7.holds Tryz.pinned (.plain (OpenSpec.upto superResolvesSpec)) superResolvesUptoCard

/-- THE SECOND FORM's CARD OF 'dogwatchlaw20.SuperRefuses'. -/
def superRefusesUptoCard : Claim7 := { stood := { row := superRefusesUptoRow, standIns := [], harness := (true, "70d65efb7bd126b44ccf00464675d834133fc5deee75bd6fbc90267f99b95703"), looks := true }, kinds := [], alts := [], laidByText := true, laidKinds := [.data], laidTests := true, laidLooks := .later }
def SuperRefusesUptoCardSaid : Prop := Claim7.holds Tryz.pinned (.plain (OpenSpec.upto superRefusesSpec)) superRefusesUptoCard

/-- THE SECOND FORM's CARD OF 'dogwatchlaw20.SuperCommands'. -/
def superCommandsUptoCard : Claim7 := { stood := { row := superCommandsUptoRow, standIns := [], harness := (true, "70d65efb7bd126b44ccf00464675d834133fc5deee75bd6fbc90267f99b95703"), looks := true }, kinds := [], alts := [], laidByText := true, laidKinds := [.data], laidTests := true, laidLooks := .later }
def SuperCommandsUptoCardSaid : Prop := Claim7.holds Tryz.pinned (.plain (OpenSpec.upto superCommandsSpec)) superCommandsUptoCard

/-- THE SECOND FORM's CARD OF 'dogwatchlaw20.SuperModel'. -/
def superModelUptoCard : Claim7 := { stood := { row := superModelUptoRow, standIns := [], harness := (true, "70d65efb7bd126b44ccf00464675d834133fc5deee75bd6fbc90267f99b95703"), looks := true }, kinds := [], alts := [], laidByText := true, laidKinds := [.data], laidTests := true, laidLooks := .later }
def SuperModelUptoCardSaid : Prop := Claim7.holds Tryz.pinned (.plain (OpenSpec.upto superModelSpec)) superModelUptoCard

/-- THE SECOND FORM's CARD OF 'dogwatchlaw20.SuperCrashes'. -/
def superCrashesUptoCard : Claim7 := { stood := { row := superCrashesUptoRow, standIns := [], harness := (true, "70d65efb7bd126b44ccf00464675d834133fc5deee75bd6fbc90267f99b95703"), looks := true }, kinds := [], alts := [], laidByText := true, laidKinds := [.data], laidTests := true, laidLooks := .later }
def SuperCrashesUptoCardSaid : Prop := Claim7.holds Tryz.pinned (.plain (OpenSpec.upto superCrashesSpec)) superCrashesUptoCard

/-- THE SECOND FORM's CARD OF 'dogwatchlaw20.SuperFails'. -/
def superFailsUptoCard : Claim7 := { stood := { row := superFailsUptoRow, standIns := [], harness := (true, "70d65efb7bd126b44ccf00464675d834133fc5deee75bd6fbc90267f99b95703"), looks := true }, kinds := [], alts := [], laidByText := true, laidKinds := [.data], laidTests := true, laidLooks := .later }
def SuperFailsUptoCardSaid : Prop := Claim7.holds Tryz.pinned (.plain (OpenSpec.upto superFailsSpec)) superFailsUptoCard
end Rows
end Go.Proofs.YtjonoojhdifjiaaGreatDoor
