/-
  DERIVED. GIVEN WITH THE SEED: THE CARDS: each row of YtjiejbkfaigikaaGreatDoorRows.lean that lists a variable, with what it lists TIED to the program's text (the seventh form; the later family's looks); each row that meets fmt, with fmt's text TOLD by the authors' own Lean function (tested against real Go, not proved from fmt's source: count such statements apart). THE CARD IS WHAT COUNTS. Prove the row's statement (the work); the ties are given (YtjiejbkfaigikaaGreatDoorTie.lean); close each card by the builder's one call (the guide's Derived/Test/ToyasCard.lean, 'card_holds'). Laid BY PROGRAM, IN A SANDBOX (cutbox-door.mjs). By AI agents, Wed Nov 11 2026. No macro, syntax, notation, axiom, sorry.
-/
import Derived.Test.YtjiejbkfaigikaaGreatDoorRows
import GoSem.ClaimSeven
namespace Go.Proofs.YtjiejbkfaigikaaGreatDoor
namespace Rows

/-- THE TIED CARD OF 'dogwatchlaw20.SuperRefuses'. -/
def superRefusesCard : Claim7 := { stood := { row := superRefusesRow, standIns := [], harness := (true, "a1c032ed056c7f72c40e7c51ca306ca4f98bda0bea60234fdc1739fa5b9ef18b"), looks := true }, kinds := [], alts := [], laidByText := true, laidKinds := [.data], laidTests := true, laidLooks := .later }
def SuperRefusesCardSaid : Prop := Claim7.holds Tryz.pinned (.plain (OpenSpec.ofChange superRefusesSpec)) superRefusesCard

/-- THE TIED CARD OF 'dogwatchlaw20.SuperHolds'. -/
def superHoldsCard : Claim7 := { stood := { row := superHoldsRow, standIns := [], harness := (true, "a1c032ed056c7f72c40e7c51ca306ca4f98bda0bea60234fdc1739fa5b9ef18b"), looks := true }, kinds := [], alts := [], laidByText := true, laidKinds := [.data], laidTests := true, laidLooks := .later }
def SuperHoldsCardSaid : Prop := Claim7.holds Tryz.pinned (.plain (OpenSpec.ofChange superHoldsSpec)) superHoldsCard

/-- THE TIED CARD OF 'dogwatchlaw20.SuperCrashes'. -/
def superCrashesCard : Claim7 := { stood := { row := superCrashesRow, standIns := [], harness := (true, "a1c032ed056c7f72c40e7c51ca306ca4f98bda0bea60234fdc1739fa5b9ef18b"), looks := true }, kinds := [], alts := [], laidByText := true, laidKinds := [.data], laidTests := true, laidLooks := .later }
def SuperCrashesCardSaid : Prop := Claim7.holds Tryz.pinned (.plain (OpenSpec.ofChange superCrashesSpec)) superCrashesCard

/-- THE TIED CARD OF 'dogwatchlaw20.SuperFails'. -/
def superFailsCard : Claim7 := { stood := { row := superFailsRow, standIns := [], harness := (true, "a1c032ed056c7f72c40e7c51ca306ca4f98bda0bea60234fdc1739fa5b9ef18b"), looks := true }, kinds := [], alts := [], laidByText := true, laidKinds := [.data], laidTests := true, laidLooks := .later }
def SuperFailsCardSaid : Prop := Claim7.holds Tryz.pinned (.plain (OpenSpec.ofChange superFailsSpec)) superFailsCard

/-- THE TIED CARD OF 'dogwatchlaw21.ScriptRuns'. -/
def scriptRunsCard : Claim7 := { stood := { row := scriptRunsRow, standIns := [], harness := (true, "a1c032ed056c7f72c40e7c51ca306ca4f98bda0bea60234fdc1739fa5b9ef18b"), looks := true }, kinds := [], alts := [], laidByText := true, laidKinds := [.data], laidTests := true, laidLooks := .later }
def ScriptRunsCardSaid : Prop := Claim7.holds Tryz.pinned (.plain (OpenSpec.ofChange scriptRunsSpec)) scriptRunsCard

/-- THE TIED CARD OF 'dogwatchlaw21.ScriptFlips'. -/
def scriptFlipsCard : Claim7 := { stood := { row := scriptFlipsRow, standIns := [], harness := (true, "a1c032ed056c7f72c40e7c51ca306ca4f98bda0bea60234fdc1739fa5b9ef18b"), looks := true }, kinds := [], alts := [], laidByText := true, laidKinds := [.data], laidTests := true, laidLooks := .later }
def ScriptFlipsCardSaid : Prop := Claim7.holds Tryz.pinned (.plain (OpenSpec.ofChange scriptFlipsSpec)) scriptFlipsCard

/-- THE TIED CARD OF 'dogwatchlaw21.ScriptReplies'. -/
def scriptRepliesCard : Claim7 := { stood := { row := scriptRepliesRow, standIns := [], harness := (true, "a1c032ed056c7f72c40e7c51ca306ca4f98bda0bea60234fdc1739fa5b9ef18b"), looks := true }, kinds := [], alts := [], laidByText := true, laidKinds := [.data], laidTests := true, laidLooks := .later }
def ScriptRepliesCardSaid : Prop := Claim7.holds Tryz.pinned (.plain (OpenSpec.ofChange scriptRepliesSpec)) scriptRepliesCard

/-- THE TIED CARD OF 'dogwatchlaw21.ScriptResets'. -/
def scriptResetsCard : Claim7 := { stood := { row := scriptResetsRow, standIns := [], harness := (true, "a1c032ed056c7f72c40e7c51ca306ca4f98bda0bea60234fdc1739fa5b9ef18b"), looks := true }, kinds := [], alts := [], laidByText := true, laidKinds := [.data], laidTests := true, laidLooks := .later }
def ScriptResetsCardSaid : Prop := Claim7.holds Tryz.pinned (.plain (OpenSpec.ofChange scriptResetsSpec)) scriptResetsCard

/-- THE TIED CARD OF 'dogwatchlaw21.ScriptOff'. -/
def scriptOffCard : Claim7 := { stood := { row := scriptOffRow, standIns := [], harness := (true, "a1c032ed056c7f72c40e7c51ca306ca4f98bda0bea60234fdc1739fa5b9ef18b"), looks := true }, kinds := [], alts := [], laidByText := true, laidKinds := [.data], laidTests := true, laidLooks := .later }
def ScriptOffCardSaid : Prop := Claim7.holds Tryz.pinned (.plain (OpenSpec.ofChange scriptOffSpec)) scriptOffCard

/-- THE TIED CARD OF 'dogwatchlaw22.AuditAsks'. -/
def auditAsksCard : Claim7 := { stood := { row := auditAsksRow, standIns := [], harness := (true, "a1c032ed056c7f72c40e7c51ca306ca4f98bda0bea60234fdc1739fa5b9ef18b"), looks := true }, kinds := [], alts := [], laidByText := true, laidKinds := [.data], laidTests := true, laidLooks := .later }
def AuditAsksCardSaid : Prop := Claim7.holds Tryz.pinned (.plain (OpenSpec.ofChange auditAsksSpec)) auditAsksCard

/-- THE TIED CARD OF 'dogwatchlaw22.AuditHolds'. -/
def auditHoldsCard : Claim7 := { stood := { row := auditHoldsRow, standIns := [], harness := (true, "a1c032ed056c7f72c40e7c51ca306ca4f98bda0bea60234fdc1739fa5b9ef18b"), looks := true }, kinds := [], alts := [], laidByText := true, laidKinds := [.data], laidTests := true, laidLooks := .later }
def AuditHoldsCardSaid : Prop := Claim7.holds Tryz.pinned (.plain (OpenSpec.ofChange auditHoldsSpec)) auditHoldsCard

/-- THE TIED CARD OF 'dogwatchlaw22.AuditUncut'. -/
def auditUncutCard : Claim7 := { stood := { row := auditUncutRow, standIns := [], harness := (true, "a1c032ed056c7f72c40e7c51ca306ca4f98bda0bea60234fdc1739fa5b9ef18b"), looks := true }, kinds := [], alts := [], laidByText := true, laidKinds := [.data], laidTests := true, laidLooks := .later }
def AuditUncutCardSaid : Prop := Claim7.holds Tryz.pinned (.plain (OpenSpec.ofChange auditUncutSpec)) auditUncutCard

/-- THE TIED CARD OF 'dogwatchlaw22.AuditFlips'. -/
def auditFlipsCard : Claim7 := { stood := { row := auditFlipsRow, standIns := [], harness := (true, "a1c032ed056c7f72c40e7c51ca306ca4f98bda0bea60234fdc1739fa5b9ef18b"), looks := true }, kinds := [], alts := [], laidByText := true, laidKinds := [.data], laidTests := true, laidLooks := .later }
def AuditFlipsCardSaid : Prop := Claim7.holds Tryz.pinned (.plain (OpenSpec.ofChange auditFlipsSpec)) auditFlipsCard

/-- THE TIED CARD OF 'dogwatchlaw22.AuditAcks'. -/
def auditAcksCard : Claim7 := { stood := { row := auditAcksRow, standIns := [], harness := (true, "a1c032ed056c7f72c40e7c51ca306ca4f98bda0bea60234fdc1739fa5b9ef18b"), looks := true }, kinds := [], alts := [], laidByText := true, laidKinds := [.data], laidTests := true, laidLooks := .later }
def AuditAcksCardSaid : Prop := Claim7.holds Tryz.pinned (.plain (OpenSpec.ofChange auditAcksSpec)) auditAcksCard

/-- THE TIED CARD OF 'dogwatchtop.TopModel'. -/
def topModelCard : Claim7 := { stood := { row := topModelRow, standIns := [], harness := (true, "a1c032ed056c7f72c40e7c51ca306ca4f98bda0bea60234fdc1739fa5b9ef18b"), looks := true }, kinds := [], alts := [], laidByText := true, laidKinds := [.data], laidTests := true, laidLooks := .later }
def TopModelCardSaid : Prop := Claim7.holds Tryz.pinned (.plain (OpenSpec.ofChange topModelSpec)) topModelCard

/-- THE TIED CARD OF 'dogwatchtop.TopFollows'. -/
def topFollowsCard : Claim7 := { stood := { row := topFollowsRow, standIns := [], harness := (true, "a1c032ed056c7f72c40e7c51ca306ca4f98bda0bea60234fdc1739fa5b9ef18b"), looks := true }, kinds := [], alts := [], laidByText := true, laidKinds := [.data], laidTests := true, laidLooks := .later }
def TopFollowsCardSaid : Prop := Claim7.holds Tryz.pinned (.plain (OpenSpec.ofChange topFollowsSpec)) topFollowsCard

/-- THE SECOND FORM's CARD OF 'dogwatchlaw20.SuperRefuses'. -/
def superRefusesUptoCard : Claim7 := { stood := { row := superRefusesUptoRow, standIns := [], harness := (true, "a1c032ed056c7f72c40e7c51ca306ca4f98bda0bea60234fdc1739fa5b9ef18b"), looks := true }, kinds := [], alts := [], laidByText := true, laidKinds := [.data], laidTests := true, laidLooks := .later }
def SuperRefusesUptoCardSaid : Prop := Claim7.holds Tryz.pinned (.plain (OpenSpec.upto superRefusesSpec)) superRefusesUptoCard

/-- THE SECOND FORM's CARD OF 'dogwatchlaw20.SuperHolds'. -/
def superHoldsUptoCard : Claim7 := { stood := { row := superHoldsUptoRow, standIns := [], harness := (true, "a1c032ed056c7f72c40e7c51ca306ca4f98bda0bea60234fdc1739fa5b9ef18b"), looks := true }, kinds := [], alts := [], laidByText := true, laidKinds := [.data], laidTests := true, laidLooks := .later }
def SuperHoldsUptoCardSaid : Prop := Claim7.holds Tryz.pinned (.plain (OpenSpec.upto superHoldsSpec)) superHoldsUptoCard

/-- THE SECOND FORM's CARD OF 'dogwatchlaw20.SuperCrashes'. -/
def superCrashesUptoCard : Claim7 := { stood := { row := superCrashesUptoRow, standIns := [], harness := (true, "a1c032ed056c7f72c40e7c51ca306ca4f98bda0bea60234fdc1739fa5b9ef18b"), looks := true }, kinds := [], alts := [], laidByText := true, laidKinds := [.data], laidTests := true, laidLooks := .later }
def SuperCrashesUptoCardSaid : Prop := Claim7.holds Tryz.pinned (.plain (OpenSpec.upto superCrashesSpec)) superCrashesUptoCard

/-- THE SECOND FORM's CARD OF 'dogwatchlaw20.SuperFails'. -/
def superFailsUptoCard : Claim7 := { stood := { row := superFailsUptoRow, standIns := [], harness := (true, "a1c032ed056c7f72c40e7c51ca306ca4f98bda0bea60234fdc1739fa5b9ef18b"), looks := true }, kinds := [], alts := [], laidByText := true, laidKinds := [.data], laidTests := true, laidLooks := .later }
def SuperFailsUptoCardSaid : Prop := Claim7.holds Tryz.pinned (.plain (OpenSpec.upto superFailsSpec)) superFailsUptoCard

/-- THE SECOND FORM's CARD OF 'dogwatchlaw21.ScriptRuns'. -/
def scriptRunsUptoCard : Claim7 := { stood := { row := scriptRunsUptoRow, standIns := [], harness := (true, "a1c032ed056c7f72c40e7c51ca306ca4f98bda0bea60234fdc1739fa5b9ef18b"), looks := true }, kinds := [], alts := [], laidByText := true, laidKinds := [.data], laidTests := true, laidLooks := .later }
def ScriptRunsUptoCardSaid : Prop := Claim7.holds Tryz.pinned (.plain (OpenSpec.upto scriptRunsSpec)) scriptRunsUptoCard

/-- THE SECOND FORM's CARD OF 'dogwatchlaw21.ScriptFlips'. -/
def scriptFlipsUptoCard : Claim7 := { stood := { row := scriptFlipsUptoRow, standIns := [], harness := (true, "a1c032ed056c7f72c40e7c51ca306ca4f98bda0bea60234fdc1739fa5b9ef18b"), looks := true }, kinds := [], alts := [], laidByText := true, laidKinds := [.data], laidTests := true, laidLooks := .later }
def ScriptFlipsUptoCardSaid : Prop := Claim7.holds Tryz.pinned (.plain (OpenSpec.upto scriptFlipsSpec)) scriptFlipsUptoCard

/-- THE SECOND FORM's CARD OF 'dogwatchlaw21.ScriptReplies'. -/
def scriptRepliesUptoCard : Claim7 := { stood := { row := scriptRepliesUptoRow, standIns := [], harness := (true, "a1c032ed056c7f72c40e7c51ca306ca4f98bda0bea60234fdc1739fa5b9ef18b"), looks := true }, kinds := [], alts := [], laidByText := true, laidKinds := [.data], laidTests := true, laidLooks := .later }
def ScriptRepliesUptoCardSaid : Prop := Claim7.holds Tryz.pinned (.plain (OpenSpec.upto scriptRepliesSpec)) scriptRepliesUptoCard

/-- THE SECOND FORM's CARD OF 'dogwatchlaw21.ScriptResets'. -/
def scriptResetsUptoCard : Claim7 := { stood := { row := scriptResetsUptoRow, standIns := [], harness := (true, "a1c032ed056c7f72c40e7c51ca306ca4f98bda0bea60234fdc1739fa5b9ef18b"), looks := true }, kinds := [], alts := [], laidByText := true, laidKinds := [.data], laidTests := true, laidLooks := .later }
def ScriptResetsUptoCardSaid : Prop := Claim7.holds Tryz.pinned (.plain (OpenSpec.upto scriptResetsSpec)) scriptResetsUptoCard

/-- THE SECOND FORM's CARD OF 'dogwatchlaw21.ScriptOff'. -/
def scriptOffUptoCard : Claim7 := { stood := { row := scriptOffUptoRow, standIns := [], harness := (true, "a1c032ed056c7f72c40e7c51ca306ca4f98bda0bea60234fdc1739fa5b9ef18b"), looks := true }, kinds := [], alts := [], laidByText := true, laidKinds := [.data], laidTests := true, laidLooks := .later }
def ScriptOffUptoCardSaid : Prop := Claim7.holds Tryz.pinned (.plain (OpenSpec.upto scriptOffSpec)) scriptOffUptoCard

/-- THE SECOND FORM's CARD OF 'dogwatchlaw22.AuditAsks'. -/
def auditAsksUptoCard : Claim7 := { stood := { row := auditAsksUptoRow, standIns := [], harness := (true, "a1c032ed056c7f72c40e7c51ca306ca4f98bda0bea60234fdc1739fa5b9ef18b"), looks := true }, kinds := [], alts := [], laidByText := true, laidKinds := [.data], laidTests := true, laidLooks := .later }
def AuditAsksUptoCardSaid : Prop := Claim7.holds Tryz.pinned (.plain (OpenSpec.upto auditAsksSpec)) auditAsksUptoCard

/-- THE SECOND FORM's CARD OF 'dogwatchlaw22.AuditHolds'. -/
def auditHoldsUptoCard : Claim7 := { stood := { row := auditHoldsUptoRow, standIns := [], harness := (true, "a1c032ed056c7f72c40e7c51ca306ca4f98bda0bea60234fdc1739fa5b9ef18b"), looks := true }, kinds := [], alts := [], laidByText := true, laidKinds := [.data], laidTests := true, laidLooks := .later }
def AuditHoldsUptoCardSaid : Prop := Claim7.holds Tryz.pinned (.plain (OpenSpec.upto auditHoldsSpec)) auditHoldsUptoCard

/-- THE SECOND FORM's CARD OF 'dogwatchlaw22.AuditUncut'. -/
def auditUncutUptoCard : Claim7 := { stood := { row := auditUncutUptoRow, standIns := [], harness := (true, "a1c032ed056c7f72c40e7c51ca306ca4f98bda0bea60234fdc1739fa5b9ef18b"), looks := true }, kinds := [], alts := [], laidByText := true, laidKinds := [.data], laidTests := true, laidLooks := .later }
def AuditUncutUptoCardSaid : Prop := Claim7.holds Tryz.pinned (.plain (OpenSpec.upto auditUncutSpec)) auditUncutUptoCard

/-- THE SECOND FORM's CARD OF 'dogwatchlaw22.AuditFlips'. -/
def auditFlipsUptoCard : Claim7 := { stood := { row := auditFlipsUptoRow, standIns := [], harness := (true, "a1c032ed056c7f72c40e7c51ca306ca4f98bda0bea60234fdc1739fa5b9ef18b"), looks := true }, kinds := [], alts := [], laidByText := true, laidKinds := [.data], laidTests := true, laidLooks := .later }
def AuditFlipsUptoCardSaid : Prop := Claim7.holds Tryz.pinned (.plain (OpenSpec.upto auditFlipsSpec)) auditFlipsUptoCard

/-- THE SECOND FORM's CARD OF 'dogwatchlaw22.AuditAcks'. -/
def auditAcksUptoCard : Claim7 := { stood := { row := auditAcksUptoRow, standIns := [], harness := (true, "a1c032ed056c7f72c40e7c51ca306ca4f98bda0bea60234fdc1739fa5b9ef18b"), looks := true }, kinds := [], alts := [], laidByText := true, laidKinds := [.data], laidTests := true, laidLooks := .later }
def AuditAcksUptoCardSaid : Prop := Claim7.holds Tryz.pinned (.plain (OpenSpec.upto auditAcksSpec)) auditAcksUptoCard

/-- THE SECOND FORM's CARD OF 'dogwatchtop.TopModel'. -/
def topModelUptoCard : Claim7 := { stood := { row := topModelUptoRow, standIns := [], harness := (true, "a1c032ed056c7f72c40e7c51ca306ca4f98bda0bea60234fdc1739fa5b9ef18b"), looks := true }, kinds := [], alts := [], laidByText := true, laidKinds := [.data], laidTests := true, laidLooks := .later }
def TopModelUptoCardSaid : Prop := Claim7.holds Tryz.pinned (.plain (OpenSpec.upto topModelSpec)) topModelUptoCard

/-- THE SECOND FORM's CARD OF 'dogwatchtop.TopFollows'. -/
def topFollowsUptoCard : Claim7 := { stood := { row := topFollowsUptoRow, standIns := [], harness := (true, "a1c032ed056c7f72c40e7c51ca306ca4f98bda0bea60234fdc1739fa5b9ef18b"), looks := true }, kinds := [], alts := [], laidByText := true, laidKinds := [.data], laidTests := true, laidLooks := .later }
def TopFollowsUptoCardSaid : Prop := Claim7.holds Tryz.pinned (.plain (OpenSpec.upto topFollowsSpec)) topFollowsUptoCard
end Rows
end Go.Proofs.YtjiejbkfaigikaaGreatDoor
