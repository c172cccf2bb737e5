/-
  DERIVED. GIVEN WITH THE SEED: THE CARDS: each row of YtcadgecnlahkgaaGreatDoorRows.lean that lists a variable, with what it lists TIED to the program's text (the seventh form; the later family's looks); each row that meets fmt, with fmt's text TOLD by the authors' own Lean function (tested against real Go, not proved from fmt's source: count such statements apart). THE CARD IS WHAT COUNTS. Prove the row's statement (the work); the ties are given (YtcadgecnlahkgaaGreatDoorTie.lean); close each card by the builder's one call (the guide's Derived/Test/ToyasCard.lean, 'card_holds'). Laid BY PROGRAM, IN A SANDBOX (cutbox-door.mjs). By AI agents, Wed Nov 11 2026. No macro, syntax, notation, axiom, sorry.
-/
import Derived.Test.YtcadgecnlahkgaaGreatDoorRows
import GoSem.ClaimSeven
namespace Go.Proofs.YtcadgecnlahkgaaGreatDoor
namespace Rows

/-- THE TIED CARD OF 'dogwatchtop.TopModel'. -/
def topModelCard : Claim7 := { stood := { row := topModelRow, standIns := [], harness := (true, "c610dd707832d7eaad9da0f2e27ce3f5f221227e15ae277a9fe4264a1cbd9328"), looks := true }, kinds := [], alts := [], laidByText := true, laidKinds := [.data], laidTests := true, laidLooks := .later }
def TopModelCardSaid : Prop := Claim7.holds Tryz.pinned (.plain (OpenSpec.ofChange topModelSpec)) topModelCard

/-- THE TIED CARD OF 'dogwatchlaw22.AuditAsks'. -/
def auditAsksCard : Claim7 := { stood := { row := auditAsksRow, standIns := [], harness := (true, "c610dd707832d7eaad9da0f2e27ce3f5f221227e15ae277a9fe4264a1cbd9328"), looks := true }, kinds := [], alts := [], laidByText := true, laidKinds := [.data], laidTests := true, laidLooks := .later }
def AuditAsksCardSaid : Prop := Claim7.holds Tryz.pinned (.plain (OpenSpec.ofChange auditAsksSpec)) auditAsksCard

/-- THE TIED CARD OF 'dogwatchlaw22.AuditHolds'. -/
def auditHoldsCard : Claim7 := { stood := { row := auditHoldsRow, standIns := [], harness := (true, "c610dd707832d7eaad9da0f2e27ce3f5f221227e15ae277a9fe4264a1cbd9328"), looks := true }, kinds := [], alts := [], laidByText := true, laidKinds := [.data], laidTests := true, laidLooks := .later }
def AuditHoldsCardSaid : Prop := Claim7.holds Tryz.pinned (.plain (OpenSpec.ofChange auditHoldsSpec)) auditHoldsCard

/-- THE TIED CARD OF 'dogwatchlaw22.AuditUncut'. -/
def auditUncutCard : Claim7 := { stood := { row := auditUncutRow, standIns := [], harness := (true, "c610dd707832d7eaad9da0f2e27ce3f5f221227e15ae277a9fe4264a1cbd9328"), looks := true }, kinds := [], alts := [], laidByText := true, laidKinds := [.data], laidTests := true, laidLooks := .later }
def AuditUncutCardSaid : Prop := Claim7.holds Tryz.pinned (.plain (OpenSpec.ofChange auditUncutSpec)) auditUncutCard

/-- THE TIED CARD OF 'dogwatchlaw22.AuditFlips'. -/
def auditFlipsCard : Claim7 := { stood := { row := auditFlipsRow, standIns := [], harness := (true, "c610dd707832d7eaad9da0f2e27ce3f5f221227e15ae277a9fe4264a1cbd9328"), looks := true }, kinds := [], alts := [], laidByText := true, laidKinds := [.data], laidTests := true, laidLooks := .later }
def AuditFlipsCardSaid : Prop := Claim7.holds Tryz.pinned (.plain (OpenSpec.ofChange auditFlipsSpec)) auditFlipsCard

/-- THE TIED CARD OF 'dogwatchlaw22.AuditAcks'. -/
def auditAcksCard : Claim7 := { stood := { row := auditAcksRow, standIns := [], harness := (true, "c610dd707832d7eaad9da0f2e27ce3f5f221227e15ae277a9fe4264a1cbd9328"), looks := true }, kinds := [], alts := [], laidByText := true, laidKinds := [.data], laidTests := true, laidLooks := .later }
def AuditAcksCardSaid : Prop := Claim7.holds Tryz.pinned (.plain (OpenSpec.ofChange auditAcksSpec)) auditAcksCard

/-- THE TIED CARD OF 'dogwatchtop.TopFollows'. -/
def topFollowsCard : Claim7 := { stood := { row := topFollowsRow, standIns := [], harness := (true, "c610dd707832d7eaad9da0f2e27ce3f5f221227e15ae277a9fe4264a1cbd9328"), looks := true }, kinds := [], alts := [], laidByText := true, laidKinds := [.data], laidTests := true, laidLooks := .later }
def TopFollowsCardSaid : Prop := Claim7.holds Tryz.pinned (.plain (OpenSpec.ofChange topFollowsSpec)) topFollowsCard

/-- THE SECOND FORM's CARD OF 'dogwatchtop.TopModel'. -/
def topModelUptoCard : Claim7 := { stood := { row := topModelUptoRow, standIns := [], harness := (true, "c610dd707832d7eaad9da0f2e27ce3f5f221227e15ae277a9fe4264a1cbd9328"), looks := true }, kinds := [], alts := [], laidByText := true, laidKinds := [.data], laidTests := true, laidLooks := .later }
def TopModelUptoCardSaid : Prop := Claim7.holds Tryz.pinned (.plain (OpenSpec.upto topModelSpec)) topModelUptoCard

/-- THE SECOND FORM's CARD OF 'dogwatchlaw22.AuditAsks'. -/
def auditAsksUptoCard : Claim7 := { stood := { row := auditAsksUptoRow, standIns := [], harness := (true, "c610dd707832d7eaad9da0f2e27ce3f5f221227e15ae277a9fe4264a1cbd9328"), looks := true }, kinds := [], alts := [], laidByText := true, laidKinds := [.data], laidTests := true, laidLooks := .later }
def AuditAsksUptoCardSaid : Prop := Claim7.holds Tryz.pinned (.plain (OpenSpec.upto auditAsksSpec)) auditAsksUptoCard

/-- THE SECOND FORM's CARD OF 'dogwatchlaw22.AuditHolds'. -/
def auditHoldsUptoCard : Claim7 := { stood := { row := auditHoldsUptoRow, standIns := [], harness := (true, "c610dd707832d7eaad9da0f2e27ce3f5f221227e15ae277a9fe4264a1cbd9328"), looks := true }, kinds := [], alts := [], laidByText := true, laidKinds := [.data], laidTests := true, laidLooks := .later }
def AuditHoldsUptoCardSaid : Prop := Claim7.holds Tryz.pinned (.plain (OpenSpec.upto auditHoldsSpec)) auditHoldsUptoCard

/-- THE SECOND FORM's CARD OF 'dogwatchlaw22.AuditUncut'. -/
def auditUncutUptoCard : Claim7 := { stood := { row := auditUncutUptoRow, standIns := [], harness := (true, "c610dd707832d7eaad9da0f2e27ce3f5f221227e15ae277a9fe4264a1cbd9328"), looks := true }, kinds := [], alts := [], laidByText := true, laidKinds := [.data], laidTests := true, laidLooks := .later }
def AuditUncutUptoCardSaid : Prop := Claim7.holds Tryz.pinned (.plain (OpenSpec.upto auditUncutSpec)) auditUncutUptoCard

/-- THE SECOND FORM's CARD OF 'dogwatchlaw22.AuditFlips'. -/
def auditFlipsUptoCard : Claim7 := { stood := { row := auditFlipsUptoRow, standIns := [], harness := (true, "c610dd707832d7eaad9da0f2e27ce3f5f221227e15ae277a9fe4264a1cbd9328"), looks := true }, kinds := [], alts := [], laidByText := true, laidKinds := [.data], laidTests := true, laidLooks := .later }
def AuditFlipsUptoCardSaid : Prop := Claim7.holds Tryz.pinned (.plain (OpenSpec.upto auditFlipsSpec)) auditFlipsUptoCard

/-- THE SECOND FORM's CARD OF 'dogwatchlaw22.AuditAcks'. -/
def auditAcksUptoCard : Claim7 := { stood := { row := auditAcksUptoRow, standIns := [], harness := (true, "c610dd707832d7eaad9da0f2e27ce3f5f221227e15ae277a9fe4264a1cbd9328"), looks := true }, kinds := [], alts := [], laidByText := true, laidKinds := [.data], laidTests := true, laidLooks := .later }
def AuditAcksUptoCardSaid : Prop := Claim7.holds Tryz.pinned (.plain (OpenSpec.upto auditAcksSpec)) auditAcksUptoCard

/-- THE SECOND FORM's CARD OF 'dogwatchtop.TopFollows'. -/
def topFollowsUptoCard : Claim7 := { stood := { row := topFollowsUptoRow, standIns := [], harness := (true, "c610dd707832d7eaad9da0f2e27ce3f5f221227e15ae277a9fe4264a1cbd9328"), looks := true }, kinds := [], alts := [], laidByText := true, laidKinds := [.data], laidTests := true, laidLooks := .later }
def TopFollowsUptoCardSaid : Prop := Claim7.holds Tryz.pinned (.plain (OpenSpec.upto topFollowsSpec)) topFollowsUptoCard
end Rows
end Go.Proofs.YtcadgecnlahkgaaGreatDoor
