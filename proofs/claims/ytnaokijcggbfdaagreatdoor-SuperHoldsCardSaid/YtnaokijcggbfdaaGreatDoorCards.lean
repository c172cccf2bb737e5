/-
  DERIVED. GIVEN WITH THE SEED: THE CARDS: each row of YtnaokijcggbfdaaGreatDoorRows.lean that lists a variable, with what it lists TIED to the program's text (the seventh form; the later family's looks); each row that meets fmt, with fmt's text TOLD by the authors' own Lean function (tested against real Go, not proved from fmt's source: count such statements apart). THE CARD IS WHAT COUNTS. Prove the row's statement (the work); the ties are given (YtnaokijcggbfdaaGreatDoorTie.lean); close each card by the builder's one call (the guide's Derived/Test/ToyasCard.lean, 'card_holds'). Laid BY PROGRAM, IN A SANDBOX (cutbox-door.mjs). By AI agents, Wed Nov 11 2026. No macro, syntax, notation, axiom, sorry.
-/
import Derived.Test.YtnaokijcggbfdaaGreatDoorRows
import GoSem.ClaimSeven
namespace Go.Proofs.YtnaokijcggbfdaaGreatDoor
namespace Rows

/-- THE TIED CARD OF 'dogwatchlaw20.SuperRefuses'. -/
def superRefusesCard : Claim7 := { stood := { row := superRefusesRow, standIns := [], harness := (true, "49fa9c2c396aa081c2a20b9b712eef96d8d9cc0945d84faafae31dbf85a34511"), looks := true }, kinds := [], alts := [], laidByText := true, laidKinds := [.data], laidTests := true, laidLooks := .later }
def SuperRefusesCardSaid : Prop := Claim7.holds Tryz.pinned (.plain (OpenSpec.ofChange superRefusesSpec)) superRefusesCard

/-- THE TIED CARD OF 'dogwatchlaw20.SuperHolds'. -/
def superHoldsCard : Claim7 := { stood := { row := superHoldsRow, standIns := [], harness := (true, "49fa9c2c396aa081c2a20b9b712eef96d8d9cc0945d84faafae31dbf85a34511"), looks := true }, kinds := [], alts := [], laidByText := true, laidKinds := [.data], laidTests := true, laidLooks := .later }
def SuperHoldsCardSaid : Prop := Claim7.holds Tryz.pinned (.plain (OpenSpec.ofChange superHoldsSpec)) superHoldsCard

/-- THE TIED CARD OF 'dogwatchlaw21.ScriptRuns'. -/
def scriptRunsCard : Claim7 := { stood := { row := scriptRunsRow, standIns := [], harness := (true, "49fa9c2c396aa081c2a20b9b712eef96d8d9cc0945d84faafae31dbf85a34511"), looks := true }, kinds := [], alts := [], laidByText := true, laidKinds := [.data], laidTests := true, laidLooks := .later }
def ScriptRunsCardSaid : Prop := Claim7.holds Tryz.pinned (.plain (OpenSpec.ofChange scriptRunsSpec)) scriptRunsCard

/-- THE TIED CARD OF 'dogwatchlaw21.ScriptFlips'. -/
def scriptFlipsCard : Claim7 := { stood := { row := scriptFlipsRow, standIns := [], harness := (true, "49fa9c2c396aa081c2a20b9b712eef96d8d9cc0945d84faafae31dbf85a34511"), looks := true }, kinds := [], alts := [], laidByText := true, laidKinds := [.data], laidTests := true, laidLooks := .later }
def ScriptFlipsCardSaid : Prop := Claim7.holds Tryz.pinned (.plain (OpenSpec.ofChange scriptFlipsSpec)) scriptFlipsCard

/-- THE TIED CARD OF 'dogwatchlaw21.ScriptReplies'. -/
def scriptRepliesCard : Claim7 := { stood := { row := scriptRepliesRow, standIns := [], harness := (true, "49fa9c2c396aa081c2a20b9b712eef96d8d9cc0945d84faafae31dbf85a34511"), looks := true }, kinds := [], alts := [], laidByText := true, laidKinds := [.data], laidTests := true, laidLooks := .later }
def ScriptRepliesCardSaid : Prop := Claim7.holds Tryz.pinned (.plain (OpenSpec.ofChange scriptRepliesSpec)) scriptRepliesCard

/-- THE TIED CARD OF 'dogwatchlaw21.ScriptOff'. -/
def scriptOffCard : Claim7 := { stood := { row := scriptOffRow, standIns := [], harness := (true, "49fa9c2c396aa081c2a20b9b712eef96d8d9cc0945d84faafae31dbf85a34511"), looks := true }, kinds := [], alts := [], laidByText := true, laidKinds := [.data], laidTests := true, laidLooks := .later }
def ScriptOffCardSaid : Prop := Claim7.holds Tryz.pinned (.plain (OpenSpec.ofChange scriptOffSpec)) scriptOffCard

/-- THE TIED CARD OF 'dogwatchtop.TopModel'. -/
def topModelCard : Claim7 := { stood := { row := topModelRow, standIns := [], harness := (true, "49fa9c2c396aa081c2a20b9b712eef96d8d9cc0945d84faafae31dbf85a34511"), looks := true }, kinds := [], alts := [], laidByText := true, laidKinds := [.data], laidTests := true, laidLooks := .later }
def TopModelCardSaid : Prop := Claim7.holds Tryz.pinned (.plain (OpenSpec.ofChange topModelSpec)) topModelCard

/-- THE SECOND FORM's CARD OF 'dogwatchlaw20.SuperRefuses'. -/
def superRefusesUptoCard : Claim7 := { stood := { row := superRefusesUptoRow, standIns := [], harness := (true, "49fa9c2c396aa081c2a20b9b712eef96d8d9cc0945d84faafae31dbf85a34511"), looks := true }, kinds := [], alts := [], laidByText := true, laidKinds := [.data], laidTests := true, laidLooks := .later }
def SuperRefusesUptoCardSaid : Prop := Claim7.holds Tryz.pinned (.plain (OpenSpec.upto superRefusesSpec)) superRefusesUptoCard

/-- THE SECOND FORM's CARD OF 'dogwatchlaw20.SuperHolds'. -/
def superHoldsUptoCard : Claim7 := { stood := { row := superHoldsUptoRow, standIns := [], harness := (true, "49fa9c2c396aa081c2a20b9b712eef96d8d9cc0945d84faafae31dbf85a34511"), looks := true }, kinds := [], alts := [], laidByText := true, laidKinds := [.data], laidTests := true, laidLooks := .later }
def SuperHoldsUptoCardSaid : Prop := Claim7.holds Tryz.pinned (.plain (OpenSpec.upto superHoldsSpec)) superHoldsUptoCard

/-- THE SECOND FORM's CARD OF 'dogwatchlaw21.ScriptRuns'. -/
def scriptRunsUptoCard : Claim7 := { stood := { row := scriptRunsUptoRow, standIns := [], harness := (true, "49fa9c2c396aa081c2a20b9b712eef96d8d9cc0945d84faafae31dbf85a34511"), looks := true }, kinds := [], alts := [], laidByText := true, laidKinds := [.data], laidTests := true, laidLooks := .later }
def ScriptRunsUptoCardSaid : Prop := Claim7.holds Tryz.pinned (.plain (OpenSpec.upto scriptRunsSpec)) scriptRunsUptoCard

/-- THE SECOND FORM's CARD OF 'dogwatchlaw21.ScriptFlips'. -/
def scriptFlipsUptoCard : Claim7 := { stood := { row := scriptFlipsUptoRow, standIns := [], harness := (true, "49fa9c2c396aa081c2a20b9b712eef96d8d9cc0945d84faafae31dbf85a34511"), looks := true }, kinds := [], alts := [], laidByText := true, laidKinds := [.data], laidTests := true, laidLooks := .later }
def ScriptFlipsUptoCardSaid : Prop := Claim7.holds Tryz.pinned (.plain (OpenSpec.upto scriptFlipsSpec)) scriptFlipsUptoCard

/-- THE SECOND FORM's CARD OF 'dogwatchlaw21.ScriptReplies'. -/
def scriptRepliesUptoCard : Claim7 := { stood := { row := scriptRepliesUptoRow, standIns := [], harness := (true, "49fa9c2c396aa081c2a20b9b712eef96d8d9cc0945d84faafae31dbf85a34511"), looks := true }, kinds := [], alts := [], laidByText := true, laidKinds := [.data], laidTests := true, laidLooks := .later }
def ScriptRepliesUptoCardSaid : Prop := Claim7.holds Tryz.pinned (.plain (OpenSpec.upto scriptRepliesSpec)) scriptRepliesUptoCard

/-- THE SECOND FORM's CARD OF 'dogwatchlaw21.ScriptOff'. -/
def scriptOffUptoCard : Claim7 := { stood := { row := scriptOffUptoRow, standIns := [], harness := (true, "49fa9c2c396aa081c2a20b9b712eef96d8d9cc0945d84faafae31dbf85a34511"), looks := true }, kinds := [], alts := [], laidByText := true, laidKinds := [.data], laidTests := true, laidLooks := .later }
def ScriptOffUptoCardSaid : Prop := Claim7.holds Tryz.pinned (.plain (OpenSpec.upto scriptOffSpec)) scriptOffUptoCard

/-- THE SECOND FORM's CARD OF 'dogwatchtop.TopModel'. -/
def topModelUptoCard : Claim7 := { stood := { row := topModelUptoRow, standIns := [], harness := (true, "49fa9c2c396aa081c2a20b9b712eef96d8d9cc0945d84faafae31dbf85a34511"), looks := true }, kinds := [], alts := [], laidByText := true, laidKinds := [.data], laidTests := true, laidLooks := .later }
def TopModelUptoCardSaid : Prop := Claim7.holds Tryz.pinned (.plain (OpenSpec.upto topModelSpec)) topModelUptoCard
end Rows
end Go.Proofs.YtnaokijcggbfdaaGreatDoor
