/-
  DERIVED. GIVEN WITH THE SEED: THE CARDS: each row of YtmjbpdhkpdpdjaaDoorRows.lean that lists a variable, with what it lists TIED to the program's text (the seventh form; the later family's looks); each row that meets fmt, with fmt's text TOLD by the authors' own Lean function (tested against real Go, not proved from fmt's source: count such statements apart). THE CARD IS WHAT COUNTS. Prove the row's statement (the work); the ties are given (YtmjbpdhkpdpdjaaDoorTie.lean); close each card by the builder's one call (the guide's Derived/Test/ToyasCard.lean, 'card_holds'). Laid BY PROGRAM, IN A SANDBOX (cutbox-door.mjs). By AI agents, Wed Nov 11 2026. No macro, syntax, notation, axiom, sorry.
-/
import Derived.Test.YtmjbpdhkpdpdjaaDoorRows
import GoSem.ClaimSeven
namespace Go.Proofs.YtmjbpdhkpdpdjaaDoor
namespace Rows

/-- THE TIED CARD OF 'dogwatchlaw10.PickGreater'. -/
def pickGreaterCard : Claim7 := { stood := { row := pickGreaterRow, standIns := [], harness := (true, "28462509174e92d7f6f6a2faea921d4cee308187d90f87a0d18c747a0a990e66"), looks := true }, kinds := [], alts := [], laidByText := true, laidKinds := [.data], laidTests := true, laidLooks := .later }
def PickGreaterCardSaid : Prop := Claim7.holds Tryd.pinned (.plain (OpenSpec.ofChange pickGreaterSpec)) pickGreaterCard

/-- THE TIED CARD OF 'dogwatchlaw10.PickOther'. -/
def pickOtherCard : Claim7 := { stood := { row := pickOtherRow, standIns := [], harness := (true, "28462509174e92d7f6f6a2faea921d4cee308187d90f87a0d18c747a0a990e66"), looks := true }, kinds := [], alts := [], laidByText := true, laidKinds := [.data], laidTests := true, laidLooks := .later }
def PickOtherCardSaid : Prop := Claim7.holds Tryd.pinned (.plain (OpenSpec.ofChange pickOtherSpec)) pickOtherCard

/-- THE TIED CARD OF 'dogwatchlaw10.PickOne'. -/
def pickOneCard : Claim7 := { stood := { row := pickOneRow, standIns := [], harness := (true, "28462509174e92d7f6f6a2faea921d4cee308187d90f87a0d18c747a0a990e66"), looks := true }, kinds := [], alts := [], laidByText := true, laidKinds := [.data], laidTests := true, laidLooks := .later }
def PickOneCardSaid : Prop := Claim7.holds Tryd.pinned (.plain (OpenSpec.ofChange pickOneSpec)) pickOneCard

/-- THE TIED CARD OF 'dogwatchlaw10.PickWipes'. -/
def pickWipesCard : Claim7 := { stood := { row := pickWipesRow, standIns := [], harness := (true, "28462509174e92d7f6f6a2faea921d4cee308187d90f87a0d18c747a0a990e66"), looks := true }, kinds := [], alts := [], laidByText := true, laidKinds := [.data], laidTests := true, laidLooks := .later }
def PickWipesCardSaid : Prop := Claim7.holds Tryd.pinned (.plain (OpenSpec.ofChange pickWipesSpec)) pickWipesCard

/-- THE TIED CARD OF 'dogwatchlaw12.JournalSafe'. -/
def journalSafeCard : Claim7 := { stood := { row := journalSafeRow, standIns := [], harness := (true, "28462509174e92d7f6f6a2faea921d4cee308187d90f87a0d18c747a0a990e66"), looks := true }, kinds := [], alts := [], laidByText := true, laidKinds := [.data], laidTests := true, laidLooks := .later }
def JournalSafeCardSaid : Prop := Claim7.holds Tryd.pinned (.plain (OpenSpec.ofChange journalSafeSpec)) journalSafeCard

/-- THE TIED CARD OF 'dogwatchlaw12.JournalOne'. -/
def journalOneCard : Claim7 := { stood := { row := journalOneRow, standIns := [], harness := (true, "28462509174e92d7f6f6a2faea921d4cee308187d90f87a0d18c747a0a990e66"), looks := true }, kinds := [], alts := [], laidByText := true, laidKinds := [.data], laidTests := true, laidLooks := .later }
def JournalOneCardSaid : Prop := Claim7.holds Tryd.pinned (.plain (OpenSpec.ofChange journalOneSpec)) journalOneCard

/-- THE TIED CARD OF 'dogwatchlaw12.JournalErases'. -/
def journalErasesCard : Claim7 := { stood := { row := journalErasesRow, standIns := [], harness := (true, "28462509174e92d7f6f6a2faea921d4cee308187d90f87a0d18c747a0a990e66"), looks := true }, kinds := [], alts := [], laidByText := true, laidKinds := [.data], laidTests := true, laidLooks := .later }
def JournalErasesCardSaid : Prop := Claim7.holds Tryd.pinned (.plain (OpenSpec.ofChange journalErasesSpec)) journalErasesCard

/-- THE TIED CARD OF 'dogwatchlaw12.JournalWorn'. -/
def journalWornCard : Claim7 := { stood := { row := journalWornRow, standIns := [], harness := (true, "28462509174e92d7f6f6a2faea921d4cee308187d90f87a0d18c747a0a990e66"), looks := true }, kinds := [], alts := [], laidByText := true, laidKinds := [.data], laidTests := true, laidLooks := .later }
def JournalWornCardSaid : Prop := Claim7.holds Tryd.pinned (.plain (OpenSpec.ofChange journalWornSpec)) journalWornCard

/-- THE TIED CARD OF 'dogwatchlaw12.JournalAgain'. -/
def journalAgainCard : Claim7 := { stood := { row := journalAgainRow, standIns := [], harness := (true, "28462509174e92d7f6f6a2faea921d4cee308187d90f87a0d18c747a0a990e66"), looks := true }, kinds := [], alts := [], laidByText := true, laidKinds := [.data], laidTests := true, laidLooks := .later }
def JournalAgainCardSaid : Prop := Claim7.holds Tryd.pinned (.plain (OpenSpec.ofChange journalAgainSpec)) journalAgainCard

/-- THE SECOND FORM's CARD OF 'dogwatchlaw10.PickGreater'. -/
def pickGreaterUptoCard : Claim7 := { stood := { row := pickGreaterUptoRow, standIns := [], harness := (true, "28462509174e92d7f6f6a2faea921d4cee308187d90f87a0d18c747a0a990e66"), looks := true }, kinds := [], alts := [], laidByText := true, laidKinds := [.data], laidTests := true, laidLooks := .later }
def PickGreaterUptoCardSaid : Prop := Claim7.holds Tryd.pinned (.plain (OpenSpec.upto pickGreaterSpec)) pickGreaterUptoCard

/-- THE SECOND FORM's CARD OF 'dogwatchlaw10.PickOther'. -/
def pickOtherUptoCard : Claim7 := { stood := { row := pickOtherUptoRow, standIns := [], harness := (true, "28462509174e92d7f6f6a2faea921d4cee308187d90f87a0d18c747a0a990e66"), looks := true }, kinds := [], alts := [], laidByText := true, laidKinds := [.data], laidTests := true, laidLooks := .later }
def PickOtherUptoCardSaid : Prop := Claim7.holds Tryd.pinned (.plain (OpenSpec.upto pickOtherSpec)) pickOtherUptoCard

/-- THE SECOND FORM's CARD OF 'dogwatchlaw10.PickOne'. -/
def pickOneUptoCard : Claim7 := { stood := { row := pickOneUptoRow, standIns := [], harness := (true, "28462509174e92d7f6f6a2faea921d4cee308187d90f87a0d18c747a0a990e66"), looks := true }, kinds := [], alts := [], laidByText := true, laidKinds := [.data], laidTests := true, laidLooks := .later }
def PickOneUptoCardSaid : Prop := Claim7.holds Tryd.pinned (.plain (OpenSpec.upto pickOneSpec)) pickOneUptoCard

/-- THE SECOND FORM's CARD OF 'dogwatchlaw10.PickWipes'. -/
def pickWipesUptoCard : Claim7 := { stood := { row := pickWipesUptoRow, standIns := [], harness := (true, "28462509174e92d7f6f6a2faea921d4cee308187d90f87a0d18c747a0a990e66"), looks := true }, kinds := [], alts := [], laidByText := true, laidKinds := [.data], laidTests := true, laidLooks := .later }
def PickWipesUptoCardSaid : Prop := Claim7.holds Tryd.pinned (.plain (OpenSpec.upto pickWipesSpec)) pickWipesUptoCard

/-- THE SECOND FORM's CARD OF 'dogwatchlaw12.JournalSafe'. -/
def journalSafeUptoCard : Claim7 := { stood := { row := journalSafeUptoRow, standIns := [], harness := (true, "28462509174e92d7f6f6a2faea921d4cee308187d90f87a0d18c747a0a990e66"), looks := true }, kinds := [], alts := [], laidByText := true, laidKinds := [.data], laidTests := true, laidLooks := .later }
def JournalSafeUptoCardSaid : Prop := Claim7.holds Tryd.pinned (.plain (OpenSpec.upto journalSafeSpec)) journalSafeUptoCard

/-- THE SECOND FORM's CARD OF 'dogwatchlaw12.JournalOne'. -/
def journalOneUptoCard : Claim7 := { stood := { row := journalOneUptoRow, standIns := [], harness := (true, "28462509174e92d7f6f6a2faea921d4cee308187d90f87a0d18c747a0a990e66"), looks := true }, kinds := [], alts := [], laidByText := true, laidKinds := [.data], laidTests := true, laidLooks := .later }
def JournalOneUptoCardSaid : Prop := Claim7.holds Tryd.pinned (.plain (OpenSpec.upto journalOneSpec)) journalOneUptoCard

/-- THE SECOND FORM's CARD OF 'dogwatchlaw12.JournalErases'. -/
def journalErasesUptoCard : Claim7 := { stood := { row := journalErasesUptoRow, standIns := [], harness := (true, "28462509174e92d7f6f6a2faea921d4cee308187d90f87a0d18c747a0a990e66"), looks := true }, kinds := [], alts := [], laidByText := true, laidKinds := [.data], laidTests := true, laidLooks := .later }
def JournalErasesUptoCardSaid : Prop := Claim7.holds Tryd.pinned (.plain (OpenSpec.upto journalErasesSpec)) journalErasesUptoCard

/-- THE SECOND FORM's CARD OF 'dogwatchlaw12.JournalWorn'. -/
def journalWornUptoCard : Claim7 := { stood := { row := journalWornUptoRow, standIns := [], harness := (true, "28462509174e92d7f6f6a2faea921d4cee308187d90f87a0d18c747a0a990e66"), looks := true }, kinds := [], alts := [], laidByText := true, laidKinds := [.data], laidTests := true, laidLooks := .later }
def JournalWornUptoCardSaid : Prop := Claim7.holds Tryd.pinned (.plain (OpenSpec.upto journalWornSpec)) journalWornUptoCard

/-- THE SECOND FORM's CARD OF 'dogwatchlaw12.JournalAgain'. -/
def journalAgainUptoCard : Claim7 := { stood := { row := journalAgainUptoRow, standIns := [], harness := (true, "28462509174e92d7f6f6a2faea921d4cee308187d90f87a0d18c747a0a990e66"), looks := true }, kinds := [], alts := [], laidByText := true, laidKinds := [.data], laidTests := true, laidLooks := .later }
def JournalAgainUptoCardSaid : Prop := Claim7.holds Tryd.pinned (.plain (OpenSpec.upto journalAgainSpec)) journalAgainUptoCard
end Rows
end Go.Proofs.YtmjbpdhkpdpdjaaDoor
