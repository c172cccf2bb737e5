/-
  NARROWER THAN 'FOR EVERY INPUT', by the rows' own cells (each row's printed sentence says how): PickGreater: laid · PickOther: laid · PickOne: laid · PickWipes: laid · JournalSafe: laid · JournalOne: laid · JournalErases: laid · JournalWorn: laid · JournalAgain: laid.
  DERIVED. THE GIVEN ROWS OF THIS SEAT. 9 by the template 'for every input the law returns true; each argument reads behind the call as it read before'; 0 by the template 'total and deterministic' (their statements: YtmjbpdhkpdpdjaaDoorTotals.lean).
  GIVEN WITH THE SEED: the statements are not yours to turn. If you find one false, say at which input.
  Laid BY PROGRAM, IN A SANDBOX (cutbox-rows.mjs): the forced cells as the released guide's own fill.sh prints them over the translation 7882b2d042e8ca3d… (all of the seat's roots in one cut). By AI agents, Wed Nov 11 2026. No macro, syntax, notation, axiom, sorry.
-/
import Derived.Test.YtmjbpdhkpdpdjaaDoorChecked
import GoSem.Claim
import GoSem.ClaimJoined
import GoSem.ClaimMapViews
import Derived.JoinedTies
import Derived.KernelRfl
namespace Go.Proofs.YtmjbpdhkpdpdjaaDoor
/- THE CELL 'sum', in the pinned program and in every row, IS THE sha256 OF THE DUMP (.gsa) THAT YtmjbpdhkpdpdjaaDoorProg.lean LOADS. Nothing in Lean hashes anything: it is a label: what it is worth is what the hold of that sum in a sandbox is worth. -/
noncomputable def Tryd.pinned : Pinned := { name := "ytmjbpdhkpdpdjaadoor", sum := "7882b2d042e8ca3d3375a77d4aa8213dcf1d749d440045d66766f117ef279480", checked := Tryd.checked }
namespace Rows
def none {H : Type} : Left H := { results := [], args := [] }

/- WHAT THE LISTED PACKAGE-LEVEL VARIABLES READ AS WHEN THE CALL BEGINS. Each datum BY PROGRAM (the guide's laid-datum.mjs) off the statement by which the dump's own 'gosem.cut.vars' lays the variable. In a bare row this is a premise. The card (YtmjbpdhkpdpdjaaDoorCards.lean) ties it to the program's text. -/
def laid_dogwatch_pick_none {H : Type} : DataW H := .agg [.lit (.int .i64 (-1)), .lit (.int .u64 0), .lit (.int .u64 0), .lit (.int .u64 0)]

/-- 'dogwatchlaw10.PickGreater': WHATEVER THE INPUT: true; the input reads as it did. -/
def pickGreaterSpec : ChangeSpec := { name := "pickGreater", fn := fun _ => fun
  | [d] => { results := [.lit (.bool true)], args := [d] }
  | _ => none }
def pickGreaterRow : OpenClaim := { program := "ytmjbpdhkpdpdjaadoor", sum := "7882b2d042e8ca3d3375a77d4aa8213dcf1d749d440045d66766f117ef279480", func := "dogwatch/dogwatchlaw10.PickGreater", spec := "pickGreater", inPlace := ["internal/abi.NoEscape", "internal/bytealg.MakeNoZero", "internal/bytealg.CountString", "internal/bytealg.IndexByteString", "internal/bytealg.IndexString"], unfollowed := true, recurses := true, named := ["dogwatch/pick.none", "internal/bytealg.MaxLen"], apart := false, laid := [("dogwatch/pick.none", laid_dogwatch_pick_none)] }
def PickGreaterSaid : Prop := pickGreaterRow.holds Tryd.pinned (OpenSpec.ofChange pickGreaterSpec)

/-- ITS FALSE NEIGHBOUR: 'it returns false'. Refute it at one input. -/
def pickGreaterWrong : ChangeSpec := { name := "pickGreater", fn := fun _ => fun
  | [d] => { results := [.lit (.bool false)], args := [d] }
  | _ => none }
def PickGreaterWrongFalsely : Prop := pickGreaterRow.holds Tryd.pinned (OpenSpec.ofChange pickGreaterWrong)

/-- 'dogwatchlaw10.PickOther': WHATEVER THE INPUT: true; the input reads as it did. -/
def pickOtherSpec : ChangeSpec := { name := "pickOther", fn := fun _ => fun
  | [d1, d2] => { results := [.lit (.bool true)], args := [d1, d2] }
  | _ => none }
def pickOtherRow : OpenClaim := { program := "ytmjbpdhkpdpdjaadoor", sum := "7882b2d042e8ca3d3375a77d4aa8213dcf1d749d440045d66766f117ef279480", func := "dogwatch/dogwatchlaw10.PickOther", spec := "pickOther", inPlace := ["internal/abi.NoEscape", "internal/bytealg.MakeNoZero", "internal/bytealg.CountString", "internal/bytealg.IndexByteString", "internal/bytealg.IndexString"], unfollowed := true, recurses := true, named := ["dogwatch/pick.none", "internal/bytealg.MaxLen"], apart := false, laid := [("dogwatch/pick.none", laid_dogwatch_pick_none)] }
def PickOtherSaid : Prop := pickOtherRow.holds Tryd.pinned (OpenSpec.ofChange pickOtherSpec)

/-- ITS FALSE NEIGHBOUR: 'it returns false'. Refute it at one input. -/
def pickOtherWrong : ChangeSpec := { name := "pickOther", fn := fun _ => fun
  | [d1, d2] => { results := [.lit (.bool false)], args := [d1, d2] }
  | _ => none }
def PickOtherWrongFalsely : Prop := pickOtherRow.holds Tryd.pinned (OpenSpec.ofChange pickOtherWrong)

/-- 'dogwatchlaw10.PickOne': WHATEVER THE INPUT: true; the input reads as it did. -/
def pickOneSpec : ChangeSpec := { name := "pickOne", fn := fun _ => fun
  | [d1, d2, d3, d4, d5] => { results := [.lit (.bool true)], args := [d1, d2, d3, d4, d5] }
  | _ => none }
def pickOneRow : OpenClaim := { program := "ytmjbpdhkpdpdjaadoor", sum := "7882b2d042e8ca3d3375a77d4aa8213dcf1d749d440045d66766f117ef279480", func := "dogwatch/dogwatchlaw10.PickOne", spec := "pickOne", inPlace := ["internal/abi.NoEscape", "internal/bytealg.MakeNoZero", "internal/bytealg.CountString", "internal/bytealg.IndexByteString", "internal/bytealg.IndexString"], unfollowed := true, recurses := true, named := ["dogwatch/pick.none", "internal/bytealg.MaxLen"], apart := false, laid := [("dogwatch/pick.none", laid_dogwatch_pick_none)] }
def PickOneSaid : Prop := pickOneRow.holds Tryd.pinned (OpenSpec.ofChange pickOneSpec)

/-- ITS FALSE NEIGHBOUR: 'it returns false'. Refute it at one input. -/
def pickOneWrong : ChangeSpec := { name := "pickOne", fn := fun _ => fun
  | [d1, d2, d3, d4, d5] => { results := [.lit (.bool false)], args := [d1, d2, d3, d4, d5] }
  | _ => none }
def PickOneWrongFalsely : Prop := pickOneRow.holds Tryd.pinned (OpenSpec.ofChange pickOneWrong)

/-- 'dogwatchlaw10.PickWipes': WHATEVER THE INPUT: true; the input reads as it did. -/
def pickWipesSpec : ChangeSpec := { name := "pickWipes", fn := fun _ => fun
  | [d] => { results := [.lit (.bool true)], args := [d] }
  | _ => none }
def pickWipesRow : OpenClaim := { program := "ytmjbpdhkpdpdjaadoor", sum := "7882b2d042e8ca3d3375a77d4aa8213dcf1d749d440045d66766f117ef279480", func := "dogwatch/dogwatchlaw10.PickWipes", spec := "pickWipes", inPlace := ["internal/abi.NoEscape", "internal/bytealg.MakeNoZero", "internal/bytealg.CountString", "internal/bytealg.IndexByteString", "internal/bytealg.IndexString"], unfollowed := true, recurses := true, named := ["dogwatch/pick.none", "internal/bytealg.MaxLen"], apart := false, laid := [("dogwatch/pick.none", laid_dogwatch_pick_none)] }
def PickWipesSaid : Prop := pickWipesRow.holds Tryd.pinned (OpenSpec.ofChange pickWipesSpec)

/-- ITS FALSE NEIGHBOUR: 'it returns false'. Refute it at one input. -/
def pickWipesWrong : ChangeSpec := { name := "pickWipes", fn := fun _ => fun
  | [d] => { results := [.lit (.bool false)], args := [d] }
  | _ => none }
def PickWipesWrongFalsely : Prop := pickWipesRow.holds Tryd.pinned (OpenSpec.ofChange pickWipesWrong)

/-- 'dogwatchlaw12.JournalSafe': WHATEVER THE INPUT: true; the input reads as it did. -/
def journalSafeSpec : ChangeSpec := { name := "journalSafe", fn := fun _ => fun
  | [d1, d2, d3] => { results := [.lit (.bool true)], args := [d1, d2, d3] }
  | _ => none }
def journalSafeRow : OpenClaim := { program := "ytmjbpdhkpdpdjaadoor", sum := "7882b2d042e8ca3d3375a77d4aa8213dcf1d749d440045d66766f117ef279480", func := "dogwatch/dogwatchlaw12.JournalSafe", spec := "journalSafe", inPlace := ["internal/abi.NoEscape", "internal/bytealg.MakeNoZero", "internal/bytealg.CountString", "internal/bytealg.IndexByteString", "internal/bytealg.IndexString"], unfollowed := true, recurses := true, named := ["dogwatch/pick.none", "internal/bytealg.MaxLen"], apart := false, laid := [("dogwatch/pick.none", laid_dogwatch_pick_none)] }
def JournalSafeSaid : Prop := journalSafeRow.holds Tryd.pinned (OpenSpec.ofChange journalSafeSpec)

/-- ITS FALSE NEIGHBOUR: 'it returns false'. Refute it at one input. -/
def journalSafeWrong : ChangeSpec := { name := "journalSafe", fn := fun _ => fun
  | [d1, d2, d3] => { results := [.lit (.bool false)], args := [d1, d2, d3] }
  | _ => none }
def JournalSafeWrongFalsely : Prop := journalSafeRow.holds Tryd.pinned (OpenSpec.ofChange journalSafeWrong)

/-- 'dogwatchlaw12.JournalOne': WHATEVER THE INPUT: true; the input reads as it did. -/
def journalOneSpec : ChangeSpec := { name := "journalOne", fn := fun _ => fun
  | [d1, d2, d3, d4] => { results := [.lit (.bool true)], args := [d1, d2, d3, d4] }
  | _ => none }
def journalOneRow : OpenClaim := { program := "ytmjbpdhkpdpdjaadoor", sum := "7882b2d042e8ca3d3375a77d4aa8213dcf1d749d440045d66766f117ef279480", func := "dogwatch/dogwatchlaw12.JournalOne", spec := "journalOne", inPlace := ["internal/abi.NoEscape", "internal/bytealg.MakeNoZero", "internal/bytealg.CountString", "internal/bytealg.IndexByteString", "internal/bytealg.IndexString"], unfollowed := true, recurses := true, named := ["dogwatch/pick.none", "internal/bytealg.MaxLen"], apart := false, laid := [("dogwatch/pick.none", laid_dogwatch_pick_none)] }
def JournalOneSaid : Prop := journalOneRow.holds Tryd.pinned (OpenSpec.ofChange journalOneSpec)

/-- ITS FALSE NEIGHBOUR: 'it returns false'. Refute it at one input. -/
def journalOneWrong : ChangeSpec := { name := "journalOne", fn := fun _ => fun
  | [d1, d2, d3, d4] => { results := [.lit (.bool false)], args := [d1, d2, d3, d4] }
  | _ => none }
def JournalOneWrongFalsely : Prop := journalOneRow.holds Tryd.pinned (OpenSpec.ofChange journalOneWrong)

/-- 'dogwatchlaw12.JournalErases': WHATEVER THE INPUT: true; the input reads as it did. -/
def journalErasesSpec : ChangeSpec := { name := "journalErases", fn := fun _ => fun
  | [d1, d2, d3] => { results := [.lit (.bool true)], args := [d1, d2, d3] }
  | _ => none }
def journalErasesRow : OpenClaim := { program := "ytmjbpdhkpdpdjaadoor", sum := "7882b2d042e8ca3d3375a77d4aa8213dcf1d749d440045d66766f117ef279480", func := "dogwatch/dogwatchlaw12.JournalErases", spec := "journalErases", inPlace := ["internal/abi.NoEscape", "internal/bytealg.MakeNoZero", "internal/bytealg.CountString", "internal/bytealg.IndexByteString", "internal/bytealg.IndexString"], unfollowed := true, recurses := true, named := ["dogwatch/pick.none", "internal/bytealg.MaxLen"], apart := false, laid := [("dogwatch/pick.none", laid_dogwatch_pick_none)] }
def JournalErasesSaid : Prop := journalErasesRow.holds Tryd.pinned (OpenSpec.ofChange journalErasesSpec)

/-- ITS FALSE NEIGHBOUR: 'it returns false'. Refute it at one input. -/
def journalErasesWrong : ChangeSpec := { name := "journalErases", fn := fun _ => fun
  | [d1, d2, d3] => { results := [.lit (.bool false)], args := [d1, d2, d3] }
  | _ => none }
def JournalErasesWrongFalsely : Prop := journalErasesRow.holds Tryd.pinned (OpenSpec.ofChange journalErasesWrong)

/-- 'dogwatchlaw12.JournalWorn': WHATEVER THE INPUT: true; the input reads as it did. -/
def journalWornSpec : ChangeSpec := { name := "journalWorn", fn := fun _ => fun
  | [d1, d2, d3] => { results := [.lit (.bool true)], args := [d1, d2, d3] }
  | _ => none }
def journalWornRow : OpenClaim := { program := "ytmjbpdhkpdpdjaadoor", sum := "7882b2d042e8ca3d3375a77d4aa8213dcf1d749d440045d66766f117ef279480", func := "dogwatch/dogwatchlaw12.JournalWorn", spec := "journalWorn", inPlace := ["internal/abi.NoEscape", "internal/bytealg.MakeNoZero", "internal/bytealg.CountString", "internal/bytealg.IndexByteString", "internal/bytealg.IndexString"], unfollowed := true, recurses := true, named := ["dogwatch/pick.none", "internal/bytealg.MaxLen"], apart := false, laid := [("dogwatch/pick.none", laid_dogwatch_pick_none)] }
def JournalWornSaid : Prop := journalWornRow.holds Tryd.pinned (OpenSpec.ofChange journalWornSpec)

/-- ITS FALSE NEIGHBOUR: 'it returns false'. Refute it at one input. -/
def journalWornWrong : ChangeSpec := { name := "journalWorn", fn := fun _ => fun
  | [d1, d2, d3] => { results := [.lit (.bool false)], args := [d1, d2, d3] }
  | _ => none }
def JournalWornWrongFalsely : Prop := journalWornRow.holds Tryd.pinned (OpenSpec.ofChange journalWornWrong)

/-- 'dogwatchlaw12.JournalAgain': WHATEVER THE INPUT: true; the input reads as it did. -/
def journalAgainSpec : ChangeSpec := { name := "journalAgain", fn := fun _ => fun
  | [d1, d2, d3] => { results := [.lit (.bool true)], args := [d1, d2, d3] }
  | _ => none }
def journalAgainRow : OpenClaim := { program := "ytmjbpdhkpdpdjaadoor", sum := "7882b2d042e8ca3d3375a77d4aa8213dcf1d749d440045d66766f117ef279480", func := "dogwatch/dogwatchlaw12.JournalAgain", spec := "journalAgain", inPlace := ["internal/abi.NoEscape", "internal/bytealg.MakeNoZero", "internal/bytealg.CountString", "internal/bytealg.IndexByteString", "internal/bytealg.IndexString"], unfollowed := true, recurses := true, named := ["dogwatch/pick.none", "internal/bytealg.MaxLen"], apart := false, laid := [("dogwatch/pick.none", laid_dogwatch_pick_none)] }
def JournalAgainSaid : Prop := journalAgainRow.holds Tryd.pinned (OpenSpec.ofChange journalAgainSpec)

/-- ITS FALSE NEIGHBOUR: 'it returns false'. Refute it at one input. -/
def journalAgainWrong : ChangeSpec := { name := "journalAgain", fn := fun _ => fun
  | [d1, d2, d3] => { results := [.lit (.bool false)], args := [d1, d2, d3] }
  | _ => none }
def JournalAgainWrongFalsely : Prop := journalAgainRow.holds Tryd.pinned (OpenSpec.ofChange journalAgainWrong)

/- THE SECOND FORM. 'bulk': how many values and letters a reading holds, each counted each time it is reached (what is shared counts as often as it is met; a slice's spare places count too). A statement '..UptoSaid' is the law's where the arguments, and the package variables that the reading takes, are together of bulk at most 1048576: NARROWER than '..Said'. Prove '..Said' where nothing that the law and all that it calls make is longer than what came in: it says more and counts as full. Else prove '..UptoSaid'. A law counts once. -/
mutual
def uptoBulk {H : Type} : DataW H → Nat
  | .lit (.string bytes) => bytes.length + 1
  | .lit _ => 1
  | .nil => 1
  | .ptr d => uptoBulk d + 1
  | .slice elems spare => uptoBulkAll elems + uptoBulkAll spare + 1
  | .agg parts => uptoBulkAll parts + 1
  | .iface _ d => uptoBulk d + 1
  | .map entries => uptoBulkEntries entries + 1
  | .held _ => 1
def uptoBulkAll {H : Type} : List (DataW H) → Nat
  | [] => 0
  | d :: r => uptoBulk d + uptoBulkAll r
def uptoBulkEntries {H : Type} : List (Lit × DataW H) → Nat
  | [] => 0
  | x :: r => uptoBulkEntry x + uptoBulkEntries r
def uptoBulkEntry {H : Type} : Lit × DataW H → Nat
  | (.string bytes, d) => bytes.length + uptoBulk d + 1
  | (_, d) => uptoBulk d + 1
 end
def uptoSmall : (H : Type) → List (DataW H) → Bool := fun _ ds => decide (uptoBulkAll ds ≤ 1048576)
def OpenSpec.upto (s : _root_.Go.ChangeSpec) : _root_.Go.OpenSpec := { _root_.Go.OpenSpec.ofChange s with cond := some uptoSmall }

/-- 'dogwatchlaw10.PickGreater', WHERE WHAT IT READS IS OF BULK AT MOST 1048576: true; the input reads as it did. -/
def pickGreaterUptoRow : OpenClaim := { program := "ytmjbpdhkpdpdjaadoor", sum := "7882b2d042e8ca3d3375a77d4aa8213dcf1d749d440045d66766f117ef279480", func := "dogwatch/dogwatchlaw10.PickGreater", spec := "pickGreater", inPlace := ["internal/abi.NoEscape", "internal/bytealg.MakeNoZero", "internal/bytealg.CountString", "internal/bytealg.IndexByteString", "internal/bytealg.IndexString"], unfollowed := true, recurses := true, named := ["dogwatch/pick.none", "internal/bytealg.MaxLen"], apart := false, laid := [("dogwatch/pick.none", laid_dogwatch_pick_none)], narrowed := true }
def PickGreaterUptoSaid : Prop := pickGreaterUptoRow.holds Tryd.pinned (OpenSpec.upto pickGreaterSpec)

/-- 'dogwatchlaw10.PickOther', WHERE WHAT IT READS IS OF BULK AT MOST 1048576: true; the input reads as it did. -/
def pickOtherUptoRow : OpenClaim := { program := "ytmjbpdhkpdpdjaadoor", sum := "7882b2d042e8ca3d3375a77d4aa8213dcf1d749d440045d66766f117ef279480", func := "dogwatch/dogwatchlaw10.PickOther", spec := "pickOther", inPlace := ["internal/abi.NoEscape", "internal/bytealg.MakeNoZero", "internal/bytealg.CountString", "internal/bytealg.IndexByteString", "internal/bytealg.IndexString"], unfollowed := true, recurses := true, named := ["dogwatch/pick.none", "internal/bytealg.MaxLen"], apart := false, laid := [("dogwatch/pick.none", laid_dogwatch_pick_none)], narrowed := true }
def PickOtherUptoSaid : Prop := pickOtherUptoRow.holds Tryd.pinned (OpenSpec.upto pickOtherSpec)

/-- 'dogwatchlaw10.PickOne', WHERE WHAT IT READS IS OF BULK AT MOST 1048576: true; the input reads as it did. -/
def pickOneUptoRow : OpenClaim := { program := "ytmjbpdhkpdpdjaadoor", sum := "7882b2d042e8ca3d3375a77d4aa8213dcf1d749d440045d66766f117ef279480", func := "dogwatch/dogwatchlaw10.PickOne", spec := "pickOne", inPlace := ["internal/abi.NoEscape", "internal/bytealg.MakeNoZero", "internal/bytealg.CountString", "internal/bytealg.IndexByteString", "internal/bytealg.IndexString"], unfollowed := true, recurses := true, named := ["dogwatch/pick.none", "internal/bytealg.MaxLen"], apart := false, laid := [("dogwatch/pick.none", laid_dogwatch_pick_none)], narrowed := true }
def PickOneUptoSaid : Prop := pickOneUptoRow.holds Tryd.pinned (OpenSpec.upto pickOneSpec)

/-- 'dogwatchlaw10.PickWipes', WHERE WHAT IT READS IS OF BULK AT MOST 1048576: true; the input reads as it did. -/
def pickWipesUptoRow : OpenClaim := { program := "ytmjbpdhkpdpdjaadoor", sum := "7882b2d042e8ca3d3375a77d4aa8213dcf1d749d440045d66766f117ef279480", func := "dogwatch/dogwatchlaw10.PickWipes", spec := "pickWipes", inPlace := ["internal/abi.NoEscape", "internal/bytealg.MakeNoZero", "internal/bytealg.CountString", "internal/bytealg.IndexByteString", "internal/bytealg.IndexString"], unfollowed := true, recurses := true, named := ["dogwatch/pick.none", "internal/bytealg.MaxLen"], apart := false, laid := [("dogwatch/pick.none", laid_dogwatch_pick_none)], narrowed := true }
def PickWipesUptoSaid : Prop := pickWipesUptoRow.holds Tryd.pinned (OpenSpec.upto pickWipesSpec)

/-- 'dogwatchlaw12.JournalSafe', WHERE WHAT IT READS IS OF BULK AT MOST 1048576: true; the input reads as it did. -/
def journalSafeUptoRow : OpenClaim := { program := "ytmjbpdhkpdpdjaadoor", sum := "7882b2d042e8ca3d3375a77d4aa8213dcf1d749d440045d66766f117ef279480", func := "dogwatch/dogwatchlaw12.JournalSafe", spec := "journalSafe", inPlace := ["internal/abi.NoEscape", "internal/bytealg.MakeNoZero", "internal/bytealg.CountString", "internal/bytealg.IndexByteString", "internal/bytealg.IndexString"], unfollowed := true, recurses := true, named := ["dogwatch/pick.none", "internal/bytealg.MaxLen"], apart := false, laid := [("dogwatch/pick.none", laid_dogwatch_pick_none)], narrowed := true }
def JournalSafeUptoSaid : Prop := journalSafeUptoRow.holds Tryd.pinned (OpenSpec.upto journalSafeSpec)

/-- 'dogwatchlaw12.JournalOne', WHERE WHAT IT READS IS OF BULK AT MOST 1048576: true; the input reads as it did. -/
def journalOneUptoRow : OpenClaim := { program := "ytmjbpdhkpdpdjaadoor", sum := "7882b2d042e8ca3d3375a77d4aa8213dcf1d749d440045d66766f117ef279480", func := "dogwatch/dogwatchlaw12.JournalOne", spec := "journalOne", inPlace := ["internal/abi.NoEscape", "internal/bytealg.MakeNoZero", "internal/bytealg.CountString", "internal/bytealg.IndexByteString", "internal/bytealg.IndexString"], unfollowed := true, recurses := true, named := ["dogwatch/pick.none", "internal/bytealg.MaxLen"], apart := false, laid := [("dogwatch/pick.none", laid_dogwatch_pick_none)], narrowed := true }
def JournalOneUptoSaid : Prop := journalOneUptoRow.holds Tryd.pinned (OpenSpec.upto journalOneSpec)

/-- 'dogwatchlaw12.JournalErases', WHERE WHAT IT READS IS OF BULK AT MOST 1048576: true; the input reads as it did. -/
def journalErasesUptoRow : OpenClaim := { program := "ytmjbpdhkpdpdjaadoor", sum := "7882b2d042e8ca3d3375a77d4aa8213dcf1d749d440045d66766f117ef279480", func := "dogwatch/dogwatchlaw12.JournalErases", spec := "journalErases", inPlace := ["internal/abi.NoEscape", "internal/bytealg.MakeNoZero", "internal/bytealg.CountString", "internal/bytealg.IndexByteString", "internal/bytealg.IndexString"], unfollowed := true, recurses := true, named := ["dogwatch/pick.none", "internal/bytealg.MaxLen"], apart := false, laid := [("dogwatch/pick.none", laid_dogwatch_pick_none)], narrowed := true }
def JournalErasesUptoSaid : Prop := journalErasesUptoRow.holds Tryd.pinned (OpenSpec.upto journalErasesSpec)

/-- 'dogwatchlaw12.JournalWorn', WHERE WHAT IT READS IS OF BULK AT MOST 1048576: true; the input reads as it did. -/
def journalWornUptoRow : OpenClaim := { program := "ytmjbpdhkpdpdjaadoor", sum := "7882b2d042e8ca3d3375a77d4aa8213dcf1d749d440045d66766f117ef279480", func := "dogwatch/dogwatchlaw12.JournalWorn", spec := "journalWorn", inPlace := ["internal/abi.NoEscape", "internal/bytealg.MakeNoZero", "internal/bytealg.CountString", "internal/bytealg.IndexByteString", "internal/bytealg.IndexString"], unfollowed := true, recurses := true, named := ["dogwatch/pick.none", "internal/bytealg.MaxLen"], apart := false, laid := [("dogwatch/pick.none", laid_dogwatch_pick_none)], narrowed := true }
def JournalWornUptoSaid : Prop := journalWornUptoRow.holds Tryd.pinned (OpenSpec.upto journalWornSpec)

/-- 'dogwatchlaw12.JournalAgain', WHERE WHAT IT READS IS OF BULK AT MOST 1048576: true; the input reads as it did. -/
def journalAgainUptoRow : OpenClaim := { program := "ytmjbpdhkpdpdjaadoor", sum := "7882b2d042e8ca3d3375a77d4aa8213dcf1d749d440045d66766f117ef279480", func := "dogwatch/dogwatchlaw12.JournalAgain", spec := "journalAgain", inPlace := ["internal/abi.NoEscape", "internal/bytealg.MakeNoZero", "internal/bytealg.CountString", "internal/bytealg.IndexByteString", "internal/bytealg.IndexString"], unfollowed := true, recurses := true, named := ["dogwatch/pick.none", "internal/bytealg.MaxLen"], apart := false, laid := [("dogwatch/pick.none", laid_dogwatch_pick_none)], narrowed := true }
def JournalAgainUptoSaid : Prop := journalAgainUptoRow.holds Tryd.pinned (OpenSpec.upto journalAgainSpec)

end Rows
end Go.Proofs.YtmjbpdhkpdpdjaaDoor
