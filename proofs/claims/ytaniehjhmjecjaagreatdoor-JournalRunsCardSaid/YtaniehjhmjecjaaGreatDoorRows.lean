/-
  NARROWER THAN 'FOR EVERY INPUT', by the rows' own cells (each row's printed sentence says how): PlanDone: laid · PlanCuts: laid · PlanAlike: laid · JournalPuts: laid · JournalRuns: laid · JournalNumbers: laid.
  DERIVED. THE GIVEN ROWS OF THIS SEAT. 6 by the template 'for every input the law returns true; each argument reads behind the call as it read before'; 0 by the template 'total and deterministic' (their statements: YtaniehjhmjecjaaGreatDoorTotals.lean).
  GIVEN WITH THE SEED: the statements are not yours to turn. If you find one false, say at which input.
  Laid BY PROGRAM, IN A SANDBOX (cutbox-rows.mjs): the forced cells as the released guide's own fill.sh prints them over the translation 75e012b1b4bbf89f… (all of the seat's roots in one cut). By AI agents, Wed Nov 11 2026. No macro, syntax, notation, axiom, sorry.
-/
import Derived.Test.YtaniehjhmjecjaaGreatDoorChecked
import GoSem.Claim
import GoSem.ClaimJoined
import GoSem.ClaimMapViews
import Derived.JoinedTies
import Derived.KernelRfl
namespace Go.Proofs.YtaniehjhmjecjaaGreatDoor
/- THE CELL 'sum', in the pinned program and in every row, IS THE sha256 OF THE DUMP (.gsa) THAT YtaniehjhmjecjaaGreatDoorProg.lean LOADS. Nothing in Lean hashes anything: it is a label: what it is worth is what the hold of that sum in a sandbox is worth. -/
noncomputable def Tryz.pinned : Pinned := { name := "ytaniehjhmjecjaagreatdoor", sum := "75e012b1b4bbf89f7b22222efbea1eda19b020b893307e0f293902b71d5d39b1", checked := Tryz.checked }
namespace Rows
def none {H : Type} : Left H := { results := [], args := [] }

/- WHAT THE LISTED PACKAGE-LEVEL VARIABLES READ AS WHEN THE CALL BEGINS. Each datum BY PROGRAM (the guide's laid-datum.mjs) off the statement by which the dump's own 'gosem.cut.vars' lays the variable. In a bare row this is a premise. The card (YtaniehjhmjecjaaGreatDoorCards.lean) ties it to the program's text. -/
def laid_dogwatch_pick_none {H : Type} : DataW H := .agg [.lit (.int .i64 (-1)), .lit (.int .u64 0), .lit (.int .u64 0), .lit (.int .u64 0)]

/-- 'dogwatchlaw11.PlanDone': WHATEVER THE INPUT: true; the input reads as it did. -/
def planDoneSpec : ChangeSpec := { name := "planDone", fn := fun _ => fun
  | [d1, d2] => { results := [.lit (.bool true)], args := [d1, d2] }
  | _ => none }
def planDoneRow : OpenClaim := { program := "ytaniehjhmjecjaagreatdoor", sum := "75e012b1b4bbf89f7b22222efbea1eda19b020b893307e0f293902b71d5d39b1", func := "dogwatch/dogwatchlaw11.PlanDone", spec := "planDone", inPlace := ["internal/abi.NoEscape", "internal/bytealg.MakeNoZero", "internal/bytealg.CountString", "internal/bytealg.IndexByteString", "internal/bytealg.IndexString"], unfollowed := true, recurses := true, named := ["dogwatch/pick.none", "internal/bytealg.MaxLen"], apart := false, laid := [("dogwatch/pick.none", laid_dogwatch_pick_none)] }
def PlanDoneSaid : Prop := planDoneRow.holds Tryz.pinned (OpenSpec.ofChange planDoneSpec)

/-- ITS FALSE NEIGHBOUR: 'it returns false'. Refute it at one input. -/
def planDoneWrong : ChangeSpec := { name := "planDone", fn := fun _ => fun
  | [d1, d2] => { results := [.lit (.bool false)], args := [d1, d2] }
  | _ => none }
def PlanDoneWrongFalsely : Prop := planDoneRow.holds Tryz.pinned (OpenSpec.ofChange planDoneWrong)

/-- 'dogwatchlaw11.PlanCuts': WHATEVER THE INPUT: true; the input reads as it did. -/
def planCutsSpec : ChangeSpec := { name := "planCuts", fn := fun _ => fun
  | [d1, d2, d3, d4] => { results := [.lit (.bool true)], args := [d1, d2, d3, d4] }
  | _ => none }
def planCutsRow : OpenClaim := { program := "ytaniehjhmjecjaagreatdoor", sum := "75e012b1b4bbf89f7b22222efbea1eda19b020b893307e0f293902b71d5d39b1", func := "dogwatch/dogwatchlaw11.PlanCuts", spec := "planCuts", inPlace := ["internal/abi.NoEscape", "internal/bytealg.MakeNoZero", "internal/bytealg.CountString", "internal/bytealg.IndexByteString", "internal/bytealg.IndexString"], unfollowed := true, recurses := true, named := ["dogwatch/pick.none", "internal/bytealg.MaxLen"], apart := false, laid := [("dogwatch/pick.none", laid_dogwatch_pick_none)] }
def PlanCutsSaid : Prop := planCutsRow.holds Tryz.pinned (OpenSpec.ofChange planCutsSpec)

/-- ITS FALSE NEIGHBOUR: 'it returns false'. Refute it at one input. -/
def planCutsWrong : ChangeSpec := { name := "planCuts", fn := fun _ => fun
  | [d1, d2, d3, d4] => { results := [.lit (.bool false)], args := [d1, d2, d3, d4] }
  | _ => none }
def PlanCutsWrongFalsely : Prop := planCutsRow.holds Tryz.pinned (OpenSpec.ofChange planCutsWrong)

/-- 'dogwatchlaw11.PlanAlike': WHATEVER THE INPUT: true; the input reads as it did. -/
def planAlikeSpec : ChangeSpec := { name := "planAlike", fn := fun _ => fun
  | [d1, d2, d3] => { results := [.lit (.bool true)], args := [d1, d2, d3] }
  | _ => none }
def planAlikeRow : OpenClaim := { program := "ytaniehjhmjecjaagreatdoor", sum := "75e012b1b4bbf89f7b22222efbea1eda19b020b893307e0f293902b71d5d39b1", func := "dogwatch/dogwatchlaw11.PlanAlike", spec := "planAlike", inPlace := ["internal/abi.NoEscape", "internal/bytealg.MakeNoZero", "internal/bytealg.CountString", "internal/bytealg.IndexByteString", "internal/bytealg.IndexString"], unfollowed := true, recurses := true, named := ["dogwatch/pick.none", "internal/bytealg.MaxLen"], apart := false, laid := [("dogwatch/pick.none", laid_dogwatch_pick_none)] }
def PlanAlikeSaid : Prop := planAlikeRow.holds Tryz.pinned (OpenSpec.ofChange planAlikeSpec)

/-- ITS FALSE NEIGHBOUR: 'it returns false'. Refute it at one input. -/
def planAlikeWrong : ChangeSpec := { name := "planAlike", fn := fun _ => fun
  | [d1, d2, d3] => { results := [.lit (.bool false)], args := [d1, d2, d3] }
  | _ => none }
def PlanAlikeWrongFalsely : Prop := planAlikeRow.holds Tryz.pinned (OpenSpec.ofChange planAlikeWrong)

/-- 'dogwatchlaw12.JournalPuts': WHATEVER THE INPUT: true; the input reads as it did. -/
def journalPutsSpec : ChangeSpec := { name := "journalPuts", fn := fun _ => fun
  | [d1, d2] => { results := [.lit (.bool true)], args := [d1, d2] }
  | _ => none }
def journalPutsRow : OpenClaim := { program := "ytaniehjhmjecjaagreatdoor", sum := "75e012b1b4bbf89f7b22222efbea1eda19b020b893307e0f293902b71d5d39b1", func := "dogwatch/dogwatchlaw12.JournalPuts", spec := "journalPuts", inPlace := ["internal/abi.NoEscape", "internal/bytealg.MakeNoZero", "internal/bytealg.CountString", "internal/bytealg.IndexByteString", "internal/bytealg.IndexString"], unfollowed := true, recurses := true, named := ["dogwatch/pick.none", "internal/bytealg.MaxLen"], apart := false, laid := [("dogwatch/pick.none", laid_dogwatch_pick_none)] }
def JournalPutsSaid : Prop := journalPutsRow.holds Tryz.pinned (OpenSpec.ofChange journalPutsSpec)

/-- ITS FALSE NEIGHBOUR: 'it returns false'. Refute it at one input. -/
def journalPutsWrong : ChangeSpec := { name := "journalPuts", fn := fun _ => fun
  | [d1, d2] => { results := [.lit (.bool false)], args := [d1, d2] }
  | _ => none }
def JournalPutsWrongFalsely : Prop := journalPutsRow.holds Tryz.pinned (OpenSpec.ofChange journalPutsWrong)

/-- 'dogwatchlaw12.JournalRuns': WHATEVER THE INPUT: true; the input reads as it did. -/
def journalRunsSpec : ChangeSpec := { name := "journalRuns", fn := fun _ => fun
  | [d1, d2] => { results := [.lit (.bool true)], args := [d1, d2] }
  | _ => none }
def journalRunsRow : OpenClaim := { program := "ytaniehjhmjecjaagreatdoor", sum := "75e012b1b4bbf89f7b22222efbea1eda19b020b893307e0f293902b71d5d39b1", func := "dogwatch/dogwatchlaw12.JournalRuns", spec := "journalRuns", inPlace := ["internal/abi.NoEscape", "internal/bytealg.MakeNoZero", "internal/bytealg.CountString", "internal/bytealg.IndexByteString", "internal/bytealg.IndexString"], unfollowed := true, recurses := true, named := ["dogwatch/pick.none", "internal/bytealg.MaxLen"], apart := false, laid := [("dogwatch/pick.none", laid_dogwatch_pick_none)] }
def JournalRunsSaid : Prop := journalRunsRow.holds Tryz.pinned (OpenSpec.ofChange journalRunsSpec)

/-- ITS FALSE NEIGHBOUR: 'it returns false'. Refute it at one input. -/
def journalRunsWrong : ChangeSpec := { name := "journalRuns", fn := fun _ => fun
  | [d1, d2] => { results := [.lit (.bool false)], args := [d1, d2] }
  | _ => none }
def JournalRunsWrongFalsely : Prop := journalRunsRow.holds Tryz.pinned (OpenSpec.ofChange journalRunsWrong)

/-- 'dogwatchlaw12.JournalNumbers': WHATEVER THE INPUT: true; the input reads as it did. -/
def journalNumbersSpec : ChangeSpec := { name := "journalNumbers", fn := fun _ => fun
  | [d1, d2] => { results := [.lit (.bool true)], args := [d1, d2] }
  | _ => none }
def journalNumbersRow : OpenClaim := { program := "ytaniehjhmjecjaagreatdoor", sum := "75e012b1b4bbf89f7b22222efbea1eda19b020b893307e0f293902b71d5d39b1", func := "dogwatch/dogwatchlaw12.JournalNumbers", spec := "journalNumbers", inPlace := ["internal/abi.NoEscape", "internal/bytealg.MakeNoZero", "internal/bytealg.CountString", "internal/bytealg.IndexByteString", "internal/bytealg.IndexString"], unfollowed := true, recurses := true, named := ["dogwatch/pick.none", "internal/bytealg.MaxLen"], apart := false, laid := [("dogwatch/pick.none", laid_dogwatch_pick_none)] }
def JournalNumbersSaid : Prop := journalNumbersRow.holds Tryz.pinned (OpenSpec.ofChange journalNumbersSpec)

/-- ITS FALSE NEIGHBOUR: 'it returns false'. Refute it at one input. -/
def journalNumbersWrong : ChangeSpec := { name := "journalNumbers", fn := fun _ => fun
  | [d1, d2] => { results := [.lit (.bool false)], args := [d1, d2] }
  | _ => none }
def JournalNumbersWrongFalsely : Prop := journalNumbersRow.holds Tryz.pinned (OpenSpec.ofChange journalNumbersWrong)

/- THE SECOND FORM. 'bulk': how many values and letters a reading holds, each counted each time it is reached (what is shared counts as often as it is met; a slice's spare places count too). A statement '..UptoSaid' is the law's where the arguments, and the package variables that the reading takes, are together of bulk at most 1048576: NARROWER than '..Said'. Prove '..Said' where nothing that the law and all that it calls make is longer than what came in: it says more and counts as full. Else prove '..UptoSaid'. A law counts once. -/
mutual
def uptoBulk {H : Type} : DataW H → Nat
  | .lit (.string bytes) => bytes.length + 1
  | .lit _ => 1
  | .nil => 1
  | .ptr d => uptoBulk d + 1
  | .slice elems spare => uptoBulkAll elems + uptoBulkAll spare + 1
  | .agg parts => uptoBulkAll parts + 1
  | .iface _ d => uptoBulk d + 1
  | .map entries => uptoBulkEntries entries + 1
  | .held _ => 1
def uptoBulkAll {H : Type} : List (DataW H) → Nat
  | [] => 0
  | d :: r => uptoBulk d + uptoBulkAll r
def uptoBulkEntries {H : Type} : List (Lit × DataW H) → Nat
  | [] => 0
  | x :: r => uptoBulkEntry x + uptoBulkEntries r
def uptoBulkEntry {H : Type} : Lit × DataW H → Nat
  | (.string bytes, d) => bytes.length + uptoBulk d + 1
  | (_, d) => uptoBulk d + 1
 end
def uptoSmall : (H : Type) → List (DataW H) → Bool := fun _ ds => decide (uptoBulkAll ds ≤ 1048576)
def OpenSpec.upto (s : _root_.Go.ChangeSpec) : _root_.Go.OpenSpec := { _root_.Go.OpenSpec.ofChange s with cond := some uptoSmall }

/-- 'dogwatchlaw11.PlanDone', WHERE WHAT IT READS IS OF BULK AT MOST 1048576: true; the input reads as it did. -/
def planDoneUptoRow : OpenClaim := { program := "ytaniehjhmjecjaagreatdoor", sum := "75e012b1b4bbf89f7b22222efbea1eda19b020b893307e0f293902b71d5d39b1", func := "dogwatch/dogwatchlaw11.PlanDone", spec := "planDone", inPlace := ["internal/abi.NoEscape", "internal/bytealg.MakeNoZero", "internal/bytealg.CountString", "internal/bytealg.IndexByteString", "internal/bytealg.IndexString"], unfollowed := true, recurses := true, named := ["dogwatch/pick.none", "internal/bytealg.MaxLen"], apart := false, laid := [("dogwatch/pick.none", laid_dogwatch_pick_none)], narrowed := true }
def PlanDoneUptoSaid : Prop := planDoneUptoRow.holds Tryz.pinned (OpenSpec.upto planDoneSpec)

/-- 'dogwatchlaw11.PlanCuts', WHERE WHAT IT READS IS OF BULK AT MOST 1048576: true; the input reads as it did. -/
def planCutsUptoRow : OpenClaim := { program := "ytaniehjhmjecjaagreatdoor", sum := "75e012b1b4bbf89f7b22222efbea1eda19b020b893307e0f293902b71d5d39b1", func := "dogwatch/dogwatchlaw11.PlanCuts", spec := "planCuts", inPlace := ["internal/abi.NoEscape", "internal/bytealg.MakeNoZero", "internal/bytealg.CountString", "internal/bytealg.IndexByteString", "internal/bytealg.IndexString"], unfollowed := true, recurses := true, named := ["dogwatch/pick.none", "internal/bytealg.MaxLen"], apart := false, laid := [("dogwatch/pick.none", laid_dogwatch_pick_none)], narrowed := true }
def PlanCutsUptoSaid : Prop := planCutsUptoRow.holds Tryz.pinned (OpenSpec.upto planCutsSpec)

/-- 'dogwatchlaw11.PlanAlike', WHERE WHAT IT READS IS OF BULK AT MOST 1048576: true; the input reads as it did. -/
def planAlikeUptoRow : OpenClaim := { program := "ytaniehjhmjecjaagreatdoor", sum := "75e012b1b4bbf89f7b22222efbea1eda19b020b893307e0f293902b71d5d39b1", func := "dogwatch/dogwatchlaw11.PlanAlike", spec := "planAlike", inPlace := ["internal/abi.NoEscape", "internal/bytealg.MakeNoZero", "internal/bytealg.CountString", "internal/bytealg.IndexByteString", "internal/bytealg.IndexString"], unfollowed := true, recurses := true, named := ["dogwatch/pick.none", "internal/bytealg.MaxLen"], apart := false, laid := [("dogwatch/pick.none", laid_dogwatch_pick_none)], narrowed := true }
def PlanAlikeUptoSaid : Prop := planAlikeUptoRow.holds Tryz.pinned (OpenSpec.upto planAlikeSpec)

/-- 'dogwatchlaw12.JournalPuts', WHERE WHAT IT READS IS OF BULK AT MOST 1048576: true; the input reads as it did. -/
def journalPutsUptoRow : OpenClaim := { program := "ytaniehjhmjecjaagreatdoor", sum := "75e012b1b4bbf89f7b22222efbea1eda19b020b893307e0f293902b71d5d39b1", func := "dogwatch/dogwatchlaw12.JournalPuts", spec := "journalPuts", inPlace := ["internal/abi.NoEscape", "internal/bytealg.MakeNoZero", "internal/bytealg.CountString", "internal/bytealg.IndexByteString", "internal/bytealg.IndexString"], unfollowed := true, recurses := true, named := ["dogwatch/pick.none", "internal/bytealg.MaxLen"], apart := false, laid := [("dogwatch/pick.none", laid_dogwatch_pick_none)], narrowed := true }
def JournalPutsUptoSaid : Prop := journalPutsUptoRow.holds Tryz.pinned (OpenSpec.upto journalPutsSpec)

/-- 'dogwatchlaw12.JournalRuns', WHERE WHAT IT READS IS OF BULK AT MOST 1048576: true; the input reads as it did. -/
def journalRunsUptoRow : OpenClaim := { program := "ytaniehjhmjecjaagreatdoor", sum := "75e012b1b4bbf89f7b22222efbea1eda19b020b893307e0f293902b71d5d39b1", func := "dogwatch/dogwatchlaw12.JournalRuns", spec := "journalRuns", inPlace := ["internal/abi.NoEscape", "internal/bytealg.MakeNoZero", "internal/bytealg.CountString", "internal/bytealg.IndexByteString", "internal/bytealg.IndexString"], unfollowed := true, recurses := true, named := ["dogwatch/pick.none", "internal/bytealg.MaxLen"], apart := false, laid := [("dogwatch/pick.none", laid_dogwatch_pick_none)], narrowed := true }
def JournalRunsUptoSaid : Prop := journalRunsUptoRow.holds Tryz.pinned (OpenSpec.upto journalRunsSpec)

/-- 'dogwatchlaw12.JournalNumbers', WHERE WHAT IT READS IS OF BULK AT MOST 1048576: true; the input reads as it did. -/
def journalNumbersUptoRow : OpenClaim := { program := "ytaniehjhmjecjaagreatdoor", sum := "75e012b1b4bbf89f7b22222efbea1eda19b020b893307e0f293902b71d5d39b1", func := "dogwatch/dogwatchlaw12.JournalNumbers", spec := "journalNumbers", inPlace := ["internal/abi.NoEscape", "internal/bytealg.MakeNoZero", "internal/bytealg.CountString", "internal/bytealg.IndexByteString", "internal/bytealg.IndexString"], unfollowed := true, recurses := true, named := ["dogwatch/pick.none", "internal/bytealg.MaxLen"], apart := false, laid := [("dogwatch/pick.none", laid_dogwatch_pick_none)], narrowed := true }
def JournalNumbersUptoSaid : Prop := journalNumbersUptoRow.holds Tryz.pinned (OpenSpec.upto journalNumbersSpec)

end Rows
end Go.Proofs.YtaniehjhmjecjaaGreatDoor
