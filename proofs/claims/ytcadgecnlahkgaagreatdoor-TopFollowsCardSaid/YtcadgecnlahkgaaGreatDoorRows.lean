/-
  NARROWER THAN 'FOR EVERY INPUT', by the rows' own cells (each row's printed sentence says how): TopModel: laid · AuditAsks: laid · AuditHolds: laid · AuditUncut: laid · AuditFlips: laid · AuditAcks: laid · TopFollows: laid.
  DERIVED. THE GIVEN ROWS OF THIS SEAT. 7 by the template 'for every input the law returns true; each argument reads behind the call as it read before'; 0 by the template 'total and deterministic' (their statements: YtcadgecnlahkgaaGreatDoorTotals.lean).
  GIVEN WITH THE SEED: the statements are not yours to turn. If you find one false, say at which input.
  Laid BY PROGRAM, IN A SANDBOX (cutbox-rows.mjs): the forced cells as the released guide's own fill.sh prints them over the translation 2ba9eb54443c3bb8… (all of the seat's roots in one cut). By AI agents, Wed Nov 11 2026. No macro, syntax, notation, axiom, sorry.
-/
import Derived.Test.YtcadgecnlahkgaaGreatDoorChecked
import GoSem.Claim
import GoSem.ClaimJoined
import GoSem.ClaimMapViews
import Derived.JoinedTies
import Derived.KernelRfl
namespace Go.Proofs.YtcadgecnlahkgaaGreatDoor
/- THE CELL 'sum', in the pinned program and in every row, IS THE sha256 OF THE DUMP (.gsa) THAT YtcadgecnlahkgaaGreatDoorProg.lean LOADS. Nothing in Lean hashes anything: it is a label: what it is worth is what the hold of that sum in a sandbox is worth. -/
noncomputable def Tryz.pinned : Pinned := { name := "ytcadgecnlahkgaagreatdoor", sum := "2ba9eb54443c3bb81bfc2137ab176ee879b2461a8829e7ef8721d471081987e9", checked := Tryz.checked }
namespace Rows
def none {H : Type} : Left H := { results := [], args := [] }

/- WHAT THE LISTED PACKAGE-LEVEL VARIABLES READ AS WHEN THE CALL BEGINS. Each datum BY PROGRAM (the guide's laid-datum.mjs) off the statement by which the dump's own 'gosem.cut.vars' lays the variable. In a bare row this is a premise. The card (YtcadgecnlahkgaaGreatDoorCards.lean) ties it to the program's text. -/
def laid_dogwatch_pick_none {H : Type} : DataW H := .agg [.lit (.int .i64 (-1)), .lit (.int .u64 0), .lit (.int .u64 0), .lit (.int .u64 0)]

/-- 'dogwatchtop.TopModel': WHATEVER THE INPUT: true; the input reads as it did. -/
def topModelSpec : ChangeSpec := { name := "topModel", fn := fun _ => fun
  | [d1, d2] => { results := [.lit (.bool true)], args := [d1, d2] }
  | _ => none }
def topModelRow : OpenClaim := { program := "ytcadgecnlahkgaagreatdoor", sum := "2ba9eb54443c3bb81bfc2137ab176ee879b2461a8829e7ef8721d471081987e9", func := "dogwatch/dogwatchtop.TopModel", spec := "topModel", inPlace := ["internal/abi.NoEscape", "internal/bytealg.MakeNoZero", "internal/bytealg.CountString", "internal/bytealg.IndexByteString", "internal/bytealg.IndexString", "math.Float64bits", "math.Float64frombits"], unfollowed := true, recurses := true, named := ["dogwatch/pick.none", "internal/bytealg.MaxLen"], apart := false, laid := [("dogwatch/pick.none", laid_dogwatch_pick_none)] }
def TopModelSaid : Prop := topModelRow.holds Tryz.pinned (OpenSpec.ofChange topModelSpec)

/-- ITS FALSE NEIGHBOUR: 'it returns false'. Refute it at one input. -/
def topModelWrong : ChangeSpec := { name := "topModel", fn := fun _ => fun
  | [d1, d2] => { results := [.lit (.bool false)], args := [d1, d2] }
  | _ => none }
def TopModelWrongFalsely : Prop := topModelRow.holds Tryz.pinned (OpenSpec.ofChange topModelWrong)

/-- 'dogwatchlaw22.AuditAsks': WHATEVER THE INPUT: true; the input reads as it did. -/
def auditAsksSpec : ChangeSpec := { name := "auditAsks", fn := fun _ => fun
  | [d1, d2] => { results := [.lit (.bool true)], args := [d1, d2] }
  | _ => none }
def auditAsksRow : OpenClaim := { program := "ytcadgecnlahkgaagreatdoor", sum := "2ba9eb54443c3bb81bfc2137ab176ee879b2461a8829e7ef8721d471081987e9", func := "dogwatch/dogwatchlaw22.AuditAsks", spec := "auditAsks", inPlace := ["internal/abi.NoEscape", "internal/bytealg.MakeNoZero", "internal/bytealg.CountString", "internal/bytealg.IndexByteString", "internal/bytealg.IndexString", "math.Float64bits", "math.Float64frombits"], unfollowed := true, recurses := true, named := ["dogwatch/pick.none", "internal/bytealg.MaxLen"], apart := false, laid := [("dogwatch/pick.none", laid_dogwatch_pick_none)] }
def AuditAsksSaid : Prop := auditAsksRow.holds Tryz.pinned (OpenSpec.ofChange auditAsksSpec)

/-- ITS FALSE NEIGHBOUR: 'it returns false'. Refute it at one input. -/
def auditAsksWrong : ChangeSpec := { name := "auditAsks", fn := fun _ => fun
  | [d1, d2] => { results := [.lit (.bool false)], args := [d1, d2] }
  | _ => none }
def AuditAsksWrongFalsely : Prop := auditAsksRow.holds Tryz.pinned (OpenSpec.ofChange auditAsksWrong)

/-- 'dogwatchlaw22.AuditHolds': WHATEVER THE INPUT: true; the input reads as it did. -/
def auditHoldsSpec : ChangeSpec := { name := "auditHolds", fn := fun _ => fun
  | [d1, d2, d3, d4] => { results := [.lit (.bool true)], args := [d1, d2, d3, d4] }
  | _ => none }
def auditHoldsRow : OpenClaim := { program := "ytcadgecnlahkgaagreatdoor", sum := "2ba9eb54443c3bb81bfc2137ab176ee879b2461a8829e7ef8721d471081987e9", func := "dogwatch/dogwatchlaw22.AuditHolds", spec := "auditHolds", inPlace := ["internal/abi.NoEscape", "internal/bytealg.MakeNoZero", "internal/bytealg.CountString", "internal/bytealg.IndexByteString", "internal/bytealg.IndexString", "math.Float64bits", "math.Float64frombits"], unfollowed := true, recurses := true, named := ["dogwatch/pick.none", "internal/bytealg.MaxLen"], apart := false, laid := [("dogwatch/pick.none", laid_dogwatch_pick_none)] }
def AuditHoldsSaid : Prop := auditHoldsRow.holds Tryz.pinned (OpenSpec.ofChange auditHoldsSpec)

/-- ITS FALSE NEIGHBOUR: 'it returns false'. Refute it at one input. -/
def auditHoldsWrong : ChangeSpec := { name := "auditHolds", fn := fun _ => fun
  | [d1, d2, d3, d4] => { results := [.lit (.bool false)], args := [d1, d2, d3, d4] }
  | _ => none }
def AuditHoldsWrongFalsely : Prop := auditHoldsRow.holds Tryz.pinned (OpenSpec.ofChange auditHoldsWrong)

/-- 'dogwatchlaw22.AuditUncut': WHATEVER THE INPUT: true; the input reads as it did. -/
def auditUncutSpec : ChangeSpec := { name := "auditUncut", fn := fun _ => fun
  | [d1, d2, d3] => { results := [.lit (.bool true)], args := [d1, d2, d3] }
  | _ => none }
def auditUncutRow : OpenClaim := { program := "ytcadgecnlahkgaagreatdoor", sum := "2ba9eb54443c3bb81bfc2137ab176ee879b2461a8829e7ef8721d471081987e9", func := "dogwatch/dogwatchlaw22.AuditUncut", spec := "auditUncut", inPlace := ["internal/abi.NoEscape", "internal/bytealg.MakeNoZero", "internal/bytealg.CountString", "internal/bytealg.IndexByteString", "internal/bytealg.IndexString", "math.Float64bits", "math.Float64frombits"], unfollowed := true, recurses := true, named := ["dogwatch/pick.none", "internal/bytealg.MaxLen"], apart := false, laid := [("dogwatch/pick.none", laid_dogwatch_pick_none)] }
def AuditUncutSaid : Prop := auditUncutRow.holds Tryz.pinned (OpenSpec.ofChange auditUncutSpec)

/-- ITS FALSE NEIGHBOUR: 'it returns false'. Refute it at one input. -/
def auditUncutWrong : ChangeSpec := { name := "auditUncut", fn := fun _ => fun
  | [d1, d2, d3] => { results := [.lit (.bool false)], args := [d1, d2, d3] }
  | _ => none }
def AuditUncutWrongFalsely : Prop := auditUncutRow.holds Tryz.pinned (OpenSpec.ofChange auditUncutWrong)

/-- 'dogwatchlaw22.AuditFlips': WHATEVER THE INPUT: true; the input reads as it did. -/
def auditFlipsSpec : ChangeSpec := { name := "auditFlips", fn := fun _ => fun
  | [d1, d2, d3, d4] => { results := [.lit (.bool true)], args := [d1, d2, d3, d4] }
  | _ => none }
def auditFlipsRow : OpenClaim := { program := "ytcadgecnlahkgaagreatdoor", sum := "2ba9eb54443c3bb81bfc2137ab176ee879b2461a8829e7ef8721d471081987e9", func := "dogwatch/dogwatchlaw22.AuditFlips", spec := "auditFlips", inPlace := ["internal/abi.NoEscape", "internal/bytealg.MakeNoZero", "internal/bytealg.CountString", "internal/bytealg.IndexByteString", "internal/bytealg.IndexString", "math.Float64bits", "math.Float64frombits"], unfollowed := true, recurses := true, named := ["dogwatch/pick.none", "internal/bytealg.MaxLen"], apart := false, laid := [("dogwatch/pick.none", laid_dogwatch_pick_none)] }
def AuditFlipsSaid : Prop := auditFlipsRow.holds Tryz.pinned (OpenSpec.ofChange auditFlipsSpec)

/-- ITS FALSE NEIGHBOUR: 'it returns false'. Refute it at one input. -/
def auditFlipsWrong : ChangeSpec := { name := "auditFlips", fn := fun _ => fun
  | [d1, d2, d3, d4] => { results := [.lit (.bool false)], args := [d1, d2, d3, d4] }
  | _ => none }
def AuditFlipsWrongFalsely : Prop := auditFlipsRow.holds Tryz.pinned (OpenSpec.ofChange auditFlipsWrong)

/-- 'dogwatchlaw22.AuditAcks': WHATEVER THE INPUT: true; the input reads as it did. -/
def auditAcksSpec : ChangeSpec := { name := "auditAcks", fn := fun _ => fun
  | [d1, d2, d3] => { results := [.lit (.bool true)], args := [d1, d2, d3] }
  | _ => none }
def auditAcksRow : OpenClaim := { program := "ytcadgecnlahkgaagreatdoor", sum := "2ba9eb54443c3bb81bfc2137ab176ee879b2461a8829e7ef8721d471081987e9", func := "dogwatch/dogwatchlaw22.AuditAcks", spec := "auditAcks", inPlace := ["internal/abi.NoEscape", "internal/bytealg.MakeNoZero", "internal/bytealg.CountString", "internal/bytealg.IndexByteString", "internal/bytealg.IndexString", "math.Float64bits", "math.Float64frombits"], unfollowed := true, recurses := true, named := ["dogwatch/pick.none", "internal/bytealg.MaxLen"], apart := false, laid := [("dogwatch/pick.none", laid_dogwatch_pick_none)] }
def AuditAcksSaid : Prop := auditAcksRow.holds Tryz.pinned (OpenSpec.ofChange auditAcksSpec)

/-- ITS FALSE NEIGHBOUR: 'it returns false'. Refute it at one input. -/
def auditAcksWrong : ChangeSpec := { name := "auditAcks", fn := fun _ => fun
  | [d1, d2, d3] => { results := [.lit (.bool false)], args := [d1, d2, d3] }
  | _ => none }
def AuditAcksWrongFalsely : Prop := auditAcksRow.holds Tryz.pinned (OpenSpec.ofChange auditAcksWrong)

/-- 'dogwatchtop.TopFollows': WHATEVER THE INPUT: true; the input reads as it did. -/
def topFollowsSpec : ChangeSpec := { name := "topFollows", fn := fun _ => fun
  | [d1, d2] => { results := [.lit (.bool true)], args := [d1, d2] }
  | _ => none }
def topFollowsRow : OpenClaim := { program := "ytcadgecnlahkgaagreatdoor", sum := "2ba9eb54443c3bb81bfc2137ab176ee879b2461a8829e7ef8721d471081987e9", func := "dogwatch/dogwatchtop.TopFollows", spec := "topFollows", inPlace := ["internal/abi.NoEscape", "internal/bytealg.MakeNoZero", "internal/bytealg.CountString", "internal/bytealg.IndexByteString", "internal/bytealg.IndexString", "math.Float64bits", "math.Float64frombits"], unfollowed := true, recurses := true, named := ["dogwatch/pick.none", "internal/bytealg.MaxLen"], apart := false, laid := [("dogwatch/pick.none", laid_dogwatch_pick_none)] }
def TopFollowsSaid : Prop := topFollowsRow.holds Tryz.pinned (OpenSpec.ofChange topFollowsSpec)

/-- ITS FALSE NEIGHBOUR: 'it returns false'. Refute it at one input. -/
def topFollowsWrong : ChangeSpec := { name := "topFollows", fn := fun _ => fun
  | [d1, d2] => { results := [.lit (.bool false)], args := [d1, d2] }
  | _ => none }
def TopFollowsWrongFalsely : Prop := topFollowsRow.holds Tryz.pinned (OpenSpec.ofChange topFollowsWrong)

/- THE SECOND FORM. 'bulk': how many values and letters a reading holds, each counted each time it is reached (what is shared counts as often as it is met; a slice's spare places count too). A statement '..UptoSaid' is the law's where the arguments, and the package variables that the reading takes, are together of bulk at most 1048576: NARROWER than '..Said'. Prove '..Said' where nothing that the law and all that it calls make is longer than what came in: it says more and counts as full. Else prove '..UptoSaid'. A law counts once. -/
mutual
def uptoBulk {H : Type} : DataW H → Nat
  | .lit (.string bytes) => bytes.length + 1
  | .lit _ => 1
  | .nil => 1
  | .ptr d => uptoBulk d + 1
  | .slice elems spare => uptoBulkAll elems + uptoBulkAll spare + 1
  | .agg parts => uptoBulkAll parts + 1
  | .iface _ d => uptoBulk d + 1
  | .map entries => uptoBulkEntries entries + 1
  | .held _ => 1
def uptoBulkAll {H : Type} : List (DataW H) → Nat
  | [] => 0
  | d :: r => uptoBulk d + uptoBulkAll r
def uptoBulkEntries {H : Type} : List (Lit × DataW H) → Nat
  | [] => 0
  | x :: r => uptoBulkEntry x + uptoBulkEntries r
def uptoBulkEntry {H : Type} : Lit × DataW H → Nat
  | (.string bytes, d) => bytes.length + uptoBulk d + 1
  | (_, d) => uptoBulk d + 1
 end
def uptoSmall : (H : Type) → List (DataW H) → Bool := fun _ ds => decide (uptoBulkAll ds ≤ 1048576)
def OpenSpec.upto (s : _root_.Go.ChangeSpec) : _root_.Go.OpenSpec := { _root_.Go.OpenSpec.ofChange s with cond := some uptoSmall }

/-- 'dogwatchtop.TopModel', WHERE WHAT IT READS IS OF BULK AT MOST 1048576: true; the input reads as it did. -/
def topModelUptoRow : OpenClaim := { program := "ytcadgecnlahkgaagreatdoor", sum := "2ba9eb54443c3bb81bfc2137ab176ee879b2461a8829e7ef8721d471081987e9", func := "dogwatch/dogwatchtop.TopModel", spec := "topModel", inPlace := ["internal/abi.NoEscape", "internal/bytealg.MakeNoZero", "internal/bytealg.CountString", "internal/bytealg.IndexByteString", "internal/bytealg.IndexString", "math.Float64bits", "math.Float64frombits"], unfollowed := true, recurses := true, named := ["dogwatch/pick.none", "internal/bytealg.MaxLen"], apart := false, laid := [("dogwatch/pick.none", laid_dogwatch_pick_none)], narrowed := true }
def TopModelUptoSaid : Prop := topModelUptoRow.holds Tryz.pinned (OpenSpec.upto topModelSpec)

/-- 'dogwatchlaw22.AuditAsks', WHERE WHAT IT READS IS OF BULK AT MOST 1048576: true; the input reads as it did. -/
def auditAsksUptoRow : OpenClaim := { program := "ytcadgecnlahkgaagreatdoor", sum := "2ba9eb54443c3bb81bfc2137ab176ee879b2461a8829e7ef8721d471081987e9", func := "dogwatch/dogwatchlaw22.AuditAsks", spec := "auditAsks", inPlace := ["internal/abi.NoEscape", "internal/bytealg.MakeNoZero", "internal/bytealg.CountString", "internal/bytealg.IndexByteString", "internal/bytealg.IndexString", "math.Float64bits", "math.Float64frombits"], unfollowed := true, recurses := true, named := ["dogwatch/pick.none", "internal/bytealg.MaxLen"], apart := false, laid := [("dogwatch/pick.none", laid_dogwatch_pick_none)], narrowed := true }
def AuditAsksUptoSaid : Prop := auditAsksUptoRow.holds Tryz.pinned (OpenSpec.upto auditAsksSpec)

/-- 'dogwatchlaw22.AuditHolds', WHERE WHAT IT READS IS OF BULK AT MOST 1048576: true; the input reads as it did. -/
def auditHoldsUptoRow : OpenClaim := { program := "ytcadgecnlahkgaagreatdoor", sum := "2ba9eb54443c3bb81bfc2137ab176ee879b2461a8829e7ef8721d471081987e9", func := "dogwatch/dogwatchlaw22.AuditHolds", spec := "auditHolds", inPlace := ["internal/abi.NoEscape", "internal/bytealg.MakeNoZero", "internal/bytealg.CountString", "internal/bytealg.IndexByteString", "internal/bytealg.IndexString", "math.Float64bits", "math.Float64frombits"], unfollowed := true, recurses := true, named := ["dogwatch/pick.none", "internal/bytealg.MaxLen"], apart := false, laid := [("dogwatch/pick.none", laid_dogwatch_pick_none)], narrowed := true }
def AuditHoldsUptoSaid : Prop := auditHoldsUptoRow.holds Tryz.pinned (OpenSpec.upto auditHoldsSpec)

/-- 'dogwatchlaw22.AuditUncut', WHERE WHAT IT READS IS OF BULK AT MOST 1048576: true; the input reads as it did. -/
def auditUncutUptoRow : OpenClaim := { program := "ytcadgecnlahkgaagreatdoor", sum := "2ba9eb54443c3bb81bfc2137ab176ee879b2461a8829e7ef8721d471081987e9", func := "dogwatch/dogwatchlaw22.AuditUncut", spec := "auditUncut", inPlace := ["internal/abi.NoEscape", "internal/bytealg.MakeNoZero", "internal/bytealg.CountString", "internal/bytealg.IndexByteString", "internal/bytealg.IndexString", "math.Float64bits", "math.Float64frombits"], unfollowed := true, recurses := true, named := ["dogwatch/pick.none", "internal/bytealg.MaxLen"], apart := false, laid := [("dogwatch/pick.none", laid_dogwatch_pick_none)], narrowed := true }
def AuditUncutUptoSaid : Prop := auditUncutUptoRow.holds Tryz.pinned (OpenSpec.upto auditUncutSpec)

/-- 'dogwatchlaw22.AuditFlips', WHERE WHAT IT READS IS OF BULK AT MOST 1048576: true; the input reads as it did. -/
def auditFlipsUptoRow : OpenClaim := { program := "ytcadgecnlahkgaagreatdoor", sum := "2ba9eb54443c3bb81bfc2137ab176ee879b2461a8829e7ef8721d471081987e9", func := "dogwatch/dogwatchlaw22.AuditFlips", spec := "auditFlips", inPlace := ["internal/abi.NoEscape", "internal/bytealg.MakeNoZero", "internal/bytealg.CountString", "internal/bytealg.IndexByteString", "internal/bytealg.IndexString", "math.Float64bits", "math.Float64frombits"], unfollowed := true, recurses := true, named := ["dogwatch/pick.none", "internal/bytealg.MaxLen"], apart := false, laid := [("dogwatch/pick.none", laid_dogwatch_pick_none)], narrowed := true }
def AuditFlipsUptoSaid : Prop := auditFlipsUptoRow.holds Tryz.pinned (OpenSpec.upto auditFlipsSpec)

/-- 'dogwatchlaw22.AuditAcks', WHERE WHAT IT READS IS OF BULK AT MOST 1048576: true; the input reads as it did. -/
def auditAcksUptoRow : OpenClaim := { program := "ytcadgecnlahkgaagreatdoor", sum := "2ba9eb54443c3bb81bfc2137ab176ee879b2461a8829e7ef8721d471081987e9", func := "dogwatch/dogwatchlaw22.AuditAcks", spec := "auditAcks", inPlace := ["internal/abi.NoEscape", "internal/bytealg.MakeNoZero", "internal/bytealg.CountString", "internal/bytealg.IndexByteString", "internal/bytealg.IndexString", "math.Float64bits", "math.Float64frombits"], unfollowed := true, recurses := true, named := ["dogwatch/pick.none", "internal/bytealg.MaxLen"], apart := false, laid := [("dogwatch/pick.none", laid_dogwatch_pick_none)], narrowed := true }
def AuditAcksUptoSaid : Prop := auditAcksUptoRow.holds Tryz.pinned (OpenSpec.upto auditAcksSpec)

/-- 'dogwatchtop.TopFollows', WHERE WHAT IT READS IS OF BULK AT MOST 1048576: true; the input reads as it did. -/
def topFollowsUptoRow : OpenClaim := { program := "ytcadgecnlahkgaagreatdoor", sum := "2ba9eb54443c3bb81bfc2137ab176ee879b2461a8829e7ef8721d471081987e9", func := "dogwatch/dogwatchtop.TopFollows", spec := "topFollows", inPlace := ["internal/abi.NoEscape", "internal/bytealg.MakeNoZero", "internal/bytealg.CountString", "internal/bytealg.IndexByteString", "internal/bytealg.IndexString", "math.Float64bits", "math.Float64frombits"], unfollowed := true, recurses := true, named := ["dogwatch/pick.none", "internal/bytealg.MaxLen"], apart := false, laid := [("dogwatch/pick.none", laid_dogwatch_pick_none)], narrowed := true }
def TopFollowsUptoSaid : Prop := topFollowsUptoRow.holds Tryz.pinned (OpenSpec.upto topFollowsSpec)

end Rows
end Go.Proofs.YtcadgecnlahkgaaGreatDoor
