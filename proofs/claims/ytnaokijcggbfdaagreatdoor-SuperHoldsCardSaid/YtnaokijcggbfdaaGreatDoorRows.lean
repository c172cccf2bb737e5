/-
  NARROWER THAN 'FOR EVERY INPUT', by the rows' own cells (each row's printed sentence says how): SuperRefuses: laid · SuperHolds: laid · ScriptRuns: laid · ScriptFlips: laid · ScriptReplies: laid · ScriptOff: laid · TopModel: laid.
  DERIVED. THE GIVEN ROWS OF THIS SEAT. 7 by the template 'for every input the law returns true; each argument reads behind the call as it read before'; 0 by the template 'total and deterministic' (their statements: YtnaokijcggbfdaaGreatDoorTotals.lean).
  GIVEN WITH THE SEED: the statements are not yours to turn. If you find one false, say at which input.
  Laid BY PROGRAM, IN A SANDBOX (cutbox-rows.mjs): the forced cells as the released guide's own fill.sh prints them over the translation 3be74cea3dce18a5… (all of the seat's roots in one cut). By AI agents, Wed Nov 11 2026. No macro, syntax, notation, axiom, sorry.
-/
import Derived.Test.YtnaokijcggbfdaaGreatDoorChecked
import GoSem.Claim
import GoSem.ClaimJoined
import GoSem.ClaimMapViews
import Derived.JoinedTies
import Derived.KernelRfl
namespace Go.Proofs.YtnaokijcggbfdaaGreatDoor
/- THE CELL 'sum', in the pinned program and in every row, IS THE sha256 OF THE DUMP (.gsa) THAT YtnaokijcggbfdaaGreatDoorProg.lean LOADS. Nothing in Lean hashes anything: it is a label: what it is worth is what the hold of that sum in a sandbox is worth. -/
noncomputable def Tryz.pinned : Pinned := { name := "ytnaokijcggbfdaagreatdoor", sum := "3be74cea3dce18a5420b0923a821aaad2660c6fe30c752df29c5a772d3bab7e1", checked := Tryz.checked }
namespace Rows
def none {H : Type} : Left H := { results := [], args := [] }

/- WHAT THE LISTED PACKAGE-LEVEL VARIABLES READ AS WHEN THE CALL BEGINS. Each datum BY PROGRAM (the guide's laid-datum.mjs) off the statement by which the dump's own 'gosem.cut.vars' lays the variable. In a bare row this is a premise. The card (YtnaokijcggbfdaaGreatDoorCards.lean) ties it to the program's text. -/
def laid_dogwatch_pick_none {H : Type} : DataW H := .agg [.lit (.int .i64 (-1)), .lit (.int .u64 0), .lit (.int .u64 0), .lit (.int .u64 0)]

/-- 'dogwatchlaw20.SuperRefuses': WHATEVER THE INPUT: true; the input reads as it did. -/
def superRefusesSpec : ChangeSpec := { name := "superRefuses", fn := fun _ => fun
  | [d1, d2, d3] => { results := [.lit (.bool true)], args := [d1, d2, d3] }
  | _ => none }
def superRefusesRow : OpenClaim := { program := "ytnaokijcggbfdaagreatdoor", sum := "3be74cea3dce18a5420b0923a821aaad2660c6fe30c752df29c5a772d3bab7e1", func := "dogwatch/dogwatchlaw20.SuperRefuses", spec := "superRefuses", inPlace := ["internal/abi.NoEscape", "internal/bytealg.MakeNoZero", "internal/bytealg.CountString", "internal/bytealg.IndexByteString", "internal/bytealg.IndexString", "math.Float64bits", "math.Float64frombits"], unfollowed := true, recurses := true, named := ["dogwatch/pick.none", "internal/bytealg.MaxLen"], apart := false, laid := [("dogwatch/pick.none", laid_dogwatch_pick_none)] }
def SuperRefusesSaid : Prop := superRefusesRow.holds Tryz.pinned (OpenSpec.ofChange superRefusesSpec)

/-- ITS FALSE NEIGHBOUR: 'it returns false'. Refute it at one input. -/
def superRefusesWrong : ChangeSpec := { name := "superRefuses", fn := fun _ => fun
  | [d1, d2, d3] => { results := [.lit (.bool false)], args := [d1, d2, d3] }
  | _ => none }
def SuperRefusesWrongFalsely : Prop := superRefusesRow.holds Tryz.pinned (OpenSpec.ofChange superRefusesWrong)

/-- 'dogwatchlaw20.SuperHolds': WHATEVER THE INPUT: true; the input reads as it did. -/
def superHoldsSpec : ChangeSpec := { name := "superHolds", fn := fun _ => fun
  | [d1, d2, d3] => { results := [.lit (.bool true)], args := [d1, d2, d3] }
  | _ => none }
def superHoldsRow : OpenClaim := { program := "ytnaokijcggbfdaagreatdoor", sum := "3be74cea3dce18a5420b0923a821aaad2660c6fe30c752df29c5a772d3bab7e1", func := "dogwatch/dogwatchlaw20.SuperHolds", spec := "superHolds", inPlace := ["internal/abi.NoEscape", "internal/bytealg.MakeNoZero", "internal/bytealg.CountString", "internal/bytealg.IndexByteString", "internal/bytealg.IndexString", "math.Float64bits", "math.Float64frombits"], unfollowed := true, recurses := true, named := ["dogwatch/pick.none", "internal/bytealg.MaxLen"], apart := false, laid := [("dogwatch/pick.none", laid_dogwatch_pick_none)] }
def SuperHoldsSaid : Prop := superHoldsRow.holds Tryz.pinned (OpenSpec.ofChange superHoldsSpec)

/-- ITS FALSE NEIGHBOUR: 'it returns false'. Refute it at one input. -/
def superHoldsWrong : ChangeSpec := { name := "superHolds", fn := fun _ => fun
  | [d1, d2, d3] => { results := [.lit (.bool false)], args := [d1, d2, d3] }
  | _ => none }
def SuperHoldsWrongFalsely : Prop := superHoldsRow.holds Tryz.pinned (OpenSpec.ofChange superHoldsWrong)

/-- 'dogwatchlaw21.ScriptRuns': WHATEVER THE INPUT: true; the input reads as it did. -/
def scriptRunsSpec : ChangeSpec := { name := "scriptRuns", fn := fun _ => fun
  | [d1, d2, d3] => { results := [.lit (.bool true)], args := [d1, d2, d3] }
  | _ => none }
def scriptRunsRow : OpenClaim := { program := "ytnaokijcggbfdaagreatdoor", sum := "3be74cea3dce18a5420b0923a821aaad2660c6fe30c752df29c5a772d3bab7e1", func := "dogwatch/dogwatchlaw21.ScriptRuns", spec := "scriptRuns", inPlace := ["internal/abi.NoEscape", "internal/bytealg.MakeNoZero", "internal/bytealg.CountString", "internal/bytealg.IndexByteString", "internal/bytealg.IndexString", "math.Float64bits", "math.Float64frombits"], unfollowed := true, recurses := true, named := ["dogwatch/pick.none", "internal/bytealg.MaxLen"], apart := false, laid := [("dogwatch/pick.none", laid_dogwatch_pick_none)] }
def ScriptRunsSaid : Prop := scriptRunsRow.holds Tryz.pinned (OpenSpec.ofChange scriptRunsSpec)

/-- ITS FALSE NEIGHBOUR: 'it returns false'. Refute it at one input. -/
def scriptRunsWrong : ChangeSpec := { name := "scriptRuns", fn := fun _ => fun
  | [d1, d2, d3] => { results := [.lit (.bool false)], args := [d1, d2, d3] }
  | _ => none }
def ScriptRunsWrongFalsely : Prop := scriptRunsRow.holds Tryz.pinned (OpenSpec.ofChange scriptRunsWrong)

/-- 'dogwatchlaw21.ScriptFlips': WHATEVER THE INPUT: true; the input reads as it did. -/
def scriptFlipsSpec : ChangeSpec := { name := "scriptFlips", fn := fun _ => fun
  | [d1, d2] => { results := [.lit (.bool true)], args := [d1, d2] }
  | _ => none }
def scriptFlipsRow : OpenClaim := { program := "ytnaokijcggbfdaagreatdoor", sum := "3be74cea3dce18a5420b0923a821aaad2660c6fe30c752df29c5a772d3bab7e1", func := "dogwatch/dogwatchlaw21.ScriptFlips", spec := "scriptFlips", inPlace := ["internal/abi.NoEscape", "internal/bytealg.MakeNoZero", "internal/bytealg.CountString", "internal/bytealg.IndexByteString", "internal/bytealg.IndexString", "math.Float64bits", "math.Float64frombits"], unfollowed := true, recurses := true, named := ["dogwatch/pick.none", "internal/bytealg.MaxLen"], apart := false, laid := [("dogwatch/pick.none", laid_dogwatch_pick_none)] }
def ScriptFlipsSaid : Prop := scriptFlipsRow.holds Tryz.pinned (OpenSpec.ofChange scriptFlipsSpec)

/-- ITS FALSE NEIGHBOUR: 'it returns false'. Refute it at one input. -/
def scriptFlipsWrong : ChangeSpec := { name := "scriptFlips", fn := fun _ => fun
  | [d1, d2] => { results := [.lit (.bool false)], args := [d1, d2] }
  | _ => none }
def ScriptFlipsWrongFalsely : Prop := scriptFlipsRow.holds Tryz.pinned (OpenSpec.ofChange scriptFlipsWrong)

/-- 'dogwatchlaw21.ScriptReplies': WHATEVER THE INPUT: true; the input reads as it did. -/
def scriptRepliesSpec : ChangeSpec := { name := "scriptReplies", fn := fun _ => fun
  | [d1, d2, d3] => { results := [.lit (.bool true)], args := [d1, d2, d3] }
  | _ => none }
def scriptRepliesRow : OpenClaim := { program := "ytnaokijcggbfdaagreatdoor", sum := "3be74cea3dce18a5420b0923a821aaad2660c6fe30c752df29c5a772d3bab7e1", func := "dogwatch/dogwatchlaw21.ScriptReplies", spec := "scriptReplies", inPlace := ["internal/abi.NoEscape", "internal/bytealg.MakeNoZero", "internal/bytealg.CountString", "internal/bytealg.IndexByteString", "internal/bytealg.IndexString", "math.Float64bits", "math.Float64frombits"], unfollowed := true, recurses := true, named := ["dogwatch/pick.none", "internal/bytealg.MaxLen"], apart := false, laid := [("dogwatch/pick.none", laid_dogwatch_pick_none)] }
def ScriptRepliesSaid : Prop := scriptRepliesRow.holds Tryz.pinned (OpenSpec.ofChange scriptRepliesSpec)

/-- ITS FALSE NEIGHBOUR: 'it returns false'. Refute it at one input. -/
def scriptRepliesWrong : ChangeSpec := { name := "scriptReplies", fn := fun _ => fun
  | [d1, d2, d3] => { results := [.lit (.bool false)], args := [d1, d2, d3] }
  | _ => none }
def ScriptRepliesWrongFalsely : Prop := scriptRepliesRow.holds Tryz.pinned (OpenSpec.ofChange scriptRepliesWrong)

/-- 'dogwatchlaw21.ScriptOff': WHATEVER THE INPUT: true; the input reads as it did. -/
def scriptOffSpec : ChangeSpec := { name := "scriptOff", fn := fun _ => fun
  | [d1, d2, d3, d4] => { results := [.lit (.bool true)], args := [d1, d2, d3, d4] }
  | _ => none }
def scriptOffRow : OpenClaim := { program := "ytnaokijcggbfdaagreatdoor", sum := "3be74cea3dce18a5420b0923a821aaad2660c6fe30c752df29c5a772d3bab7e1", func := "dogwatch/dogwatchlaw21.ScriptOff", spec := "scriptOff", inPlace := ["internal/abi.NoEscape", "internal/bytealg.MakeNoZero", "internal/bytealg.CountString", "internal/bytealg.IndexByteString", "internal/bytealg.IndexString", "math.Float64bits", "math.Float64frombits"], unfollowed := true, recurses := true, named := ["dogwatch/pick.none", "internal/bytealg.MaxLen"], apart := false, laid := [("dogwatch/pick.none", laid_dogwatch_pick_none)] }
def ScriptOffSaid : Prop := scriptOffRow.holds Tryz.pinned (OpenSpec.ofChange scriptOffSpec)

/-- ITS FALSE NEIGHBOUR: 'it returns false'. Refute it at one input. -/
def scriptOffWrong : ChangeSpec := { name := "scriptOff", fn := fun _ => fun
  | [d1, d2, d3, d4] => { results := [.lit (.bool false)], args := [d1, d2, d3, d4] }
  | _ => none }
def ScriptOffWrongFalsely : Prop := scriptOffRow.holds Tryz.pinned (OpenSpec.ofChange scriptOffWrong)

/-- 'dogwatchtop.TopModel': WHATEVER THE INPUT: true; the input reads as it did. -/
def topModelSpec : ChangeSpec := { name := "topModel", fn := fun _ => fun
  | [d1, d2] => { results := [.lit (.bool true)], args := [d1, d2] }
  | _ => none }
def topModelRow : OpenClaim := { program := "ytnaokijcggbfdaagreatdoor", sum := "3be74cea3dce18a5420b0923a821aaad2660c6fe30c752df29c5a772d3bab7e1", func := "dogwatch/dogwatchtop.TopModel", spec := "topModel", inPlace := ["internal/abi.NoEscape", "internal/bytealg.MakeNoZero", "internal/bytealg.CountString", "internal/bytealg.IndexByteString", "internal/bytealg.IndexString", "math.Float64bits", "math.Float64frombits"], unfollowed := true, recurses := true, named := ["dogwatch/pick.none", "internal/bytealg.MaxLen"], apart := false, laid := [("dogwatch/pick.none", laid_dogwatch_pick_none)] }
def TopModelSaid : Prop := topModelRow.holds Tryz.pinned (OpenSpec.ofChange topModelSpec)

/-- ITS FALSE NEIGHBOUR: 'it returns false'. Refute it at one input. -/
def topModelWrong : ChangeSpec := { name := "topModel", fn := fun _ => fun
  | [d1, d2] => { results := [.lit (.bool false)], args := [d1, d2] }
  | _ => none }
def TopModelWrongFalsely : Prop := topModelRow.holds Tryz.pinned (OpenSpec.ofChange topModelWrong)

/- THE SECOND FORM. 'bulk': how many values and letters a reading holds, each counted each time it is reached (what is shared counts as often as it is met; a slice's spare places count too). A statement '..UptoSaid' is the law's where the arguments, and the package variables that the reading takes, are together of bulk at most 1048576: NARROWER than '..Said'. Prove '..Said' where nothing that the law and all that it calls make is longer than what came in: it says more and counts as full. Else prove '..UptoSaid'. A law counts once. -/
mutual
def uptoBulk {H : Type} : DataW H → Nat
  | .lit (.string bytes) => bytes.length + 1
  | .lit _ => 1
  | .nil => 1
  | .ptr d => uptoBulk d + 1
  | .slice elems spare => uptoBulkAll elems + uptoBulkAll spare + 1
  | .agg parts => uptoBulkAll parts + 1
  | .iface _ d => uptoBulk d + 1
  | .map entries => uptoBulkEntries entries + 1
  | .held _ => 1
def uptoBulkAll {H : Type} : List (DataW H) → Nat
  | [] => 0
  | d :: r => uptoBulk d + uptoBulkAll r
def uptoBulkEntries {H : Type} : List (Lit × DataW H) → Nat
  | [] => 0
  | x :: r => uptoBulkEntry x + uptoBulkEntries r
def uptoBulkEntry {H : Type} : Lit × DataW H → Nat
  | (.string bytes, d) => bytes.length + uptoBulk d + 1
  | (_, d) => uptoBulk d + 1
 end
def uptoSmall : (H : Type) → List (DataW H) → Bool := fun _ ds => decide (uptoBulkAll ds ≤ 1048576)
def OpenSpec.upto (s : _root_.Go.ChangeSpec) : _root_.Go.OpenSpec := { _root_.Go.OpenSpec.ofChange s with cond := some uptoSmall }

/-- 'dogwatchlaw20.SuperRefuses', WHERE WHAT IT READS IS OF BULK AT MOST 1048576: true; the input reads as it did. -/
def superRefusesUptoRow : OpenClaim := { program := "ytnaokijcggbfdaagreatdoor", sum := "3be74cea3dce18a5420b0923a821aaad2660c6fe30c752df29c5a772d3bab7e1", func := "dogwatch/dogwatchlaw20.SuperRefuses", spec := "superRefuses", inPlace := ["internal/abi.NoEscape", "internal/bytealg.MakeNoZero", "internal/bytealg.CountString", "internal/bytealg.IndexByteString", "internal/bytealg.IndexString", "math.Float64bits", "math.Float64frombits"], unfollowed := true, recurses := true, named := ["dogwatch/pick.none", "internal/bytealg.MaxLen"], apart := false, laid := [("dogwatch/pick.none", laid_dogwatch_pick_none)], narrowed := true }
def SuperRefusesUptoSaid : Prop := superRefusesUptoRow.holds Tryz.pinned (OpenSpec.upto superRefusesSpec)

/-- 'dogwatchlaw20.SuperHolds', WHERE WHAT IT READS IS OF BULK AT MOST 1048576: true; the input reads as it did. -/
def superHoldsUptoRow : OpenClaim := { program := "ytnaokijcggbfdaagreatdoor", sum := "3be74cea3dce18a5420b0923a821aaad2660c6fe30c752df29c5a772d3bab7e1", func := "dogwatch/dogwatchlaw20.SuperHolds", spec := "superHolds", inPlace := ["internal/abi.NoEscape", "internal/bytealg.MakeNoZero", "internal/bytealg.CountString", "internal/bytealg.IndexByteString", "internal/bytealg.IndexString", "math.Float64bits", "math.Float64frombits"], unfollowed := true, recurses := true, named := ["dogwatch/pick.none", "internal/bytealg.MaxLen"], apart := false, laid := [("dogwatch/pick.none", laid_dogwatch_pick_none)], narrowed := true }
def SuperHoldsUptoSaid : Prop := superHoldsUptoRow.holds Tryz.pinned (OpenSpec.upto superHoldsSpec)

/-- 'dogwatchlaw21.ScriptRuns', WHERE WHAT IT READS IS OF BULK AT MOST 1048576: true; the input reads as it did. -/
def scriptRunsUptoRow : OpenClaim := { program := "ytnaokijcggbfdaagreatdoor", sum := "3be74cea3dce18a5420b0923a821aaad2660c6fe30c752df29c5a772d3bab7e1", func := "dogwatch/dogwatchlaw21.ScriptRuns", spec := "scriptRuns", inPlace := ["internal/abi.NoEscape", "internal/bytealg.MakeNoZero", "internal/bytealg.CountString", "internal/bytealg.IndexByteString", "internal/bytealg.IndexString", "math.Float64bits", "math.Float64frombits"], unfollowed := true, recurses := true, named := ["dogwatch/pick.none", "internal/bytealg.MaxLen"], apart := false, laid := [("dogwatch/pick.none", laid_dogwatch_pick_none)], narrowed := true }
def ScriptRunsUptoSaid : Prop := scriptRunsUptoRow.holds Tryz.pinned (OpenSpec.upto scriptRunsSpec)

/-- 'dogwatchlaw21.ScriptFlips', WHERE WHAT IT READS IS OF BULK AT MOST 1048576: true; the input reads as it did. -/
def scriptFlipsUptoRow : OpenClaim := { program := "ytnaokijcggbfdaagreatdoor", sum := "3be74cea3dce18a5420b0923a821aaad2660c6fe30c752df29c5a772d3bab7e1", func := "dogwatch/dogwatchlaw21.ScriptFlips", spec := "scriptFlips", inPlace := ["internal/abi.NoEscape", "internal/bytealg.MakeNoZero", "internal/bytealg.CountString", "internal/bytealg.IndexByteString", "internal/bytealg.IndexString", "math.Float64bits", "math.Float64frombits"], unfollowed := true, recurses := true, named := ["dogwatch/pick.none", "internal/bytealg.MaxLen"], apart := false, laid := [("dogwatch/pick.none", laid_dogwatch_pick_none)], narrowed := true }
def ScriptFlipsUptoSaid : Prop := scriptFlipsUptoRow.holds Tryz.pinned (OpenSpec.upto scriptFlipsSpec)

/-- 'dogwatchlaw21.ScriptReplies', WHERE WHAT IT READS IS OF BULK AT MOST 1048576: true; the input reads as it did. -/
def scriptRepliesUptoRow : OpenClaim := { program := "ytnaokijcggbfdaagreatdoor", sum := "3be74cea3dce18a5420b0923a821aaad2660c6fe30c752df29c5a772d3bab7e1", func := "dogwatch/dogwatchlaw21.ScriptReplies", spec := "scriptReplies", inPlace := ["internal/abi.NoEscape", "internal/bytealg.MakeNoZero", "internal/bytealg.CountString", "internal/bytealg.IndexByteString", "internal/bytealg.IndexString", "math.Float64bits", "math.Float64frombits"], unfollowed := true, recurses := true, named := ["dogwatch/pick.none", "internal/bytealg.MaxLen"], apart := false, laid := [("dogwatch/pick.none", laid_dogwatch_pick_none)], narrowed := true }
def ScriptRepliesUptoSaid : Prop := scriptRepliesUptoRow.holds Tryz.pinned (OpenSpec.upto scriptRepliesSpec)

/-- 'dogwatchlaw21.ScriptOff', WHERE WHAT IT READS IS OF BULK AT MOST 1048576: true; the input reads as it did. -/
def scriptOffUptoRow : OpenClaim := { program := "ytnaokijcggbfdaagreatdoor", sum := "3be74cea3dce18a5420b0923a821aaad2660c6fe30c752df29c5a772d3bab7e1", func := "dogwatch/dogwatchlaw21.ScriptOff", spec := "scriptOff", inPlace := ["internal/abi.NoEscape", "internal/bytealg.MakeNoZero", "internal/bytealg.CountString", "internal/bytealg.IndexByteString", "internal/bytealg.IndexString", "math.Float64bits", "math.Float64frombits"], unfollowed := true, recurses := true, named := ["dogwatch/pick.none", "internal/bytealg.MaxLen"], apart := false, laid := [("dogwatch/pick.none", laid_dogwatch_pick_none)], narrowed := true }
def ScriptOffUptoSaid : Prop := scriptOffUptoRow.holds Tryz.pinned (OpenSpec.upto scriptOffSpec)

/-- 'dogwatchtop.TopModel', WHERE WHAT IT READS IS OF BULK AT MOST 1048576: true; the input reads as it did. -/
def topModelUptoRow : OpenClaim := { program := "ytnaokijcggbfdaagreatdoor", sum := "3be74cea3dce18a5420b0923a821aaad2660c6fe30c752df29c5a772d3bab7e1", func := "dogwatch/dogwatchtop.TopModel", spec := "topModel", inPlace := ["internal/abi.NoEscape", "internal/bytealg.MakeNoZero", "internal/bytealg.CountString", "internal/bytealg.IndexByteString", "internal/bytealg.IndexString", "math.Float64bits", "math.Float64frombits"], unfollowed := true, recurses := true, named := ["dogwatch/pick.none", "internal/bytealg.MaxLen"], apart := false, laid := [("dogwatch/pick.none", laid_dogwatch_pick_none)], narrowed := true }
def TopModelUptoSaid : Prop := topModelUptoRow.holds Tryz.pinned (OpenSpec.upto topModelSpec)

end Rows
end Go.Proofs.YtnaokijcggbfdaaGreatDoor
