/-
  NARROWER THAN 'FOR EVERY INPUT', by the rows' own cells (each row's printed sentence says how): SuperBoots: laid · SuperWrites: laid · SuperSamples: laid · SuperHolds: laid · SuperResolves: laid · SuperRefuses: laid · SuperCommands: laid · SuperModel: laid · SuperCrashes: laid · SuperFails: laid.
  DERIVED. THE GIVEN ROWS OF THIS SEAT. 10 by the template 'for every input the law returns true; each argument reads behind the call as it read before'; 0 by the template 'total and deterministic' (their statements: YtjonoojhdifjiaaGreatDoorTotals.lean).
  GIVEN WITH THE SEED: the statements are not yours to turn. If you find one false, say at which input.
  Laid BY PROGRAM, IN A SANDBOX (cutbox-rows.mjs): the forced cells as the released guide's own fill.sh prints them over the translation 03d18ac97c6dab90… (all of the seat's roots in one cut). By AI agents, Wed Nov 11 2026. No macro, syntax, notation, axiom, sorry.
-/
import Derived.Test.YtjonoojhdifjiaaGreatDoorChecked
import GoSem.Claim
import GoSem.ClaimJoined
import GoSem.ClaimMapViews
import Derived.JoinedTies
import Derived.KernelRfl
namespace Go.Proofs.YtjonoojhdifjiaaGreatDoor
/- THE CELL 'sum', in the pinned program and in every row, IS THE sha256 OF THE DUMP (.gsa) THAT YtjonoojhdifjiaaGreatDoorProg.lean LOADS. Nothing in Lean hashes anything: it is a label: what it is worth is what the hold of that sum in a sandbox is worth. -/
noncomputable def Tryz.pinned : Pinned := { name := "ytjonoojhdifjiaagreatdoor", sum := "03d18ac97c6dab909c7bc49db858916a3218302c82af0e32d5c4441eeb135080", checked := Tryz.checked }
namespace Rows
def none {H : Type} : Left H := { results := [], args := [] }

/- WHAT THE LISTED PACKAGE-LEVEL VARIABLES READ AS WHEN THE CALL BEGINS. Each datum BY PROGRAM (the guide's laid-datum.mjs) off the statement by which the dump's own 'gosem.cut.vars' lays the variable. In a bare row this is a premise. The card (YtjonoojhdifjiaaGreatDoorCards.lean) ties it to the program's text. -/
def laid_dogwatch_pick_none {H : Type} : DataW H := .agg [.lit (.int .i64 (-1)), .lit (.int .u64 0), .lit (.int .u64 0), .lit (.int .u64 0)]

/-- 'dogwatchlaw20.SuperBoots': WHATEVER THE INPUT: true; the input reads as it did. -/
def superBootsSpec : ChangeSpec := { name := "superBoots", fn := fun _ => fun
  | [d1, d2] => { results := [.lit (.bool true)], args := [d1, d2] }
  | _ => none }
def superBootsRow : OpenClaim := { program := "ytjonoojhdifjiaagreatdoor", sum := "03d18ac97c6dab909c7bc49db858916a3218302c82af0e32d5c4441eeb135080", func := "dogwatch/dogwatchlaw20.SuperBoots", spec := "superBoots", inPlace := ["internal/abi.NoEscape", "internal/bytealg.MakeNoZero", "internal/bytealg.CountString", "internal/bytealg.IndexByteString", "internal/bytealg.IndexString", "math.Float64bits", "math.Float64frombits"], unfollowed := true, recurses := true, named := ["dogwatch/pick.none", "internal/bytealg.MaxLen"], apart := false, laid := [("dogwatch/pick.none", laid_dogwatch_pick_none)] }
def SuperBootsSaid : Prop := superBootsRow.holds Tryz.pinned (OpenSpec.ofChange superBootsSpec)

/-- ITS FALSE NEIGHBOUR: 'it returns false'. Refute it at one input. -/
def superBootsWrong : ChangeSpec := { name := "superBoots", fn := fun _ => fun
  | [d1, d2] => { results := [.lit (.bool false)], args := [d1, d2] }
  | _ => none }
def SuperBootsWrongFalsely : Prop := superBootsRow.holds Tryz.pinned (OpenSpec.ofChange superBootsWrong)

/-- 'dogwatchlaw20.SuperWrites': WHATEVER THE INPUT: true; the input reads as it did. -/
def superWritesSpec : ChangeSpec := { name := "superWrites", fn := fun _ => fun
  | [d1, d2, d3] => { results := [.lit (.bool true)], args := [d1, d2, d3] }
  | _ => none }
def superWritesRow : OpenClaim := { program := "ytjonoojhdifjiaagreatdoor", sum := "03d18ac97c6dab909c7bc49db858916a3218302c82af0e32d5c4441eeb135080", func := "dogwatch/dogwatchlaw20.SuperWrites", spec := "superWrites", inPlace := ["internal/abi.NoEscape", "internal/bytealg.MakeNoZero", "internal/bytealg.CountString", "internal/bytealg.IndexByteString", "internal/bytealg.IndexString", "math.Float64bits", "math.Float64frombits"], unfollowed := true, recurses := true, named := ["dogwatch/pick.none", "internal/bytealg.MaxLen"], apart := false, laid := [("dogwatch/pick.none", laid_dogwatch_pick_none)] }
def SuperWritesSaid : Prop := superWritesRow.holds Tryz.pinned (OpenSpec.ofChange superWritesSpec)

/-- ITS FALSE NEIGHBOUR: 'it returns false'. Refute it at one input. -/
def superWritesWrong : ChangeSpec := { name := "superWrites", fn := fun _ => fun
  | [d1, d2, d3] => { results := [.lit (.bool false)], args := [d1, d2, d3] }
  | _ => none }
def SuperWritesWrongFalsely : Prop := superWritesRow.holds Tryz.pinned (OpenSpec.ofChange superWritesWrong)

/-- 'dogwatchlaw20.SuperSamples': WHATEVER THE INPUT: true; the input reads as it did. -/
def superSamplesSpec : ChangeSpec := { name := "superSamples", fn := fun _ => fun
  | [d1, d2, d3] => { results := [.lit (.bool true)], args := [d1, d2, d3] }
  | _ => none }
def superSamplesRow : OpenClaim := { program := "ytjonoojhdifjiaagreatdoor", sum := "03d18ac97c6dab909c7bc49db858916a3218302c82af0e32d5c4441eeb135080", func := "dogwatch/dogwatchlaw20.SuperSamples", spec := "superSamples", inPlace := ["internal/abi.NoEscape", "internal/bytealg.MakeNoZero", "internal/bytealg.CountString", "internal/bytealg.IndexByteString", "internal/bytealg.IndexString", "math.Float64bits", "math.Float64frombits"], unfollowed := true, recurses := true, named := ["dogwatch/pick.none", "internal/bytealg.MaxLen"], apart := false, laid := [("dogwatch/pick.none", laid_dogwatch_pick_none)] }
def SuperSamplesSaid : Prop := superSamplesRow.holds Tryz.pinned (OpenSpec.ofChange superSamplesSpec)

/-- ITS FALSE NEIGHBOUR: 'it returns false'. Refute it at one input. -/
def superSamplesWrong : ChangeSpec := { name := "superSamples", fn := fun _ => fun
  | [d1, d2, d3] => { results := [.lit (.bool false)], args := [d1, d2, d3] }
  | _ => none }
def SuperSamplesWrongFalsely : Prop := superSamplesRow.holds Tryz.pinned (OpenSpec.ofChange superSamplesWrong)

/-- 'dogwatchlaw20.SuperHolds': WHATEVER THE INPUT: true; the input reads as it did. -/
def superHoldsSpec : ChangeSpec := { name := "superHolds", fn := fun _ => fun
  | [d1, d2, d3] => { results := [.lit (.bool true)], args := [d1, d2, d3] }
  | _ => none }
def superHoldsRow : OpenClaim := { program := "ytjonoojhdifjiaagreatdoor", sum := "03d18ac97c6dab909c7bc49db858916a3218302c82af0e32d5c4441eeb135080", func := "dogwatch/dogwatchlaw20.SuperHolds", spec := "superHolds", inPlace := ["internal/abi.NoEscape", "internal/bytealg.MakeNoZero", "internal/bytealg.CountString", "internal/bytealg.IndexByteString", "internal/bytealg.IndexString", "math.Float64bits", "math.Float64frombits"], unfollowed := true, recurses := true, named := ["dogwatch/pick.none", "internal/bytealg.MaxLen"], apart := false, laid := [("dogwatch/pick.none", laid_dogwatch_pick_none)] }
def SuperHoldsSaid : Prop := superHoldsRow.holds Tryz.pinned (OpenSpec.ofChange superHoldsSpec)

/-- ITS FALSE NEIGHBOUR: 'it returns false'. Refute it at one input. -/
def superHoldsWrong : ChangeSpec := { name := "superHolds", fn := fun _ => fun
  | [d1, d2, d3] => { results := [.lit (.bool false)], args := [d1, d2, d3] }
  | _ => none }
def SuperHoldsWrongFalsely : Prop := superHoldsRow.holds Tryz.pinned (OpenSpec.ofChange superHoldsWrong)

/-- 'dogwatchlaw20.SuperResolves': WHATEVER THE INPUT: true; the input reads as it did. -/
def superResolvesSpec : ChangeSpec := { name := "superResolves", fn := fun _ => fun
  | [d1, d2] => { results := [.lit (.bool true)], args := [d1, d2] }
  | _ => none }
def superResolvesRow : OpenClaim := { program := "ytjonoojhdifjiaagreatdoor", sum := "03d18ac97c6dab909c7bc49db858916a3218302c82af0e32d5c4441eeb135080", func := "dogwatch/dogwatchlaw20.SuperResolves", spec := "superResolves", inPlace := ["internal/abi.NoEscape", "internal/bytealg.MakeNoZero", "internal/bytealg.CountString", "internal/bytealg.IndexByteString", "internal/bytealg.IndexString", "math.Float64bits", "math.Float64frombits"], unfollowed := true, recurses := true, named := ["dogwatch/pick.none", "internal/bytealg.MaxLen"], apart := false, laid := [("dogwatch/pick.none", laid_dogwatch_pick_none)] }
def SuperResolvesSaid : Prop := superResolvesRow.holds Tryz.pinned (OpenSpec.ofChange superResolvesSpec)

/-- ITS FALSE NEIGHBOUR: 'it returns false'. Refute it at one input. -/
def superResolvesWrong : ChangeSpec := { name := "superResolves", fn := fun _ => fun
  | [d1, d2] => { results := [.lit (.bool false)], args := [d1, d2] }
  | _ => none }
def SuperResolvesWrongFalsely : Prop := superResolvesRow.holds Tryz.pinned (OpenSpec.ofChange superResolvesWrong)

/-- 'dogwatchlaw20.SuperRefuses': WHATEVER THE INPUT: true; the input reads as it did. -/
def superRefusesSpec : ChangeSpec := { name := "superRefuses", fn := fun _ => fun
  | [d1, d2, d3] => { results := [.lit (.bool true)], args := [d1, d2, d3] }
  | _ => none }
def superRefusesRow : OpenClaim := { program := "ytjonoojhdifjiaagreatdoor", sum := "03d18ac97c6dab909c7bc49db858916a3218302c82af0e32d5c4441eeb135080", func := "dogwatch/dogwatchlaw20.SuperRefuses", spec := "superRefuses", inPlace := ["internal/abi.NoEscape", "internal/bytealg.MakeNoZero", "internal/bytealg.CountString", "internal/bytealg.IndexByteString", "internal/bytealg.IndexString", "math.Float64bits", "math.Float64frombits"], unfollowed := true, recurses := true, named := ["dogwatch/pick.none", "internal/bytealg.MaxLen"], apart := false, laid := [("dogwatch/pick.none", laid_dogwatch_pick_none)] }
def SuperRefusesSaid : Prop := superRefusesRow.holds Tryz.pinned (OpenSpec.ofChange superRefusesSpec)

/-- ITS FALSE NEIGHBOUR: 'it returns false'. Refute it at one input. -/
def superRefusesWrong : ChangeSpec := { name := "superRefuses", fn := fun _ => fun
  | [d1, d2, d3] => { results := [.lit (.bool false)], args := [d1, d2, d3] }
  | _ => none }
def SuperRefusesWrongFalsely : Prop := superRefusesRow.holds Tryz.pinned (OpenSpec.ofChange superRefusesWrong)

/-- 'dogwatchlaw20.SuperCommands': WHATEVER THE INPUT: true; the input reads as it did. -/
def superCommandsSpec : ChangeSpec := { name := "superCommands", fn := fun _ => fun
  | [d1, d2, d3] => { results := [.lit (.bool true)], args := [d1, d2, d3] }
  | _ => none }
def superCommandsRow : OpenClaim := { program := "ytjonoojhdifjiaagreatdoor", sum := "03d18ac97c6dab909c7bc49db858916a3218302c82af0e32d5c4441eeb135080", func := "dogwatch/dogwatchlaw20.SuperCommands", spec := "superCommands", inPlace := ["internal/abi.NoEscape", "internal/bytealg.MakeNoZero", "internal/bytealg.CountString", "internal/bytealg.IndexByteString", "internal/bytealg.IndexString", "math.Float64bits", "math.Float64frombits"], unfollowed := true, recurses := true, named := ["dogwatch/pick.none", "internal/bytealg.MaxLen"], apart := false, laid := [("dogwatch/pick.none", laid_dogwatch_pick_none)] }
def SuperCommandsSaid : Prop := superCommandsRow.holds Tryz.pinned (OpenSpec.ofChange superCommandsSpec)

/-- ITS FALSE NEIGHBOUR: 'it returns false'. Refute it at one input. -/
def superCommandsWrong : ChangeSpec := { name := "superCommands", fn := fun _ => fun
  | [d1, d2, d3] => { results := [.lit (.bool false)], args := [d1, d2, d3] }
  | _ => none }
def SuperCommandsWrongFalsely : Prop := superCommandsRow.holds Tryz.pinned (OpenSpec.ofChange superCommandsWrong)

/-- 'dogwatchlaw20.SuperModel': WHATEVER THE INPUT: true; the input reads as it did. -/
def superModelSpec : ChangeSpec := { name := "superModel", fn := fun _ => fun
  | [d1, d2] => { results := [.lit (.bool true)], args := [d1, d2] }
  | _ => none }
def superModelRow : OpenClaim := { program := "ytjonoojhdifjiaagreatdoor", sum := "03d18ac97c6dab909c7bc49db858916a3218302c82af0e32d5c4441eeb135080", func := "dogwatch/dogwatchlaw20.SuperModel", spec := "superModel", inPlace := ["internal/abi.NoEscape", "internal/bytealg.MakeNoZero", "internal/bytealg.CountString", "internal/bytealg.IndexByteString", "internal/bytealg.IndexString", "math.Float64bits", "math.Float64frombits"], unfollowed := true, recurses := true, named := ["dogwatch/pick.none", "internal/bytealg.MaxLen"], apart := false, laid := [("dogwatch/pick.none", laid_dogwatch_pick_none)] }
def SuperModelSaid : Prop := superModelRow.holds Tryz.pinned (OpenSpec.ofChange superModelSpec)

/-- ITS FALSE NEIGHBOUR: 'it returns false'. Refute it at one input. -/
def superModelWrong : ChangeSpec := { name := "superModel", fn := fun _ => fun
  | [d1, d2] => { results := [.lit (.bool false)], args := [d1, d2] }
  | _ => none }
def SuperModelWrongFalsely : Prop := superModelRow.holds Tryz.pinned (OpenSpec.ofChange superModelWrong)

/-- 'dogwatchlaw20.SuperCrashes': WHATEVER THE INPUT: true; the input reads as it did. -/
def superCrashesSpec : ChangeSpec := { name := "superCrashes", fn := fun _ => fun
  | [d1, d2, d3, d4, d5] => { results := [.lit (.bool true)], args := [d1, d2, d3, d4, d5] }
  | _ => none }
def superCrashesRow : OpenClaim := { program := "ytjonoojhdifjiaagreatdoor", sum := "03d18ac97c6dab909c7bc49db858916a3218302c82af0e32d5c4441eeb135080", func := "dogwatch/dogwatchlaw20.SuperCrashes", spec := "superCrashes", inPlace := ["internal/abi.NoEscape", "internal/bytealg.MakeNoZero", "internal/bytealg.CountString", "internal/bytealg.IndexByteString", "internal/bytealg.IndexString", "math.Float64bits", "math.Float64frombits"], unfollowed := true, recurses := true, named := ["dogwatch/pick.none", "internal/bytealg.MaxLen"], apart := false, laid := [("dogwatch/pick.none", laid_dogwatch_pick_none)] }
def SuperCrashesSaid : Prop := superCrashesRow.holds Tryz.pinned (OpenSpec.ofChange superCrashesSpec)

/-- ITS FALSE NEIGHBOUR: 'it returns false'. Refute it at one input. -/
def superCrashesWrong : ChangeSpec := { name := "superCrashes", fn := fun _ => fun
  | [d1, d2, d3, d4, d5] => { results := [.lit (.bool false)], args := [d1, d2, d3, d4, d5] }
  | _ => none }
def SuperCrashesWrongFalsely : Prop := superCrashesRow.holds Tryz.pinned (OpenSpec.ofChange superCrashesWrong)

/-- 'dogwatchlaw20.SuperFails': WHATEVER THE INPUT: true; the input reads as it did. -/
def superFailsSpec : ChangeSpec := { name := "superFails", fn := fun _ => fun
  | [d1, d2, d3] => { results := [.lit (.bool true)], args := [d1, d2, d3] }
  | _ => none }
def superFailsRow : OpenClaim := { program := "ytjonoojhdifjiaagreatdoor", sum := "03d18ac97c6dab909c7bc49db858916a3218302c82af0e32d5c4441eeb135080", func := "dogwatch/dogwatchlaw20.SuperFails", spec := "superFails", inPlace := ["internal/abi.NoEscape", "internal/bytealg.MakeNoZero", "internal/bytealg.CountString", "internal/bytealg.IndexByteString", "internal/bytealg.IndexString", "math.Float64bits", "math.Float64frombits"], unfollowed := true, recurses := true, named := ["dogwatch/pick.none", "internal/bytealg.MaxLen"], apart := false, laid := [("dogwatch/pick.none", laid_dogwatch_pick_none)] }
def SuperFailsSaid : Prop := superFailsRow.holds Tryz.pinned (OpenSpec.ofChange superFailsSpec)

/-- ITS FALSE NEIGHBOUR: 'it returns false'. Refute it at one input. -/
def superFailsWrong : ChangeSpec := { name := "superFails", fn := fun _ => fun
  | [d1, d2, d3] => { results := [.lit (.bool false)], args := [d1, d2, d3] }
  | _ => none }
def SuperFailsWrongFalsely : Prop := superFailsRow.holds Tryz.pinned (OpenSpec.ofChange superFailsWrong)

/- THE SECOND FORM. 'bulk': how many values and letters a reading holds, each counted each time it is reached (what is shared counts as often as it is met; a slice's spare places count too). A statement '..UptoSaid' is the law's where the arguments, and the package variables that the reading takes, are together of bulk at most 1048576: NARROWER than '..Said'. Prove '..Said' where nothing that the law and all that it calls make is longer than what came in: it says more and counts as full. Else prove '..UptoSaid'. A law counts once. -/
mutual
def uptoBulk {H : Type} : DataW H → Nat
  | .lit (.string bytes) => bytes.length + 1
  | .lit _ => 1
  | .nil => 1
  | .ptr d => uptoBulk d + 1
  | .slice elems spare => uptoBulkAll elems + uptoBulkAll spare + 1
  | .agg parts => uptoBulkAll parts + 1
  | .iface _ d => uptoBulk d + 1
  | .map entries => uptoBulkEntries entries + 1
  | .held _ => 1
def uptoBulkAll {H : Type} : List (DataW H) → Nat
  | [] => 0
  | d :: r => uptoBulk d + uptoBulkAll r
def uptoBulkEntries {H : Type} : List (Lit × DataW H) → Nat
  | [] => 0
  | x :: r => uptoBulkEntry x + uptoBulkEntries r
def uptoBulkEntry {H : Type} : Lit × DataW H → Nat
  | (.string bytes, d) => bytes.length + uptoBulk d + 1
  | (_, d) => uptoBulk d + 1
 end
def uptoSmall : (H : Type) → List (DataW H) → Bool := fun _ ds => decide (uptoBulkAll ds ≤ 1048576)
def OpenSpec.upto (s : _root_.Go.ChangeSpec) : _root_.Go.OpenSpec := { _root_.Go.OpenSpec.ofChange s with cond := some uptoSmall }

/-- 'dogwatchlaw20.SuperBoots', WHERE WHAT IT READS IS OF BULK AT MOST 1048576: true; the input reads as it did. -/
def superBootsUptoRow : OpenClaim := { program := "ytjonoojhdifjiaagreatdoor", sum := "03d18ac97c6dab909c7bc49db858916a3218302c82af0e32d5c4441eeb135080", func := "dogwatch/dogwatchlaw20.SuperBoots", spec := "superBoots", inPlace := ["internal/abi.NoEscape", "internal/bytealg.MakeNoZero", "internal/bytealg.CountString", "internal/bytealg.IndexByteString", "internal/bytealg.IndexString", "math.Float64bits", "math.Float64frombits"], unfollowed := true, recurses := true, named := ["dogwatch/pick.none", "internal/bytealg.MaxLen"], apart := false, laid := [("dogwatch/pick.none", laid_dogwatch_pick_none)], narrowed := true }
def SuperBootsUptoSaid : Prop := superBootsUptoRow.holds Tryz.pinned (OpenSpec.upto superBootsSpec)

/-- 'dogwatchlaw20.SuperWrites', WHERE WHAT IT READS IS OF BULK AT MOST 1048576: true; the input reads as it did. -/
def superWritesUptoRow : OpenClaim := { program := "ytjonoojhdifjiaagreatdoor", sum := "03d18ac97c6dab909c7bc49db858916a3218302c82af0e32d5c4441eeb135080", func := "dogwatch/dogwatchlaw20.SuperWrites", spec := "superWrites", inPlace := ["internal/abi.NoEscape", "internal/bytealg.MakeNoZero", "internal/bytealg.CountString", "internal/bytealg.IndexByteString", "internal/bytealg.IndexString", "math.Float64bits", "math.Float64frombits"], unfollowed := true, recurses := true, named := ["dogwatch/pick.none", "internal/bytealg.MaxLen"], apart := false, laid := [("dogwatch/pick.none", laid_dogwatch_pick_none)], narrowed := true }
def SuperWritesUptoSaid : Prop := superWritesUptoRow.holds Tryz.pinned (OpenSpec.upto superWritesSpec)

/-- 'dogwatchlaw20.SuperSamples', WHERE WHAT IT READS IS OF BULK AT MOST 1048576: true; the input reads as it did. -/
def superSamplesUptoRow : OpenClaim := { program := "ytjonoojhdifjiaagreatdoor", sum := "03d18ac97c6dab909c7bc49db858916a3218302c82af0e32d5c4441eeb135080", func := "dogwatch/dogwatchlaw20.SuperSamples", spec := "superSamples", inPlace := ["internal/abi.NoEscape", "internal/bytealg.MakeNoZero", "internal/bytealg.CountString", "internal/bytealg.IndexByteString", "internal/bytealg.IndexString", "math.Float64bits", "math.Float64frombits"], unfollowed := true, recurses := true, named := ["dogwatch/pick.none", "internal/bytealg.MaxLen"], apart := false, laid := [("dogwatch/pick.none", laid_dogwatch_pick_none)], narrowed := true }
def SuperSamplesUptoSaid : Prop := superSamplesUptoRow.holds Tryz.pinned (OpenSpec.upto superSamplesSpec)

/-- 'dogwatchlaw20.SuperHolds', WHERE WHAT IT READS IS OF BULK AT MOST 1048576: true; the input reads as it did. -/
def superHoldsUptoRow : OpenClaim := { program := "ytjonoojhdifjiaagreatdoor", sum := "03d18ac97c6dab909c7bc49db858916a3218302c82af0e32d5c4441eeb135080", func := "dogwatch/dogwatchlaw20.SuperHolds", spec := "superHolds", inPlace := ["internal/abi.NoEscape", "internal/bytealg.MakeNoZero", "internal/bytealg.CountString", "internal/bytealg.IndexByteString", "internal/bytealg.IndexString", "math.Float64bits", "math.Float64frombits"], unfollowed := true, recurses := true, named := ["dogwatch/pick.none", "internal/bytealg.MaxLen"], apart := false, laid := [("dogwatch/pick.none", laid_dogwatch_pick_none)], narrowed := true }
def SuperHoldsUptoSaid : Prop := superHoldsUptoRow.holds Tryz.pinned (OpenSpec.upto superHoldsSpec)

/-- 'dogwatchlaw20.SuperResolves', WHERE WHAT IT READS IS OF BULK AT MOST 1048576: true; the input reads as it did. -/
def superResolvesUptoRow : OpenClaim := { program := "ytjonoojhdifjiaagreatdoor", sum := "03d18ac97c6dab909c7bc49db858916a3218302c82af0e32d5c4441eeb135080", func := "dogwatch/dogwatchlaw20.SuperResolves", spec := "superResolves", inPlace := ["internal/abi.NoEscape", "internal/bytealg.MakeNoZero", "internal/bytealg.CountString", "internal/bytealg.IndexByteString", "internal/bytealg.IndexString", "math.Float64bits", "math.Float64frombits"], unfollowed := true, recurses := true, named := ["dogwatch/pick.none", "internal/bytealg.MaxLen"], apart := false, laid := [("dogwatch/pick.none", laid_dogwatch_pick_none)], narrowed := true }
def SuperResolvesUptoSaid : Prop := superResolvesUptoRow.holds Tryz.pinned (OpenSpec.upto superResolvesSpec)

/-- 'dogwatchlaw20.SuperRefuses', WHERE WHAT IT READS IS OF BULK AT MOST 1048576: true; the input reads as it did. -/
def superRefusesUptoRow : OpenClaim := { program := "ytjonoojhdifjiaagreatdoor", sum := "03d18ac97c6dab909c7bc49db858916a3218302c82af0e32d5c4441eeb135080", func := "dogwatch/dogwatchlaw20.SuperRefuses", spec := "superRefuses", inPlace := ["internal/abi.NoEscape", "internal/bytealg.MakeNoZero", "internal/bytealg.CountString", "internal/bytealg.IndexByteString", "internal/bytealg.IndexString", "math.Float64bits", "math.Float64frombits"], unfollowed := true, recurses := true, named := ["dogwatch/pick.none", "internal/bytealg.MaxLen"], apart := false, laid := [("dogwatch/pick.none", laid_dogwatch_pick_none)], narrowed := true }
def SuperRefusesUptoSaid : Prop := superRefusesUptoRow.holds Tryz.pinned (OpenSpec.upto superRefusesSpec)

/-- 'dogwatchlaw20.SuperCommands', WHERE WHAT IT READS IS OF BULK AT MOST 1048576: true; the input reads as it did. -/
def superCommandsUptoRow : OpenClaim := { program := "ytjonoojhdifjiaagreatdoor", sum := "03d18ac97c6dab909c7bc49db858916a3218302c82af0e32d5c4441eeb135080", func := "dogwatch/dogwatchlaw20.SuperCommands", spec := "superCommands", inPlace := ["internal/abi.NoEscape", "internal/bytealg.MakeNoZero", "internal/bytealg.CountString", "internal/bytealg.IndexByteString", "internal/bytealg.IndexString", "math.Float64bits", "math.Float64frombits"], unfollowed := true, recurses := true, named := ["dogwatch/pick.none", "internal/bytealg.MaxLen"], apart := false, laid := [("dogwatch/pick.none", laid_dogwatch_pick_none)], narrowed := true }
def SuperCommandsUptoSaid : Prop := superCommandsUptoRow.holds Tryz.pinned (OpenSpec.upto superCommandsSpec)

/-- 'dogwatchlaw20.SuperModel', WHERE WHAT IT READS IS OF BULK AT MOST 1048576: true; the input reads as it did. -/
def superModelUptoRow : OpenClaim := { program := "ytjonoojhdifjiaagreatdoor", sum := "03d18ac97c6dab909c7bc49db858916a3218302c82af0e32d5c4441eeb135080", func := "dogwatch/dogwatchlaw20.SuperModel", spec := "superModel", inPlace := ["internal/abi.NoEscape", "internal/bytealg.MakeNoZero", "internal/bytealg.CountString", "internal/bytealg.IndexByteString", "internal/bytealg.IndexString", "math.Float64bits", "math.Float64frombits"], unfollowed := true, recurses := true, named := ["dogwatch/pick.none", "internal/bytealg.MaxLen"], apart := false, laid := [("dogwatch/pick.none", laid_dogwatch_pick_none)], narrowed := true }
def SuperModelUptoSaid : Prop := superModelUptoRow.holds Tryz.pinned (OpenSpec.upto superModelSpec)

/-- 'dogwatchlaw20.SuperCrashes', WHERE WHAT IT READS IS OF BULK AT MOST 1048576: true; the input reads as it did. -/
def superCrashesUptoRow : OpenClaim := { program := "ytjonoojhdifjiaagreatdoor", sum := "03d18ac97c6dab909c7bc49db858916a3218302c82af0e32d5c4441eeb135080", func := "dogwatch/dogwatchlaw20.SuperCrashes", spec := "superCrashes", inPlace := ["internal/abi.NoEscape", "internal/bytealg.MakeNoZero", "internal/bytealg.CountString", "internal/bytealg.IndexByteString", "internal/bytealg.IndexString", "math.Float64bits", "math.Float64frombits"], unfollowed := true, recurses := true, named := ["dogwatch/pick.none", "internal/bytealg.MaxLen"], apart := false, laid := [("dogwatch/pick.none", laid_dogwatch_pick_none)], narrowed := true }
def SuperCrashesUptoSaid : Prop := superCrashesUptoRow.holds Tryz.pinned (OpenSpec.upto superCrashesSpec)

/-- 'dogwatchlaw20.SuperFails', WHERE WHAT IT READS IS OF BULK AT MOST 1048576: true; the input reads as it did. -/
def superFailsUptoRow : OpenClaim := { program := "ytjonoojhdifjiaagreatdoor", sum := "03d18ac97c6dab909c7bc49db858916a3218302c82af0e32d5c4441eeb135080", func := "dogwatch/dogwatchlaw20.SuperFails", spec := "superFails", inPlace := ["internal/abi.NoEscape", "internal/bytealg.MakeNoZero", "internal/bytealg.CountString", "internal/bytealg.IndexByteString", "internal/bytealg.IndexString", "math.Float64bits", "math.Float64frombits"], unfollowed := true, recurses := true, named := ["dogwatch/pick.none", "internal/bytealg.MaxLen"], apart := false, laid := [("dogwatch/pick.none", laid_dogwatch_pick_none)], narrowed := true }
def SuperFailsUptoSaid : Prop := superFailsUptoRow.holds Tryz.pinned (OpenSpec.upto superFailsSpec)

end Rows
end Go.Proofs.YtjonoojhdifjiaaGreatDoor
