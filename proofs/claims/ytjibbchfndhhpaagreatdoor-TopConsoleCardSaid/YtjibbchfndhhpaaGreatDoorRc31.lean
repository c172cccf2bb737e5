/- What the statement's proof stands on, part 31: Card. -/
import Derived.Test.YtjibbchfndhhpaaGreatDoorRc18
import Derived.ProofKit
import Derived.LaidMore
import Derived.OpenShut
import Derived.ShutString
import Derived.ChangeOld
import Derived.Below
import Derived.Lib.SmallJoins
import Derived.Stop.Joined
import Derived.SevenTiedAt
set_option linter.unusedSimpArgs false
set_option linter.unusedVariables false
set_option maxRecDepth 100000
set_option maxHeartbeats 4000000
namespace Go.Proofs.YtjibbchfndhhpaaGreatDoor
open Go.ChangeShapes Go.WideShapes Go.ChangeAt Go.RowKit Go.Joins Go.WideElems
open Go.ChangeMaps (open_string shut_string)
theorem own : ownKnob Tryz.prog.godebug = none := by kernel_rfl
theorem laidOut : laidOutB Tryz.prog = true := by kernel_rfl
theorem gNone : Tryz.prog.globalNamed "dogwatch/pick.none" = some 0 := by kernel_rfl
theorem tNone : (Tryz.prog.globals[0]?).map (·.type) = some 106 := by kernel_rfl
theorem c5i : Tryz.prog.cellsOf 3 = 1 := by kernel_rfl
theorem c5u : Tryz.prog.cellsOf 104 = 1 := by kernel_rfl
theorem c5p : Tryz.prog.cellsOf 106 = 4 := by kernel_rfl
end Go.Proofs.YtjibbchfndhhpaaGreatDoor
