/- What the statement's proof stands on, part 11: Blank. -/
import Derived.Test.YtjibbchfndhhpaaGreatDoorRc4
import Derived.Lib.Bytealg
set_option linter.unusedSimpArgs false
set_option linter.unusedVariables false
set_option maxRecDepth 100000
set_option maxHeartbeats 4000000
namespace Go.Proofs.YtjibbchfndhhpaaGreatDoor
open Go.RowKit Go.Shelf
attribute [local go_sem] Oper.semAt_some
theorem beq_nat (a b : Nat) : ((a : Int) == (b : Int)) = decide (a = b) := by rw [Bool.eq_iff_iff, beq_iff_eq, decide_eq_true_iff]; omega
namespace Dw
def blankB (l : List UInt8) : Bool := decide (l.count 255 = l.length)
end Dw
theorem count_any (s : ByteArray) (w : World) :
    Calls Tryz.prog 235 #[.string s, .string ⟨#[255]⟩] w fun e w' => e = .returned (.int .i64 ((s.data.toList.count 255 : Nat) : Int)) ∧ Below w.heap.size w w' := by
  go_enter Tryz.func235, Tryz.ntmps235
  go_wp2_with fail
  rw [run_callFunc_extern Tryz.func238 (by kernel_rfl) (by kernel_rfl) (by kernel_rfl) (e := Extern.BytealgCount.count) (by kernel_rfl), Lib.run_countString]
  simp only [Result.andThen]
  rw [Oper.upon_value]
  go_wp2_with fail
  go_ret
  exact ⟨rfl, Below.refl _ _⟩
theorem blank_any (s : ByteArray) (w : World) :
    Calls Tryz.prog 230 #[.string s] w fun e w' => e = .returned (.bool (Dw.blankB s.data.toList)) ∧ Below w.heap.size w w' := by
  have Hl := Lib.hid (show s.data.toList.length = s.size from by simp)
  go_enter Tryz.func230, Tryz.ntmps230
  go_wp2_with fail
  refine cb (count_any _ _) fun w1 hb1 => ?_
  go_wp2_with fail
  go_ret
  refine ⟨ret_bool ?_, hb1⟩
  unfold Dw.blankB
  rw [Hl.out]
  simpa using beq_nat (s.data.toList.count 255) s.size
end Go.Proofs.YtjibbchfndhhpaaGreatDoor
