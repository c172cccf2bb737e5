/- What the statement's proof stands on, part 6: PlainV. -/
import Ieee.Arith
set_option linter.unusedSimpArgs false
set_option linter.unusedVariables false
set_option maxRecDepth 100000
set_option maxHeartbeats 4000000
namespace Go.Proofs.YtjibbchfndhhpaaGreatDoor
namespace Dw
open Ieee
def fgt (x c : Nat) : Bool := double.order x c == some .gt
def flt (x c : Nat) : Bool := double.order x c == some .lt
def nanB (x : Nat) : Bool := double.order x x != some .eq
def absF (x : Nat) : Nat := x % 9223372036854775808
def airN (a s t : Nat) : Int := (if fgt a 4611686018427387904 then 1 else 0) + (if fgt (absF s) 4613937818241073152 then 1 else 0) + (if fgt t 4598175219545276416 then 1 else 0)
def groundN (a s t : Nat) : Int := (if flt a 4607182418800017408 then 1 else 0) + (if flt (absF s) 4607182418800017408 then 1 else 0) + (if flt t 4593671619917905920 then 1 else 0)
def voteI (a s t : Nat) : Int := if nanB a || nanB s || nanB t then 0 else if 1 < airN a s t then 2 else if 2 < groundN a s t then 1 else 0
theorem sw63 : double.signWeight = 9223372036854775808 := by decide +kernel
theorem cmp_gt (a b : Int) : (some (compare a b) == some Ordering.gt) = decide (b < a) := by
  show (some (compareOfLessAndEq a b) == some Ordering.gt) = _
  unfold compareOfLessAndEq
  by_cases h : a < b
  · rw [if_pos h, decide_eq_false (by omega)]; rfl
  · rw [if_neg h]
    by_cases h2 : a = b
    · rw [if_pos h2, decide_eq_false (by omega)]; rfl
    · rw [if_neg h2, decide_eq_true (by omega)]; rfl
theorem read_abs (x : Nat) : double.read (absF x) = match double.read x with | .number _ m p => .number false m p | .infinity _ => .infinity false | .nan _ t => .nan false t := by
  unfold Format.read absF
  rw [sw63, Nat.div_eq_of_lt (Nat.mod_lt x (by decide : 0 < 9223372036854775808)), Nat.mod_mod]
  generalize x % 9223372036854775808 = r
  simp only []
  by_cases h1 : r < double.binade
  · rw [if_pos h1, if_pos h1]; rfl
  · rw [if_neg h1, if_neg h1]
    by_cases h2 : r < double.infRung
    · rw [if_pos h2, if_pos h2]; rfl
    · rw [if_neg h2, if_neg h2]
      by_cases h3 : r = double.infRung
      · rw [if_pos h3, if_pos h3]; rfl
      · rw [if_neg h3, if_neg h3]; rfl
end Dw
end Go.Proofs.YtjibbchfndhhpaaGreatDoor
