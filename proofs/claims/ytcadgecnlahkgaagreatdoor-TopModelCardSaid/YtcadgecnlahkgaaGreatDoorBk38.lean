/- What the statement's proof stands on, part 38: Deb4. -/
import Derived.Test.YtcadgecnlahkgaaGreatDoorBk10
import Derived.Test.YtcadgecnlahkgaaGreatDoorBk2
import Derived.RegionTactic
import Derived.Deep.RegionWith
set_option linter.unusedSimpArgs false
set_option linter.unusedVariables false
set_option maxRecDepth 100000
set_option maxHeartbeats 4000000
namespace Go.Proofs.YtcadgecnlahkgaaGreatDoor
open Go.RowKit Go.Shelf
theorem ret_agg2 {a b c d : Int} (h : a = c) (h' : b = d) : Ending.returned (.agg #[.int .i64 a, .int .i64 b]) = Ending.returned (.agg #[.int .i64 c, .int .i64 d]) := by rw [h, h']
theorem rverd_any (v n : Int) (w : World)  :
    Calls Tryz.prog 16 #[.agg #[.int .i64 v, .int .i64 n]] w fun e w' => e = .returned (.int .i64 (verdC v n)) ∧ Below w.heap.size w w' := by
  go_enter Tryz.func16, Tryz.ntmps16
  go_wp2
  all_goals
    go_ret
    refine ⟨?_, (Below.refl _ _).alloc (Nat.le_refl _) _⟩
    simp_all [verdC]
  all_goals omega
theorem radd_any (v n u : Int) (w : World)  :
    Calls Tryz.prog 14 #[.agg #[.int .i64 v, .int .i64 n], .int .i64 u] w fun e w' => e = .returned (.agg #[.int .i64 (addV v u), .int .i64 (addN v n u)]) ∧ Below w.heap.size w w' := by
  go_enter Tryz.func14, Tryz.ntmps14
  go_wp2
  all_goals
    go_tidy
    refine ret_exD rfl ?_
    apply Exists.intro
    apply And.intro
    · conv => lhs; simp [results, Tryz.results14, go_sem]
    · refine ⟨ret_agg2 ?_ ?_, by repeat (first | exact Below.refl _ _ | refine Below.alloc ?_ (by simp) _ | refine Below.setCell ?_ (by simp) _)⟩
      all_goals (simp_all [addV, addN] <;> omega)
end Go.Proofs.YtcadgecnlahkgaaGreatDoor
