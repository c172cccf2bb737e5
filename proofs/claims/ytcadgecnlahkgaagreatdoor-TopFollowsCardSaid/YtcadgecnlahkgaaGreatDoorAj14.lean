/- What the statement's proof stands on, part 14: Card. -/
import Derived.Test.YtcadgecnlahkgaaGreatDoorAj13
import Derived.ProofKit
import Derived.LaidMore
import Derived.OpenShut
import Derived.ShutString
import Derived.ChangeOld
import Derived.Below
import Derived.Lib.SmallJoins
import Derived.Stop.Joined
import Derived.SevenTiedAt
set_option linter.unusedSimpArgs false
set_option linter.unusedVariables false
set_option maxRecDepth 100000
set_option maxHeartbeats 4000000
namespace Go.Proofs.YtcadgecnlahkgaaGreatDoor
open Go.ChangeShapes Go.WideShapes Go.ChangeAt Go.RowKit Go.Joins Go.WideElems
open Go.ChangeMaps (open_string shut_string)
theorem own : ownKnob Tryz.prog.godebug = none := by kernel_rfl
theorem laidOut : laidOutB Tryz.prog = true := by kernel_rfl
theorem gNone : Tryz.prog.globalNamed "dogwatch/pick.none" = some 0 := by kernel_rfl
theorem tNone : (Tryz.prog.globals[0]?).map (·.type) = some 110 := by kernel_rfl
theorem c5i : Tryz.prog.cellsOf 3 = 1 := by kernel_rfl
theorem c5u : Tryz.prog.cellsOf 108 = 1 := by kernel_rfl
theorem c5s : Tryz.prog.cellsOf 9 = 1 := by kernel_rfl
theorem c5p : Tryz.prog.cellsOf 110 = 4 := by kernel_rfl
theorem none_of_laid {W : World} (h : laidMetH Tryz.prog [("dogwatch/pick.none", Rows.laid_dogwatch_pick_none)] W) : NoneAt W := by
  rw [MakeChecks.laidMetH_plain _ _ _ (by kernel_rfl)] at h
  obtain ⟨ps, ⟨g0, t0, cs0, f0, p0, q0, hg0, ht0, hv0, hd0, _, _⟩, _, _⟩ := h
  obtain rfl := Option.some.inj (gNone.symm.trans hg0)
  obtain rfl := Option.some.inj (tNone.symm.trans ht0)
  obtain ⟨y0, y1, y2, y3, n, hx, hl, h0, h1, h2, h3⟩ := trod_struct4 Tryz.underlying110 hd0
  simp only [Rows.laid_dogwatch_pick_none, Prod.mk.injEq, DataW.agg.injEq, List.cons.injEq] at hx
  obtain ⟨⟨e0, e1, e2, e3, _⟩, _⟩ := hx
  obtain ⟨cs⟩ := cs0
  rw [c5p] at hl
  match cs, hl with
  | [x0, x1, x2, x3], _ =>
    simp only [c5i, c5u, List.drop_zero, List.take_succ_cons, List.take_zero, List.drop_succ_cons] at h0 h1 h2 h3
    obtain ⟨a0, b0, d0, _⟩ := DataW.trod_int Tryz.underlying3 h0
    obtain ⟨a1, b1, d1, _⟩ := DataW.trod_int Tryz.underlying108 h1
    obtain ⟨a2, b2, d2, _⟩ := DataW.trod_int Tryz.underlying108 h2
    obtain ⟨a3, b3, d3, _⟩ := DataW.trod_int Tryz.underlying108 h3
    subst d0; subst d1; subst d2; subst d3
    simp at b0 b1 b2 b3 e0 e1 e2 e3
    subst b0; subst b1; subst b2; subst b3; subst e0; subst e1; subst e2; subst e3
    exact ⟨World.var?_cell gNone hv0 0, World.var?_cell gNone hv0 1, World.var?_cell gNone hv0 2, World.var?_cell gNone hv0 3⟩
end Go.Proofs.YtcadgecnlahkgaaGreatDoor
