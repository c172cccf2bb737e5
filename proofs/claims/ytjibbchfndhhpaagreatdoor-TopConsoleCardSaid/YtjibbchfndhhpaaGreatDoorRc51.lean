/- What the statement's proof stands on, part 51: Card23. -/
import Derived.Test.YtjibbchfndhhpaaGreatDoorRc44
import Derived.Test.YtjibbchfndhhpaaGreatDoorRc31
import Derived.Test.YtjibbchfndhhpaaGreatDoorRows
import Derived.Lib.LaidU8
import Derived.Lay
set_option linter.unusedSimpArgs false
set_option linter.unusedVariables false
set_option maxRecDepth 100000
set_option maxHeartbeats 4000000
namespace Go.Proofs.YtjibbchfndhhpaaGreatDoor
open Go.ChangeShapes Go.WideShapes Go.ChangeAt Go.RowKit Go.Joins Go.WideElems
open Go.ChangeMaps (open_string shut_string)
abbrev laid23 : List (String × DataW Unit) := [("math/bits.deBruijn32tab", Rows.laid_math_bits_deBruijn32tab), ("math/bits.deBruijn64tab", Rows.laid_math_bits_deBruijn64tab), ("internal/strconv.uint64pow10", Rows.laid_internal_strconv_uint64pow10), ("unicode/utf8.acceptRanges", Rows.laid_unicode_utf8_acceptRanges), ("strconv.ErrRange", Rows.laid_strconv_ErrRange), ("strconv.ErrSyntax", Rows.laid_strconv_ErrSyntax), ("dogwatch/pick.none", Rows.laid_dogwatch_pick_none), ("unicode/utf8.first", Rows.laid_unicode_utf8_first)]
theorem pow_data : (Rows.laid_internal_strconv_uint64pow10 : DataW Unit) = Lib.tabData .u64 Lib.pow10Tab := by kernel_rfl
theorem pow_global : Tryz.prog.globalNamed "internal/strconv.uint64pow10" = some 7 := by kernel_rfl
theorem pow_type : (Tryz.prog.globals[7]?).map (·.type) = some 291 := by kernel_rfl
theorem con_of_laid {W : World} (h : laidMetH Tryz.prog laid23 W) : ConAt W := by
  rw [MakeChecks.laidMetH_plain _ _ _ (by kernel_rfl)] at h
  refine ⟨?_, ?_⟩
  · obtain ⟨g0, t0, cs0, f0, p0, hg0, ht0, hv0, hd0⟩ := Lib.laidMet.reads h (n := "dogwatch/pick.none") (d := Rows.laid_dogwatch_pick_none) (.tail _ (.tail _ (.tail _ (.tail _ (.tail _ (.tail _ (.head _)))))))
    obtain rfl := Option.some.inj (gNone.symm.trans hg0)
    obtain rfl := Option.some.inj (tNone.symm.trans ht0)
    obtain ⟨y0, y1, y2, y3, n, hx, hl, h0, h1, h2, h3⟩ := trod_struct4 Tryz.underlying106 hd0
    simp only [Rows.laid_dogwatch_pick_none, Prod.mk.injEq, DataW.agg.injEq, List.cons.injEq] at hx
    obtain ⟨⟨e0, e1, e2, e3, _⟩, _⟩ := hx
    obtain ⟨cs⟩ := cs0
    rw [c5p] at hl
    match cs, hl with
    | [x0, x1, x2, x3], _ =>
      simp only [c5i, c5u, List.drop_zero, List.take_succ_cons, List.take_zero, List.drop_succ_cons] at h0 h1 h2 h3
      obtain ⟨a0, b0, d0, _⟩ := DataW.trod_int Tryz.underlying3 h0
      obtain ⟨a1, b1, d1, _⟩ := DataW.trod_int Tryz.underlying104 h1
      obtain ⟨a2, b2, d2, _⟩ := DataW.trod_int Tryz.underlying104 h2
      obtain ⟨a3, b3, d3, _⟩ := DataW.trod_int Tryz.underlying104 h3
      subst d0; subst d1; subst d2; subst d3
      simp at b0 b1 b2 b3 e0 e1 e2 e3
      subst b0; subst b1; subst b2; subst b3; subst e0; subst e1; subst e2; subst e3
      exact ⟨World.var?_cell gNone hv0 0, World.var?_cell gNone hv0 1, World.var?_cell gNone hv0 2, World.var?_cell gNone hv0 3⟩
  · obtain ⟨g0, t0, cs0, f0, p0, hg0, ht0, hv0, hd0⟩ := Lib.laidMet.reads h (n := "internal/strconv.uint64pow10") (d := Rows.laid_internal_strconv_uint64pow10) (.tail _ (.tail _ (.head _)))
    obtain rfl := Option.some.inj (pow_global.symm.trans hg0)
    obtain rfl := Option.some.inj (pow_type.symm.trans ht0)
    rw [pow_data] at hd0
    unfold Lib.TabIs
    rw [hv0, ← Lib.cells_of_tab Tryz.underlying291 Tryz.underlying104 (by kernel_rfl) (by kernel_rfl) hd0]
theorem met23 (os : Os) (args : Array Value) : laidMetH Tryz.prog laid23 ((World.laidAll Tryz.prog os laid23).forCall (fun _ _ => 0) ⟨#[], args, []⟩).memory := by
  rw [MakeChecks.laidMetH_plain _ _ _ (by kernel_rfl)]
  exact laidMet_laidAll _ (by kernel_rfl) (by kernel_rfl)
end Go.Proofs.YtjibbchfndhhpaaGreatDoor
