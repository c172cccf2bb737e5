/- What the statement's proof stands on, part 21: Card. -/
import Derived.Test.YtaniehjhmjecjaaGreatDoorP20
import Derived.Test.YtaniehjhmjecjaaGreatDoorP10
import Derived.ProofKit
import Derived.LaidMore
import Derived.OpenShut
import Derived.ShutString
import Derived.ChangeOld
import Derived.Below
import Derived.Lib.SmallJoins
import Derived.Stop.Joined
import Derived.SevenTiedAt

/- What the cards share: the package's variable as it is laid; a flash that came in. -/
namespace Go.Proofs.YtaniehjhmjecjaaGreatDoor
open Go.ChangeShapes Go.WideShapes Go.ChangeAt Go.RowKit Go.Joins Go.WideElems
open Go.ChangeMaps (open_string shut_string)

theorem own : ownKnob Tryz.prog.godebug = none := by kernel_rfl
theorem laidOut : laidOutB Tryz.prog = true := by kernel_rfl
theorem gNone : Tryz.prog.globalNamed "dogwatch/pick.none" = some 0 := by kernel_rfl
theorem tNone : (Tryz.prog.globals[0]?).map (·.type) = some 78 := by kernel_rfl
theorem c5i : Tryz.prog.cellsOf 3 = 1 := by kernel_rfl
theorem c5u : Tryz.prog.cellsOf 26 = 1 := by kernel_rfl
theorem c5s : Tryz.prog.cellsOf 9 = 1 := by kernel_rfl
theorem c5b : Tryz.prog.cellsOf 22 = 2 := by kernel_rfl
theorem c5e : Tryz.prog.cellsOf 23 = 2 := by kernel_rfl
theorem c5f : Tryz.prog.cellsOf 25 = 5 := by kernel_rfl
theorem c5p : Tryz.prog.cellsOf 78 = 4 := by kernel_rfl

set_option maxRecDepth 100000 in
theorem none_of_laid {W : World} (h : laidMetH Tryz.prog [("dogwatch/pick.none", Rows.laid_dogwatch_pick_none)] W) : NoneAt W := by
  rw [MakeChecks.laidMetH_plain _ _ _ (by kernel_rfl)] at h
  obtain ⟨ps, ⟨g0, t0, cs0, f0, p0, q0, hg0, ht0, hv0, hd0, _, _⟩, _, _⟩ := h
  obtain rfl := Option.some.inj (gNone.symm.trans hg0)
  obtain rfl := Option.some.inj (tNone.symm.trans ht0)
  obtain ⟨y0, y1, y2, y3, n, hx, hl, h0, h1, h2, h3⟩ := trod_struct4 Tryz.underlying78 hd0
  simp only [Rows.laid_dogwatch_pick_none, Prod.mk.injEq, DataW.agg.injEq, List.cons.injEq] at hx
  obtain ⟨⟨e0, e1, e2, e3, _⟩, _⟩ := hx
  obtain ⟨cs⟩ := cs0
  rw [c5p] at hl
  match cs, hl with
  | [x0, x1, x2, x3], _ =>
    simp only [c5i, c5u, List.drop_zero, List.take_succ_cons, List.take_zero, List.drop_succ_cons] at h0 h1 h2 h3
    obtain ⟨a0, b0, d0, _⟩ := DataW.trod_int Tryz.underlying3 h0
    obtain ⟨a1, b1, d1, _⟩ := DataW.trod_int Tryz.underlying26 h1
    obtain ⟨a2, b2, d2, _⟩ := DataW.trod_int Tryz.underlying26 h2
    obtain ⟨a3, b3, d3, _⟩ := DataW.trod_int Tryz.underlying26 h3
    subst d0; subst d1; subst d2; subst d3
    simp at b0 b1 b2 b3 e0 e1 e2 e3
    subst b0; subst b1; subst b2; subst b3; subst e0; subst e1; subst e2; subst e3
    exact ⟨World.var?_cell gNone hv0 0, World.var?_cell gNone hv0 1, World.var?_cell gNone hv0 2, World.var?_cell gNone hv0 3⟩

theorem some_of_get {α : Type} {x : Option α} {xs : List α} {i : Nat} (h : x = xs[i]?) (hi : i < xs.length) : ∃ y, x = some y := ⟨xs[i], by rw [h, List.getElem?_eq_getElem hi]⟩
set_option maxRecDepth 100000 in
/-- A flash that came in. -/
theorem open_flash {H : Type} {enc : TypeId × Value → H} {w : World} {base : Nat} {spare : Nat → Bool} {held : Bool} {r : Reach} {b0 : Nat} {v : Value} {d : DataW H} {p : List MemPlace}
    (hv : Value.okWide Tryz.prog w r b0 25 v) (h : DataW.Trod enc Tryz.prog w base spare held 25 v d p) :
    ∃ (a b : List UInt8) (e0 e1 li : Int), v = flashV a b e0 e1 li := by
  obtain ⟨cs, rfl, hsz⟩ := okWide_struct Tryz.underlying25 hv
  rw [c5f] at hsz
  obtain ⟨fuel, hf⟩ := h
  obtain ⟨xs, n, _, hx, hl, hlen, hfs⟩ := DataW.trod_struct Tryz.underlying25 hf
  obtain ⟨y0, y1, y2, rfl⟩ : ∃ y0 y1 y2, xs = [y0, y1, y2] := by
    match xs, hlen with
    | [y0, y1, y2], _ => exact ⟨y0, y1, y2, rfl⟩
  have h0 := hfs 0 { name := "Banks", type := 22, offset := 0, embedded := false, tag := "", pkgPath := "", byteOffset := 0 } rfl
  have h1 := hfs 1 { name := "Erases", type := 23, offset := 2, embedded := false, tag := "", pkgPath := "", byteOffset := 32 } rfl
  have h2 := hfs 2 { name := "Limit", type := 3, offset := 4, embedded := false, tag := "", pkgPath := "", byteOffset := 48 } rfl
  obtain ⟨cs⟩ := cs
  match cs, hsz with
  | [x0, x1, x2, x3, x4], _ =>
    simp only [Value.cells, c5i, c5b, c5e, List.drop_zero, List.take_succ_cons, List.take_zero, List.drop_succ_cons, List.getElem?_cons_zero, List.getElem?_cons_succ] at h0 h1 h2
    obtain ⟨ws0, m0, _, _, _, hw0, k0⟩ := DataW.trod_array Tryz.underlying22 h0
    obtain ⟨ws1, m1, _, _, _, hw1, k1⟩ := DataW.trod_array Tryz.underlying23 h1
    obtain ⟨z0, hz0⟩ := some_of_get (k0 0 (by decide)) (by omega)
    obtain ⟨z1, hz1⟩ := some_of_get (k0 1 (by decide)) (by omega)
    obtain ⟨z2, hz2⟩ := some_of_get (k1 0 (by decide)) (by omega)
    obtain ⟨z3, hz3⟩ := some_of_get (k1 1 (by decide)) (by omega)
    simp only [c5s, c5i, Nat.zero_mul, Nat.one_mul, List.drop_zero, List.take_succ_cons, List.take_zero, List.drop_succ_cons] at hz0 hz1 hz2 hz3
    obtain ⟨a, b0, _⟩ := DataW.trod_string Tryz.underlying9 hz0
    obtain ⟨b, b1, _⟩ := DataW.trod_string Tryz.underlying9 hz1
    obtain ⟨e0, b2, _⟩ := DataW.trod_int Tryz.underlying3 hz2
    obtain ⟨e1, b3, _⟩ := DataW.trod_int Tryz.underlying3 hz3
    obtain ⟨li, b4, _⟩ := DataW.trod_int Tryz.underlying3 h2
    cases b0; cases b1; cases b2; cases b3; cases b4
    exact ⟨a.data.toList, b.data.toList, e0, e1, li, rfl⟩
end Go.Proofs.YtaniehjhmjecjaaGreatDoor
