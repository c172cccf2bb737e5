/- What the cards share: a flash that came in, its numbers in range. -/
import Derived.Test.YtaniehjhmjecjaaGreatDoorP21
import Derived.Test.YtaniehjhmjecjaaGreatDoorP22
import Derived.Test.YtaniehjhmjecjaaGreatDoorP14
namespace Go.Proofs.YtaniehjhmjecjaaGreatDoor
open Go.ChangeShapes Go.WideShapes Go.ChangeAt Go.RowKit Go.Joins Go.WideElems
open Go.ChangeMaps (open_string shut_string)

theorem i64_wf {x : Int} (h : (Lit.int .i64 x).wf = true) : -9223372036854775808 ≤ x ∧ x ≤ 9223372036854775807 := by
  have h0 : IntKind.i64.min = -9223372036854775808 := by decide
  have h1 : IntKind.i64.max = 9223372036854775807 := by decide
  simp [Lit.wf, h0, h1] at h
  exact h
set_option maxRecDepth 100000 in
theorem open_fl {H : Type} {enc : TypeId × Value → H} {w : World} {base : Nat} {spare : Nat → Bool} {held : Bool} {r : Reach} {b0 : Nat} {v : Value} {d : DataW H} {p : List MemPlace}
    (hv : Value.okWide Tryz.prog w r b0 25 v) (h : DataW.Trod enc Tryz.prog w base spare held 25 v d p) :
    ∃ f : Dw.Fl, v = flV f ∧ f.li ≤ 9223372036854775807 ∧ -9223372036854775808 ≤ f.e0 ∧ -9223372036854775808 ≤ f.e1 := by
  obtain ⟨cs, rfl, hsz⟩ := okWide_struct Tryz.underlying25 hv
  rw [c5f] at hsz
  obtain ⟨fuel, hf⟩ := h
  obtain ⟨xs, n, _, hx, hl, hlen, hfs⟩ := DataW.trod_struct Tryz.underlying25 hf
  obtain ⟨y0, y1, y2, rfl⟩ : ∃ y0 y1 y2, xs = [y0, y1, y2] := by
    match xs, hlen with
    | [y0, y1, y2], _ => exact ⟨y0, y1, y2, rfl⟩
  have h0 := hfs 0 { name := "Banks", type := 22, offset := 0, embedded := false, tag := "", pkgPath := "", byteOffset := 0 } rfl
  have h1 := hfs 1 { name := "Erases", type := 23, offset := 2, embedded := false, tag := "", pkgPath := "", byteOffset := 32 } rfl
  have h2 := hfs 2 { name := "Limit", type := 3, offset := 4, embedded := false, tag := "", pkgPath := "", byteOffset := 48 } rfl
  obtain ⟨cs⟩ := cs
  match cs, hsz with
  | [x0, x1, x2, x3, x4], _ =>
    simp only [Value.cells, c5i, c5b, c5e, List.drop_zero, List.take_succ_cons, List.take_zero, List.drop_succ_cons, List.getElem?_cons_zero, List.getElem?_cons_succ] at h0 h1 h2
    obtain ⟨ws0, m0, _, _, _, hw0, k0⟩ := DataW.trod_array Tryz.underlying22 h0
    obtain ⟨ws1, m1, _, _, _, hw1, k1⟩ := DataW.trod_array Tryz.underlying23 h1
    obtain ⟨z0, hz0⟩ := some_of_get (k0 0 (by decide)) (by omega)
    obtain ⟨z1, hz1⟩ := some_of_get (k0 1 (by decide)) (by omega)
    obtain ⟨z2, hz2⟩ := some_of_get (k1 0 (by decide)) (by omega)
    obtain ⟨z3, hz3⟩ := some_of_get (k1 1 (by decide)) (by omega)
    simp only [c5s, c5i, Nat.zero_mul, Nat.one_mul, List.drop_zero, List.take_succ_cons, List.take_zero, List.drop_succ_cons] at hz0 hz1 hz2 hz3
    obtain ⟨a, b0, _⟩ := DataW.trod_string Tryz.underlying9 hz0
    obtain ⟨b, b1, _⟩ := DataW.trod_string Tryz.underlying9 hz1
    obtain ⟨e0, b2, _, w0⟩ := DataW.trod_int Tryz.underlying3 hz2
    obtain ⟨e1, b3, _, w1⟩ := DataW.trod_int Tryz.underlying3 hz3
    obtain ⟨li, b4, _, w2⟩ := DataW.trod_int Tryz.underlying3 h2
    cases b0; cases b1; cases b2; cases b3; cases b4
    exact ⟨⟨a.data.toList, b.data.toList, e0, e1, li⟩, rfl, (i64_wf w2).2, (i64_wf w0).1, (i64_wf w1).1⟩
end Go.Proofs.YtaniehjhmjecjaaGreatDoor
