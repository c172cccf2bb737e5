/- What the statement's proof stands on, part 44: Card20. -/
import Derived.Test.YtjonoojhdifjiaaGreatDoorBb43
import Derived.Test.YtjonoojhdifjiaaGreatDoorBb42
import Derived.Deep.Slices
import Derived.Deep.Strs
set_option linter.unusedSimpArgs false
set_option linter.unusedVariables false
set_option maxRecDepth 100000
set_option maxHeartbeats 4000000
namespace Go.Proofs.YtjonoojhdifjiaaGreatDoor
open Go.ChangeShapes Go.WideShapes Go.ChangeAt Go.RowKit Go.Joins Go.WideElems
open Go.ChangeMaps (open_string shut_string)
theorem i64_wf {x : Int} (h : (Lit.int .i64 x).wf = true) : -9223372036854775808 ≤ x ∧ x ≤ 9223372036854775807 := by
  have h0 : IntKind.i64.min = -9223372036854775808 := by decide
  have h1 : IntKind.i64.max = 9223372036854775807 := by decide
  simp [Lit.wf, h0, h1] at h
  omega
theorem c5st : Tryz.prog.cellsOf 27 = 6 := by kernel_rfl
section
variable {H : Type} {enc : TypeId × Value → H} {w : World} {base : Nat} {spare : Nat → Bool} {held : Bool} {fuel : Nat} {cs : List Value} {x : DataW H × List MemPlace}
theorem trod_fl (h : DataW.trod enc Tryz.prog w base spare held fuel 25 cs = some x) : ∃ f : Dw.Fl, cs = (flC f).toList ∧ Dw.FlR f := by
  obtain ⟨xs, n, _, hx, hl, hlen, hfs⟩ := DataW.trod_struct Tryz.underlying25 h
  rw [c5f] at hl
  obtain ⟨y0, y1, y2, rfl⟩ : ∃ y0 y1 y2, xs = [y0, y1, y2] := by
    match xs, hlen with
    | [y0, y1, y2], _ => exact ⟨y0, y1, y2, rfl⟩
  have h0 := hfs 0 _ rfl
  have h1 := hfs 1 _ rfl
  have h2 := hfs 2 _ rfl
  match cs, hl with
  | [x0, x1, x2, x3, x4], _ =>
    simp only [List.getElem?_cons_zero, List.getElem?_cons_succ] at h0 h1 h2
    obtain ⟨ws0, m0, _, _, _, hw0, k0⟩ := DataW.trod_array Tryz.underlying22 h0
    obtain ⟨ws1, m1, _, _, _, hw1, k1⟩ := DataW.trod_array Tryz.underlying23 h1
    obtain ⟨z0, hz0⟩ := some_of_get (k0 0 (by decide)) (by omega)
    obtain ⟨z1, hz1⟩ := some_of_get (k0 1 (by decide)) (by omega)
    obtain ⟨z2, hz2⟩ := some_of_get (k1 0 (by decide)) (by omega)
    obtain ⟨z3, hz3⟩ := some_of_get (k1 1 (by decide)) (by omega)
    simp only [c5s, c5i, Nat.zero_mul, Nat.one_mul, List.drop_zero] at hz0 hz1 hz2 hz3
    obtain ⟨a, b0, _⟩ := DataW.trod_string Tryz.underlying9 hz0
    obtain ⟨b, b1, _⟩ := DataW.trod_string Tryz.underlying9 hz1
    obtain ⟨e0, b2, _, w0⟩ := DataW.trod_int Tryz.underlying3 hz2
    obtain ⟨e1, b3, _, w1⟩ := DataW.trod_int Tryz.underlying3 hz3
    obtain ⟨li, b4, _, w2⟩ := DataW.trod_int Tryz.underlying3 h2
    cases b0; cases b1; cases b2; cases b3; cases b4
    exact ⟨⟨a.data.toList, b.data.toList, e0, e1, li⟩, rfl, ⟨(i64_wf w2).2, (i64_wf w0).1, (i64_wf w1).1⟩⟩
theorem trod_st (h : DataW.trod enc Tryz.prog w base spare held fuel 27 cs = some x) : ∃ s : Dw.St, cs = (stC s).toList := by
  obtain ⟨xs, n, _, hx, hl, hlen, hfs⟩ := DataW.trod_struct Tryz.underlying27 h
  rw [c5st] at hl
  obtain ⟨y0, y1, y2, y3, y4, y5, rfl⟩ : ∃ y0 y1 y2 y3 y4 y5, xs = [y0, y1, y2, y3, y4, y5] := by
    match xs, hlen with
    | [y0, y1, y2, y3, y4, y5], _ => exact ⟨y0, y1, y2, y3, y4, y5, rfl⟩
  have h0 := hfs 0 _ rfl
  have h1 := hfs 1 _ rfl
  have h2 := hfs 2 _ rfl
  have h3 := hfs 3 _ rfl
  have h4 := hfs 4 _ rfl
  have h5 := hfs 5 _ rfl
  match cs, hl with
  | [x0, x1, x2, x3, x4, x5], _ =>
    simp only [List.getElem?_cons_zero, List.getElem?_cons_succ] at h0 h1 h2 h3 h4 h5
    obtain ⟨a0, b0, _⟩ := DataW.trod_int Tryz.underlying3 h0
    obtain ⟨a1, b1, _⟩ := DataW.trod_bool Tryz.underlying4 h1
    obtain ⟨a2, b2, _⟩ := DataW.trod_bool Tryz.underlying4 h2
    obtain ⟨a3, b3, _⟩ := DataW.trod_int Tryz.underlying3 h3
    obtain ⟨a4, b4, _⟩ := DataW.trod_int Tryz.underlying3 h4
    obtain ⟨a5, b5, _⟩ := DataW.trod_int Tryz.underlying3 h5
    cases b0; cases b1; cases b2; cases b3; cases b4; cases b5
    exact ⟨⟨a0, a1, a2, a3, a4, a5⟩, rfl⟩
end
section
variable {H : Type} {enc : TypeId × Value → H} {w : World} {base : Nat} {spare : Nat → Bool} {held : Bool} {r : Reach} {b0 : Nat} {v : Value} {d : DataW H} {p : List MemPlace}
theorem open_fl20 (hv : Value.okWide Tryz.prog w r b0 25 v) (h : DataW.Trod enc Tryz.prog w base spare held 25 v d p) : ∃ f : Dw.Fl, v = flV f ∧ Dw.FlR f := by
  obtain ⟨cs, rfl, _⟩ := okWide_struct Tryz.underlying25 hv
  obtain ⟨fuel, hf⟩ := h
  obtain ⟨f, hc, hr⟩ := trod_fl hf
  obtain ⟨cs⟩ := cs
  simp only [Value.cells] at hc
  subst hc
  exact ⟨f, rfl, hr⟩
theorem open_st20 (hv : Value.okWide Tryz.prog w r b0 27 v) (h : DataW.Trod enc Tryz.prog w base spare held 27 v d p) : ∃ s : Dw.St, v = stV s := by
  obtain ⟨cs, rfl, _⟩ := okWide_struct Tryz.underlying27 hv
  obtain ⟨fuel, hf⟩ := h
  obtain ⟨f, hc⟩ := trod_st hf
  obtain ⟨cs⟩ := cs
  simp only [Value.cells] at hc
  subst hc
  exact ⟨f, rfl⟩
end
end Go.Proofs.YtjonoojhdifjiaaGreatDoor
