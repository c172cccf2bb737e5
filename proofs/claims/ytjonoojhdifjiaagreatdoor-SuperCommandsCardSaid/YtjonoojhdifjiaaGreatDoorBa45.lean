/- What the statement's proof stands on, part 45: Card20. -/
import Derived.Test.YtjonoojhdifjiaaGreatDoorBa44
import Derived.Test.YtjonoojhdifjiaaGreatDoorBa43
import Derived.Deep.Slices
import Derived.Deep.Strs
set_option linter.unusedSimpArgs false
set_option linter.unusedVariables false
set_option maxRecDepth 100000
set_option maxHeartbeats 4000000
namespace Go.Proofs.YtjonoojhdifjiaaGreatDoor
open Go.ChangeShapes Go.WideShapes Go.ChangeAt Go.RowKit Go.Joins Go.WideElems
open Go.ChangeMaps (open_string shut_string)
theorem i64_wf {x : Int} (h : (Lit.int .i64 x).wf = true) : -9223372036854775808 ≤ x ∧ x ≤ 9223372036854775807 := by
  have h0 : IntKind.i64.min = -9223372036854775808 := by decide
  have h1 : IntKind.i64.max = 9223372036854775807 := by decide
  simp [Lit.wf, h0, h1] at h
  omega
theorem f64_wf {b : Nat} (h : (Lit.float .f64 b).wf = true) : b < 18446744073709551616 := by
  simp [Lit.wf] at h
  omega
theorem trod_f64 {H : Type} {enc : TypeId × Value → H} {P : Program} {w : World} {base : Nat} {spare : Nat → Bool} {held : Bool} {fuel : Nat} {t : TypeId} {cs : List Value} {x : DataW H × List MemPlace} (ht : P.underlying t = some (.float .f64))
    (h : DataW.trod enc P w base spare held fuel t cs = some x) : ∃ n, cs = [.float .f64 n] ∧ n < 18446744073709551616 := by
  cases fuel with
  | zero => simp [DataW.trod] at h
  | succ n =>
    unfold DataW.trod at h
    rw [ht] at h
    split at h <;> simp_all
    exact f64_wf (by simp_all)
theorem c5st : Tryz.prog.cellsOf 27 = 6 := by kernel_rfl
theorem c5su : Tryz.prog.cellsOf 35 = 14 := by kernel_rfl
theorem c5pw : Tryz.prog.cellsOf 49 = 2 := by kernel_rfl
theorem c5cm : Tryz.prog.cellsOf 65 = 4 := by kernel_rfl
theorem c5sm : Tryz.prog.cellsOf 59 = 3 := by kernel_rfl
section
variable {H : Type} {enc : TypeId × Value → H} {w : World} {base : Nat} {spare : Nat → Bool} {held : Bool} {fuel : Nat} {cs : List Value} {x : DataW H × List MemPlace}
theorem trod_fl (h : DataW.trod enc Tryz.prog w base spare held fuel 25 cs = some x) : ∃ f : Dw.Fl, cs = (flC f).toList ∧ Dw.FlR f := by
  obtain ⟨xs, n, _, hx, hl, hlen, hfs⟩ := DataW.trod_struct Tryz.underlying25 h
  rw [c5f] at hl
  obtain ⟨y0, y1, y2, rfl⟩ : ∃ y0 y1 y2, xs = [y0, y1, y2] := by
    match xs, hlen with
    | [y0, y1, y2], _ => exact ⟨y0, y1, y2, rfl⟩
  have h0 := hfs 0 _ rfl
  have h1 := hfs 1 _ rfl
  have h2 := hfs 2 _ rfl
  match cs, hl with
  | [x0, x1, x2, x3, x4], _ =>
    simp only [List.getElem?_cons_zero, List.getElem?_cons_succ] at h0 h1 h2
    obtain ⟨ws0, m0, _, _, _, hw0, k0⟩ := DataW.trod_array Tryz.underlying22 h0
    obtain ⟨ws1, m1, _, _, _, hw1, k1⟩ := DataW.trod_array Tryz.underlying23 h1
    obtain ⟨z0, hz0⟩ := some_of_get (k0 0 (by decide)) (by omega)
    obtain ⟨z1, hz1⟩ := some_of_get (k0 1 (by decide)) (by omega)
    obtain ⟨z2, hz2⟩ := some_of_get (k1 0 (by decide)) (by omega)
    obtain ⟨z3, hz3⟩ := some_of_get (k1 1 (by decide)) (by omega)
    simp only [c5s, c5i, Nat.zero_mul, Nat.one_mul, List.drop_zero] at hz0 hz1 hz2 hz3
    obtain ⟨a, b0, _⟩ := DataW.trod_string Tryz.underlying9 hz0
    obtain ⟨b, b1, _⟩ := DataW.trod_string Tryz.underlying9 hz1
    obtain ⟨e0, b2, _, w0⟩ := DataW.trod_int Tryz.underlying3 hz2
    obtain ⟨e1, b3, _, w1⟩ := DataW.trod_int Tryz.underlying3 hz3
    obtain ⟨li, b4, _, w2⟩ := DataW.trod_int Tryz.underlying3 h2
    cases b0; cases b1; cases b2; cases b3; cases b4
    exact ⟨⟨a.data.toList, b.data.toList, e0, e1, li⟩, rfl, ⟨(i64_wf w2).2, (i64_wf w0).1, (i64_wf w1).1⟩⟩
theorem trod_st (h : DataW.trod enc Tryz.prog w base spare held fuel 27 cs = some x) : ∃ s : Dw.St, cs = (stC s).toList := by
  obtain ⟨xs, n, _, hx, hl, hlen, hfs⟩ := DataW.trod_struct Tryz.underlying27 h
  rw [c5st] at hl
  obtain ⟨y0, y1, y2, y3, y4, y5, rfl⟩ : ∃ y0 y1 y2 y3 y4 y5, xs = [y0, y1, y2, y3, y4, y5] := by
    match xs, hlen with
    | [y0, y1, y2, y3, y4, y5], _ => exact ⟨y0, y1, y2, y3, y4, y5, rfl⟩
  have h0 := hfs 0 _ rfl
  have h1 := hfs 1 _ rfl
  have h2 := hfs 2 _ rfl
  have h3 := hfs 3 _ rfl
  have h4 := hfs 4 _ rfl
  have h5 := hfs 5 _ rfl
  match cs, hl with
  | [x0, x1, x2, x3, x4, x5], _ =>
    simp only [List.getElem?_cons_zero, List.getElem?_cons_succ] at h0 h1 h2 h3 h4 h5
    obtain ⟨a0, b0, _⟩ := DataW.trod_int Tryz.underlying3 h0
    obtain ⟨a1, b1, _⟩ := DataW.trod_bool Tryz.underlying4 h1
    obtain ⟨a2, b2, _⟩ := DataW.trod_bool Tryz.underlying4 h2
    obtain ⟨a3, b3, _⟩ := DataW.trod_int Tryz.underlying3 h3
    obtain ⟨a4, b4, _⟩ := DataW.trod_int Tryz.underlying3 h4
    obtain ⟨a5, b5, _⟩ := DataW.trod_int Tryz.underlying3 h5
    cases b0; cases b1; cases b2; cases b3; cases b4; cases b5
    exact ⟨⟨a0, a1, a2, a3, a4, a5⟩, rfl⟩
theorem trod_su (h : DataW.trod enc Tryz.prog w base spare held fuel 35 cs = some x) : ∃ s : Dw.Su, cs = (suC s).toList ∧ Dw.FlR s.f := by
  obtain ⟨xs, n, _, hx, hl, hlen, hfs⟩ := DataW.trod_struct Tryz.underlying35 h
  rw [c5su] at hl
  obtain ⟨y0, y1, y2, y3, rfl⟩ : ∃ y0 y1 y2 y3, xs = [y0, y1, y2, y3] := by
    match xs, hlen with
    | [y0, y1, y2, y3], _ => exact ⟨y0, y1, y2, y3, rfl⟩
  have h0 := hfs 0 _ rfl
  have h1 := hfs 1 _ rfl
  have h2 := hfs 2 _ rfl
  have h3 := hfs 3 _ rfl
  match cs, hl with
  | [x0, x1, x2, x3, x4, x5, x6, x7, x8, x9, x10, x11, x12, x13], _ =>
    simp only [List.getElem?_cons_zero, List.getElem?_cons_succ] at h0 h1 h2 h3
    obtain ⟨f, hf, hr⟩ := trod_fl h0
    obtain ⟨s, hs⟩ := trod_st h1
    obtain ⟨a2, b2, _⟩ := DataW.trod_int Tryz.underlying3 h2
    obtain ⟨v0, v1, _, _, hl3, g0, g1⟩ := trod_struct2 Tryz.underlying33 h3
    simp only [c5i, List.drop_zero] at g0 g1
    obtain ⟨a3, b3, _⟩ := DataW.trod_int Tryz.underlying3 g0
    obtain ⟨a4, b4, _⟩ := DataW.trod_int Tryz.underlying3 g1
    cases hf; cases hs; cases b2; cases b3; cases b4
    exact ⟨⟨f, s, a2, a3, a4⟩, rfl, hr⟩
end
section
variable {H : Type} {enc : TypeId × Value → H} {w : World} {base : Nat} {spare : Nat → Bool} {held : Bool} {r : Reach} {b0 : Nat} {v : Value} {d : DataW H} {p : List MemPlace}
theorem open_st20 (hv : Value.okWide Tryz.prog w r b0 27 v) (h : DataW.Trod enc Tryz.prog w base spare held 27 v d p) : ∃ s : Dw.St, v = stV s := by
  obtain ⟨cs, rfl, _⟩ := okWide_struct Tryz.underlying27 hv
  obtain ⟨fuel, hf⟩ := h
  obtain ⟨f, hc⟩ := trod_st hf
  obtain ⟨cs⟩ := cs
  simp only [Value.cells] at hc
  subst hc
  exact ⟨f, rfl⟩
theorem open_su20 (hv : Value.okWide Tryz.prog w r b0 35 v) (h : DataW.Trod enc Tryz.prog w base spare held 35 v d p) : ∃ s : Dw.Su, v = suV s ∧ Dw.FlR s.f := by
  obtain ⟨cs, rfl, _⟩ := okWide_struct Tryz.underlying35 hv
  obtain ⟨fuel, hf⟩ := h
  obtain ⟨f, hc, hr⟩ := trod_su hf
  obtain ⟨cs⟩ := cs
  simp only [Value.cells] at hc
  subst hc
  exact ⟨f, rfl, hr⟩
theorem open_pw20 (hv : Value.okWide Tryz.prog w r b0 49 v) (h : DataW.Trod enc Tryz.prog w base spare held 49 v d p) : ∃ s : Dw.Pw, v = pwV s := by
  obtain ⟨cs, rfl, _⟩ := okWide_struct Tryz.underlying49 hv
  obtain ⟨fuel, hf⟩ := h
  obtain ⟨v0, v1, _, _, hl3, g0, g1⟩ := trod_struct2 Tryz.underlying49 hf
  obtain ⟨cs⟩ := cs
  simp only [Value.cells] at hl3 g0 g1
  rw [c5pw] at hl3
  match cs, hl3 with
  | [x0, x1], _ =>
    simp only [c5i, c5s, List.drop_zero, List.take_succ_cons, List.take_zero, List.drop_succ_cons] at g0 g1
    obtain ⟨a0, b0, _⟩ := DataW.trod_int Tryz.underlying3 g0
    obtain ⟨a1, b1, _⟩ := DataW.trod_string Tryz.underlying9 g1
    cases b0; cases b1
    exact ⟨⟨a0, a1.data.toList⟩, rfl⟩
theorem trod_cm {fuel : Nat} {cs : List Value} {x : DataW H × List MemPlace} (h : DataW.trod enc Tryz.prog w base spare held fuel 65 cs = some x) : ∃ c : Dw.Cmd, cs = (cmC c).toList ∧ c.la < 18446744073709551616 ∧ c.lo < 18446744073709551616 := by
  obtain ⟨xs, n, _, hx, hl, hlen, hfs⟩ := DataW.trod_struct Tryz.underlying65 h
  rw [c5cm] at hl
  obtain ⟨y0, y1, y2, y3, rfl⟩ : ∃ y0 y1 y2 y3, xs = [y0, y1, y2, y3] := by
    match xs, hlen with
    | [y0, y1, y2, y3], _ => exact ⟨y0, y1, y2, y3, rfl⟩
  have h0 := hfs 0 _ rfl
  have h1 := hfs 1 _ rfl
  have h2 := hfs 2 _ rfl
  have h3 := hfs 3 _ rfl
  match cs, hl with
  | [x0, x1, x2, x3], _ =>
    simp only [List.getElem?_cons_zero, List.getElem?_cons_succ] at h0 h1 h2 h3
    obtain ⟨a0, b0, _⟩ := DataW.trod_int Tryz.underlying3 h0
    obtain ⟨a1, b1, _⟩ := DataW.trod_int Tryz.underlying3 h1
    obtain ⟨a2, b2, l2⟩ := trod_f64 Tryz.underlying57 h2
    obtain ⟨a3, b3, l3⟩ := trod_f64 Tryz.underlying57 h3
    cases b0; cases b1; cases b2; cases b3
    exact ⟨⟨a0, a1, a2, a3⟩, rfl, l2, l3⟩
theorem open_cm20 (hv : Value.okWide Tryz.prog w r b0 65 v) (h : DataW.Trod enc Tryz.prog w base spare held 65 v d p) : ∃ c : Dw.Cmd, v = cmV c ∧ c.la < 18446744073709551616 ∧ c.lo < 18446744073709551616 := by
  obtain ⟨cs, rfl, _⟩ := okWide_struct Tryz.underlying65 hv
  obtain ⟨fuel, hf⟩ := h
  obtain ⟨f, hc, hr⟩ := trod_cm hf
  obtain ⟨cs⟩ := cs
  simp only [Value.cells] at hc
  subst hc
  exact ⟨f, rfl, hr⟩
theorem trod_sm {fuel : Nat} {cs : List Value} {x : DataW H × List MemPlace} (h : DataW.trod enc Tryz.prog w base spare held fuel 59 cs = some x) : ∃ a b c : Nat, cs = (smC a b c).toList ∧ b < 18446744073709551616 := by
  obtain ⟨xs, n, _, hx, hl, hlen, hfs⟩ := DataW.trod_struct Tryz.underlying59 h
  rw [c5sm] at hl
  obtain ⟨y0, y1, y2, rfl⟩ : ∃ y0 y1 y2, xs = [y0, y1, y2] := by
    match xs, hlen with
    | [y0, y1, y2], _ => exact ⟨y0, y1, y2, rfl⟩
  have h0 := hfs 0 _ rfl
  have h1 := hfs 1 _ rfl
  have h2 := hfs 2 _ rfl
  match cs, hl with
  | [x0, x1, x2], _ =>
    simp only [List.getElem?_cons_zero, List.getElem?_cons_succ] at h0 h1 h2
    obtain ⟨a0, b0, _⟩ := trod_f64 Tryz.underlying57 h0
    obtain ⟨a1, b1, l1⟩ := trod_f64 Tryz.underlying57 h1
    obtain ⟨a2, b2, _⟩ := trod_f64 Tryz.underlying57 h2
    cases b0; cases b1; cases b2
    exact ⟨a0, a1, a2, rfl, l1⟩
theorem open_sm20 (hv : Value.okWide Tryz.prog w r b0 59 v) (h : DataW.Trod enc Tryz.prog w base spare held 59 v d p) : ∃ a b c : Nat, v = smV a b c ∧ b < 18446744073709551616 := by
  obtain ⟨cs, rfl, _⟩ := okWide_struct Tryz.underlying59 hv
  obtain ⟨fuel, hf⟩ := h
  obtain ⟨a, b, c, hc, hr⟩ := trod_sm hf
  obtain ⟨cs⟩ := cs
  simp only [Value.cells] at hc
  subst hc
  exact ⟨a, b, c, rfl, hr⟩
end
end Go.Proofs.YtjonoojhdifjiaaGreatDoor
