/- What the statement's proof stands on, part 22: CardSteps. -/
import Derived.Test.YtaniehjhmjecjaaGreatDoorP21
import Derived.Test.YtaniehjhmjecjaaGreatDoorP20
import Derived.Deep.Slices
import Derived.Deep.Strs

/- What the cards of layer 12 share: steps, numbers that came in. -/
namespace Go.Proofs.YtaniehjhmjecjaaGreatDoor
open Go.ChangeShapes Go.WideShapes Go.ChangeAt Go.RowKit Go.Joins Go.WideElems
open Go.ChangeMaps (open_string shut_string)

theorem c5t : Tryz.prog.cellsOf 49 = 3 := by kernel_rfl
theorem u64_wf {x : Int} (h : (Lit.int .u64 x).wf = true) : ∃ n : Nat, x = (n : Int) ∧ n < 18446744073709551616 := by
  have h0 : IntKind.u64.min = 0 := by decide
  have h1 : IntKind.u64.max = 18446744073709551615 := by decide
  simp [Lit.wf, h0, h1] at h
  exact ⟨x.toNat, by omega, by omega⟩
theorem u8_wf {x : Int} (h : (Lit.int .u8 x).wf = true) : ∃ n : Nat, x = (n : Int) ∧ n < 256 := by
  have h0 : IntKind.u8.min = 0 := by decide
  have h1 : IntKind.u8.max = 255 := by decide
  simp [Lit.wf, h0, h1] at h
  exact ⟨x.toNat, by omega, by omega⟩
set_option maxRecDepth 100000 in
/-- One step, read. -/
theorem open_stp {H : Type} {enc : TypeId × Value → H} {w : World} {base : Nat} {spare : Nat → Bool} {held : Bool} {fuel : Nat} {cs : List Value} {x : DataW H × List MemPlace}
    (h : DataW.trod enc Tryz.prog w base spare held fuel 49 cs = some x) : ∃ s : Dw.Stp, cs = [.int .u64 s.data, .int .i64 s.cut, .string ⟨s.mask.toArray⟩] ∧ s.data < 18446744073709551616 := by
  obtain ⟨y0, y1, y2, n, _, hl, h0, h1, h2⟩ := Go.Deep.trod_struct3 Tryz.underlying49 h
  rw [c5t] at hl
  match cs, hl with
  | [x0, x1, x2], _ =>
    simp only [c5i, c5u, c5s, List.drop_zero, List.take_succ_cons, List.take_zero, List.drop_succ_cons] at h0 h1 h2
    obtain ⟨a0, b0, _, w0⟩ := DataW.trod_int Tryz.underlying26 h0
    obtain ⟨a1, b1, _, _⟩ := DataW.trod_int Tryz.underlying3 h1
    obtain ⟨a2, b2, _⟩ := DataW.trod_string Tryz.underlying9 h2
    obtain ⟨n, rfl, hn⟩ := u64_wf w0
    cases b0; cases b1; cases b2
    exact ⟨⟨n, a1, a2.data.toList⟩, rfl, hn⟩
set_option maxRecDepth 100000 in
theorem open_step {H : Type} {enc : TypeId × Value → H} {w : World} {base : Nat} {spare : Nat → Bool} {held : Bool} {r : Reach} {b0 : Nat} {v : Value} {d : DataW H} {p : List MemPlace}
    (hv : Value.okWide Tryz.prog w r b0 49 v) (h : DataW.Trod enc Tryz.prog w base spare held 49 v d p) : ∃ s : Dw.Stp, v = stpV s ∧ s.data < 18446744073709551616 := by
  obtain ⟨cs, rfl, _⟩ := okWide_struct Tryz.underlying49 hv
  obtain ⟨fuel, hf⟩ := h
  obtain ⟨s, hs, hd⟩ := open_stp hf
  obtain ⟨cs⟩ := cs
  simp only [Value.cells] at hs
  subst hs
  exact ⟨s, rfl, hd⟩
set_option maxRecDepth 100000 in
/-- A slice of steps, read. -/
theorem open_steps {H : Type} {enc : TypeId × Value → H} {w : World} {base : Nat} {spare : Nat → Bool} {held : Bool} {r : Reach} {b0 : Nat} {v : Value} {d : DataW H} {p : List MemPlace}
    (hv : Value.okWide Tryz.prog w r b0 51 v) (h : DataW.Trod enc Tryz.prog w base spare held 51 v d p) : ∃ l, StepsAt w v l := by
  obtain ⟨sa, len, cap, rfl⟩ := okWide_slice Tryz.underlying51 hv
  obtain ⟨fuel, hf⟩ := h
  rcases Go.Deep.open_slice Tryz.underlying51 hf with ⟨hcs, _⟩ | ⟨a, l, c, m, n, D, Pl, hcs, _, hl, _, hm, _, hel⟩
  · simp [Value.cells] at hcs
    obtain ⟨rfl, rfl, rfl⟩ := hcs
    exact ⟨[], none, 0, rfl, by simp, .inl rfl⟩
  · simp [Value.cells] at hcs
    obtain ⟨rfl, rfl, rfl⟩ := hcs
    have hlm : len ≤ m := by rw [hm]; split <;> omega
    haveI : Inhabited Dw.Stp := ⟨⟨0, 0, []⟩⟩
    obtain ⟨F, hF⟩ := Go.Deep.choose_lt (n := len) (p := fun i (s : Dw.Stp) => s.data < 18446744073709551616 ∧ ∀ j, j < 3 → w.cell? ((a.add (i * 3)).add j) = [Value.int .u64 s.data, .int .i64 s.cut, .string ⟨s.mask.toArray⟩][j]?) (fun i hi => by
      obtain ⟨cs', h1, h2⟩ := hel i (by omega)
      obtain ⟨s, rfl, hd⟩ := open_stp h2
      rw [c5t] at h1
      obtain ⟨_, _, hc⟩ := World.cells?_some h1
      exact ⟨s, hd, fun j hj => hc j hj⟩)
    refine ⟨(List.range len).map F, some a, cap, by simp, ?_, ?_⟩
    · intro s hs
      obtain ⟨i, hi, rfl⟩ := List.mem_map.1 hs
      exact (hF i (List.mem_range.1 hi)).1
    · rcases Nat.eq_zero_or_pos len with h0 | h0
      · left; rw [h0]; rfl
      · right
        obtain ⟨b, off, spot⟩ := a
        have hs0 : spot = none := by
          have := (hF 0 h0).2 0 (by decide)
          simp only [Nat.zero_mul, Addr.add, if_pos, List.getElem?_cons_zero] at this
          exact World.cell?_spot this
        subst hs0
        refine ⟨b, off, rfl, fun j s hj => ?_⟩
        have hjl : j < len := by
          have := (List.getElem?_eq_some_iff.1 hj).1
          simpa using this
        rw [List.getElem?_map, List.getElem?_range hjl] at hj
        cases hj
        have hc := (hF j hjl).2
        simp only [Go.WideShapes.add_plain] at hc
        exact ⟨hc 0 (by decide), hc 1 (by decide), hc 2 (by decide)⟩
end Go.Proofs.YtaniehjhmjecjaaGreatDoor
