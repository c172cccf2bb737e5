/- What the cards of layer 12 share: numbers that came in. -/
import Derived.Test.YtmjbpdhkpdpdjaaDoorP22
import Derived.Test.YtmjbpdhkpdpdjaaDoorPU64
namespace Go.Proofs.YtmjbpdhkpdpdjaaDoor
open Go.ChangeShapes Go.WideShapes Go.ChangeAt Go.RowKit Go.Joins Go.WideElems
set_option maxRecDepth 100000 in
theorem open_u64s {H : Type} {enc : TypeId × Value → H} {w : World} {base : Nat} {spare : Nat → Bool} {held : Bool} {r : Reach} {b0 : Nat} {v : Value} {d : DataW H} {p : List MemPlace}
    (hv : Value.okWide Tryd.prog w r b0 57 v) (h : DataW.Trod enc Tryd.prog w base spare held 57 v d p) : ∃ l, U64sAt w v l := by
  obtain ⟨sa, len, cap, rfl⟩ := okWide_slice Tryd.underlying57 hv
  obtain ⟨fuel, hf⟩ := h
  rcases Go.Deep.open_slice Tryd.underlying57 hf with ⟨hcs, _⟩ | ⟨a, l, c, m, n, D, Pl, hcs, _, hl, _, hm, _, hel⟩
  · simp [Value.cells] at hcs
    obtain ⟨rfl, rfl, rfl⟩ := hcs
    exact ⟨[], none, 0, rfl, by simp, .inl rfl⟩
  · simp [Value.cells] at hcs
    obtain ⟨rfl, rfl, rfl⟩ := hcs
    have hlm : len ≤ m := by rw [hm]; split <;> omega
    obtain ⟨F, hF⟩ := Go.Deep.choose_lt (n := len) (p := fun i (x : Nat) => x < 18446744073709551616 ∧ w.cell? (a.add i) = some (.int .u64 x)) (fun i hi => by
      obtain ⟨cs', h1, h2⟩ := hel i (by omega)
      obtain ⟨a0, b0, _, w0⟩ := DataW.trod_int Tryd.underlying30 h2
      obtain ⟨x, rfl, hx⟩ := u64_wf w0
      subst b0
      rw [c5u, Nat.mul_one] at h1
      exact ⟨x, hx, cell_of_cells?_one h1⟩)
    refine ⟨(List.range len).map F, some a, cap, by simp, ?_, ?_⟩
    · intro s hs
      obtain ⟨i, hi, rfl⟩ := List.mem_map.1 hs
      exact (hF i (List.mem_range.1 hi)).1
    · rcases Nat.eq_zero_or_pos len with h0 | h0
      · left; rw [h0]; rfl
      · right
        obtain ⟨b, off, spot⟩ := a
        have hs0 : spot = none := by
          have := (hF 0 h0).2
          simp only [Addr.add, if_pos] at this
          exact World.cell?_spot this
        subst hs0
        refine ⟨b, off, rfl, fun j s hj => ?_⟩
        have hjl : j < len := by
          have := (List.getElem?_eq_some_iff.1 hj).1
          simpa using this
        rw [List.getElem?_map, List.getElem?_range hjl] at hj
        cases hj
        have hc := (hF j hjl).2
        simp only [Go.WideShapes.add_plain] at hc
        exact hc
end Go.Proofs.YtmjbpdhkpdpdjaaDoor
