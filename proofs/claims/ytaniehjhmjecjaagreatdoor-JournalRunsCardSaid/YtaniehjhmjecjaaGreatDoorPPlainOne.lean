/- Layer 12, plain: what a step puts, where a log stands. -/
import Derived.Test.YtaniehjhmjecjaaGreatDoorP20
namespace Go.Proofs.YtaniehjhmjecjaaGreatDoor
open Go.RowKit Go.Shelf
namespace Dw
theorem putG_ok {f : Fl} (hf : FlOk f) {s : Stp} (hp : (plan f s.data).2 = 0) : FlOk (putG f s).1 := by
  obtain ⟨L, hlen, hok, _, _⟩ := plan_ok hf hp
  exact (play_ok s.cut s.mask _ f 0 hf hlen hok).1
/-- What the statement JournalOne says of what is put: er, the error; g, what stands then; ack. -/
structure Put1 (f : Fl) (s : Stp) (g : Fl) (ack : Bool) (er : Int) : Prop where
  ok : FlOk g
  val : (plan f s.data).2 = er ∧ (er = 0 → (putG f s).1 = g ∧ ackB f s = ack) ∧ (er ≠ 0 → g = f ∧ ack = false)
  law : (er = 4 ∧ g = f ∧ ack = false) ∨ (er = 0 ∧ ((ack = true ∧ readE g.a g.b = 0 ∧ (readS g.a g.b).data = s.data) ∨
    (0 ≤ s.cut ∧ s.cut ≤ 5 ∧ (((readE g.a g.b = 0 ∧ (readS g.a g.b).data = s.data)) ∨ ((readS g.a g.b).data = (readS f.a f.b).data ∧ readE g.a g.b = readE f.a f.b)))))
theorem same_read {n N M : Nat} {f g : Fl} {c : Option Cur} (hf : Inv n N f c) (hg : Inv n M g c) : (readS g.a g.b).data = (readS f.a f.b).data ∧ readE g.a g.b = readE f.a f.b := by
  have h1 := inv_read hf; have h2 := inv_read hg
  cases c with
  | none => rw [h1.1, h1.2, h2.1, h2.2]; exact ⟨rfl, rfl⟩
  | some c => rw [h1.1, h1.2, h2.1, h2.2]; exact ⟨rfl, rfl⟩
theorem put_one {n N : Nat} {l : Lg} {c : Option Cur} (hI : Inv n N l.f c) (hr : Rel l c) (ho : FlOk l.f) (hN : N + 1 < 18446744073709551615) (s : Stp) (hd : s.data < 18446744073709551616) : ∃ g ack er, Put1 l.f s g ack er := by
  have D := step_log hI hr hN s hd
  rcases D.err with h0 | ⟨h4, _⟩
  · refine ⟨(putG l.f s).1, ackB l.f s, 0, putG_ok ho h0, ⟨h0, fun _ => ⟨rfl, rfl⟩, fun h => absurd rfl h⟩, .inr ⟨rfl, ?_⟩⟩
    rcases D.ok h0 with ⟨ha, c', hc, hi⟩ | ⟨c0, c5, hi | ⟨c', hc, hi⟩⟩
    · have := inv_read hi
      rw [this.1, this.2]
      exact .inl ⟨ha, rfl, hc⟩
    · exact .inr ⟨c0, c5, .inr (same_read hI hi)⟩
    · have := inv_read hi
      rw [this.1, this.2]
      exact .inr ⟨c0, c5, .inl ⟨rfl, hc⟩⟩
  · exact ⟨l.f, false, 4, ho, ⟨h4, fun h => absurd h (by decide), fun _ => ⟨rfl, rfl⟩⟩, .inl ⟨rfl, rfl, rfl⟩⟩
/-- A step that is not cut: it is told that the flash is worn, or it is acknowledged, and read. -/
theorem put_whole {n N : Nat} {l : Lg} {c : Option Cur} (hI : Inv n N l.f c) (hr : Rel l c) (ho : FlOk l.f) (hN : N + 1 < 18446744073709551615) (s : Stp) (hd : s.data < 18446744073709551616) (hc : s.cut < 0) :
    Put1 l.f s l.f false 4 ∧ l.f.li ≤ N ∨ ∃ g, Put1 l.f s g true 0 ∧ readE g.a g.b = 0 ∧ (readS g.a g.b).data = s.data := by
  have D := step_log hI hr hN s hd
  obtain ⟨g, ack, er, hp⟩ := put_one hI hr ho hN s hd
  rcases hp.law with ⟨rfl, rfl, rfl⟩ | ⟨rfl, ⟨rfl, h1, h2⟩ | ⟨h0, _⟩⟩
  · rcases D.err with h | ⟨_, h⟩
    · have := hp.val.1
      rw [h] at this
      cases this
    · exact .inl ⟨hp, h⟩
  · exact .inr ⟨g, hp, h1, h2⟩
  · omega
end Dw
theorem put_val {f : Dw.Fl} {s : Dw.Stp} {g : Dw.Fl} {ack : Bool} {er : Int} (h : Dw.Put1 f s g ack er) : putV f s = .tuple #[flV g, .bool ack, .int .i64 er] := by
  obtain ⟨h1, h2, h3⟩ := h.val
  unfold putV
  rw [h1]
  by_cases h0 : er = 0
  · obtain ⟨a, b⟩ := h2 h0
    rw [if_pos h0, a, b, h0]
  · obtain ⟨a, b⟩ := h3 h0
    rw [if_neg h0, a, b]
theorem one_at {w : World} {b : Nat} {s : Dw.Stp} (hd : s.data < 18446744073709551616) (h : w.heap[b]? = some (.cells (stpC s) 49 (0, 0))) : StepsAt w (.slice (some ⟨b, 0, none⟩) 1 1) [s] := by
  refine ⟨_, _, rfl, by simpa using hd, .inr ⟨b, 0, rfl, ?_⟩⟩
  rintro (_ | j) x hj <;> cases hj
  refine ⟨?_, ?_, ?_⟩ <;> exact cell_of_row _ _ _ _ _ _ h
end Go.Proofs.YtaniehjhmjecjaaGreatDoor
