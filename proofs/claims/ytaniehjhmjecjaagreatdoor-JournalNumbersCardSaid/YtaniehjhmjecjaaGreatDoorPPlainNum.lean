/- Layer 12, plain: the numbers of what is read. -/
import Derived.Test.YtaniehjhmjecjaaGreatDoorP20
namespace Go.Proofs.YtaniehjhmjecjaaGreatDoor
open Go.RowKit Go.Shelf
namespace Dw
theorem num_step {n N : Nat} {l : Lg} {c : Option Cur} (hI : Inv n N l.f c) (hN : N + 1 < 18446744073709551615) (s : Stp) (hd : s.data < 18446744073709551616) :
    ∃ c', Inv n (N + 1) (playJ l s).f c' ∧ seqOf c ≤ seqOf c' ∧ (c' = none → c = none) ∧ ((playJ l s).acked = l.acked ∨ ((playJ l s).acked = l.acked + 1 ∧ ∃ k, c' = some k ∧ k.seq = seqOf c + 1)) := by
  rcases step_done hI hN s.data s.cut s.mask hd with ⟨h4, _, _⟩ | hD
  · have : playJ l s = l := by unfold playJ; rw [if_pos (by rw [h4]; decide)]
    rw [this]
    exact ⟨c, inv_mono hI (Nat.le_succ _), Nat.le_refl _, id, .inl rfl⟩
  · have hp : ¬ (plan l.f s.data).2 ≠ 0 := fun h => h hD.ok
    rcases hD.res with ⟨_, hn, c', hq, hda, hI'⟩ | ⟨_, _, hn, hrest⟩
    · rw [← putG_eq] at hn hI'
      have ha := ack_true hn hda hI'
      have : playJ l s = ⟨(putG l.f s).1, l.acked + 1, s.data, false, 0⟩ := by unfold playJ; rw [if_neg hp, if_pos ha]
      rw [this]
      exact ⟨some c', hI', by show seqOf c ≤ c'.seq; omega, fun h => (by cases h), .inr ⟨rfl, c', rfl, hq⟩⟩
    · rw [← putG_eq] at hn
      have ha : ¬ ackB l.f s = true := by rw [ack_false hn]; decide
      rcases hrest with hI' | ⟨c', hq, hda, hI'⟩
      · rw [← putG_eq] at hI'
        have : playJ l s = ⟨(putG l.f s).1, l.acked, l.last, l.flying, l.flight⟩ := by unfold playJ; rw [if_neg hp, if_neg ha, if_neg (by rw [seen_same hI hI']; decide)]
        rw [this]
        exact ⟨c, hI', Nat.le_refl _, id, .inl rfl⟩
      · rw [← putG_eq] at hI'
        have : playJ l s = ⟨(putG l.f s).1, l.acked, l.last, true, s.data⟩ := by unfold playJ; rw [if_neg hp, if_neg ha, if_pos (seen_new hI hI' hq)]
        rw [this]
        exact ⟨some c', hI', by show seqOf c ≤ c'.seq; omega, fun h => (by cases h), .inl rfl⟩
/-- Where a log stands behind N steps, of which the last one that was read has the number q. -/
structure NumSt (n N : Nat) (l : Lg) (q : Nat) : Prop where
  inv : ∃ c, Inv n N l.f c ∧ seqOf c = q
  ok : FlOk l.f
  ac : 0 ≤ l.acked ∧ l.acked ≤ N
structure NumNext (n N : Nat) (l : Lg) (q : Nat) (y : Lg) (rs : PS) (re : Int) : Prop where
  yok : FlOk y.f
  res : (re = 10 ∧ y.acked = l.acked ∧ NumSt n (N + 1) y q) ∨ (re = 0 ∧ q ≤ rs.seq ∧ rs.seq ≤ N + 1 ∧ (y.acked = l.acked ∨ (y.acked = l.acked + 1 ∧ q < rs.seq)) ∧ NumSt n (N + 1) y rs.seq)
theorem num_next {n N : Nat} {l : Lg} {q : Nat} (h : NumSt n N l q) (hN : N + 1 < 18446744073709551615) (s : Stp) (hd : s.data < 18446744073709551616) :
    NumNext n N l q (playJ l s) (readS (playJ l s).f.a (playJ l s).f.b) (readE (playJ l s).f.a (playJ l s).f.b) := by
  obtain ⟨⟨c, hI, hq⟩, hok, hac⟩ := h
  obtain ⟨c', hI', hle, hnn, hack⟩ := num_step hI hN s hd
  have hyok := playJ_ok hok s
  have hr := inv_read hI'
  refine ⟨hyok, ?_⟩
  have hac' : 0 ≤ (playJ l s).acked ∧ (playJ l s).acked ≤ (N + 1 : Nat) := by rcases hack with e | ⟨e, _⟩ <;> rw [e] <;> omega
  cases c' with
  | none =>
    obtain ⟨r1, r2⟩ := hr
    obtain rfl := hnn rfl
    rcases hack with e | ⟨_, k, hk, _⟩
    · exact .inl ⟨r2, e, ⟨⟨none, hI', hq⟩, hyok, hac'⟩⟩
    · cases hk
  | some k =>
    obtain ⟨r1, r2⟩ := hr
    have hks : k.seq ≤ N + 1 := hI'.st.2.2.2.2.1
    refine .inr ⟨r2, by rw [r1, ← hq]; exact hle, by rw [r1]; exact hks, ?_, ⟨⟨some k, hI', by rw [r1]; rfl⟩, hyok, hac'⟩⟩
    rcases hack with e | ⟨e, k', hk, hks'⟩
    · exact .inl e
    · cases hk
      exact .inr ⟨e, by rw [r1]; show q < k.seq; omega⟩
end Dw
end Go.Proofs.YtaniehjhmjecjaaGreatDoor
