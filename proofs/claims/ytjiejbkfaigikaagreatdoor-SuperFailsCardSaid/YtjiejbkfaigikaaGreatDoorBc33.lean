/- What the statement's proof stands on, part 33: PlainCmd. -/
import Derived.Test.YtjiejbkfaigikaaGreatDoorBc31
import Derived.Test.YtjiejbkfaigikaaGreatDoorBc32
set_option linter.unusedSimpArgs false
set_option linter.unusedVariables false
set_option maxRecDepth 100000
set_option maxHeartbeats 4000000
namespace Go.Proofs.YtjiejbkfaigikaaGreatDoor
open Go.RowKit Go.Shelf
namespace Dw
open Ieee
theorem c90 : double.read 4636033603912859648 = .number false 6333186975989760 (-1074 + ((uO - 46 : Nat) : Int)) := by
  rw [show -1074 + ((uO - 46 : Nat) : Int) = -46 by have := uO_eq; omega]
  decide +kernel
theorem c180 : double.read 4640537203540230144 = .number false 6333186975989760 (-1074 + ((uO - 45 : Nat) : Int)) := by
  rw [show -1074 + ((uO - 45 : Nat) : Int) = -45 by have := uO_eq; omega]
  decide +kernel
theorem v90 : 6333186975989760 * 2 ^ (uO - 46) = 90 * onU := by
  have := uO_eq
  rw [onU_pow, show (6333186975989760 : Nat) = 90 * 2 ^ 46 from rfl, Nat.mul_assoc, ← Nat.pow_add, show 46 + (uO - 46) = uO by omega]
theorem v180 : 6333186975989760 * 2 ^ (uO - 45) = 180 * onU := by
  have := uO_eq
  rw [onU_pow, show (6333186975989760 : Nat) = 180 * 2 ^ 45 from rfl, Nat.mul_assoc, ← Nat.pow_add, show 45 + (uO - 45) = uO by omega]
theorem fix90 {x : Nat} (h : fixE x 4636033603912859648 = 0) : x % 9223372036854775808 < 2047 * 4503599627370496 ∧ uv (x % 9223372036854775808) ≤ 90 * onU := by
  unfold fixE at h
  cases hn : nanB x
  · cases hg : fgt (absF x) 4636033603912859648
    · have := in_fin hn c90 hg
      rwa [v90] at this
    · rw [hn, hg] at h; exact absurd h (by decide)
  · rw [hn, if_pos rfl] at h; exact absurd h (by decide)
theorem fix180 {x : Nat} (h : fixE x 4640537203540230144 = 0) : x % 9223372036854775808 < 2047 * 4503599627370496 ∧ uv (x % 9223372036854775808) ≤ 180 * onU := by
  unfold fixE at h
  cases hn : nanB x
  · cases hg : fgt (absF x) 4640537203540230144
    · have := in_fin hn c180 hg
      rwa [v180] at this
    · rw [hn, hg] at h; exact absurd h (by decide)
  · rw [hn, if_pos rfl] at h; exact absurd h (by decide)
theorem home_ok {c : Cmd} (h : homeE c = 0) : fixE c.la 4636033603912859648 = 0 ∧ fixE c.lo 4640537203540230144 = 0 := by
  unfold homeE at h
  by_cases h1 : fixE c.la 4636033603912859648 = 0
  · rw [if_neg (fun h => h h1)] at h
    exact ⟨h1, h⟩
  · rw [if_pos h1] at h
    exact absurd h h1
theorem way_range {a b : Int} (h : wayB a b = true) : 0 ≤ b ∧ b ≤ 5 := by
  unfold wayB at h
  simp only [Bool.and_eq_true, decide_eq_true_eq] at h
  exact h.1.2
theorem goes_ok {s : St} {n : Int} (h : goesE s n = 0) : wayB s.mo n = true := by
  unfold goesE at h
  cases hw : wayB s.mo n
  · rw [if_pos hw] at h; exact absurd h (by decide)
  · rfl
theorem n4 {n : Int} (h : ¬ (n < 0 ∨ 3 < n)) : n = 0 ∨ n = 1 ∨ n = 2 ∨ n = 3 := by omega
theorem setOn_range {iso n : Int} (h : 0 ≤ iso ∧ iso ≤ 15) (hn : ¬ (n < 0 ∨ 3 < n)) : 0 ≤ setOn iso n ∧ setOn iso n ≤ 15 := by
  unfold setOn bitOn
  rcases n4 hn with rfl | rfl | rfl | rfl <;> (simp only [decide_eq_true_eq]; split <;> simp at * <;> omega)
theorem setOff_range {iso n : Int} (h : 0 ≤ iso ∧ iso ≤ 15) (hn : ¬ (n < 0 ∨ 3 < n)) : 0 ≤ setOff iso n ∧ setOff iso n ≤ 15 := by
  unfold setOff bitOn
  rcases n4 hn with rfl | rfl | rfl | rfl <;> (simp only [decide_eq_true_eq]; split <;> simp at * <;> omega)
theorem isoE_ok {s : St} {n : Int} (h : isoE s n = 0) : ¬ (n < 0 ∨ 3 < n) := by
  intro hn
  unfold isoE at h
  rw [if_pos hn] at h
  exact absurd h (by decide)
theorem resE_ok {n : Int} (h : resE n = 0) : ¬ (n < 0 ∨ 3 < n) := by
  intro hn
  unfold resE at h
  rw [if_pos hn] at h
  exact absurd h (by decide)
theorem delta_legal {s : St} (h : legal s = true) {c : Cmd} (he : deltaE s c = 0) : legal (deltaT s c) = true := by
  obtain ⟨⟨m0, m1, i0, i1⟩, hl, hh⟩ := (legal_iff s).1 h
  unfold deltaE at he
  unfold deltaT
  by_cases h1 : c.ki = 1
  · rw [if_pos h1] at he ⊢
    have := way_range (goes_ok he)
    exact (legal_iff _).2 ⟨⟨this.1, this.2, i0, i1⟩, hl, hh⟩
  rw [if_neg h1] at he ⊢
  by_cases h2 : c.ki = 2
  · rw [if_pos h2]
    exact (legal_iff _).2 ⟨⟨by show (0 : Int) ≤ 1; decide, by show (1 : Int) ≤ 5; decide, i0, i1⟩, hl, hh⟩
  rw [if_neg h2] at he ⊢
  by_cases h3 : c.ki = 3
  · rw [if_pos h3]
    exact (legal_iff _).2 ⟨⟨by show (0 : Int) ≤ 0; decide, by show (0 : Int) ≤ 5; decide, i0, i1⟩, hl, hh⟩
  rw [if_neg h3] at he ⊢
  by_cases h4 : c.ki = 4
  · rw [if_pos h4] at he ⊢
    obtain ⟨e1, e2⟩ := home_ok he
    have r1 := fix_range (fix90 e1).2
    have r2 := fix_range (fix180 e2).2
    exact (legal_iff _).2 ⟨⟨m0, m1, i0, i1⟩, ⟨by show -737280 ≤ fixV c.la; omega, by show fixV c.la ≤ 737280; omega, by show -1474560 ≤ fixV c.lo; omega, by show fixV c.lo ≤ 1474560; omega⟩, .inl rfl⟩
  rw [if_neg h4] at he ⊢
  by_cases h5 : c.ki = 5
  · rw [if_pos h5] at he ⊢
    have := setOn_range ⟨i0, i1⟩ (isoE_ok he)
    exact (legal_iff _).2 ⟨⟨m0, m1, this.1, this.2⟩, hl, hh⟩
  rw [if_neg h5] at he ⊢
  by_cases h6 : c.ki = 6
  · rw [if_pos h6] at he
    have := setOff_range ⟨i0, i1⟩ (resE_ok he)
    exact (legal_iff _).2 ⟨⟨m0, m1, this.1, this.2⟩, hl, hh⟩
  · rw [if_neg h6] at he
    exact absurd he (by decide)
theorem deltaS_ok {s : St} {c : Cmd} (h : deltaE s c = 0) : deltaS s c = deltaT s c := by unfold deltaS; rw [if_pos h]
theorem deltaS_no {s : St} {c : Cmd} (h : deltaE s c ≠ 0) : deltaS s c = s := by unfold deltaS; rw [if_neg h]
theorem deltaS_legal {s : St} (h : legal s = true) (c : Cmd) : legal (deltaS s c) = true := by
  by_cases he : deltaE s c = 0
  · rw [deltaS_ok he]; exact delta_legal h he
  · rw [deltaS_no he]; exact h
theorem write_no {x : Su} {t : St} {p : Pw} (h : (plan x.f (pack t)).2 ≠ 0) : writeX x t p = { x with ph := 2 } ∧ writeE x t p = 26 := by
  unfold writeX writeE
  rw [if_neg h, if_neg (fun q => h q.1)]
  exact ⟨rfl, rfl⟩
theorem write_ack {x : Su} {t : St} {p : Pw} (h : (plan x.f (pack t)).2 = 0) (ha : ackB x.f (wStp t p) = true) : writeX x t p = { x with f := (putG x.f (wStp t p)).1, s := t } ∧ writeE x t p = 0 := by
  unfold writeX writeE
  rw [if_pos h, if_pos ha, if_pos ⟨h, ha⟩]
  exact ⟨rfl, rfl⟩
theorem write_off {x : Su} {t : St} {p : Pw} (h : (plan x.f (pack t)).2 = 0) (ha : ackB x.f (wStp t p) = false) : writeX x t p = { x with f := (putG x.f (wStp t p)).1, ph := 3 } ∧ writeE x t p = 26 := by
  unfold writeX writeE
  rw [if_pos h, if_neg (by rw [ha]; decide), if_neg (fun q => by rw [ha] at q; exact absurd q.2 (by decide))]
  exact ⟨rfl, rfl⟩
theorem write_okf {x : Su} (h : FlOk x.f) (t : St) (p : Pw) : FlOk (writeX x t p).f := by
  by_cases h0 : (plan x.f (pack t)).2 = 0
  · have := putG_ok h (s := wStp t p) h0
    cases ha : ackB x.f (wStp t p)
    · rw [(write_off h0 ha).1]; exact this
    · rw [(write_ack h0 ha).1]; exact this
  · rw [(write_no h0).1]; exact h
theorem write_state (x : Su) (t : St) (p : Pw) : (writeX x t p).s = x.s ∨ (writeX x t p).s = t := by
  by_cases h0 : (plan x.f (pack t)).2 = 0
  · cases ha : ackB x.f (wStp t p)
    · rw [(write_off h0 ha).1]; exact .inl rfl
    · rw [(write_ack h0 ha).1]; exact .inr rfl
  · rw [(write_no h0).1]; exact .inl rfl
theorem write_legal {x : Su} {t : St} (h : legal x.s = true) (ht : legal t = true) (p : Pw) : legal (writeX x t p).s = true := by
  rcases write_state x t p with e | e <;> rw [e] <;> assumption
theorem commandX_ok {x : Su} (h : FlOk x.f) (c : Cmd) (p : Pw) : FlOk (commandX x c p).f := by
  unfold commandX
  split
  · exact write_okf h _ _
  · exact h
theorem command_legal {x : Su} (h : legal x.s = true) (c : Cmd) (p : Pw) : legal (commandX x c p).s = true := by
  unfold commandX
  by_cases hc : refusedE x c = 0 ∧ deltaT x.s c ≠ x.s
  · rw [if_pos hc]
    refine write_legal h (delta_legal h ?_) p
    have := hc.1
    unfold refusedE at this
    split at this
    · exact absurd this (by decide)
    · split at this
      · exact absurd this (by decide)
      · exact this
  · rw [if_neg hc]; exact h
theorem command_refused {x : Su} {c : Cmd} (p : Pw) (h : refusedE x c ≠ 0) : commandX x c p = x ∧ commandE x c p = refusedE x c := by
  unfold commandX commandE
  rw [if_neg (fun q => h q.1), if_neg (fun q => h q.1)]
  exact ⟨rfl, rfl⟩
end Dw
end Go.Proofs.YtjiejbkfaigikaaGreatDoor
