/- What the statement's proof stands on, part 36: PlainCmd, PlainLaw20, Ev20. -/
import Derived.Test.YtjonoojhdifjiaaGreatDoorBb28
import Derived.Test.YtjonoojhdifjiaaGreatDoorBb35
import Derived.Test.YtjonoojhdifjiaaGreatDoorBb20
set_option linter.unusedSimpArgs false
set_option linter.unusedVariables false
set_option maxRecDepth 100000
set_option maxHeartbeats 4000000
namespace Go.Proofs.YtjonoojhdifjiaaGreatDoor
open Go.RowKit Go.Shelf
namespace Dw
open Ieee
theorem c90 : double.read 4636033603912859648 = .number false 6333186975989760 (-1074 + ((uO - 46 : Nat) : Int)) := by
  rw [show -1074 + ((uO - 46 : Nat) : Int) = -46 by have := uO_eq; omega]
  decide +kernel
theorem c180 : double.read 4640537203540230144 = .number false 6333186975989760 (-1074 + ((uO - 45 : Nat) : Int)) := by
  rw [show -1074 + ((uO - 45 : Nat) : Int) = -45 by have := uO_eq; omega]
  decide +kernel
theorem v90 : 6333186975989760 * 2 ^ (uO - 46) = 90 * onU := by
  have := uO_eq
  rw [onU_pow, show (6333186975989760 : Nat) = 90 * 2 ^ 46 from rfl, Nat.mul_assoc, ← Nat.pow_add, show 46 + (uO - 46) = uO by omega]
theorem v180 : 6333186975989760 * 2 ^ (uO - 45) = 180 * onU := by
  have := uO_eq
  rw [onU_pow, show (6333186975989760 : Nat) = 180 * 2 ^ 45 from rfl, Nat.mul_assoc, ← Nat.pow_add, show 45 + (uO - 45) = uO by omega]
theorem fix90 {x : Nat} (h : fixE x 4636033603912859648 = 0) : x % 9223372036854775808 < 2047 * 4503599627370496 ∧ uv (x % 9223372036854775808) ≤ 90 * onU := by
  unfold fixE at h
  cases hn : nanB x
  · cases hg : fgt (absF x) 4636033603912859648
    · have := in_fin hn c90 hg
      rwa [v90] at this
    · rw [hn, hg] at h; exact absurd h (by decide)
  · rw [hn, if_pos rfl] at h; exact absurd h (by decide)
theorem fix180 {x : Nat} (h : fixE x 4640537203540230144 = 0) : x % 9223372036854775808 < 2047 * 4503599627370496 ∧ uv (x % 9223372036854775808) ≤ 180 * onU := by
  unfold fixE at h
  cases hn : nanB x
  · cases hg : fgt (absF x) 4640537203540230144
    · have := in_fin hn c180 hg
      rwa [v180] at this
    · rw [hn, hg] at h; exact absurd h (by decide)
  · rw [hn, if_pos rfl] at h; exact absurd h (by decide)
theorem home_ok {c : Cmd} (h : homeE c = 0) : fixE c.la 4636033603912859648 = 0 ∧ fixE c.lo 4640537203540230144 = 0 := by
  unfold homeE at h
  by_cases h1 : fixE c.la 4636033603912859648 = 0
  · rw [if_neg (fun h => h h1)] at h
    exact ⟨h1, h⟩
  · rw [if_pos h1] at h
    exact absurd h h1
theorem way_range {a b : Int} (h : wayB a b = true) : 0 ≤ b ∧ b ≤ 5 := by
  unfold wayB at h
  simp only [Bool.and_eq_true, decide_eq_true_eq] at h
  exact h.1.2
theorem goes_ok {s : St} {n : Int} (h : goesE s n = 0) : wayB s.mo n = true := by
  unfold goesE at h
  cases hw : wayB s.mo n
  · rw [if_pos hw] at h; exact absurd h (by decide)
  · rfl
theorem n4 {n : Int} (h : ¬ (n < 0 ∨ 3 < n)) : n = 0 ∨ n = 1 ∨ n = 2 ∨ n = 3 := by omega
theorem setOn_range {iso n : Int} (h : 0 ≤ iso ∧ iso ≤ 15) (hn : ¬ (n < 0 ∨ 3 < n)) : 0 ≤ setOn iso n ∧ setOn iso n ≤ 15 := by
  unfold setOn bitOn
  rcases n4 hn with rfl | rfl | rfl | rfl <;> (simp only [decide_eq_true_eq]; split <;> simp at * <;> omega)
theorem setOff_range {iso n : Int} (h : 0 ≤ iso ∧ iso ≤ 15) (hn : ¬ (n < 0 ∨ 3 < n)) : 0 ≤ setOff iso n ∧ setOff iso n ≤ 15 := by
  unfold setOff bitOn
  rcases n4 hn with rfl | rfl | rfl | rfl <;> (simp only [decide_eq_true_eq]; split <;> simp at * <;> omega)
theorem isoE_ok {s : St} {n : Int} (h : isoE s n = 0) : ¬ (n < 0 ∨ 3 < n) := by
  intro hn
  unfold isoE at h
  rw [if_pos hn] at h
  exact absurd h (by decide)
theorem resE_ok {n : Int} (h : resE n = 0) : ¬ (n < 0 ∨ 3 < n) := by
  intro hn
  unfold resE at h
  rw [if_pos hn] at h
  exact absurd h (by decide)
theorem delta_legal {s : St} (h : legal s = true) {c : Cmd} (he : deltaE s c = 0) : legal (deltaT s c) = true := by
  obtain ⟨⟨m0, m1, i0, i1⟩, hl, hh⟩ := (legal_iff s).1 h
  unfold deltaE at he
  unfold deltaT
  by_cases h1 : c.ki = 1
  · rw [if_pos h1] at he ⊢
    have := way_range (goes_ok he)
    exact (legal_iff _).2 ⟨⟨this.1, this.2, i0, i1⟩, hl, hh⟩
  rw [if_neg h1] at he ⊢
  by_cases h2 : c.ki = 2
  · rw [if_pos h2]
    exact (legal_iff _).2 ⟨⟨by show (0 : Int) ≤ 1; decide, by show (1 : Int) ≤ 5; decide, i0, i1⟩, hl, hh⟩
  rw [if_neg h2] at he ⊢
  by_cases h3 : c.ki = 3
  · rw [if_pos h3]
    exact (legal_iff _).2 ⟨⟨by show (0 : Int) ≤ 0; decide, by show (0 : Int) ≤ 5; decide, i0, i1⟩, hl, hh⟩
  rw [if_neg h3] at he ⊢
  by_cases h4 : c.ki = 4
  · rw [if_pos h4] at he ⊢
    obtain ⟨e1, e2⟩ := home_ok he
    have r1 := fix_range (fix90 e1).2
    have r2 := fix_range (fix180 e2).2
    exact (legal_iff _).2 ⟨⟨m0, m1, i0, i1⟩, ⟨by show -737280 ≤ fixV c.la; omega, by show fixV c.la ≤ 737280; omega, by show -1474560 ≤ fixV c.lo; omega, by show fixV c.lo ≤ 1474560; omega⟩, .inl rfl⟩
  rw [if_neg h4] at he ⊢
  by_cases h5 : c.ki = 5
  · rw [if_pos h5] at he ⊢
    have := setOn_range ⟨i0, i1⟩ (isoE_ok he)
    exact (legal_iff _).2 ⟨⟨m0, m1, this.1, this.2⟩, hl, hh⟩
  rw [if_neg h5] at he ⊢
  by_cases h6 : c.ki = 6
  · rw [if_pos h6] at he
    have := setOff_range ⟨i0, i1⟩ (resE_ok he)
    exact (legal_iff _).2 ⟨⟨m0, m1, this.1, this.2⟩, hl, hh⟩
  · rw [if_neg h6] at he
    exact absurd he (by decide)
theorem deltaS_ok {s : St} {c : Cmd} (h : deltaE s c = 0) : deltaS s c = deltaT s c := by unfold deltaS; rw [if_pos h]
theorem deltaS_no {s : St} {c : Cmd} (h : deltaE s c ≠ 0) : deltaS s c = s := by unfold deltaS; rw [if_neg h]
theorem deltaS_legal {s : St} (h : legal s = true) (c : Cmd) : legal (deltaS s c) = true := by
  by_cases he : deltaE s c = 0
  · rw [deltaS_ok he]; exact delta_legal h he
  · rw [deltaS_no he]; exact h
theorem write_no {x : Su} {t : St} {p : Pw} (h : (plan x.f (pack t)).2 ≠ 0) : writeX x t p = { x with ph := 2 } ∧ writeE x t p = 26 := by
  unfold writeX writeE
  rw [if_neg h, if_neg (fun q => h q.1)]
  exact ⟨rfl, rfl⟩
theorem write_ack {x : Su} {t : St} {p : Pw} (h : (plan x.f (pack t)).2 = 0) (ha : ackB x.f (wStp t p) = true) : writeX x t p = { x with f := (putG x.f (wStp t p)).1, s := t } ∧ writeE x t p = 0 := by
  unfold writeX writeE
  rw [if_pos h, if_pos ha, if_pos ⟨h, ha⟩]
  exact ⟨rfl, rfl⟩
theorem write_off {x : Su} {t : St} {p : Pw} (h : (plan x.f (pack t)).2 = 0) (ha : ackB x.f (wStp t p) = false) : writeX x t p = { x with f := (putG x.f (wStp t p)).1, ph := 3 } ∧ writeE x t p = 26 := by
  unfold writeX writeE
  rw [if_pos h, if_neg (by rw [ha]; decide), if_neg (fun q => by rw [ha] at q; exact absurd q.2 (by decide))]
  exact ⟨rfl, rfl⟩
theorem write_okf {x : Su} (h : FlOk x.f) (t : St) (p : Pw) : FlOk (writeX x t p).f := by
  by_cases h0 : (plan x.f (pack t)).2 = 0
  · have := putG_ok h (s := wStp t p) h0
    cases ha : ackB x.f (wStp t p)
    · rw [(write_off h0 ha).1]; exact this
    · rw [(write_ack h0 ha).1]; exact this
  · rw [(write_no h0).1]; exact h
theorem write_state (x : Su) (t : St) (p : Pw) : (writeX x t p).s = x.s ∨ (writeX x t p).s = t := by
  by_cases h0 : (plan x.f (pack t)).2 = 0
  · cases ha : ackB x.f (wStp t p)
    · rw [(write_off h0 ha).1]; exact .inl rfl
    · rw [(write_ack h0 ha).1]; exact .inr rfl
  · rw [(write_no h0).1]; exact .inl rfl
theorem write_legal {x : Su} {t : St} (h : legal x.s = true) (ht : legal t = true) (p : Pw) : legal (writeX x t p).s = true := by
  rcases write_state x t p with e | e <;> rw [e] <;> assumption
theorem commandX_ok {x : Su} (h : FlOk x.f) (c : Cmd) (p : Pw) : FlOk (commandX x c p).f := by
  unfold commandX
  split
  · exact write_okf h _ _
  · exact h
theorem command_legal {x : Su} (h : legal x.s = true) (c : Cmd) (p : Pw) : legal (commandX x c p).s = true := by
  unfold commandX
  by_cases hc : refusedE x c = 0 ∧ deltaT x.s c ≠ x.s
  · rw [if_pos hc]
    refine write_legal h (delta_legal h ?_) p
    have := hc.1
    unfold refusedE at this
    split at this
    · exact absurd this (by decide)
    · split at this
      · exact absurd this (by decide)
      · exact this
  · rw [if_neg hc]; exact h
end Dw
end Go.Proofs.YtjonoojhdifjiaaGreatDoor
namespace Go.Proofs.YtjonoojhdifjiaaGreatDoor
open Go.RowKit Go.Shelf
namespace Dw
abbrev whole : Pw := ⟨-1, []⟩
theorem sample_off {x : Su} (h : x.ph = 3) (v : Int) (p : Pw) : sampleX x v p = x ∧ sampleE x v p = 26 := by
  unfold sampleX sampleE
  rw [if_pos h, if_pos h]
  exact ⟨rfl, rfl⟩
theorem sample_still {x : Su} (h : x.ph ≠ 3) {v : Int} (p : Pw) (h2 : x.ph ≠ 0 ∨ verdC (addV x.vo v) (addN x.vo x.n v) = 0) : sampleX x v p = voted x v ∧ sampleE x v p = 0 := by
  have h2' : x.ph ≠ 0 ∨ verdC (voted x v).vo (voted x v).n = 0 := h2
  unfold sampleX sampleE
  rw [if_neg h, if_neg h]
  dsimp only
  rw [if_pos h2', if_pos h2']
  exact ⟨rfl, rfl⟩
theorem sample_kept {x : Su} (h : x.ph = 0) {v d : Int} (p : Pw) (hd : verdC (addV x.vo v) (addN x.vo x.n v) = d) (h0 : d ≠ 0) (ht : resolveS x.s d = x.s) (hk : kept x = true) :
    sampleX x v p = { voted x v with ph := 1 } ∧ sampleE x v p = 0 := by
  have hd' : verdC (voted x v).vo (voted x v).n = d := hd
  have hno : ¬ (x.ph ≠ 0 ∨ d = 0) := by rintro (q | q); exact q h; exact h0 q
  refine ⟨?_, ?_⟩
  · unfold sampleX
    rw [if_neg (show ¬ x.ph = 3 by omega)]
    dsimp only
    rw [hd', if_neg hno, if_pos ⟨ht, hk⟩]
  · unfold sampleE
    rw [if_neg (show ¬ x.ph = 3 by omega)]
    dsimp only
    rw [hd', if_neg hno, if_pos ⟨ht, hk⟩]
theorem sample_writes {x : Su} (h : x.ph = 0) {v d : Int} (p : Pw) (hd : verdC (addV x.vo v) (addN x.vo x.n v) = d) (h0 : d ≠ 0) (hk : ¬ (resolveS x.s d = x.s ∧ kept x = true)) :
    sampleX x v p = (if writeE (voted x v) (resolveS x.s d) p = 0 then { writeX (voted x v) (resolveS x.s d) p with ph := 1 } else writeX (voted x v) (resolveS x.s d) p) ∧ sampleE x v p = writeE (voted x v) (resolveS x.s d) p := by
  have hd' : verdC (voted x v).vo (voted x v).n = d := hd
  have hno : ¬ (x.ph ≠ 0 ∨ d = 0) := by rintro (q | q); exact q h; exact h0 q
  refine ⟨?_, ?_⟩
  · unfold sampleX
    rw [if_neg (show ¬ x.ph = 3 by omega)]
    dsimp only
    rw [hd', if_neg hno, if_neg hk]
  · unfold sampleE
    rw [if_neg (show ¬ x.ph = 3 by omega)]
    dsimp only
    rw [hd', if_neg hno, if_neg hk]
theorem sampleX_ok {x : Su} (h : FlOk x.f) (v : Int) (p : Pw) : FlOk (sampleX x v p).f := by
  by_cases h3 : x.ph = 3
  · rw [(sample_off h3 v p).1]; exact h
  by_cases h2 : x.ph ≠ 0 ∨ verdC (addV x.vo v) (addN x.vo x.n v) = 0
  · rw [(sample_still h3 p h2).1]; exact h
  · have h0 : x.ph = 0 := Decidable.byContradiction fun q => h2 (.inl q)
    have hd : verdC (addV x.vo v) (addN x.vo x.n v) ≠ 0 := fun q => h2 (.inr q)
    by_cases hk : resolveS x.s (verdC (addV x.vo v) (addN x.vo x.n v)) = x.s ∧ kept x = true
    · rw [(sample_kept h0 p rfl hd hk.1 hk.2).1]; exact h
    · rw [(sample_writes h0 p rfl hd hk).1]
      split
      · exact write_okf (x := voted x v) h _ _
      · exact write_okf (x := voted x v) h _ _
theorem sample_legal {x : Su} (h : legal x.s = true) (v : Int) (p : Pw) : legal (sampleX x v p).s = true := by
  by_cases h3 : x.ph = 3
  · rw [(sample_off h3 v p).1]; exact h
  by_cases h2 : x.ph ≠ 0 ∨ verdC (addV x.vo v) (addN x.vo x.n v) = 0
  · rw [(sample_still h3 p h2).1]; exact h
  · have h0 : x.ph = 0 := Decidable.byContradiction fun q => h2 (.inl q)
    have hd : verdC (addV x.vo v) (addN x.vo x.n v) ≠ 0 := fun q => h2 (.inr q)
    by_cases hk : resolveS x.s (verdC (addV x.vo v) (addN x.vo x.n v)) = x.s ∧ kept x = true
    · rw [(sample_kept h0 p rfl hd hk.1 hk.2).1]; exact h
    · rw [(sample_writes h0 p rfl hd hk).1]
      split
      · exact write_legal (x := voted x v) h (resolve_legal h _) p
      · exact write_legal (x := voted x v) h (resolve_legal h _) p
theorem boot_legal (f : Fl) : legal (boot f).s = true := by
  show legal (bootT f) = true
  unfold bootT
  split
  · exact unP_legal _
  · exact legal0
def seen3 (x : Su) (v : Int) : Su := sampleX (sampleX (sampleX x v whole) v whole) v whole
end Dw
end Go.Proofs.YtjonoojhdifjiaaGreatDoor
namespace Go.Proofs.YtjonoojhdifjiaaGreatDoor
open Go.RowKit Go.Shelf
namespace Dw
def g20 : Fl := ⟨ffs 72, ffs 72, 0, 0, 5⟩
abbrev arm20 : Cmd := ⟨2, 0, 0, 0⟩
abbrev go20 : Cmd := ⟨1, 2, 0, 0⟩
abbrev cut20 : Pw := ⟨0, []⟩
def y20 : Su := seen3 (boot g20) 1
def z20 : Su := commandX y20 arm20 whole
def u20 : Su := commandX z20 go20 cut20
def v20 : Su := seen3 (boot u20.f) 2
theorem ok20 : FlOk g20 := ⟨by rw [g20, ffs_length]; omega, by rw [g20, ffs_length]; omega, by decide, by decide, by decide⟩
theorem ev20a : commandE (boot g20) arm20 whole = 25 := by decide +kernel
theorem ev20b : y20.ph = 1 ∧ kept y20 = true := by decide +kernel
theorem ev20c : commandE y20 arm20 whole = 0 ∧ z20.s.ar = true := by decide +kernel
theorem ev20d : commandE z20 go20 cut20 = 26 ∧ u20.ph = 3 := by decide +kernel
theorem ev20e : v20.ph = 1 ∧ v20.s = ⟨1, true, false, 0, 0, 0⟩ := by decide +kernel
theorem vote20 : voteI 0 0 0 = 1 := by decide +kernel
theorem vote20b : voteI 4621819117588971520 0 4602678819172646912 = 2 := by decide +kernel
end Dw
end Go.Proofs.YtjonoojhdifjiaaGreatDoor
