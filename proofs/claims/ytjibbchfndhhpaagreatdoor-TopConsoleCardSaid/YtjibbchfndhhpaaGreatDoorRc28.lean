/- What the statement's proof stands on, part 28: PlainCmd, Cmd1, Cmd2. -/
import Derived.Test.YtjibbchfndhhpaaGreatDoorRc26
import Derived.Test.YtjibbchfndhhpaaGreatDoorRc27
import Derived.Test.YtjibbchfndhhpaaGreatDoorRc5
import Derived.Test.YtjibbchfndhhpaaGreatDoorRc22
import Derived.Test.YtjibbchfndhhpaaGreatDoorRc23
set_option linter.unusedSimpArgs false
set_option linter.unusedVariables false
set_option maxRecDepth 100000
set_option maxHeartbeats 4000000
namespace Go.Proofs.YtjibbchfndhhpaaGreatDoor
open Go.RowKit Go.Shelf
namespace Dw
open Ieee
theorem c90 : double.read 4636033603912859648 = .number false 6333186975989760 (-1074 + ((uO - 46 : Nat) : Int)) := by
  rw [show -1074 + ((uO - 46 : Nat) : Int) = -46 by have := uO_eq; omega]
  decide +kernel
theorem c180 : double.read 4640537203540230144 = .number false 6333186975989760 (-1074 + ((uO - 45 : Nat) : Int)) := by
  rw [show -1074 + ((uO - 45 : Nat) : Int) = -45 by have := uO_eq; omega]
  decide +kernel
theorem v90 : 6333186975989760 * 2 ^ (uO - 46) = 90 * onU := by
  have := uO_eq
  rw [onU_pow, show (6333186975989760 : Nat) = 90 * 2 ^ 46 from rfl, Nat.mul_assoc, ← Nat.pow_add, show 46 + (uO - 46) = uO by omega]
theorem v180 : 6333186975989760 * 2 ^ (uO - 45) = 180 * onU := by
  have := uO_eq
  rw [onU_pow, show (6333186975989760 : Nat) = 180 * 2 ^ 45 from rfl, Nat.mul_assoc, ← Nat.pow_add, show 45 + (uO - 45) = uO by omega]
theorem fix90 {x : Nat} (h : fixE x 4636033603912859648 = 0) : x % 9223372036854775808 < 2047 * 4503599627370496 ∧ uv (x % 9223372036854775808) ≤ 90 * onU := by
  unfold fixE at h
  cases hn : nanB x
  · cases hg : fgt (absF x) 4636033603912859648
    · have := in_fin hn c90 hg
      rwa [v90] at this
    · rw [hn, hg] at h; exact absurd h (by decide)
  · rw [hn, if_pos rfl] at h; exact absurd h (by decide)
theorem fix180 {x : Nat} (h : fixE x 4640537203540230144 = 0) : x % 9223372036854775808 < 2047 * 4503599627370496 ∧ uv (x % 9223372036854775808) ≤ 180 * onU := by
  unfold fixE at h
  cases hn : nanB x
  · cases hg : fgt (absF x) 4640537203540230144
    · have := in_fin hn c180 hg
      rwa [v180] at this
    · rw [hn, hg] at h; exact absurd h (by decide)
  · rw [hn, if_pos rfl] at h; exact absurd h (by decide)
theorem home_ok {c : Cmd} (h : homeE c = 0) : fixE c.la 4636033603912859648 = 0 ∧ fixE c.lo 4640537203540230144 = 0 := by
  unfold homeE at h
  by_cases h1 : fixE c.la 4636033603912859648 = 0
  · rw [if_neg (fun h => h h1)] at h
    exact ⟨h1, h⟩
  · rw [if_pos h1] at h
    exact absurd h h1
theorem way_range {a b : Int} (h : wayB a b = true) : 0 ≤ b ∧ b ≤ 5 := by
  unfold wayB at h
  simp only [Bool.and_eq_true, decide_eq_true_eq] at h
  exact h.1.2
theorem goes_ok {s : St} {n : Int} (h : goesE s n = 0) : wayB s.mo n = true := by
  unfold goesE at h
  cases hw : wayB s.mo n
  · rw [if_pos hw] at h; exact absurd h (by decide)
  · rfl
theorem n4 {n : Int} (h : ¬ (n < 0 ∨ 3 < n)) : n = 0 ∨ n = 1 ∨ n = 2 ∨ n = 3 := by omega
theorem setOn_range {iso n : Int} (h : 0 ≤ iso ∧ iso ≤ 15) (hn : ¬ (n < 0 ∨ 3 < n)) : 0 ≤ setOn iso n ∧ setOn iso n ≤ 15 := by
  unfold setOn bitOn
  rcases n4 hn with rfl | rfl | rfl | rfl <;> (simp only [decide_eq_true_eq]; split <;> simp at * <;> omega)
theorem setOff_range {iso n : Int} (h : 0 ≤ iso ∧ iso ≤ 15) (hn : ¬ (n < 0 ∨ 3 < n)) : 0 ≤ setOff iso n ∧ setOff iso n ≤ 15 := by
  unfold setOff bitOn
  rcases n4 hn with rfl | rfl | rfl | rfl <;> (simp only [decide_eq_true_eq]; split <;> simp at * <;> omega)
theorem isoE_ok {s : St} {n : Int} (h : isoE s n = 0) : ¬ (n < 0 ∨ 3 < n) := by
  intro hn
  unfold isoE at h
  rw [if_pos hn] at h
  exact absurd h (by decide)
theorem resE_ok {n : Int} (h : resE n = 0) : ¬ (n < 0 ∨ 3 < n) := by
  intro hn
  unfold resE at h
  rw [if_pos hn] at h
  exact absurd h (by decide)
theorem delta_legal {s : St} (h : legal s = true) {c : Cmd} (he : deltaE s c = 0) : legal (deltaT s c) = true := by
  obtain ⟨⟨m0, m1, i0, i1⟩, hl, hh⟩ := (legal_iff s).1 h
  unfold deltaE at he
  unfold deltaT
  by_cases h1 : c.ki = 1
  · rw [if_pos h1] at he ⊢
    have := way_range (goes_ok he)
    exact (legal_iff _).2 ⟨⟨this.1, this.2, i0, i1⟩, hl, hh⟩
  rw [if_neg h1] at he ⊢
  by_cases h2 : c.ki = 2
  · rw [if_pos h2]
    exact (legal_iff _).2 ⟨⟨by show (0 : Int) ≤ 1; decide, by show (1 : Int) ≤ 5; decide, i0, i1⟩, hl, hh⟩
  rw [if_neg h2] at he ⊢
  by_cases h3 : c.ki = 3
  · rw [if_pos h3]
    exact (legal_iff _).2 ⟨⟨by show (0 : Int) ≤ 0; decide, by show (0 : Int) ≤ 5; decide, i0, i1⟩, hl, hh⟩
  rw [if_neg h3] at he ⊢
  by_cases h4 : c.ki = 4
  · rw [if_pos h4] at he ⊢
    obtain ⟨e1, e2⟩ := home_ok he
    have r1 := fix_range (fix90 e1).2
    have r2 := fix_range (fix180 e2).2
    exact (legal_iff _).2 ⟨⟨m0, m1, i0, i1⟩, ⟨by show -737280 ≤ fixV c.la; omega, by show fixV c.la ≤ 737280; omega, by show -1474560 ≤ fixV c.lo; omega, by show fixV c.lo ≤ 1474560; omega⟩, .inl rfl⟩
  rw [if_neg h4] at he ⊢
  by_cases h5 : c.ki = 5
  · rw [if_pos h5] at he ⊢
    have := setOn_range ⟨i0, i1⟩ (isoE_ok he)
    exact (legal_iff _).2 ⟨⟨m0, m1, this.1, this.2⟩, hl, hh⟩
  rw [if_neg h5] at he ⊢
  by_cases h6 : c.ki = 6
  · rw [if_pos h6] at he
    have := setOff_range ⟨i0, i1⟩ (resE_ok he)
    exact (legal_iff _).2 ⟨⟨m0, m1, this.1, this.2⟩, hl, hh⟩
  · rw [if_neg h6] at he
    exact absurd he (by decide)
theorem deltaS_ok {s : St} {c : Cmd} (h : deltaE s c = 0) : deltaS s c = deltaT s c := by unfold deltaS; rw [if_pos h]
theorem deltaS_no {s : St} {c : Cmd} (h : deltaE s c ≠ 0) : deltaS s c = s := by unfold deltaS; rw [if_neg h]
theorem deltaS_legal {s : St} (h : legal s = true) (c : Cmd) : legal (deltaS s c) = true := by
  by_cases he : deltaE s c = 0
  · rw [deltaS_ok he]; exact delta_legal h he
  · rw [deltaS_no he]; exact h
theorem write_no {x : Su} {t : St} {p : Pw} (h : (plan x.f (pack t)).2 ≠ 0) : writeX x t p = { x with ph := 2 } ∧ writeE x t p = 26 := by
  unfold writeX writeE
  rw [if_neg h, if_neg (fun q => h q.1)]
  exact ⟨rfl, rfl⟩
theorem write_ack {x : Su} {t : St} {p : Pw} (h : (plan x.f (pack t)).2 = 0) (ha : ackB x.f (wStp t p) = true) : writeX x t p = { x with f := (putG x.f (wStp t p)).1, s := t } ∧ writeE x t p = 0 := by
  unfold writeX writeE
  rw [if_pos h, if_pos ha, if_pos ⟨h, ha⟩]
  exact ⟨rfl, rfl⟩
theorem write_off {x : Su} {t : St} {p : Pw} (h : (plan x.f (pack t)).2 = 0) (ha : ackB x.f (wStp t p) = false) : writeX x t p = { x with f := (putG x.f (wStp t p)).1, ph := 3 } ∧ writeE x t p = 26 := by
  unfold writeX writeE
  rw [if_pos h, if_neg (by rw [ha]; decide), if_neg (fun q => by rw [ha] at q; exact absurd q.2 (by decide))]
  exact ⟨rfl, rfl⟩
theorem write_okf {x : Su} (h : FlOk x.f) (t : St) (p : Pw) : FlOk (writeX x t p).f := by
  by_cases h0 : (plan x.f (pack t)).2 = 0
  · have := putG_ok h (s := wStp t p) h0
    cases ha : ackB x.f (wStp t p)
    · rw [(write_off h0 ha).1]; exact this
    · rw [(write_ack h0 ha).1]; exact this
  · rw [(write_no h0).1]; exact h
theorem write_state (x : Su) (t : St) (p : Pw) : (writeX x t p).s = x.s ∨ (writeX x t p).s = t := by
  by_cases h0 : (plan x.f (pack t)).2 = 0
  · cases ha : ackB x.f (wStp t p)
    · rw [(write_off h0 ha).1]; exact .inl rfl
    · rw [(write_ack h0 ha).1]; exact .inr rfl
  · rw [(write_no h0).1]; exact .inl rfl
theorem write_legal {x : Su} {t : St} (h : legal x.s = true) (ht : legal t = true) (p : Pw) : legal (writeX x t p).s = true := by
  rcases write_state x t p with e | e <;> rw [e] <;> assumption
theorem commandX_ok {x : Su} (h : FlOk x.f) (c : Cmd) (p : Pw) : FlOk (commandX x c p).f := by
  unfold commandX
  split
  · exact write_okf h _ _
  · exact h
theorem command_legal {x : Su} (h : legal x.s = true) (c : Cmd) (p : Pw) : legal (commandX x c p).s = true := by
  unfold commandX
  by_cases hc : refusedE x c = 0 ∧ deltaT x.s c ≠ x.s
  · rw [if_pos hc]
    refine write_legal h (delta_legal h ?_) p
    have := hc.1
    unfold refusedE at this
    split at this
    · exact absurd this (by decide)
    · split at this
      · exact absurd this (by decide)
      · exact this
  · rw [if_neg hc]; exact h
end Dw
end Go.Proofs.YtjibbchfndhhpaaGreatDoor
namespace Go.Proofs.YtjibbchfndhhpaaGreatDoor
open Go.RowKit Go.Shelf
attribute [local go_sem] Oper.semAt_some
theorem first2_any (a0 a1 : Bool) (e0 e1 : Int) (b : Nat) (ty : TypeId) (w : World) (h : w.heap[b]? = some (.cells #[.bool a0, .int .i64 e0, .bool a1, .int .i64 e1] ty (0, 0))) :
    Calls Tryz.prog 121 #[.slice (some ⟨b, 0, none⟩) 2 2] w fun e w' => e = .returned (.int .i64 (if a0 = false then e0 else if a1 = false then e1 else 0)) ∧ Below w.heap.size w w' := by
  generalize hR : (if a0 = false then e0 else if a1 = false then e1 else 0) = R
  have HR := Lib.hid hR
  clear hR
  have hlt := block_lt h
  have H := Lib.hid h
  clear h
  go_enter Tryz.func121, Tryz.ntmps121
  go_wp2_with fail
  go_loopw [7] (fun i wr => ∃ j : Nat, j ≤ 2 ∧ i = .int .i64 j ∧ (1 ≤ j → a0 = true) ∧ (2 ≤ j → a1 = true) ∧ Below w.heap.size w wr) (fun i _ => 2 - (intOf i).toNat)
  case atStart => exact ⟨0, Nat.zero_le _, rfl, by omega, by omega, Below.refl _ _⟩
  case round =>
    obtain ⟨j, hj, rfl, h0, h1, hB⟩ := hrel
    have hc := (hB.block b hlt).trans H.out
    rcases (by omega : j = 0 ∨ j = 1 ∨ j = 2) with rfl | rfl | rfl
    · have c0 : wr.cell? ⟨b, 0, none⟩ = some (.bool a0) := by simp [cell_of_row _ _ _ _ _ _ hc]
      have c1 : wr.cell? ⟨b, 1, none⟩ = some (.int .i64 e0) := by simp [cell_of_row _ _ _ _ _ _ hc]
      have hB1 := hB.alloc hB.size (.cells #[.bool a0, .int .i64 e0] 177)
      clear hc
      have H0 := Lib.hid h0
      clear h0 h1
      cases a0
      · go_wp2_with fail
        go_ret
        refine ⟨?_, hB1⟩
        rw [← HR.out]
        (try rw [H0.out (by decide)]) <;> rfl
      · go_wp2_with fail
        go_roundw
        case rel => exact ⟨0 + 1, by decide, rfl, fun hx => by first | trivial | rfl | exact H0.out (by decide), fun hx => by first | trivial | rfl | exact absurd hx (by decide), hB1⟩
        case measure => first | done | (simp [intOf]; done) | (simp [intOf]; omega)
    · have c0 : wr.cell? ⟨b, 2, none⟩ = some (.bool a1) := by simp [cell_of_row _ _ _ _ _ _ hc]
      have c1 : wr.cell? ⟨b, 3, none⟩ = some (.int .i64 e1) := by simp [cell_of_row _ _ _ _ _ _ hc]
      have hB1 := hB.alloc hB.size (.cells #[.bool a1, .int .i64 e1] 177)
      clear hc
      have H0 := Lib.hid h0
      clear h0 h1
      cases a1
      · go_wp2_with fail
        go_ret
        refine ⟨?_, hB1⟩
        rw [← HR.out]
        (try rw [H0.out (by decide)]) <;> rfl
      · go_wp2_with fail
        go_roundw
        case rel => exact ⟨1 + 1, by decide, rfl, fun hx => by first | trivial | rfl | exact H0.out (by decide), fun hx => by first | trivial | rfl | exact absurd hx (by decide), hB1⟩
        case measure => first | done | (simp [intOf]; done) | (simp [intOf]; omega)
    · have H0 := Lib.hid h0; have H1 := Lib.hid h1
      clear h0 h1 hc
      go_wp2_with fail
      go_ret
      refine ⟨?_, hB⟩
      rw [← HR.out, H0.out (by decide), H1.out (by decide)]
      rfl
theorem first5_any (a0 a1 a2 a3 a4 : Bool) (e0 e1 e2 e3 e4 : Int) (b : Nat) (ty : TypeId) (w : World) (h : w.heap[b]? = some (.cells #[.bool a0, .int .i64 e0, .bool a1, .int .i64 e1, .bool a2, .int .i64 e2, .bool a3, .int .i64 e3, .bool a4, .int .i64 e4] ty (0, 0))) :
    Calls Tryz.prog 121 #[.slice (some ⟨b, 0, none⟩) 5 5] w fun e w' => e = .returned (.int .i64 (if a0 = false then e0 else if a1 = false then e1 else if a2 = false then e2 else if a3 = false then e3 else if a4 = false then e4 else 0)) ∧ Below w.heap.size w w' := by
  generalize hR : (if a0 = false then e0 else if a1 = false then e1 else if a2 = false then e2 else if a3 = false then e3 else if a4 = false then e4 else 0) = R
  have HR := Lib.hid hR
  clear hR
  have hlt := block_lt h
  have H := Lib.hid h
  clear h
  go_enter Tryz.func121, Tryz.ntmps121
  go_wp2_with fail
  go_loopw [7] (fun i wr => ∃ j : Nat, j ≤ 5 ∧ i = .int .i64 j ∧ ((1 ≤ j → a0 = true) ∧ (2 ≤ j → a1 = true) ∧ (3 ≤ j → a2 = true) ∧ (4 ≤ j → a3 = true) ∧ (5 ≤ j → a4 = true)) ∧ Below w.heap.size w wr) (fun i _ => 5 - (intOf i).toNat)
  case atStart => exact ⟨0, Nat.zero_le _, rfl, ⟨by omega, by omega, by omega, by omega, by omega⟩, Below.refl _ _⟩
  case round =>
    obtain ⟨j, hj, rfl, ⟨h0, h1, h2, h3, h4⟩, hB⟩ := hrel
    have hc := (hB.block b hlt).trans H.out
    rcases (by omega : j = 0 ∨ j = 1 ∨ j = 2 ∨ j = 3 ∨ j = 4 ∨ j = 5) with rfl | rfl | rfl | rfl | rfl | rfl
    · have c0 : wr.cell? ⟨b, 0, none⟩ = some (.bool a0) := by simp [cell_of_row _ _ _ _ _ _ hc]
      have c1 : wr.cell? ⟨b, 1, none⟩ = some (.int .i64 e0) := by simp [cell_of_row _ _ _ _ _ _ hc]
      have hB1 := hB.alloc hB.size (.cells #[.bool a0, .int .i64 e0] 177)
      clear hc
      have H0 := Lib.hid h0; have H1 := Lib.hid h1; have H2 := Lib.hid h2; have H3 := Lib.hid h3
      clear h0 h1 h2 h3 h4
      cases a0
      · go_wp2_with fail
        go_ret
        refine ⟨?_, hB1⟩
        rw [← HR.out]
        (try rw [H0.out (by decide)]) <;> (try rw [H1.out (by decide)]) <;> (try rw [H2.out (by decide)]) <;> (try rw [H3.out (by decide)]) <;> rfl
      · go_wp2_with fail
        go_roundw
        case rel => exact ⟨0 + 1, by decide, rfl, ⟨fun hx => by first | trivial | rfl | exact H0.out (by decide) | exact absurd hx (by decide), fun hx => by first | trivial | rfl | exact H1.out (by decide) | exact absurd hx (by decide), fun hx => by first | trivial | rfl | exact H2.out (by decide) | exact absurd hx (by decide), fun hx => by first | trivial | rfl | exact H3.out (by decide) | exact absurd hx (by decide), fun hx => by first | trivial | rfl | exact absurd hx (by decide)⟩, hB1⟩
        case measure => first | done | (simp [intOf]; done) | (simp [intOf]; omega)
    · have c0 : wr.cell? ⟨b, 2, none⟩ = some (.bool a1) := by simp [cell_of_row _ _ _ _ _ _ hc]
      have c1 : wr.cell? ⟨b, 3, none⟩ = some (.int .i64 e1) := by simp [cell_of_row _ _ _ _ _ _ hc]
      have hB1 := hB.alloc hB.size (.cells #[.bool a1, .int .i64 e1] 177)
      clear hc
      have H0 := Lib.hid h0; have H1 := Lib.hid h1; have H2 := Lib.hid h2; have H3 := Lib.hid h3
      clear h0 h1 h2 h3 h4
      cases a1
      · go_wp2_with fail
        go_ret
        refine ⟨?_, hB1⟩
        rw [← HR.out]
        (try rw [H0.out (by decide)]) <;> (try rw [H1.out (by decide)]) <;> (try rw [H2.out (by decide)]) <;> (try rw [H3.out (by decide)]) <;> rfl
      · go_wp2_with fail
        go_roundw
        case rel => exact ⟨1 + 1, by decide, rfl, ⟨fun hx => by first | trivial | rfl | exact H0.out (by decide) | exact absurd hx (by decide), fun hx => by first | trivial | rfl | exact H1.out (by decide) | exact absurd hx (by decide), fun hx => by first | trivial | rfl | exact H2.out (by decide) | exact absurd hx (by decide), fun hx => by first | trivial | rfl | exact H3.out (by decide) | exact absurd hx (by decide), fun hx => by first | trivial | rfl | exact absurd hx (by decide)⟩, hB1⟩
        case measure => first | done | (simp [intOf]; done) | (simp [intOf]; omega)
    · have c0 : wr.cell? ⟨b, 4, none⟩ = some (.bool a2) := by simp [cell_of_row _ _ _ _ _ _ hc]
      have c1 : wr.cell? ⟨b, 5, none⟩ = some (.int .i64 e2) := by simp [cell_of_row _ _ _ _ _ _ hc]
      have hB1 := hB.alloc hB.size (.cells #[.bool a2, .int .i64 e2] 177)
      clear hc
      have H0 := Lib.hid h0; have H1 := Lib.hid h1; have H2 := Lib.hid h2; have H3 := Lib.hid h3
      clear h0 h1 h2 h3 h4
      cases a2
      · go_wp2_with fail
        go_ret
        refine ⟨?_, hB1⟩
        rw [← HR.out]
        (try rw [H0.out (by decide)]) <;> (try rw [H1.out (by decide)]) <;> (try rw [H2.out (by decide)]) <;> (try rw [H3.out (by decide)]) <;> rfl
      · go_wp2_with fail
        go_roundw
        case rel => exact ⟨2 + 1, by decide, rfl, ⟨fun hx => by first | trivial | rfl | exact H0.out (by decide) | exact absurd hx (by decide), fun hx => by first | trivial | rfl | exact H1.out (by decide) | exact absurd hx (by decide), fun hx => by first | trivial | rfl | exact H2.out (by decide) | exact absurd hx (by decide), fun hx => by first | trivial | rfl | exact H3.out (by decide) | exact absurd hx (by decide), fun hx => by first | trivial | rfl | exact absurd hx (by decide)⟩, hB1⟩
        case measure => first | done | (simp [intOf]; done) | (simp [intOf]; omega)
    · have c0 : wr.cell? ⟨b, 6, none⟩ = some (.bool a3) := by simp [cell_of_row _ _ _ _ _ _ hc]
      have c1 : wr.cell? ⟨b, 7, none⟩ = some (.int .i64 e3) := by simp [cell_of_row _ _ _ _ _ _ hc]
      have hB1 := hB.alloc hB.size (.cells #[.bool a3, .int .i64 e3] 177)
      clear hc
      have H0 := Lib.hid h0; have H1 := Lib.hid h1; have H2 := Lib.hid h2; have H3 := Lib.hid h3
      clear h0 h1 h2 h3 h4
      cases a3
      · go_wp2_with fail
        go_ret
        refine ⟨?_, hB1⟩
        rw [← HR.out]
        (try rw [H0.out (by decide)]) <;> (try rw [H1.out (by decide)]) <;> (try rw [H2.out (by decide)]) <;> (try rw [H3.out (by decide)]) <;> rfl
      · go_wp2_with fail
        go_roundw
        case rel => exact ⟨3 + 1, by decide, rfl, ⟨fun hx => by first | trivial | rfl | exact H0.out (by decide) | exact absurd hx (by decide), fun hx => by first | trivial | rfl | exact H1.out (by decide) | exact absurd hx (by decide), fun hx => by first | trivial | rfl | exact H2.out (by decide) | exact absurd hx (by decide), fun hx => by first | trivial | rfl | exact H3.out (by decide) | exact absurd hx (by decide), fun hx => by first | trivial | rfl | exact absurd hx (by decide)⟩, hB1⟩
        case measure => first | done | (simp [intOf]; done) | (simp [intOf]; omega)
    · have c0 : wr.cell? ⟨b, 8, none⟩ = some (.bool a4) := by simp [cell_of_row _ _ _ _ _ _ hc]
      have c1 : wr.cell? ⟨b, 9, none⟩ = some (.int .i64 e4) := by simp [cell_of_row _ _ _ _ _ _ hc]
      have hB1 := hB.alloc hB.size (.cells #[.bool a4, .int .i64 e4] 177)
      clear hc
      have H0 := Lib.hid h0; have H1 := Lib.hid h1; have H2 := Lib.hid h2; have H3 := Lib.hid h3
      clear h0 h1 h2 h3 h4
      cases a4
      · go_wp2_with fail
        go_ret
        refine ⟨?_, hB1⟩
        rw [← HR.out]
        (try rw [H0.out (by decide)]) <;> (try rw [H1.out (by decide)]) <;> (try rw [H2.out (by decide)]) <;> (try rw [H3.out (by decide)]) <;> rfl
      · go_wp2_with fail
        go_roundw
        case rel => exact ⟨4 + 1, by decide, rfl, ⟨fun hx => by first | trivial | rfl | exact H0.out (by decide) | exact absurd hx (by decide), fun hx => by first | trivial | rfl | exact H1.out (by decide) | exact absurd hx (by decide), fun hx => by first | trivial | rfl | exact H2.out (by decide) | exact absurd hx (by decide), fun hx => by first | trivial | rfl | exact H3.out (by decide) | exact absurd hx (by decide), fun hx => by first | trivial | rfl | exact absurd hx (by decide)⟩, hB1⟩
        case measure => first | done | (simp [intOf]; done) | (simp [intOf]; omega)
    · have H0 := Lib.hid h0; have H1 := Lib.hid h1; have H2 := Lib.hid h2; have H3 := Lib.hid h3; have H4 := Lib.hid h4
      clear h0 h1 h2 h3 h4 hc
      go_wp2_with fail
      go_ret
      refine ⟨?_, hB⟩
      rw [← HR.out, H0.out (by decide), H1.out (by decide), H2.out (by decide), H3.out (by decide), H4.out (by decide)]
      rfl
theorem enough_any (s : Dw.St) (hi : 0 ≤ s.iso ∧ s.iso ≤ 15) (n : Int) (g : Nat) (w : World) (hg : w.heap[g]? = some (.cells (stC s) 140 (0, 0))) :
    Calls Tryz.prog 124 #[.pointer (some ⟨g, 0, none⟩), .int .i64 n] w fun e w' => e = .returned (.bool (decide (n ≤ Dw.soundN s.iso))) ∧ Below w.heap.size w w' := by
  have HS := Lib.hid (fun w => sound_any s hi w)
  generalize Dw.soundN s.iso = m at *
  go_enter Tryz.func124, Tryz.ntmps124
  go_wp2_with (first | (refine lp 28 0 (stC s) hg rfl rfl rfl (by kernel_rfl) (by rfl) ?_))
  refine cb (HS.out _) fun w1 hb => ?_
  clear hg
  go_wp2_with fail
  go_ret
  exact ⟨by first | rfl | simp, hb⟩
def CEnd (T : Dw.St) (er : Int) (g : Nat) (w : World) (e : Ending) (w' : World) : Prop :=
  e = .returned (.int .i64 er) ∧ KeepBut (fun k => k = g) w w' ∧ ∃ s', w'.heap[g]? = some (.cells (stC s') 140 (0, 0)) ∧ (er = 0 → s' = T)
theorem arm_any (s : Dw.St) (hi : 0 ≤ s.iso ∧ s.iso ≤ 15) (c : Dw.Cmd) (g : Nat) (w : World) (hg : w.heap[g]? = some (.cells (stC s) 140 (0, 0))) :
    Calls Tryz.prog 88 #[.pointer (some ⟨g, 0, none⟩), cmV c] w (CEnd { s with ar := true, mo := 1 } (Dw.armE s) g w) := by
  have hB := (Below.refl w.heap.size w).alloc (Nat.le_refl _) (.cells (cmC c) 67)
  have hg1 := (hB.block g (block_lt hg)).trans hg
  have hgl := block_lt hg
  have HE := Lib.hid (fun w h => enough_any s hi 2 g w h)
  have HR := Lib.hid (show Dw.armE s = if (!s.ar) = false then 21 else if decide (2 ≤ Dw.soundN s.iso) = false then 24 else 0 from by
    unfold Dw.armE; cases s.ar <;> simp)
  generalize Dw.armE s = R at *
  generalize decide (2 ≤ Dw.soundN s.iso) = en at *
  obtain ⟨c0, c1, -⟩ := cells6 hg1
  clear hg
  go_enter Tryz.func88, Tryz.ntmps88
  go_wp2_with fail
  generalize w.alloc _ = V at *
  refine wp_letterD [0,1,2,3,4,5,6,7,8,9] 10 11 (some 16) (NewRows V #[.bool (!s.ar), .int .i64 21, .bool en, .int .i64 24] 2 177) rfl rfl (by kernel_rfl) (by kernel_rfl) rfl (fun v A B h hk => h.keep hk) ?_
  (apply rat; (focus (intro w' hk; have k1 := look hk c1; repeat' (first | exact rn | ((first | refine' rv ?_ rfl rfl (by go_simp; first | done | with_reducible rfl | exact rfl) | refine' rc ?_ (by exact rfl) (by exact rfl) (by go_simp; first | done | (constructor <;> with_reducible rfl) | with_reducible rfl) (by exact HE.out w' (kpi hk hg1)) | refine' rs ?_ rfl rfl); try simp only [Act.put, List.setIfInBounds_toArray, List.set_cons_zero, List.set_cons_succ])))))
  refine ⟨rfl, sure_rows (fun w' _ => by go_simp), ?_⟩
  rintro v W2 hk2 ⟨b, rfl, hb, hbc⟩
  simp only [List.drop_succ_cons, List.drop_zero, List.setIfInBounds_toArray, List.set_cons_zero, List.set_cons_succ]
  have hg2 := kpi hk2 hg1
  replace hB := hB.trans (hk2.whole.mono hB.size)
  clear hk2 hg1 c0 c1 HE
  go_wp2_with fail
  refine (first2_any _ _ _ _ b _ _ hbc).mono ?_
  rintro e w3 ⟨he, hb3⟩
  rw [← HR.out] at he
  subst he
  have hg3 := kp hb3 hg2
  replace hB := tr hB hb3
  clear hb3 hg2 hbc
  have q0 := heap_setCell_same w3 g 1 _ _ (.bool true) hg3
  change _ = some (Obj.cells (stC { s with ar := true }) _ _) at q0
  have q1 := heap_setCell_same _ g 0 _ _ (.int .i64 1) q0
  change _ = some (Obj.cells (stC { s with ar := true, mo := 1 }) _ _) at q1
  have hK := (((keepB hB).mono (fun _ _ h => h.elim) : KeepBut (fun k => k = g) w w3).setCell (p := ⟨g, 1, none⟩) rfl (.bool true)).setCell (p := ⟨g, 0, none⟩) rfl (.int .i64 1)
  obtain ⟨c0, c1, -⟩ := cells6 hg3
  obtain ⟨d0, d1, -⟩ := cells6 q0
  have z0 := frozen0 hg3 1
  have z1 := frozen0 q0 0
  go_wp2_with fail
  go_ret
  exact ⟨rfl, hK, _, q1, fun _ => rfl⟩
theorem goes_ff (mo la lo iso : Int) (hi : 0 ≤ iso ∧ iso ≤ 15) (ki n : Int) (cla clo : Nat) (g : Nat) (w : World) (hg : w.heap[g]? = some (.cells (stC ⟨mo, false, false, la, lo, iso⟩) 140 (0, 0))) :
    Calls Tryz.prog 87 #[.pointer (some ⟨g, 0, none⟩), cmV ⟨ki, n, cla, clo⟩] w (CEnd ⟨n, false, false, la, lo, iso⟩ (Dw.goesE ⟨mo, false, false, la, lo, iso⟩ n) g w) := by
  have hB := (Below.refl w.heap.size w).alloc (Nat.le_refl _) (.cells (cmC ⟨ki, n, cla, clo⟩) 67)
  have hC := han w (.cells (cmC ⟨ki, n, cla, clo⟩) 67)
  have hg1 := (hB.block g (block_lt hg)).trans hg
  have hgl := block_lt hg
  have HE := Lib.hid (fun m w h => enough_any ⟨mo, false, false, la, lo, iso⟩ hi m g w h)
  have HW := Lib.hid (fun w => way_any mo n w)
  have HN := Lib.hid (fun w => needs_any n w)
  have HH := Lib.hid (fun w => home_any n w)
  obtain ⟨z, hz⟩ : ∃ z, (n == 0) = z := ⟨_, rfl⟩
  have hz' : (n != 0) = !z := by rw [← hz]; rfl
  obtain ⟨hm, hhm⟩ : ∃ z, Dw.homeB n = z := ⟨_, rfl⟩
  have hr : Dw.goesE ⟨mo, false, false, la, lo, iso⟩ n = if Dw.wayB mo n = false then 20 else if z = false then 22 else if true = false then 21 else if (!hm) = false then 23 else if decide (Dw.needsI n ≤ Dw.soundN iso) = false then 24 else 0 := by
    unfold Dw.goesE
    dsimp only
    subst hz
    rw [hhm]
    rcases Int.lt_or_le (Dw.soundN iso) (Dw.needsI n) with hq | hq
    · have hq2 : ¬ Dw.needsI n ≤ Dw.soundN iso := by omega
      by_cases hn : n = 0 <;> cases hm <;> simp [*] <;> omega
    · have hq2 : ¬ Dw.soundN iso < Dw.needsI n := by omega
      by_cases hn : n = 0 <;> cases hm <;> simp [*] <;> omega
  have HR := Lib.hid hr
  rw [hhm] at HH
  dsimp only at HE
  generalize Dw.goesE ⟨mo, false, false, la, lo, iso⟩ n = R at *
  generalize Dw.wayB mo n = wv at *
  generalize Dw.needsI n = nd at *
  generalize hen : decide (nd ≤ Dw.soundN iso) = en at *
  have HE := Lib.hid (fun w h => hen ▸ HE.out nd w h)
  obtain ⟨c0, c1, c2, -⟩ := cells6 hg1
  obtain ⟨k0, k1, -⟩ := cells4 hC
  clear hg hC hr hhm hen
  go_enter Tryz.func87, Tryz.ntmps87
  go_wp2_with fail
  generalize w.alloc _ = V at *
  refine wp_letterD [0,1,2,3,4,5,6,7,8,9,10,11,12,13,14,15,16,17,18,19,20,21,22,23,24,25,26,27,28,29,30,31,32,33,34,35,36,37,38,39,40,41,42,43,44,45,46,47,48,49] 50 51 (some 56) (NewRows V #[.bool wv, .int .i64 20, .bool z, .int .i64 22, .bool true, .int .i64 21, .bool (!hm), .int .i64 23, .bool en, .int .i64 24] 5 177) rfl rfl (by kernel_rfl) (by kernel_rfl) rfl (fun v A B h hk => h.keep hk) ?_
  (apply rat; (focus (intro w' hk; obtain ⟨q0,q1,q2,q3⟩ := look4 hk c0 c1 c2 k1; repeat' (first | exact rn | ((first | refine' rv ?_ rfl rfl (by go_simp; first | done | with_reducible rfl | exact rfl) | refine' rc ?_ (by exact rfl) (by exact rfl) (by go_simp; first | done | (constructor <;> with_reducible rfl) | with_reducible rfl) (by first | first | exact HW.out w' | exact HN.out w' | exact HH.out w' | exact HE.out w' (kpi hk hg1)) | refine' rs ?_ rfl rfl); try simp only [Act.put, List.setIfInBounds_toArray, List.set_cons_zero, List.set_cons_succ])))))
  refine ⟨rfl, sure_rows (fun w' _ => by go_simp), ?_⟩
  rintro v W2 hk2 ⟨b, rfl, hb, hbc⟩
  simp only [List.drop_succ_cons, List.drop_zero, List.setIfInBounds_toArray, List.set_cons_zero, List.set_cons_succ]
  have hg2 := kpi hk2 hg1
  have k3 := look hk2 k1
  replace hB := hB.trans (hk2.whole.mono hB.size)
  clear hk2 hg1 c0 c1 c2 k0 k1 HE HW HN HH hz hz'
  go_wp2_with fail
  refine (first5_any _ _ _ _ _ _ _ _ _ _ b _ _ hbc).mono ?_
  rintro e w3 ⟨he, hb3⟩
  rw [← HR.out] at he
  subst he
  have hg3 := kp hb3 hg2
  have k4 := (hb3.cell (lt_of_cell k3)).trans k3
  replace hB := tr hB hb3
  clear hb3 hg2 hbc k3
  have q0 := heap_setCell_same w3 g 0 _ _ (.int .i64 n) hg3
  change _ = some (Obj.cells (stC ⟨n, false, false, la, lo, iso⟩) _ _) at q0
  have hK := ((keepB hB).mono (fun _ _ h => h.elim) : KeepBut (fun k => k = g) w w3).setCell (p := ⟨g, 0, none⟩) rfl (.int .i64 n)
  obtain ⟨c0, -⟩ := cells6 hg3
  have z0 := frozen0 hg3 0
  go_wp2_with fail
  go_ret
  exact ⟨rfl, hK, _, q0, fun _ => rfl⟩
theorem goes_ft (mo la lo iso : Int) (hi : 0 ≤ iso ∧ iso ≤ 15) (ki n : Int) (cla clo : Nat) (g : Nat) (w : World) (hg : w.heap[g]? = some (.cells (stC ⟨mo, false, true, la, lo, iso⟩) 140 (0, 0))) :
    Calls Tryz.prog 87 #[.pointer (some ⟨g, 0, none⟩), cmV ⟨ki, n, cla, clo⟩] w (CEnd ⟨n, false, true, la, lo, iso⟩ (Dw.goesE ⟨mo, false, true, la, lo, iso⟩ n) g w) := by
  have hB := (Below.refl w.heap.size w).alloc (Nat.le_refl _) (.cells (cmC ⟨ki, n, cla, clo⟩) 67)
  have hC := han w (.cells (cmC ⟨ki, n, cla, clo⟩) 67)
  have hg1 := (hB.block g (block_lt hg)).trans hg
  have hgl := block_lt hg
  have HE := Lib.hid (fun m w h => enough_any ⟨mo, false, true, la, lo, iso⟩ hi m g w h)
  have HW := Lib.hid (fun w => way_any mo n w)
  have HN := Lib.hid (fun w => needs_any n w)
  have HH := Lib.hid (fun w => home_any n w)
  obtain ⟨z, hz⟩ : ∃ z, (n == 0) = z := ⟨_, rfl⟩
  have hz' : (n != 0) = !z := by rw [← hz]; rfl
  obtain ⟨hm, hhm⟩ : ∃ z, Dw.homeB n = z := ⟨_, rfl⟩
  have hr : Dw.goesE ⟨mo, false, true, la, lo, iso⟩ n = if Dw.wayB mo n = false then 20 else if z = false then 22 else if true = false then 21 else if true = false then 23 else if decide (Dw.needsI n ≤ Dw.soundN iso) = false then 24 else 0 := by
    unfold Dw.goesE
    dsimp only
    subst hz
    rw [hhm]
    rcases Int.lt_or_le (Dw.soundN iso) (Dw.needsI n) with hq | hq
    · have hq2 : ¬ Dw.needsI n ≤ Dw.soundN iso := by omega
      by_cases hn : n = 0 <;> cases hm <;> simp [*] <;> omega
    · have hq2 : ¬ Dw.soundN iso < Dw.needsI n := by omega
      by_cases hn : n = 0 <;> cases hm <;> simp [*] <;> omega
  have HR := Lib.hid hr
  rw [hhm] at HH
  dsimp only at HE
  generalize Dw.goesE ⟨mo, false, true, la, lo, iso⟩ n = R at *
  generalize Dw.wayB mo n = wv at *
  generalize Dw.needsI n = nd at *
  generalize hen : decide (nd ≤ Dw.soundN iso) = en at *
  have HE := Lib.hid (fun w h => hen ▸ HE.out nd w h)
  obtain ⟨c0, c1, c2, -⟩ := cells6 hg1
  obtain ⟨k0, k1, -⟩ := cells4 hC
  clear hg hC hr hhm hen
  go_enter Tryz.func87, Tryz.ntmps87
  go_wp2_with fail
  generalize w.alloc _ = V at *
  refine wp_letterD [0,1,2,3,4,5,6,7,8,9,10,11,12,13,14,15,16,17,18,19,20,21,22,23,24,25,26,27,28,29,30,31,32,33,34,35,36,37,38,39,40,41,42,43,44,45,46,47,48,49] 50 51 (some 56) (NewRows V #[.bool wv, .int .i64 20, .bool z, .int .i64 22, .bool true, .int .i64 21, .bool true, .int .i64 23, .bool en, .int .i64 24] 5 177) rfl rfl (by kernel_rfl) (by kernel_rfl) rfl (fun v A B h hk => h.keep hk) ?_
  (apply rat; (focus (intro w' hk; obtain ⟨q0,q1,q2,q3⟩ := look4 hk c0 c1 c2 k1; repeat' (first | exact rn | ((first | refine' rv ?_ rfl rfl (by go_simp; first | done | with_reducible rfl | exact rfl) | refine' rc ?_ (by exact rfl) (by exact rfl) (by go_simp; first | done | (constructor <;> with_reducible rfl) | with_reducible rfl) (by first | first | exact HW.out w' | exact HN.out w' | exact HH.out w' | exact HE.out w' (kpi hk hg1)) | refine' rs ?_ rfl rfl); try simp only [Act.put, List.setIfInBounds_toArray, List.set_cons_zero, List.set_cons_succ])))))
  refine ⟨rfl, sure_rows (fun w' _ => by go_simp), ?_⟩
  rintro v W2 hk2 ⟨b, rfl, hb, hbc⟩
  simp only [List.drop_succ_cons, List.drop_zero, List.setIfInBounds_toArray, List.set_cons_zero, List.set_cons_succ]
  have hg2 := kpi hk2 hg1
  have k3 := look hk2 k1
  replace hB := hB.trans (hk2.whole.mono hB.size)
  clear hk2 hg1 c0 c1 c2 k0 k1 HE HW HN HH hz hz'
  go_wp2_with fail
  refine (first5_any _ _ _ _ _ _ _ _ _ _ b _ _ hbc).mono ?_
  rintro e w3 ⟨he, hb3⟩
  rw [← HR.out] at he
  subst he
  have hg3 := kp hb3 hg2
  have k4 := (hb3.cell (lt_of_cell k3)).trans k3
  replace hB := tr hB hb3
  clear hb3 hg2 hbc k3
  have q0 := heap_setCell_same w3 g 0 _ _ (.int .i64 n) hg3
  change _ = some (Obj.cells (stC ⟨n, false, true, la, lo, iso⟩) _ _) at q0
  have hK := ((keepB hB).mono (fun _ _ h => h.elim) : KeepBut (fun k => k = g) w w3).setCell (p := ⟨g, 0, none⟩) rfl (.int .i64 n)
  obtain ⟨c0, -⟩ := cells6 hg3
  have z0 := frozen0 hg3 0
  go_wp2_with fail
  go_ret
  exact ⟨rfl, hK, _, q0, fun _ => rfl⟩
theorem goes_tf (mo la lo iso : Int) (hi : 0 ≤ iso ∧ iso ≤ 15) (ki n : Int) (cla clo : Nat) (g : Nat) (w : World) (hg : w.heap[g]? = some (.cells (stC ⟨mo, true, false, la, lo, iso⟩) 140 (0, 0))) :
    Calls Tryz.prog 87 #[.pointer (some ⟨g, 0, none⟩), cmV ⟨ki, n, cla, clo⟩] w (CEnd ⟨n, true, false, la, lo, iso⟩ (Dw.goesE ⟨mo, true, false, la, lo, iso⟩ n) g w) := by
  have hB := (Below.refl w.heap.size w).alloc (Nat.le_refl _) (.cells (cmC ⟨ki, n, cla, clo⟩) 67)
  have hC := han w (.cells (cmC ⟨ki, n, cla, clo⟩) 67)
  have hg1 := (hB.block g (block_lt hg)).trans hg
  have hgl := block_lt hg
  have HE := Lib.hid (fun m w h => enough_any ⟨mo, true, false, la, lo, iso⟩ hi m g w h)
  have HW := Lib.hid (fun w => way_any mo n w)
  have HN := Lib.hid (fun w => needs_any n w)
  have HH := Lib.hid (fun w => home_any n w)
  obtain ⟨z, hz⟩ : ∃ z, (n == 0) = z := ⟨_, rfl⟩
  have hz' : (n != 0) = !z := by rw [← hz]; rfl
  obtain ⟨hm, hhm⟩ : ∃ z, Dw.homeB n = z := ⟨_, rfl⟩
  have hr : Dw.goesE ⟨mo, true, false, la, lo, iso⟩ n = if Dw.wayB mo n = false then 20 else if true = false then 22 else if (!z) = false then 21 else if (!hm) = false then 23 else if decide (Dw.needsI n ≤ Dw.soundN iso) = false then 24 else 0 := by
    unfold Dw.goesE
    dsimp only
    subst hz
    rw [hhm]
    rcases Int.lt_or_le (Dw.soundN iso) (Dw.needsI n) with hq | hq
    · have hq2 : ¬ Dw.needsI n ≤ Dw.soundN iso := by omega
      by_cases hn : n = 0 <;> cases hm <;> simp [*] <;> omega
    · have hq2 : ¬ Dw.soundN iso < Dw.needsI n := by omega
      by_cases hn : n = 0 <;> cases hm <;> simp [*] <;> omega
  have HR := Lib.hid hr
  rw [hhm] at HH
  dsimp only at HE
  generalize Dw.goesE ⟨mo, true, false, la, lo, iso⟩ n = R at *
  generalize Dw.wayB mo n = wv at *
  generalize Dw.needsI n = nd at *
  generalize hen : decide (nd ≤ Dw.soundN iso) = en at *
  have HE := Lib.hid (fun w h => hen ▸ HE.out nd w h)
  obtain ⟨c0, c1, c2, -⟩ := cells6 hg1
  obtain ⟨k0, k1, -⟩ := cells4 hC
  clear hg hC hr hhm hen
  go_enter Tryz.func87, Tryz.ntmps87
  go_wp2_with fail
  generalize w.alloc _ = V at *
  refine wp_letterD [0,1,2,3,4,5,6,7,8,9,10,11,12,13,14,15,16,17,18,19,20,21,22,23,24,25,26,27,28,29,30,31,32,33,34,35,36,37,38,39,40,41,42,43,44,45,46,47,48,49] 50 51 (some 56) (NewRows V #[.bool wv, .int .i64 20, .bool true, .int .i64 22, .bool (!z), .int .i64 21, .bool (!hm), .int .i64 23, .bool en, .int .i64 24] 5 177) rfl rfl (by kernel_rfl) (by kernel_rfl) rfl (fun v A B h hk => h.keep hk) ?_
  (apply rat; (focus (intro w' hk; obtain ⟨q0,q1,q2,q3⟩ := look4 hk c0 c1 c2 k1; repeat' (first | exact rn | ((first | refine' rv ?_ rfl rfl (by go_simp; first | done | with_reducible rfl | exact rfl) | refine' rc ?_ (by exact rfl) (by exact rfl) (by go_simp; first | done | (constructor <;> with_reducible rfl) | with_reducible rfl) (by first | first | exact HW.out w' | exact HN.out w' | exact HH.out w' | exact HE.out w' (kpi hk hg1)) | refine' rs ?_ rfl rfl); try simp only [Act.put, List.setIfInBounds_toArray, List.set_cons_zero, List.set_cons_succ])))))
  refine ⟨rfl, sure_rows (fun w' _ => by go_simp), ?_⟩
  rintro v W2 hk2 ⟨b, rfl, hb, hbc⟩
  simp only [List.drop_succ_cons, List.drop_zero, List.setIfInBounds_toArray, List.set_cons_zero, List.set_cons_succ]
  have hg2 := kpi hk2 hg1
  have k3 := look hk2 k1
  replace hB := hB.trans (hk2.whole.mono hB.size)
  clear hk2 hg1 c0 c1 c2 k0 k1 HE HW HN HH hz hz'
  go_wp2_with fail
  refine (first5_any _ _ _ _ _ _ _ _ _ _ b _ _ hbc).mono ?_
  rintro e w3 ⟨he, hb3⟩
  rw [← HR.out] at he
  subst he
  have hg3 := kp hb3 hg2
  have k4 := (hb3.cell (lt_of_cell k3)).trans k3
  replace hB := tr hB hb3
  clear hb3 hg2 hbc k3
  have q0 := heap_setCell_same w3 g 0 _ _ (.int .i64 n) hg3
  change _ = some (Obj.cells (stC ⟨n, true, false, la, lo, iso⟩) _ _) at q0
  have hK := ((keepB hB).mono (fun _ _ h => h.elim) : KeepBut (fun k => k = g) w w3).setCell (p := ⟨g, 0, none⟩) rfl (.int .i64 n)
  obtain ⟨c0, -⟩ := cells6 hg3
  have z0 := frozen0 hg3 0
  go_wp2_with fail
  go_ret
  exact ⟨rfl, hK, _, q0, fun _ => rfl⟩
theorem goes_tt (mo la lo iso : Int) (hi : 0 ≤ iso ∧ iso ≤ 15) (ki n : Int) (cla clo : Nat) (g : Nat) (w : World) (hg : w.heap[g]? = some (.cells (stC ⟨mo, true, true, la, lo, iso⟩) 140 (0, 0))) :
    Calls Tryz.prog 87 #[.pointer (some ⟨g, 0, none⟩), cmV ⟨ki, n, cla, clo⟩] w (CEnd ⟨n, true, true, la, lo, iso⟩ (Dw.goesE ⟨mo, true, true, la, lo, iso⟩ n) g w) := by
  have hB := (Below.refl w.heap.size w).alloc (Nat.le_refl _) (.cells (cmC ⟨ki, n, cla, clo⟩) 67)
  have hC := han w (.cells (cmC ⟨ki, n, cla, clo⟩) 67)
  have hg1 := (hB.block g (block_lt hg)).trans hg
  have hgl := block_lt hg
  have HE := Lib.hid (fun m w h => enough_any ⟨mo, true, true, la, lo, iso⟩ hi m g w h)
  have HW := Lib.hid (fun w => way_any mo n w)
  have HN := Lib.hid (fun w => needs_any n w)
  have HH := Lib.hid (fun w => home_any n w)
  obtain ⟨z, hz⟩ : ∃ z, (n == 0) = z := ⟨_, rfl⟩
  have hz' : (n != 0) = !z := by rw [← hz]; rfl
  obtain ⟨hm, hhm⟩ : ∃ z, Dw.homeB n = z := ⟨_, rfl⟩
  have hr : Dw.goesE ⟨mo, true, true, la, lo, iso⟩ n = if Dw.wayB mo n = false then 20 else if true = false then 22 else if (!z) = false then 21 else if true = false then 23 else if decide (Dw.needsI n ≤ Dw.soundN iso) = false then 24 else 0 := by
    unfold Dw.goesE
    dsimp only
    subst hz
    rw [hhm]
    rcases Int.lt_or_le (Dw.soundN iso) (Dw.needsI n) with hq | hq
    · have hq2 : ¬ Dw.needsI n ≤ Dw.soundN iso := by omega
      by_cases hn : n = 0 <;> cases hm <;> simp [*] <;> omega
    · have hq2 : ¬ Dw.soundN iso < Dw.needsI n := by omega
      by_cases hn : n = 0 <;> cases hm <;> simp [*] <;> omega
  have HR := Lib.hid hr
  rw [hhm] at HH
  dsimp only at HE
  generalize Dw.goesE ⟨mo, true, true, la, lo, iso⟩ n = R at *
  generalize Dw.wayB mo n = wv at *
  generalize Dw.needsI n = nd at *
  generalize hen : decide (nd ≤ Dw.soundN iso) = en at *
  have HE := Lib.hid (fun w h => hen ▸ HE.out nd w h)
  obtain ⟨c0, c1, c2, -⟩ := cells6 hg1
  obtain ⟨k0, k1, -⟩ := cells4 hC
  clear hg hC hr hhm hen
  go_enter Tryz.func87, Tryz.ntmps87
  go_wp2_with fail
  generalize w.alloc _ = V at *
  refine wp_letterD [0,1,2,3,4,5,6,7,8,9,10,11,12,13,14,15,16,17,18,19,20,21,22,23,24,25,26,27,28,29,30,31,32,33,34,35,36,37,38,39,40,41,42,43,44,45,46,47,48,49] 50 51 (some 56) (NewRows V #[.bool wv, .int .i64 20, .bool true, .int .i64 22, .bool (!z), .int .i64 21, .bool true, .int .i64 23, .bool en, .int .i64 24] 5 177) rfl rfl (by kernel_rfl) (by kernel_rfl) rfl (fun v A B h hk => h.keep hk) ?_
  (apply rat; (focus (intro w' hk; obtain ⟨q0,q1,q2,q3⟩ := look4 hk c0 c1 c2 k1; repeat' (first | exact rn | ((first | refine' rv ?_ rfl rfl (by go_simp; first | done | with_reducible rfl | exact rfl) | refine' rc ?_ (by exact rfl) (by exact rfl) (by go_simp; first | done | (constructor <;> with_reducible rfl) | with_reducible rfl) (by first | first | exact HW.out w' | exact HN.out w' | exact HH.out w' | exact HE.out w' (kpi hk hg1)) | refine' rs ?_ rfl rfl); try simp only [Act.put, List.setIfInBounds_toArray, List.set_cons_zero, List.set_cons_succ])))))
  refine ⟨rfl, sure_rows (fun w' _ => by go_simp), ?_⟩
  rintro v W2 hk2 ⟨b, rfl, hb, hbc⟩
  simp only [List.drop_succ_cons, List.drop_zero, List.setIfInBounds_toArray, List.set_cons_zero, List.set_cons_succ]
  have hg2 := kpi hk2 hg1
  have k3 := look hk2 k1
  replace hB := hB.trans (hk2.whole.mono hB.size)
  clear hk2 hg1 c0 c1 c2 k0 k1 HE HW HN HH hz hz'
  go_wp2_with fail
  refine (first5_any _ _ _ _ _ _ _ _ _ _ b _ _ hbc).mono ?_
  rintro e w3 ⟨he, hb3⟩
  rw [← HR.out] at he
  subst he
  have hg3 := kp hb3 hg2
  have k4 := (hb3.cell (lt_of_cell k3)).trans k3
  replace hB := tr hB hb3
  clear hb3 hg2 hbc k3
  have q0 := heap_setCell_same w3 g 0 _ _ (.int .i64 n) hg3
  change _ = some (Obj.cells (stC ⟨n, true, true, la, lo, iso⟩) _ _) at q0
  have hK := ((keepB hB).mono (fun _ _ h => h.elim) : KeepBut (fun k => k = g) w w3).setCell (p := ⟨g, 0, none⟩) rfl (.int .i64 n)
  obtain ⟨c0, -⟩ := cells6 hg3
  have z0 := frozen0 hg3 0
  go_wp2_with fail
  go_ret
  exact ⟨rfl, hK, _, q0, fun _ => rfl⟩
theorem goes_any (s : Dw.St) (hi : 0 ≤ s.iso ∧ s.iso ≤ 15) (c : Dw.Cmd) (g : Nat) (w : World) (hg : w.heap[g]? = some (.cells (stC s) 140 (0, 0))) :
    Calls Tryz.prog 87 #[.pointer (some ⟨g, 0, none⟩), cmV c] w (CEnd { s with mo := c.n } (Dw.goesE s c.n) g w) := by
  obtain ⟨mo, ar, ho, la, lo, iso⟩ := s
  obtain ⟨ki, n, cla, clo⟩ := c
  cases ar <;> cases ho
  · exact goes_ff mo la lo iso hi ki n cla clo g w hg
  · exact goes_ft mo la lo iso hi ki n cla clo g w hg
  · exact goes_tf mo la lo iso hi ki n cla clo g w hg
  · exact goes_tt mo la lo iso hi ki n cla clo g w hg
end Go.Proofs.YtjibbchfndhhpaaGreatDoor
