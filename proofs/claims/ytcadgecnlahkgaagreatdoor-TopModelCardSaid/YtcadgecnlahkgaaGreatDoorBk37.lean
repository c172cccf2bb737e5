/- What the statement's proof stands on, part 37: RDelta, RDelta2. -/
import Derived.Test.YtcadgecnlahkgaaGreatDoorBk31
import Derived.Test.YtcadgecnlahkgaaGreatDoorBk32
import Derived.Test.YtcadgecnlahkgaaGreatDoorBk27
set_option linter.unusedSimpArgs false
set_option linter.unusedVariables false
set_option maxRecDepth 100000
set_option maxHeartbeats 4000000
namespace Go.Proofs.YtcadgecnlahkgaaGreatDoor
open Go.RowKit Go.Shelf
attribute [local go_sem] Oper.semAt_some
theorem step_cell (W : World) (g i : Nat) (row row' : Array Value) (t : TypeId) (v : Value) (h : W.heap[g]? = some (.cells row t (0, 0))) (hr : row.setIfInBounds i v = row') :
    ∃ W', W.setCell ⟨g, i, none⟩ v = W' ∧ W'.heap[g]? = some (.cells row' t (0, 0)) ∧ (∀ k, k ≠ g → W'.heap[k]? = W.heap[k]?) ∧ (∀ n w0, Below n w0 W → n ≤ g → Below n w0 W') := by
  refine ⟨_, rfl, ?_, fun k hk => heap_setCell_other W ⟨g, i, none⟩ k v hk, fun n w0 hB hn => hB.setCell (p := ⟨g, i, none⟩) hn v⟩
  rw [← hr]
  exact heap_setCell_same W g i _ _ v h
theorem rhome16_any (s : Dw.St) (c : Dw.Cmd) (w : World) :
    Calls Tryz.prog 41 #[stV s, cmV c] w fun e w' => e = .returned (.tuple #[stV (if Dw.homeE c = 0 then { s with ho := true, la := Dw.fixV c.la, lo := Dw.fixV c.lo } else s), .int .i64 (Dw.homeE c)]) ∧ Below w.heap.size w w' := by
  have HL := Lib.hid (fun w => rfix90_any c.la w)
  have HO := Lib.hid (fun w => rfix180_any c.lo w)
  have HR := Lib.hid (show Dw.homeE c = if Dw.fixE c.la 4636033603912859648 ≠ 0 then Dw.fixE c.la 4636033603912859648 else Dw.fixE c.lo 4640537203540230144 from rfl)
  have HA := Lib.hid (show Dw.fixE c.la 4636033603912859648 = 0 → (if Dw.fixE c.la 4636033603912859648 = 0 then Dw.fixV c.la else 0) = Dw.fixV c.la from fun h => if_pos h)
  have HB := Lib.hid (show Dw.fixE c.lo 4640537203540230144 = 0 → (if Dw.fixE c.lo 4640537203540230144 = 0 then Dw.fixV c.lo else 0) = Dw.fixV c.lo from fun h => if_pos h)
  obtain ⟨R, hR0⟩ : ∃ R, Dw.homeE c = R := ⟨_, rfl⟩
  obtain ⟨T, hT0⟩ : ∃ T, (if Dw.homeE c = 0 then { s with ho := true, la := Dw.fixV c.la, lo := Dw.fixV c.lo } else s) = T := ⟨_, rfl⟩
  have HT := Lib.hid hT0
  rw [hT0]
  rw [hR0] at HR HT ⊢
  obtain ⟨vL, hvL⟩ : ∃ v, (if Dw.fixE c.la 4636033603912859648 = 0 then Dw.fixV c.la else 0) = v := ⟨_, rfl⟩
  obtain ⟨vO, hvO⟩ : ∃ v, (if Dw.fixE c.lo 4640537203540230144 = 0 then Dw.fixV c.lo else 0) = v := ⟨_, rfl⟩
  rw [hvL] at HL HA
  rw [hvO] at HO HB
  clear hvL hvO hR0 hT0
  generalize Dw.fixE c.la 4636033603912859648 = eL at *
  generalize Dw.fixE c.lo 4640537203540230144 = eO at *
  generalize Dw.fixV c.la = fL at *
  generalize Dw.fixV c.lo = fO at *
  obtain ⟨V, hV⟩ : ∃ V, ((w.alloc (.cells (stC s) 38)).alloc (.cells (cmC c) 53)).alloc (.cells Z6 38) = V := ⟨_, rfl⟩
  obtain ⟨vz, hB, b0, b1, b2⟩ := alloc3 w _ _ _ V hV
  obtain ⟨mo, ar, ho, la, lo, iso⟩ := s
  obtain ⟨ki, cn, cla, clo⟩ := c
  dsimp only at *
  obtain ⟨c0, c1, c2, c3, c4, c5⟩ := cells6 b0
  obtain ⟨d0, d1, d2, d3⟩ := cells4 b1
  go_enter Tryz.func41, Tryz.ntmps41
  go_wp2_with fail
  refine cb (HL.out _) fun w1 hb => ?_
  replace b0 := kp hb b0
  replace b1 := kp hb b1
  replace b2 := kp hb b2
  replace hB := tr hB hb
  clear hb c0 c1 c2 c3 c4 c5 d0 d1 d2 d3 hV
  obtain ⟨d0, d1, d2, d3⟩ := cells4 b1
  by_cases hL : eL = 0
  · subst hL
    go_wp2_with fail
    refine cb (HO.out _) fun w2 hb => ?_
    replace b0 := kp hb b0
    replace b2 := kp hb b2
    replace hB := tr hB hb
    clear hb b1 d0 d1 d2 d3
    by_cases hO : eO = 0
    · subst hO
      have hR : R = 0 := by rw [HR.out]; rfl
      have hT : T = ⟨mo, ar, true, vL, vO, iso⟩ := by rw [← HT.out, hR, if_pos rfl, HA.out (by first | rfl | trivial), HB.out (by first | rfl | trivial)]
      subst hR; subst hT
      obtain ⟨W1, hW1, q0, o1, B1⟩ := step_cell w2 w.heap.size 2 _ (stC ⟨mo, ar, true, la, lo, iso⟩) _ (.bool true) b0 rfl
      obtain ⟨W2, hW2, q1, o2, B2⟩ := step_cell W1 w.heap.size 3 _ (stC ⟨mo, ar, true, vL, lo, iso⟩) _ (.int .i64 vL) q0 rfl
      obtain ⟨W3, hW3, q2, o3, B3⟩ := step_cell W2 w.heap.size 4 _ (stC ⟨mo, ar, true, vL, vO, iso⟩) _ (.int .i64 vO) q1 rfl
      replace b2 := (o3 _ (by omega)).trans ((o2 _ (by omega)).trans ((o1 (w.heap.size + 2) (by omega)).trans b2))
      replace hB := B3 _ _ (B2 _ _ (B1 _ _ hB (Nat.le_refl _)) (Nat.le_refl _)) (Nat.le_refl _)
      obtain ⟨-, -, c2, -⟩ := cells6 b0
      obtain ⟨-, -, -, c3, -⟩ := cells6 q0
      obtain ⟨-, -, -, -, c4, -⟩ := cells6 q1
      have z0 := frozen0 b0 2; have z1 := frozen0 q0 3; have z2 := frozen0 q1 4
      clear o1 o2 o3 B1 B2 B3 b0 q0 q1
      clear HR HT HA HB HL HO
      go_wp2_with (first | (refine lb q2 rfl rfl rfl (by kernel_rfl) ?_) | (refine sb q2 rfl rfl rfl rfl (by kernel_rfl) ?_) | (refine lb b2 rfl rfl rfl (by kernel_rfl) ?_) | (refine sb b2 rfl rfl rfl rfl (by kernel_rfl) ?_))
      refine bodyPost_ret (rct rfl (srh b2) (by rfl) (by kernel_rfl)) rfl ⟨?_, below_setRow hB (by omega) _⟩
      rfl
    · have hR : R = eO := by rw [HR.out]; rfl
      have hT : T = ⟨mo, ar, ho, la, lo, iso⟩ := by rw [← HT.out, hR, if_neg hO]
      subst hR; subst hT
      have hOb : (R == 0) = false := by simpa using hO
      clear HR HT HA HB HL HO
      go_wp2_with (first | (refine lb b0 rfl rfl rfl (by kernel_rfl) ?_) | (refine sb b0 rfl rfl rfl rfl (by kernel_rfl) ?_) | (refine lb b2 rfl rfl rfl (by kernel_rfl) ?_) | (refine sb b2 rfl rfl rfl rfl (by kernel_rfl) ?_))
      refine bodyPost_ret (rct rfl (srh b2) (by rfl) (by kernel_rfl)) rfl ⟨?_, below_setRow hB (by omega) _⟩
      rfl
  · have hR : R = eL := by rw [HR.out, if_pos hL]
    have hT : T = ⟨mo, ar, ho, la, lo, iso⟩ := by rw [← HT.out, hR, if_neg hL]
    subst hR; subst hT
    have hLb : (R == 0) = false := by simpa using hL
    clear HR HT HA HB HL HO
    go_wp2_with (first | (refine lb b0 rfl rfl rfl (by kernel_rfl) ?_) | (refine sb b0 rfl rfl rfl rfl (by kernel_rfl) ?_) | (refine lb b2 rfl rfl rfl (by kernel_rfl) ?_) | (refine sb b2 rfl rfl rfl rfl (by kernel_rfl) ?_))
    refine bodyPost_ret (rct rfl (srh b2) (by rfl) (by kernel_rfl)) rfl ⟨?_, below_setRow hB (by omega) _⟩
    rfl
theorem rdelta_go (s : Dw.St) (hi : 0 ≤ s.iso ∧ s.iso ≤ 15) (c : Dw.Cmd) (hk : c.ki = 1) (w : World) :
    Calls Tryz.prog 13 #[stV s, cmV c] w fun e w' => e = .returned (.tuple #[stV (if Dw.goesE s c.n = 0 then { s with mo := c.n } else s), .int .i64 (Dw.goesE s c.n)]) ∧ Below w.heap.size w w' := by
  have HG := Lib.hid (fun w => rgoes_any s hi c.n w)
  generalize (if Dw.goesE s c.n = 0 then { s with mo := c.n } else s) = T at *
  generalize Dw.goesE s c.n = R at *
  obtain ⟨V, hV⟩ : ∃ V, ((w.alloc (.cells (stC s) 38)).alloc (.cells (cmC c) 53)).alloc (.cells Z6 38) = V := ⟨_, rfl⟩
  obtain ⟨vz, hB, b0, b1, b2⟩ := alloc3 w _ _ _ V hV
  obtain ⟨mo, ar, ho, la, lo, iso⟩ := s
  obtain ⟨ki, cn, cla, clo⟩ := c
  dsimp only at *
  obtain ⟨c0, c1, c2, c3, c4, c5⟩ := cells6 b0
  obtain ⟨d0, d1, d2, d3⟩ := cells4 b1
  subst hk
  go_enter Tryz.func13, Tryz.ntmps13
  go_wp2_with (first | (refine lb b0 rfl rfl rfl (by kernel_rfl) ?_) | (refine sb b0 rfl rfl rfl rfl (by kernel_rfl) ?_))
  refine cb (HG.out _) fun w1 hb => ?_
  replace b2 := kp hb b2
  replace hB := tr hB hb
  clear hb c0 c1 c2 c3 c4 c5 d0 d1 d2 d3 hV b0 b1
  go_wp2_with (first | (refine lb b2 rfl rfl rfl (by kernel_rfl) ?_) | (refine sb b2 rfl rfl rfl rfl (by kernel_rfl) ?_))
  refine bodyPost_ret (rct rfl (srh b2) (by rfl) (by kernel_rfl)) rfl ⟨?_, below_setRow hB (by omega) _⟩
  rfl
theorem rdelta_home (s : Dw.St) (c : Dw.Cmd) (hk : c.ki = 4) (w : World) :
    Calls Tryz.prog 13 #[stV s, cmV c] w fun e w' => e = .returned (.tuple #[stV (if Dw.homeE c = 0 then { s with ho := true, la := Dw.fixV c.la, lo := Dw.fixV c.lo } else s), .int .i64 (Dw.homeE c)]) ∧ Below w.heap.size w w' := by
  have HG := Lib.hid (fun w => rhome16_any s c w)
  generalize (if Dw.homeE c = 0 then { s with ho := true, la := Dw.fixV c.la, lo := Dw.fixV c.lo } else s) = T at *
  generalize Dw.homeE c = R at *
  obtain ⟨V, hV⟩ : ∃ V, ((w.alloc (.cells (stC s) 38)).alloc (.cells (cmC c) 53)).alloc (.cells Z6 38) = V := ⟨_, rfl⟩
  obtain ⟨vz, hB, b0, b1, b2⟩ := alloc3 w _ _ _ V hV
  obtain ⟨mo, ar, ho, la, lo, iso⟩ := s
  obtain ⟨ki, cn, cla, clo⟩ := c
  dsimp only at *
  obtain ⟨c0, c1, c2, c3, c4, c5⟩ := cells6 b0
  obtain ⟨d0, d1, d2, d3⟩ := cells4 b1
  subst hk
  go_enter Tryz.func13, Tryz.ntmps13
  go_wp2_with (first | (refine lb b0 rfl rfl rfl (by kernel_rfl) ?_) | (refine sb b0 rfl rfl rfl rfl (by kernel_rfl) ?_) | (refine lb b1 rfl rfl rfl (by kernel_rfl) ?_) | (refine sb b1 rfl rfl rfl rfl (by kernel_rfl) ?_))
  refine cb (HG.out _) fun w1 hb => ?_
  replace b2 := kp hb b2
  replace hB := tr hB hb
  clear hb c0 c1 c2 c3 c4 c5 d0 d1 d2 d3 hV b0 b1
  go_wp2_with (first | (refine lb b2 rfl rfl rfl (by kernel_rfl) ?_) | (refine sb b2 rfl rfl rfl rfl (by kernel_rfl) ?_))
  refine bodyPost_ret (rct rfl (srh b2) (by rfl) (by kernel_rfl)) rfl ⟨?_, below_setRow hB (by omega) _⟩
  rfl
theorem rdelta_arm (s : Dw.St) (hi : 0 ≤ s.iso ∧ s.iso ≤ 15) (c : Dw.Cmd) (hk : c.ki = 2) (w : World) :
    Calls Tryz.prog 13 #[stV s, cmV c] w fun e w' => e = .returned (.tuple #[stV (if Dw.armE s = 0 then { s with ar := true, mo := 1 } else s), .int .i64 (Dw.armE s)]) ∧ Below w.heap.size w w' := by
  have HS := Lib.hid (fun w => rsens_any s hi w)
  obtain ⟨R, hR0⟩ : ∃ R, Dw.armE s = R := ⟨_, rfl⟩
  obtain ⟨T, hT0⟩ : ∃ T, (if Dw.armE s = 0 then { s with ar := true, mo := 1 } else s) = T := ⟨_, rfl⟩
  have HT := Lib.hid hT0
  have HR := Lib.hid (show R = if s.ar = true then 21 else if Dw.soundN s.iso < 2 then 24 else 0 from hR0.symm)
  rw [hT0]
  rw [hR0] at HT ⊢
  generalize Dw.soundN s.iso = sn at *
  clear hR0 hT0 hi
  obtain ⟨V, hV⟩ : ∃ V, ((w.alloc (.cells (stC s) 38)).alloc (.cells (cmC c) 53)).alloc (.cells Z6 38) = V := ⟨_, rfl⟩
  obtain ⟨vz, hB, b0, b1, b2⟩ := alloc3 w _ _ _ V hV
  obtain ⟨mo, ar, ho, la, lo, iso⟩ := s
  obtain ⟨ki, cn, cla, clo⟩ := c
  dsimp only at *
  obtain ⟨c0, c1, c2, c3, c4, c5⟩ := cells6 b0
  obtain ⟨d0, d1, d2, d3⟩ := cells4 b1
  subst hk
  cases ar
  · go_enter Tryz.func13, Tryz.ntmps13
    go_wp2_with (first | (refine lb b0 rfl rfl rfl (by kernel_rfl) ?_) | (refine sb b0 rfl rfl rfl rfl (by kernel_rfl) ?_))
    refine cb (HS.out _) fun w1 hb => ?_
    replace b0 := kp hb b0
    replace b2 := kp hb b2
    replace hB := tr hB hb
    clear hb c0 c1 c2 c3 c4 c5 d0 d1 d2 d3 hV b1
    by_cases hs : sn < 2
    · have hR : R = 24 := by rw [HR.out, if_neg (by decide), if_pos hs]
      have hT : T = ⟨mo, false, ho, la, lo, iso⟩ := by rw [← HT.out, hR, if_neg (by decide)]
      subst hR; subst hT
      clear HR HT HS
      go_wp2_with (first | (refine lb b0 rfl rfl rfl (by kernel_rfl) ?_) | (refine sb b0 rfl rfl rfl rfl (by kernel_rfl) ?_) | (refine lb b2 rfl rfl rfl (by kernel_rfl) ?_) | (refine sb b2 rfl rfl rfl rfl (by kernel_rfl) ?_))
      refine bodyPost_ret (rct rfl (srh b2) (by rfl) (by kernel_rfl)) rfl ⟨?_, below_setRow hB (by omega) _⟩
      rfl
    · have hR : R = 0 := by rw [HR.out, if_neg (by decide), if_neg hs]
      have hT : T = ⟨1, true, ho, la, lo, iso⟩ := by rw [← HT.out, hR, if_pos rfl]
      subst hR; subst hT
      obtain ⟨W1, hW1, q0, o1, B1⟩ := step_cell w1 w.heap.size 1 _ (stC ⟨mo, true, ho, la, lo, iso⟩) _ (.bool true) b0 rfl
      obtain ⟨W2, hW2, q1, o2, B2⟩ := step_cell W1 w.heap.size 0 _ (stC ⟨1, true, ho, la, lo, iso⟩) _ (.int .i64 1) q0 rfl
      replace b2 := (o2 _ (by omega)).trans ((o1 (w.heap.size + 2) (by omega)).trans b2)
      replace hB := B2 _ _ (B1 _ _ hB (Nat.le_refl _)) (Nat.le_refl _)
      obtain ⟨-, c1, -⟩ := cells6 b0
      obtain ⟨c0, -⟩ := cells6 q0
      have z0 := frozen0 b0 1; have z1 := frozen0 q0 0
      clear o1 o2 B1 B2 b0 q0
      clear HR HT HS
      go_wp2_with (first | (refine lb q1 rfl rfl rfl (by kernel_rfl) ?_) | (refine sb q1 rfl rfl rfl rfl (by kernel_rfl) ?_) | (refine lb b2 rfl rfl rfl (by kernel_rfl) ?_) | (refine sb b2 rfl rfl rfl rfl (by kernel_rfl) ?_))
      refine bodyPost_ret (rct rfl (srh b2) (by rfl) (by kernel_rfl)) rfl ⟨?_, below_setRow hB (by omega) _⟩
      rfl
  · have hR : R = 21 := by rw [HR.out, if_pos rfl]
    have hT : T = ⟨mo, true, ho, la, lo, iso⟩ := by rw [← HT.out, hR, if_neg (by decide)]
    subst hR; subst hT
    clear HR HT HS
    go_enter Tryz.func13, Tryz.ntmps13
    go_wp2_with (first | (refine lb b0 rfl rfl rfl (by kernel_rfl) ?_) | (refine sb b0 rfl rfl rfl rfl (by kernel_rfl) ?_) | (refine lb b2 rfl rfl rfl (by kernel_rfl) ?_) | (refine sb b2 rfl rfl rfl rfl (by kernel_rfl) ?_))
    refine bodyPost_ret (rct rfl (srh b2) (by rfl) (by kernel_rfl)) rfl ⟨?_, below_setRow hB (by omega) _⟩
    rfl
theorem rdelta_disarm (s : Dw.St) (c : Dw.Cmd) (hk : c.ki = 3) (w : World) :
    Calls Tryz.prog 13 #[stV s, cmV c] w fun e w' => e = .returned (.tuple #[stV (if Dw.disarmE s = 0 then { s with ar := false, mo := 0 } else s), .int .i64 (Dw.disarmE s)]) ∧ Below w.heap.size w w' := by
  obtain ⟨R, hR0⟩ : ∃ R, Dw.disarmE s = R := ⟨_, rfl⟩
  obtain ⟨T, hT0⟩ : ∃ T, (if Dw.disarmE s = 0 then { s with ar := false, mo := 0 } else s) = T := ⟨_, rfl⟩
  have HT := Lib.hid hT0
  have HR := Lib.hid (show R = if s.ar = false then 22 else if s.mo ≠ 1 ∧ s.mo ≠ 5 then 20 else 0 from hR0.symm)
  rw [hT0]
  rw [hR0] at HT ⊢
  clear hR0 hT0
  obtain ⟨V, hV⟩ : ∃ V, ((w.alloc (.cells (stC s) 38)).alloc (.cells (cmC c) 53)).alloc (.cells Z6 38) = V := ⟨_, rfl⟩
  obtain ⟨vz, hB, b0, b1, b2⟩ := alloc3 w _ _ _ V hV
  obtain ⟨mo, ar, ho, la, lo, iso⟩ := s
  obtain ⟨ki, cn, cla, clo⟩ := c
  dsimp only at *
  obtain ⟨c0, c1, c2, c3, c4, c5⟩ := cells6 b0
  obtain ⟨d0, d1, d2, d3⟩ := cells4 b1
  subst hk
  cases ar
  · have hR : R = 22 := by rw [HR.out, if_pos rfl]
    have hT : T = ⟨mo, false, ho, la, lo, iso⟩ := by rw [← HT.out, hR, if_neg (by decide)]
    subst hR; subst hT
    clear HR HT
    go_enter Tryz.func13, Tryz.ntmps13
    go_wp2_with (first | (refine lb b0 rfl rfl rfl (by kernel_rfl) ?_) | (refine sb b0 rfl rfl rfl rfl (by kernel_rfl) ?_) | (refine lb b2 rfl rfl rfl (by kernel_rfl) ?_) | (refine sb b2 rfl rfl rfl rfl (by kernel_rfl) ?_))
    refine bodyPost_ret (rct rfl (srh b2) (by rfl) (by kernel_rfl)) rfl ⟨?_, below_setRow hB (by omega) _⟩
    rfl
  · by_cases hm : mo ≠ 1 ∧ mo ≠ 5
    · have hR : R = 20 := by rw [HR.out, if_neg (by decide), if_pos hm]
      have hT : T = ⟨mo, true, ho, la, lo, iso⟩ := by rw [← HT.out, hR, if_neg (by decide)]
      subst hR; subst hT
      have m1 : (mo != 1) = true := by simpa using hm.1
      have m5 : (mo != 5) = true := by simpa using hm.2
      clear HR HT hm
      go_enter Tryz.func13, Tryz.ntmps13
      go_wp2_with (first | (refine lb b0 rfl rfl rfl (by kernel_rfl) ?_) | (refine sb b0 rfl rfl rfl rfl (by kernel_rfl) ?_) | (refine lb b2 rfl rfl rfl (by kernel_rfl) ?_) | (refine sb b2 rfl rfl rfl rfl (by kernel_rfl) ?_))
      refine bodyPost_ret (rct rfl (srh b2) (by rfl) (by kernel_rfl)) rfl ⟨?_, below_setRow hB (by omega) _⟩
      rfl
    · have hR : R = 0 := by rw [HR.out, if_neg (by decide), if_neg hm]
      have hT : T = ⟨0, false, ho, la, lo, iso⟩ := by rw [← HT.out, hR, if_pos rfl]
      subst hR; subst hT
      obtain ⟨W1, hW1, q0, o1, B1⟩ := step_cell V w.heap.size 1 _ (stC ⟨mo, false, ho, la, lo, iso⟩) _ (.bool false) b0 rfl
      obtain ⟨W2, hW2, q1, o2, B2⟩ := step_cell W1 w.heap.size 0 _ (stC ⟨0, false, ho, la, lo, iso⟩) _ (.int .i64 0) q0 rfl
      replace b2 := (o2 _ (by omega)).trans ((o1 (w.heap.size + 2) (by omega)).trans b2)
      replace hB := B2 _ _ (B1 _ _ hB (Nat.le_refl _)) (Nat.le_refl _)
      obtain ⟨e0, -⟩ := cells6 q0
      have z0 := frozen0 b0 1; have z1 := frozen0 q0 0
      clear o1 o2 B1 B2 b0 q0
      clear HR HT
      by_cases h1 : mo = 1
      · subst h1
        clear hm
        go_enter Tryz.func13, Tryz.ntmps13
        go_wp2_with (first | (refine lb q1 rfl rfl rfl (by kernel_rfl) ?_) | (refine sb q1 rfl rfl rfl rfl (by kernel_rfl) ?_) | (refine lb b2 rfl rfl rfl (by kernel_rfl) ?_) | (refine sb b2 rfl rfl rfl rfl (by kernel_rfl) ?_))
        refine bodyPost_ret (rct rfl (srh b2) (by rfl) (by kernel_rfl)) rfl ⟨?_, below_setRow hB (by omega) _⟩
        rfl
      · obtain rfl : mo = 5 := by omega
        clear hm
        go_enter Tryz.func13, Tryz.ntmps13
        go_wp2_with (first | (refine lb q1 rfl rfl rfl (by kernel_rfl) ?_) | (refine sb q1 rfl rfl rfl rfl (by kernel_rfl) ?_) | (refine lb b2 rfl rfl rfl (by kernel_rfl) ?_) | (refine sb b2 rfl rfl rfl rfl (by kernel_rfl) ?_))
        refine bodyPost_ret (rct rfl (srh b2) (by rfl) (by kernel_rfl)) rfl ⟨?_, below_setRow hB (by omega) _⟩
        rfl
theorem rdelta_none (s : Dw.St) (c : Dw.Cmd) (hk : ¬ c.ki = 1 ∧ ¬ c.ki = 2 ∧ ¬ c.ki = 3 ∧ ¬ c.ki = 4 ∧ ¬ c.ki = 5 ∧ ¬ c.ki = 6) (w : World) :
    Calls Tryz.prog 13 #[stV s, cmV c] w fun e w' => e = .returned (.tuple #[stV s, .int .i64 1]) ∧ Below w.heap.size w w' := by
  obtain ⟨V, hV⟩ : ∃ V, ((w.alloc (.cells (stC s) 38)).alloc (.cells (cmC c) 53)).alloc (.cells Z6 38) = V := ⟨_, rfl⟩
  obtain ⟨vz, hB, b0, b1, b2⟩ := alloc3 w _ _ _ V hV
  obtain ⟨mo, ar, ho, la, lo, iso⟩ := s
  obtain ⟨ki, cn, cla, clo⟩ := c
  dsimp only at *
  obtain ⟨c0, c1, c2, c3, c4, c5⟩ := cells6 b0
  obtain ⟨d0, d1, d2, d3⟩ := cells4 b1
  obtain ⟨k1, k2, k3, k4, k5, k6⟩ := hk
  have k1 : (ki == 1) = false := by simpa using k1
  have k2 : (ki == 2) = false := by simpa using k2
  have k3 : (ki == 3) = false := by simpa using k3
  have k4 : (ki == 4) = false := by simpa using k4
  have k5 : (ki == 5) = false := by simpa using k5
  have k6 : (ki == 6) = false := by simpa using k6
  go_enter Tryz.func13, Tryz.ntmps13
  go_wp2_with (first | (refine lb b0 rfl rfl rfl (by kernel_rfl) ?_) | (refine sb b0 rfl rfl rfl rfl (by kernel_rfl) ?_) | (refine lb b2 rfl rfl rfl (by kernel_rfl) ?_) | (refine sb b2 rfl rfl rfl rfl (by kernel_rfl) ?_))
  refine bodyPost_ret (rct rfl (srh b2) (by rfl) (by kernel_rfl)) rfl ⟨?_, below_setRow hB (by omega) _⟩
  rfl
theorem rdelta5_0 (s : Dw.St) (hi : 0 ≤ s.iso ∧ s.iso ≤ 15) (c : Dw.Cmd) (hk : c.ki = 5) (hcn : c.n = 0) (w : World) :
    Calls Tryz.prog 13 #[stV s, cmV c] w fun e w' => e = .returned (.tuple #[stV (if Dw.isoE s c.n = 0 then { s with iso := Dw.setOn s.iso c.n } else s), .int .i64 (Dw.isoE s c.n)]) ∧ Below w.heap.size w w' := by
  have HS := Lib.hid (fun w => rsens_any s hi w)
  have HN := Lib.hid (fun w => rneeds_any s.mo w)
  obtain ⟨hand, hor, -⟩ := bit_0 s.iso hi
  have hs4 : 0 ≤ Dw.soundN s.iso ∧ Dw.soundN s.iso ≤ 4 := by unfold Dw.soundN; (repeat' split) <;> decide
  obtain ⟨R, hR0⟩ : ∃ R, Dw.isoE s c.n = R := ⟨_, rfl⟩
  obtain ⟨T, hT0⟩ : ∃ T, (if Dw.isoE s c.n = 0 then { s with iso := Dw.setOn s.iso c.n } else s) = T := ⟨_, rfl⟩
  have HT := Lib.hid hT0
  have HR := Lib.hid (show R = if Dw.bitOn s.iso c.n = false ∧ Dw.soundN s.iso - 1 < Dw.needsI s.mo then 24 else 0 from by rw [← hR0]; unfold Dw.isoE; rw [if_neg (by omega)])
  rw [hT0]
  rw [hR0] at HT ⊢
  rw [hcn] at HR HT
  generalize Dw.soundN s.iso = sn at *
  generalize Dw.setOn s.iso 0 = so at *
  generalize Dw.bitOn s.iso 0 = bt at *
  generalize Dw.needsI s.mo = nd at *
  have hw1 : IntKind.i64.wrap (sn - 1) = sn - 1 := IntWalk.i64_in _ (by omega)
  clear hR0 hT0 hi hs4
  obtain ⟨V, hV⟩ : ∃ V, ((w.alloc (.cells (stC s) 38)).alloc (.cells (cmC c) 53)).alloc (.cells Z6 38) = V := ⟨_, rfl⟩
  obtain ⟨vz, hB, b0, b1, b2⟩ := alloc3 w _ _ _ V hV
  obtain ⟨mo, ar, ho, la, lo, iso⟩ := s
  obtain ⟨ki, cn, cla, clo⟩ := c
  dsimp only at *
  obtain ⟨c0, c1, c2, c3, c4, c5⟩ := cells6 b0
  obtain ⟨d0, d1, d2, d3⟩ := cells4 b1
  subst hk; subst hcn
  cases bt
  · rw [if_neg (by decide)] at hand
    by_cases hq : sn - 1 < nd
    all_goals
      go_enter Tryz.func13, Tryz.ntmps13
      go_wp2_with fail
      try rw [hV]
      clear hV
      refine wp_pure [0,1,2,3,4,5,6,7,8,9,10,11,12,13] 14 (by kernel_rfl) (by kernel_rfl) rfl ?_
      (apply rat; (focus (intro w' hk; obtain ⟨k0,k1,k2,k3,k4,k5⟩ := look6 hk c0 c1 c2 c3 c4 c5; repeat' (first | exact rn | ((first | refine' rv ?_ rfl rfl (by go_simp; first | done | with_reducible rfl | exact rfl) | refine' rc ?_ (by exact rfl) (by exact rfl) (by go_simp; first | done | (constructor <;> with_reducible rfl) | with_reducible rfl) (by first | first | exact HS.out w' | exact HN.out w') | refine' rs ?_ rfl rfl); try simp only [Act.put, List.setIfInBounds_toArray, List.set_cons_zero, List.set_cons_succ])))))
      intro W hk2
      simp only [List.drop_succ_cons, List.drop_zero]
      replace b0 := kpi hk2 b0
      replace b2 := kpi hk2 b2
      replace hB := hB.trans (hk2.whole.mono hB.size)
      clear hk2 c0 c1 c2 c3 c4 c5 d0 d1 d2 d3 b1 HS HN
    · have hR : R = 24 := by rw [HR.out, if_pos (by first | exact ⟨rfl, hq⟩ | exact ⟨trivial, hq⟩)]
      have hT : T = ⟨mo, ar, ho, la, lo, iso⟩ := by rw [← HT.out, hR, if_neg (by decide)]
      subst hR; subst hT
      clear HR HT
      go_wp2_with (first | (refine lb b0 rfl rfl rfl (by kernel_rfl) ?_) | (refine sb b0 rfl rfl rfl rfl (by kernel_rfl) ?_) | (refine lb b2 rfl rfl rfl (by kernel_rfl) ?_) | (refine sb b2 rfl rfl rfl rfl (by kernel_rfl) ?_))
      refine bodyPost_ret (rct rfl (srh b2) (by rfl) (by kernel_rfl)) rfl ⟨?_, below_setRow hB (by omega) _⟩
      rfl
    · have hR : R = 0 := by rw [HR.out, if_neg (fun h => by have := h.2; omega)]
      have hT : T = ⟨mo, ar, ho, la, lo, so⟩ := by rw [← HT.out, hR, if_pos rfl]
      subst hR; subst hT
      clear HR HT
      obtain ⟨W1, hW1, q0, o1, B1⟩ := step_cell W w.heap.size 5 _ (stC ⟨mo, ar, ho, la, lo, so⟩) _ (.int .i64 so) b0 rfl
      replace b2 := (o1 (w.heap.size + 2) (by omega)).trans b2
      replace hB := B1 _ _ hB (Nat.le_refl _)
      obtain ⟨-, -, -, -, -, c5⟩ := cells6 b0
      have z0 := frozen0 b0 5
      clear o1 B1 b0
      go_wp2_with (first | (refine lb q0 rfl rfl rfl (by kernel_rfl) ?_) | (refine sb q0 rfl rfl rfl rfl (by kernel_rfl) ?_) | (refine lb b2 rfl rfl rfl (by kernel_rfl) ?_) | (refine sb b2 rfl rfl rfl rfl (by kernel_rfl) ?_))
      refine bodyPost_ret (rct rfl (srh b2) (by rfl) (by kernel_rfl)) rfl ⟨?_, below_setRow hB (by omega) _⟩
      rfl
  · rw [if_pos rfl] at hand
    have hR : R = 0 := by rw [HR.out, if_neg (fun h => by cases h.1)]
    have hT : T = ⟨mo, ar, ho, la, lo, so⟩ := by rw [← HT.out, hR, if_pos rfl]
    subst hR; subst hT
    clear HR HT
    go_enter Tryz.func13, Tryz.ntmps13
    go_wp2_with fail
    try rw [hV]
    clear hV
    refine wp_pure [0,1,2,3,4,5,6,7,8,9,10,11,12,13] 14 (by kernel_rfl) (by kernel_rfl) rfl ?_
    (apply rat; (focus (intro w' hk; obtain ⟨k0,k5⟩ := look2 hk c0 c5; repeat' (first | exact rn | ((first | refine' rv ?_ rfl rfl (by go_simp; first | done | with_reducible rfl | exact rfl) | refine' rc ?_ (by exact rfl) (by exact rfl) (by go_simp; first | done | (constructor <;> with_reducible rfl) | with_reducible rfl) (by first | first | exact HS.out w' | exact HN.out w') | refine' rs ?_ rfl rfl); try simp only [Act.put, List.setIfInBounds_toArray, List.set_cons_zero, List.set_cons_succ])))))
    intro W hk2
    simp only [List.drop_succ_cons, List.drop_zero]
    replace b0 := kpi hk2 b0
    replace b2 := kpi hk2 b2
    replace hB := hB.trans (hk2.whole.mono hB.size)
    clear hk2 c0 c1 c2 c3 c4 c5 d0 d1 d2 d3 b1 HS HN
    obtain ⟨W1, hW1, q0, o1, B1⟩ := step_cell W w.heap.size 5 _ (stC ⟨mo, ar, ho, la, lo, so⟩) _ (.int .i64 so) b0 rfl
    replace b2 := (o1 (w.heap.size + 2) (by omega)).trans b2
    replace hB := B1 _ _ hB (Nat.le_refl _)
    obtain ⟨-, -, -, -, -, c5⟩ := cells6 b0
    have z0 := frozen0 b0 5
    clear o1 B1 b0
    go_wp2_with (first | (refine lb q0 rfl rfl rfl (by kernel_rfl) ?_) | (refine sb q0 rfl rfl rfl rfl (by kernel_rfl) ?_) | (refine lb b2 rfl rfl rfl (by kernel_rfl) ?_) | (refine sb b2 rfl rfl rfl rfl (by kernel_rfl) ?_))
    refine bodyPost_ret (rct rfl (srh b2) (by rfl) (by kernel_rfl)) rfl ⟨?_, below_setRow hB (by omega) _⟩
    rfl
theorem rdelta6_0 (s : Dw.St) (hi : 0 ≤ s.iso ∧ s.iso ≤ 15) (c : Dw.Cmd) (hk : c.ki = 6) (hcn : c.n = 0) (w : World) :
    Calls Tryz.prog 13 #[stV s, cmV c] w fun e w' => e = .returned (.tuple #[stV { s with iso := Dw.setOff s.iso c.n }, .int .i64 0]) ∧ Below w.heap.size w w' := by
  obtain ⟨-, -, -, hno, -⟩ := bit_0 s.iso hi
  rw [hcn]
  generalize Dw.setOff s.iso 0 = so at *
  clear hi
  obtain ⟨V, hV⟩ : ∃ V, ((w.alloc (.cells (stC s) 38)).alloc (.cells (cmC c) 53)).alloc (.cells Z6 38) = V := ⟨_, rfl⟩
  obtain ⟨vz, hB, b0, b1, b2⟩ := alloc3 w _ _ _ V hV
  obtain ⟨mo, ar, ho, la, lo, iso⟩ := s
  obtain ⟨ki, cn, cla, clo⟩ := c
  dsimp only at *
  obtain ⟨c0, c1, c2, c3, c4, c5⟩ := cells6 b0
  obtain ⟨d0, d1, d2, d3⟩ := cells4 b1
  subst hk; subst hcn
  obtain ⟨W, hW⟩ : ∃ W, V = W := ⟨_, rfl⟩
  subst hW
  obtain ⟨W1, hW1, q0, o1, B1⟩ := step_cell V w.heap.size 5 _ (stC ⟨mo, ar, ho, la, lo, so⟩) _ (.int .i64 so) b0 rfl
  replace b2 := (o1 (w.heap.size + 2) (by omega)).trans b2
  replace hB := B1 _ _ hB (Nat.le_refl _)
  have z0 := frozen0 b0 5
  clear o1 B1
  go_enter Tryz.func13, Tryz.ntmps13
  go_wp2_with (first | (refine lb q0 rfl rfl rfl (by kernel_rfl) ?_) | (refine sb q0 rfl rfl rfl rfl (by kernel_rfl) ?_) | (refine lb b2 rfl rfl rfl (by kernel_rfl) ?_) | (refine sb b2 rfl rfl rfl rfl (by kernel_rfl) ?_))
  refine bodyPost_ret (rct rfl (srh b2) (by rfl) (by kernel_rfl)) rfl ⟨?_, below_setRow hB (by omega) _⟩
  rfl
theorem rdelta5_1 (s : Dw.St) (hi : 0 ≤ s.iso ∧ s.iso ≤ 15) (c : Dw.Cmd) (hk : c.ki = 5) (hcn : c.n = 1) (w : World) :
    Calls Tryz.prog 13 #[stV s, cmV c] w fun e w' => e = .returned (.tuple #[stV (if Dw.isoE s c.n = 0 then { s with iso := Dw.setOn s.iso c.n } else s), .int .i64 (Dw.isoE s c.n)]) ∧ Below w.heap.size w w' := by
  have HS := Lib.hid (fun w => rsens_any s hi w)
  have HN := Lib.hid (fun w => rneeds_any s.mo w)
  obtain ⟨hand, hor, -⟩ := bit_1 s.iso hi
  have hs4 : 0 ≤ Dw.soundN s.iso ∧ Dw.soundN s.iso ≤ 4 := by unfold Dw.soundN; (repeat' split) <;> decide
  obtain ⟨R, hR0⟩ : ∃ R, Dw.isoE s c.n = R := ⟨_, rfl⟩
  obtain ⟨T, hT0⟩ : ∃ T, (if Dw.isoE s c.n = 0 then { s with iso := Dw.setOn s.iso c.n } else s) = T := ⟨_, rfl⟩
  have HT := Lib.hid hT0
  have HR := Lib.hid (show R = if Dw.bitOn s.iso c.n = false ∧ Dw.soundN s.iso - 1 < Dw.needsI s.mo then 24 else 0 from by rw [← hR0]; unfold Dw.isoE; rw [if_neg (by omega)])
  rw [hT0]
  rw [hR0] at HT ⊢
  rw [hcn] at HR HT
  generalize Dw.soundN s.iso = sn at *
  generalize Dw.setOn s.iso 1 = so at *
  generalize Dw.bitOn s.iso 1 = bt at *
  generalize Dw.needsI s.mo = nd at *
  have hw1 : IntKind.i64.wrap (sn - 1) = sn - 1 := IntWalk.i64_in _ (by omega)
  clear hR0 hT0 hi hs4
  obtain ⟨V, hV⟩ : ∃ V, ((w.alloc (.cells (stC s) 38)).alloc (.cells (cmC c) 53)).alloc (.cells Z6 38) = V := ⟨_, rfl⟩
  obtain ⟨vz, hB, b0, b1, b2⟩ := alloc3 w _ _ _ V hV
  obtain ⟨mo, ar, ho, la, lo, iso⟩ := s
  obtain ⟨ki, cn, cla, clo⟩ := c
  dsimp only at *
  obtain ⟨c0, c1, c2, c3, c4, c5⟩ := cells6 b0
  obtain ⟨d0, d1, d2, d3⟩ := cells4 b1
  subst hk; subst hcn
  cases bt
  · rw [if_neg (by decide)] at hand
    by_cases hq : sn - 1 < nd
    all_goals
      go_enter Tryz.func13, Tryz.ntmps13
      go_wp2_with fail
      try rw [hV]
      clear hV
      refine wp_pure [0,1,2,3,4,5,6,7,8,9,10,11,12,13] 14 (by kernel_rfl) (by kernel_rfl) rfl ?_
      (apply rat; (focus (intro w' hk; obtain ⟨k0,k1,k2,k3,k4,k5⟩ := look6 hk c0 c1 c2 c3 c4 c5; repeat' (first | exact rn | ((first | refine' rv ?_ rfl rfl (by go_simp; first | done | with_reducible rfl | exact rfl) | refine' rc ?_ (by exact rfl) (by exact rfl) (by go_simp; first | done | (constructor <;> with_reducible rfl) | with_reducible rfl) (by first | first | exact HS.out w' | exact HN.out w') | refine' rs ?_ rfl rfl); try simp only [Act.put, List.setIfInBounds_toArray, List.set_cons_zero, List.set_cons_succ])))))
      intro W hk2
      simp only [List.drop_succ_cons, List.drop_zero]
      replace b0 := kpi hk2 b0
      replace b2 := kpi hk2 b2
      replace hB := hB.trans (hk2.whole.mono hB.size)
      clear hk2 c0 c1 c2 c3 c4 c5 d0 d1 d2 d3 b1 HS HN
    · have hR : R = 24 := by rw [HR.out, if_pos (by first | exact ⟨rfl, hq⟩ | exact ⟨trivial, hq⟩)]
      have hT : T = ⟨mo, ar, ho, la, lo, iso⟩ := by rw [← HT.out, hR, if_neg (by decide)]
      subst hR; subst hT
      clear HR HT
      go_wp2_with (first | (refine lb b0 rfl rfl rfl (by kernel_rfl) ?_) | (refine sb b0 rfl rfl rfl rfl (by kernel_rfl) ?_) | (refine lb b2 rfl rfl rfl (by kernel_rfl) ?_) | (refine sb b2 rfl rfl rfl rfl (by kernel_rfl) ?_))
      refine bodyPost_ret (rct rfl (srh b2) (by rfl) (by kernel_rfl)) rfl ⟨?_, below_setRow hB (by omega) _⟩
      rfl
    · have hR : R = 0 := by rw [HR.out, if_neg (fun h => by have := h.2; omega)]
      have hT : T = ⟨mo, ar, ho, la, lo, so⟩ := by rw [← HT.out, hR, if_pos rfl]
      subst hR; subst hT
      clear HR HT
      obtain ⟨W1, hW1, q0, o1, B1⟩ := step_cell W w.heap.size 5 _ (stC ⟨mo, ar, ho, la, lo, so⟩) _ (.int .i64 so) b0 rfl
      replace b2 := (o1 (w.heap.size + 2) (by omega)).trans b2
      replace hB := B1 _ _ hB (Nat.le_refl _)
      obtain ⟨-, -, -, -, -, c5⟩ := cells6 b0
      have z0 := frozen0 b0 5
      clear o1 B1 b0
      go_wp2_with (first | (refine lb q0 rfl rfl rfl (by kernel_rfl) ?_) | (refine sb q0 rfl rfl rfl rfl (by kernel_rfl) ?_) | (refine lb b2 rfl rfl rfl (by kernel_rfl) ?_) | (refine sb b2 rfl rfl rfl rfl (by kernel_rfl) ?_))
      refine bodyPost_ret (rct rfl (srh b2) (by rfl) (by kernel_rfl)) rfl ⟨?_, below_setRow hB (by omega) _⟩
      rfl
  · rw [if_pos rfl] at hand
    have hR : R = 0 := by rw [HR.out, if_neg (fun h => by cases h.1)]
    have hT : T = ⟨mo, ar, ho, la, lo, so⟩ := by rw [← HT.out, hR, if_pos rfl]
    subst hR; subst hT
    clear HR HT
    go_enter Tryz.func13, Tryz.ntmps13
    go_wp2_with fail
    try rw [hV]
    clear hV
    refine wp_pure [0,1,2,3,4,5,6,7,8,9,10,11,12,13] 14 (by kernel_rfl) (by kernel_rfl) rfl ?_
    (apply rat; (focus (intro w' hk; obtain ⟨k0,k5⟩ := look2 hk c0 c5; repeat' (first | exact rn | ((first | refine' rv ?_ rfl rfl (by go_simp; first | done | with_reducible rfl | exact rfl) | refine' rc ?_ (by exact rfl) (by exact rfl) (by go_simp; first | done | (constructor <;> with_reducible rfl) | with_reducible rfl) (by first | first | exact HS.out w' | exact HN.out w') | refine' rs ?_ rfl rfl); try simp only [Act.put, List.setIfInBounds_toArray, List.set_cons_zero, List.set_cons_succ])))))
    intro W hk2
    simp only [List.drop_succ_cons, List.drop_zero]
    replace b0 := kpi hk2 b0
    replace b2 := kpi hk2 b2
    replace hB := hB.trans (hk2.whole.mono hB.size)
    clear hk2 c0 c1 c2 c3 c4 c5 d0 d1 d2 d3 b1 HS HN
    obtain ⟨W1, hW1, q0, o1, B1⟩ := step_cell W w.heap.size 5 _ (stC ⟨mo, ar, ho, la, lo, so⟩) _ (.int .i64 so) b0 rfl
    replace b2 := (o1 (w.heap.size + 2) (by omega)).trans b2
    replace hB := B1 _ _ hB (Nat.le_refl _)
    obtain ⟨-, -, -, -, -, c5⟩ := cells6 b0
    have z0 := frozen0 b0 5
    clear o1 B1 b0
    go_wp2_with (first | (refine lb q0 rfl rfl rfl (by kernel_rfl) ?_) | (refine sb q0 rfl rfl rfl rfl (by kernel_rfl) ?_) | (refine lb b2 rfl rfl rfl (by kernel_rfl) ?_) | (refine sb b2 rfl rfl rfl rfl (by kernel_rfl) ?_))
    refine bodyPost_ret (rct rfl (srh b2) (by rfl) (by kernel_rfl)) rfl ⟨?_, below_setRow hB (by omega) _⟩
    rfl
theorem rdelta6_1 (s : Dw.St) (hi : 0 ≤ s.iso ∧ s.iso ≤ 15) (c : Dw.Cmd) (hk : c.ki = 6) (hcn : c.n = 1) (w : World) :
    Calls Tryz.prog 13 #[stV s, cmV c] w fun e w' => e = .returned (.tuple #[stV { s with iso := Dw.setOff s.iso c.n }, .int .i64 0]) ∧ Below w.heap.size w w' := by
  obtain ⟨-, -, -, hno, -⟩ := bit_1 s.iso hi
  rw [hcn]
  generalize Dw.setOff s.iso 1 = so at *
  clear hi
  obtain ⟨V, hV⟩ : ∃ V, ((w.alloc (.cells (stC s) 38)).alloc (.cells (cmC c) 53)).alloc (.cells Z6 38) = V := ⟨_, rfl⟩
  obtain ⟨vz, hB, b0, b1, b2⟩ := alloc3 w _ _ _ V hV
  obtain ⟨mo, ar, ho, la, lo, iso⟩ := s
  obtain ⟨ki, cn, cla, clo⟩ := c
  dsimp only at *
  obtain ⟨c0, c1, c2, c3, c4, c5⟩ := cells6 b0
  obtain ⟨d0, d1, d2, d3⟩ := cells4 b1
  subst hk; subst hcn
  obtain ⟨W, hW⟩ : ∃ W, V = W := ⟨_, rfl⟩
  subst hW
  obtain ⟨W1, hW1, q0, o1, B1⟩ := step_cell V w.heap.size 5 _ (stC ⟨mo, ar, ho, la, lo, so⟩) _ (.int .i64 so) b0 rfl
  replace b2 := (o1 (w.heap.size + 2) (by omega)).trans b2
  replace hB := B1 _ _ hB (Nat.le_refl _)
  have z0 := frozen0 b0 5
  clear o1 B1
  go_enter Tryz.func13, Tryz.ntmps13
  go_wp2_with (first | (refine lb q0 rfl rfl rfl (by kernel_rfl) ?_) | (refine sb q0 rfl rfl rfl rfl (by kernel_rfl) ?_) | (refine lb b2 rfl rfl rfl (by kernel_rfl) ?_) | (refine sb b2 rfl rfl rfl rfl (by kernel_rfl) ?_))
  refine bodyPost_ret (rct rfl (srh b2) (by rfl) (by kernel_rfl)) rfl ⟨?_, below_setRow hB (by omega) _⟩
  rfl
theorem rdelta5_2 (s : Dw.St) (hi : 0 ≤ s.iso ∧ s.iso ≤ 15) (c : Dw.Cmd) (hk : c.ki = 5) (hcn : c.n = 2) (w : World) :
    Calls Tryz.prog 13 #[stV s, cmV c] w fun e w' => e = .returned (.tuple #[stV (if Dw.isoE s c.n = 0 then { s with iso := Dw.setOn s.iso c.n } else s), .int .i64 (Dw.isoE s c.n)]) ∧ Below w.heap.size w w' := by
  have HS := Lib.hid (fun w => rsens_any s hi w)
  have HN := Lib.hid (fun w => rneeds_any s.mo w)
  obtain ⟨hand, hor, -⟩ := bit_2 s.iso hi
  have hs4 : 0 ≤ Dw.soundN s.iso ∧ Dw.soundN s.iso ≤ 4 := by unfold Dw.soundN; (repeat' split) <;> decide
  obtain ⟨R, hR0⟩ : ∃ R, Dw.isoE s c.n = R := ⟨_, rfl⟩
  obtain ⟨T, hT0⟩ : ∃ T, (if Dw.isoE s c.n = 0 then { s with iso := Dw.setOn s.iso c.n } else s) = T := ⟨_, rfl⟩
  have HT := Lib.hid hT0
  have HR := Lib.hid (show R = if Dw.bitOn s.iso c.n = false ∧ Dw.soundN s.iso - 1 < Dw.needsI s.mo then 24 else 0 from by rw [← hR0]; unfold Dw.isoE; rw [if_neg (by omega)])
  rw [hT0]
  rw [hR0] at HT ⊢
  rw [hcn] at HR HT
  generalize Dw.soundN s.iso = sn at *
  generalize Dw.setOn s.iso 2 = so at *
  generalize Dw.bitOn s.iso 2 = bt at *
  generalize Dw.needsI s.mo = nd at *
  have hw1 : IntKind.i64.wrap (sn - 1) = sn - 1 := IntWalk.i64_in _ (by omega)
  clear hR0 hT0 hi hs4
  obtain ⟨V, hV⟩ : ∃ V, ((w.alloc (.cells (stC s) 38)).alloc (.cells (cmC c) 53)).alloc (.cells Z6 38) = V := ⟨_, rfl⟩
  obtain ⟨vz, hB, b0, b1, b2⟩ := alloc3 w _ _ _ V hV
  obtain ⟨mo, ar, ho, la, lo, iso⟩ := s
  obtain ⟨ki, cn, cla, clo⟩ := c
  dsimp only at *
  obtain ⟨c0, c1, c2, c3, c4, c5⟩ := cells6 b0
  obtain ⟨d0, d1, d2, d3⟩ := cells4 b1
  subst hk; subst hcn
  cases bt
  · rw [if_neg (by decide)] at hand
    by_cases hq : sn - 1 < nd
    all_goals
      go_enter Tryz.func13, Tryz.ntmps13
      go_wp2_with fail
      try rw [hV]
      clear hV
      refine wp_pure [0,1,2,3,4,5,6,7,8,9,10,11,12,13] 14 (by kernel_rfl) (by kernel_rfl) rfl ?_
      (apply rat; (focus (intro w' hk; obtain ⟨k0,k1,k2,k3,k4,k5⟩ := look6 hk c0 c1 c2 c3 c4 c5; repeat' (first | exact rn | ((first | refine' rv ?_ rfl rfl (by go_simp; first | done | with_reducible rfl | exact rfl) | refine' rc ?_ (by exact rfl) (by exact rfl) (by go_simp; first | done | (constructor <;> with_reducible rfl) | with_reducible rfl) (by first | first | exact HS.out w' | exact HN.out w') | refine' rs ?_ rfl rfl); try simp only [Act.put, List.setIfInBounds_toArray, List.set_cons_zero, List.set_cons_succ])))))
      intro W hk2
      simp only [List.drop_succ_cons, List.drop_zero]
      replace b0 := kpi hk2 b0
      replace b2 := kpi hk2 b2
      replace hB := hB.trans (hk2.whole.mono hB.size)
      clear hk2 c0 c1 c2 c3 c4 c5 d0 d1 d2 d3 b1 HS HN
    · have hR : R = 24 := by rw [HR.out, if_pos (by first | exact ⟨rfl, hq⟩ | exact ⟨trivial, hq⟩)]
      have hT : T = ⟨mo, ar, ho, la, lo, iso⟩ := by rw [← HT.out, hR, if_neg (by decide)]
      subst hR; subst hT
      clear HR HT
      go_wp2_with (first | (refine lb b0 rfl rfl rfl (by kernel_rfl) ?_) | (refine sb b0 rfl rfl rfl rfl (by kernel_rfl) ?_) | (refine lb b2 rfl rfl rfl (by kernel_rfl) ?_) | (refine sb b2 rfl rfl rfl rfl (by kernel_rfl) ?_))
      refine bodyPost_ret (rct rfl (srh b2) (by rfl) (by kernel_rfl)) rfl ⟨?_, below_setRow hB (by omega) _⟩
      rfl
    · have hR : R = 0 := by rw [HR.out, if_neg (fun h => by have := h.2; omega)]
      have hT : T = ⟨mo, ar, ho, la, lo, so⟩ := by rw [← HT.out, hR, if_pos rfl]
      subst hR; subst hT
      clear HR HT
      obtain ⟨W1, hW1, q0, o1, B1⟩ := step_cell W w.heap.size 5 _ (stC ⟨mo, ar, ho, la, lo, so⟩) _ (.int .i64 so) b0 rfl
      replace b2 := (o1 (w.heap.size + 2) (by omega)).trans b2
      replace hB := B1 _ _ hB (Nat.le_refl _)
      obtain ⟨-, -, -, -, -, c5⟩ := cells6 b0
      have z0 := frozen0 b0 5
      clear o1 B1 b0
      go_wp2_with (first | (refine lb q0 rfl rfl rfl (by kernel_rfl) ?_) | (refine sb q0 rfl rfl rfl rfl (by kernel_rfl) ?_) | (refine lb b2 rfl rfl rfl (by kernel_rfl) ?_) | (refine sb b2 rfl rfl rfl rfl (by kernel_rfl) ?_))
      refine bodyPost_ret (rct rfl (srh b2) (by rfl) (by kernel_rfl)) rfl ⟨?_, below_setRow hB (by omega) _⟩
      rfl
  · rw [if_pos rfl] at hand
    have hR : R = 0 := by rw [HR.out, if_neg (fun h => by cases h.1)]
    have hT : T = ⟨mo, ar, ho, la, lo, so⟩ := by rw [← HT.out, hR, if_pos rfl]
    subst hR; subst hT
    clear HR HT
    go_enter Tryz.func13, Tryz.ntmps13
    go_wp2_with fail
    try rw [hV]
    clear hV
    refine wp_pure [0,1,2,3,4,5,6,7,8,9,10,11,12,13] 14 (by kernel_rfl) (by kernel_rfl) rfl ?_
    (apply rat; (focus (intro w' hk; obtain ⟨k0,k5⟩ := look2 hk c0 c5; repeat' (first | exact rn | ((first | refine' rv ?_ rfl rfl (by go_simp; first | done | with_reducible rfl | exact rfl) | refine' rc ?_ (by exact rfl) (by exact rfl) (by go_simp; first | done | (constructor <;> with_reducible rfl) | with_reducible rfl) (by first | first | exact HS.out w' | exact HN.out w') | refine' rs ?_ rfl rfl); try simp only [Act.put, List.setIfInBounds_toArray, List.set_cons_zero, List.set_cons_succ])))))
    intro W hk2
    simp only [List.drop_succ_cons, List.drop_zero]
    replace b0 := kpi hk2 b0
    replace b2 := kpi hk2 b2
    replace hB := hB.trans (hk2.whole.mono hB.size)
    clear hk2 c0 c1 c2 c3 c4 c5 d0 d1 d2 d3 b1 HS HN
    obtain ⟨W1, hW1, q0, o1, B1⟩ := step_cell W w.heap.size 5 _ (stC ⟨mo, ar, ho, la, lo, so⟩) _ (.int .i64 so) b0 rfl
    replace b2 := (o1 (w.heap.size + 2) (by omega)).trans b2
    replace hB := B1 _ _ hB (Nat.le_refl _)
    obtain ⟨-, -, -, -, -, c5⟩ := cells6 b0
    have z0 := frozen0 b0 5
    clear o1 B1 b0
    go_wp2_with (first | (refine lb q0 rfl rfl rfl (by kernel_rfl) ?_) | (refine sb q0 rfl rfl rfl rfl (by kernel_rfl) ?_) | (refine lb b2 rfl rfl rfl (by kernel_rfl) ?_) | (refine sb b2 rfl rfl rfl rfl (by kernel_rfl) ?_))
    refine bodyPost_ret (rct rfl (srh b2) (by rfl) (by kernel_rfl)) rfl ⟨?_, below_setRow hB (by omega) _⟩
    rfl
theorem rdelta6_2 (s : Dw.St) (hi : 0 ≤ s.iso ∧ s.iso ≤ 15) (c : Dw.Cmd) (hk : c.ki = 6) (hcn : c.n = 2) (w : World) :
    Calls Tryz.prog 13 #[stV s, cmV c] w fun e w' => e = .returned (.tuple #[stV { s with iso := Dw.setOff s.iso c.n }, .int .i64 0]) ∧ Below w.heap.size w w' := by
  obtain ⟨-, -, -, hno, -⟩ := bit_2 s.iso hi
  rw [hcn]
  generalize Dw.setOff s.iso 2 = so at *
  clear hi
  obtain ⟨V, hV⟩ : ∃ V, ((w.alloc (.cells (stC s) 38)).alloc (.cells (cmC c) 53)).alloc (.cells Z6 38) = V := ⟨_, rfl⟩
  obtain ⟨vz, hB, b0, b1, b2⟩ := alloc3 w _ _ _ V hV
  obtain ⟨mo, ar, ho, la, lo, iso⟩ := s
  obtain ⟨ki, cn, cla, clo⟩ := c
  dsimp only at *
  obtain ⟨c0, c1, c2, c3, c4, c5⟩ := cells6 b0
  obtain ⟨d0, d1, d2, d3⟩ := cells4 b1
  subst hk; subst hcn
  obtain ⟨W, hW⟩ : ∃ W, V = W := ⟨_, rfl⟩
  subst hW
  obtain ⟨W1, hW1, q0, o1, B1⟩ := step_cell V w.heap.size 5 _ (stC ⟨mo, ar, ho, la, lo, so⟩) _ (.int .i64 so) b0 rfl
  replace b2 := (o1 (w.heap.size + 2) (by omega)).trans b2
  replace hB := B1 _ _ hB (Nat.le_refl _)
  have z0 := frozen0 b0 5
  clear o1 B1
  go_enter Tryz.func13, Tryz.ntmps13
  go_wp2_with (first | (refine lb q0 rfl rfl rfl (by kernel_rfl) ?_) | (refine sb q0 rfl rfl rfl rfl (by kernel_rfl) ?_) | (refine lb b2 rfl rfl rfl (by kernel_rfl) ?_) | (refine sb b2 rfl rfl rfl rfl (by kernel_rfl) ?_))
  refine bodyPost_ret (rct rfl (srh b2) (by rfl) (by kernel_rfl)) rfl ⟨?_, below_setRow hB (by omega) _⟩
  rfl
theorem rdelta5_3 (s : Dw.St) (hi : 0 ≤ s.iso ∧ s.iso ≤ 15) (c : Dw.Cmd) (hk : c.ki = 5) (hcn : c.n = 3) (w : World) :
    Calls Tryz.prog 13 #[stV s, cmV c] w fun e w' => e = .returned (.tuple #[stV (if Dw.isoE s c.n = 0 then { s with iso := Dw.setOn s.iso c.n } else s), .int .i64 (Dw.isoE s c.n)]) ∧ Below w.heap.size w w' := by
  have HS := Lib.hid (fun w => rsens_any s hi w)
  have HN := Lib.hid (fun w => rneeds_any s.mo w)
  obtain ⟨hand, hor, -⟩ := bit_3 s.iso hi
  have hs4 : 0 ≤ Dw.soundN s.iso ∧ Dw.soundN s.iso ≤ 4 := by unfold Dw.soundN; (repeat' split) <;> decide
  obtain ⟨R, hR0⟩ : ∃ R, Dw.isoE s c.n = R := ⟨_, rfl⟩
  obtain ⟨T, hT0⟩ : ∃ T, (if Dw.isoE s c.n = 0 then { s with iso := Dw.setOn s.iso c.n } else s) = T := ⟨_, rfl⟩
  have HT := Lib.hid hT0
  have HR := Lib.hid (show R = if Dw.bitOn s.iso c.n = false ∧ Dw.soundN s.iso - 1 < Dw.needsI s.mo then 24 else 0 from by rw [← hR0]; unfold Dw.isoE; rw [if_neg (by omega)])
  rw [hT0]
  rw [hR0] at HT ⊢
  rw [hcn] at HR HT
  generalize Dw.soundN s.iso = sn at *
  generalize Dw.setOn s.iso 3 = so at *
  generalize Dw.bitOn s.iso 3 = bt at *
  generalize Dw.needsI s.mo = nd at *
  have hw1 : IntKind.i64.wrap (sn - 1) = sn - 1 := IntWalk.i64_in _ (by omega)
  clear hR0 hT0 hi hs4
  obtain ⟨V, hV⟩ : ∃ V, ((w.alloc (.cells (stC s) 38)).alloc (.cells (cmC c) 53)).alloc (.cells Z6 38) = V := ⟨_, rfl⟩
  obtain ⟨vz, hB, b0, b1, b2⟩ := alloc3 w _ _ _ V hV
  obtain ⟨mo, ar, ho, la, lo, iso⟩ := s
  obtain ⟨ki, cn, cla, clo⟩ := c
  dsimp only at *
  obtain ⟨c0, c1, c2, c3, c4, c5⟩ := cells6 b0
  obtain ⟨d0, d1, d2, d3⟩ := cells4 b1
  subst hk; subst hcn
  cases bt
  · rw [if_neg (by decide)] at hand
    by_cases hq : sn - 1 < nd
    all_goals
      go_enter Tryz.func13, Tryz.ntmps13
      go_wp2_with fail
      try rw [hV]
      clear hV
      refine wp_pure [0,1,2,3,4,5,6,7,8,9,10,11,12,13] 14 (by kernel_rfl) (by kernel_rfl) rfl ?_
      (apply rat; (focus (intro w' hk; obtain ⟨k0,k1,k2,k3,k4,k5⟩ := look6 hk c0 c1 c2 c3 c4 c5; repeat' (first | exact rn | ((first | refine' rv ?_ rfl rfl (by go_simp; first | done | with_reducible rfl | exact rfl) | refine' rc ?_ (by exact rfl) (by exact rfl) (by go_simp; first | done | (constructor <;> with_reducible rfl) | with_reducible rfl) (by first | first | exact HS.out w' | exact HN.out w') | refine' rs ?_ rfl rfl); try simp only [Act.put, List.setIfInBounds_toArray, List.set_cons_zero, List.set_cons_succ])))))
      intro W hk2
      simp only [List.drop_succ_cons, List.drop_zero]
      replace b0 := kpi hk2 b0
      replace b2 := kpi hk2 b2
      replace hB := hB.trans (hk2.whole.mono hB.size)
      clear hk2 c0 c1 c2 c3 c4 c5 d0 d1 d2 d3 b1 HS HN
    · have hR : R = 24 := by rw [HR.out, if_pos (by first | exact ⟨rfl, hq⟩ | exact ⟨trivial, hq⟩)]
      have hT : T = ⟨mo, ar, ho, la, lo, iso⟩ := by rw [← HT.out, hR, if_neg (by decide)]
      subst hR; subst hT
      clear HR HT
      go_wp2_with (first | (refine lb b0 rfl rfl rfl (by kernel_rfl) ?_) | (refine sb b0 rfl rfl rfl rfl (by kernel_rfl) ?_) | (refine lb b2 rfl rfl rfl (by kernel_rfl) ?_) | (refine sb b2 rfl rfl rfl rfl (by kernel_rfl) ?_))
      refine bodyPost_ret (rct rfl (srh b2) (by rfl) (by kernel_rfl)) rfl ⟨?_, below_setRow hB (by omega) _⟩
      rfl
    · have hR : R = 0 := by rw [HR.out, if_neg (fun h => by have := h.2; omega)]
      have hT : T = ⟨mo, ar, ho, la, lo, so⟩ := by rw [← HT.out, hR, if_pos rfl]
      subst hR; subst hT
      clear HR HT
      obtain ⟨W1, hW1, q0, o1, B1⟩ := step_cell W w.heap.size 5 _ (stC ⟨mo, ar, ho, la, lo, so⟩) _ (.int .i64 so) b0 rfl
      replace b2 := (o1 (w.heap.size + 2) (by omega)).trans b2
      replace hB := B1 _ _ hB (Nat.le_refl _)
      obtain ⟨-, -, -, -, -, c5⟩ := cells6 b0
      have z0 := frozen0 b0 5
      clear o1 B1 b0
      go_wp2_with (first | (refine lb q0 rfl rfl rfl (by kernel_rfl) ?_) | (refine sb q0 rfl rfl rfl rfl (by kernel_rfl) ?_) | (refine lb b2 rfl rfl rfl (by kernel_rfl) ?_) | (refine sb b2 rfl rfl rfl rfl (by kernel_rfl) ?_))
      refine bodyPost_ret (rct rfl (srh b2) (by rfl) (by kernel_rfl)) rfl ⟨?_, below_setRow hB (by omega) _⟩
      rfl
  · rw [if_pos rfl] at hand
    have hR : R = 0 := by rw [HR.out, if_neg (fun h => by cases h.1)]
    have hT : T = ⟨mo, ar, ho, la, lo, so⟩ := by rw [← HT.out, hR, if_pos rfl]
    subst hR; subst hT
    clear HR HT
    go_enter Tryz.func13, Tryz.ntmps13
    go_wp2_with fail
    try rw [hV]
    clear hV
    refine wp_pure [0,1,2,3,4,5,6,7,8,9,10,11,12,13] 14 (by kernel_rfl) (by kernel_rfl) rfl ?_
    (apply rat; (focus (intro w' hk; obtain ⟨k0,k5⟩ := look2 hk c0 c5; repeat' (first | exact rn | ((first | refine' rv ?_ rfl rfl (by go_simp; first | done | with_reducible rfl | exact rfl) | refine' rc ?_ (by exact rfl) (by exact rfl) (by go_simp; first | done | (constructor <;> with_reducible rfl) | with_reducible rfl) (by first | first | exact HS.out w' | exact HN.out w') | refine' rs ?_ rfl rfl); try simp only [Act.put, List.setIfInBounds_toArray, List.set_cons_zero, List.set_cons_succ])))))
    intro W hk2
    simp only [List.drop_succ_cons, List.drop_zero]
    replace b0 := kpi hk2 b0
    replace b2 := kpi hk2 b2
    replace hB := hB.trans (hk2.whole.mono hB.size)
    clear hk2 c0 c1 c2 c3 c4 c5 d0 d1 d2 d3 b1 HS HN
    obtain ⟨W1, hW1, q0, o1, B1⟩ := step_cell W w.heap.size 5 _ (stC ⟨mo, ar, ho, la, lo, so⟩) _ (.int .i64 so) b0 rfl
    replace b2 := (o1 (w.heap.size + 2) (by omega)).trans b2
    replace hB := B1 _ _ hB (Nat.le_refl _)
    obtain ⟨-, -, -, -, -, c5⟩ := cells6 b0
    have z0 := frozen0 b0 5
    clear o1 B1 b0
    go_wp2_with (first | (refine lb q0 rfl rfl rfl (by kernel_rfl) ?_) | (refine sb q0 rfl rfl rfl rfl (by kernel_rfl) ?_) | (refine lb b2 rfl rfl rfl (by kernel_rfl) ?_) | (refine sb b2 rfl rfl rfl rfl (by kernel_rfl) ?_))
    refine bodyPost_ret (rct rfl (srh b2) (by rfl) (by kernel_rfl)) rfl ⟨?_, below_setRow hB (by omega) _⟩
    rfl
theorem rdelta6_3 (s : Dw.St) (hi : 0 ≤ s.iso ∧ s.iso ≤ 15) (c : Dw.Cmd) (hk : c.ki = 6) (hcn : c.n = 3) (w : World) :
    Calls Tryz.prog 13 #[stV s, cmV c] w fun e w' => e = .returned (.tuple #[stV { s with iso := Dw.setOff s.iso c.n }, .int .i64 0]) ∧ Below w.heap.size w w' := by
  obtain ⟨-, -, -, hno, -⟩ := bit_3 s.iso hi
  rw [hcn]
  generalize Dw.setOff s.iso 3 = so at *
  clear hi
  obtain ⟨V, hV⟩ : ∃ V, ((w.alloc (.cells (stC s) 38)).alloc (.cells (cmC c) 53)).alloc (.cells Z6 38) = V := ⟨_, rfl⟩
  obtain ⟨vz, hB, b0, b1, b2⟩ := alloc3 w _ _ _ V hV
  obtain ⟨mo, ar, ho, la, lo, iso⟩ := s
  obtain ⟨ki, cn, cla, clo⟩ := c
  dsimp only at *
  obtain ⟨c0, c1, c2, c3, c4, c5⟩ := cells6 b0
  obtain ⟨d0, d1, d2, d3⟩ := cells4 b1
  subst hk; subst hcn
  obtain ⟨W, hW⟩ : ∃ W, V = W := ⟨_, rfl⟩
  subst hW
  obtain ⟨W1, hW1, q0, o1, B1⟩ := step_cell V w.heap.size 5 _ (stC ⟨mo, ar, ho, la, lo, so⟩) _ (.int .i64 so) b0 rfl
  replace b2 := (o1 (w.heap.size + 2) (by omega)).trans b2
  replace hB := B1 _ _ hB (Nat.le_refl _)
  have z0 := frozen0 b0 5
  clear o1 B1
  go_enter Tryz.func13, Tryz.ntmps13
  go_wp2_with (first | (refine lb q0 rfl rfl rfl (by kernel_rfl) ?_) | (refine sb q0 rfl rfl rfl rfl (by kernel_rfl) ?_) | (refine lb b2 rfl rfl rfl (by kernel_rfl) ?_) | (refine sb b2 rfl rfl rfl rfl (by kernel_rfl) ?_))
  refine bodyPost_ret (rct rfl (srh b2) (by rfl) (by kernel_rfl)) rfl ⟨?_, below_setRow hB (by omega) _⟩
  rfl
theorem rdelta_far (s : Dw.St) (c : Dw.Cmd) (hk : c.ki = 5 ∨ c.ki = 6) (hn : c.n < 0 ∨ 3 < c.n) (w : World) :
    Calls Tryz.prog 13 #[stV s, cmV c] w fun e w' => e = .returned (.tuple #[stV s, .int .i64 1]) ∧ Below w.heap.size w w' := by
  obtain ⟨V, hV⟩ : ∃ V, ((w.alloc (.cells (stC s) 38)).alloc (.cells (cmC c) 53)).alloc (.cells Z6 38) = V := ⟨_, rfl⟩
  obtain ⟨vz, hB, b0, b1, b2⟩ := alloc3 w _ _ _ V hV
  obtain ⟨mo, ar, ho, la, lo, iso⟩ := s
  obtain ⟨ki, cn, cla, clo⟩ := c
  dsimp only at *
  obtain ⟨c0, c1, c2, c3, c4, c5⟩ := cells6 b0
  obtain ⟨d0, d1, d2, d3⟩ := cells4 b1
  rcases hk with rfl | rfl <;> rcases hn with hn | hn
  all_goals first | (have hn1 : cn < 0 := hn) | (have hn1 : ¬ cn < 0 := by omega)
  all_goals
    go_enter Tryz.func13, Tryz.ntmps13
    go_wp2_with (first | (refine lb b0 rfl rfl rfl (by kernel_rfl) ?_) | (refine sb b0 rfl rfl rfl rfl (by kernel_rfl) ?_) | (refine lb b2 rfl rfl rfl (by kernel_rfl) ?_) | (refine sb b2 rfl rfl rfl rfl (by kernel_rfl) ?_))
    refine bodyPost_ret (rct rfl (srh b2) (by rfl) (by kernel_rfl)) rfl ⟨?_, below_setRow hB (by omega) _⟩
    rfl
theorem rdelta_any (s : Dw.St) (hi : 0 ≤ s.iso ∧ s.iso ≤ 15) (c : Dw.Cmd) (w : World) :
    Calls Tryz.prog 13 #[stV s, cmV c] w fun e w' => e = .returned (.tuple #[stV (Dw.deltaS s c), .int .i64 (Dw.deltaE s c)]) ∧ Below w.heap.size w w' := by
  by_cases h1 : c.ki = 1
  · have e1 : Dw.deltaE s c = Dw.goesE s c.n := by unfold Dw.deltaE; rw [if_pos h1]
    have e2 : Dw.deltaS s c = if Dw.goesE s c.n = 0 then { s with mo := c.n } else s := by unfold Dw.deltaS; rw [e1]; unfold Dw.deltaT; rw [if_pos h1]
    rw [e1, e2]
    exact rdelta_go s hi c h1 w
  by_cases h2 : c.ki = 2
  · have e1 : Dw.deltaE s c = Dw.armE s := by unfold Dw.deltaE; rw [if_neg h1, if_pos h2]
    have e2 : Dw.deltaS s c = if Dw.armE s = 0 then { s with ar := true, mo := 1 } else s := by unfold Dw.deltaS; rw [e1]; unfold Dw.deltaT; rw [if_neg h1, if_pos h2]
    rw [e1, e2]
    exact rdelta_arm s hi c h2 w
  by_cases h3 : c.ki = 3
  · have e1 : Dw.deltaE s c = Dw.disarmE s := by unfold Dw.deltaE; rw [if_neg h1, if_neg h2, if_pos h3]
    have e2 : Dw.deltaS s c = if Dw.disarmE s = 0 then { s with ar := false, mo := 0 } else s := by unfold Dw.deltaS; rw [e1]; unfold Dw.deltaT; rw [if_neg h1, if_neg h2, if_pos h3]
    rw [e1, e2]
    exact rdelta_disarm s c h3 w
  by_cases h4 : c.ki = 4
  · have e1 : Dw.deltaE s c = Dw.homeE c := by unfold Dw.deltaE; rw [if_neg h1, if_neg h2, if_neg h3, if_pos h4]
    have e2 : Dw.deltaS s c = if Dw.homeE c = 0 then { s with ho := true, la := Dw.fixV c.la, lo := Dw.fixV c.lo } else s := by unfold Dw.deltaS; rw [e1]; unfold Dw.deltaT; rw [if_neg h1, if_neg h2, if_neg h3, if_pos h4]
    rw [e1, e2]
    exact rdelta_home s c h4 w
  by_cases h5 : c.ki = 5
  · have e1 : Dw.deltaE s c = Dw.isoE s c.n := by unfold Dw.deltaE; rw [if_neg h1, if_neg h2, if_neg h3, if_neg h4, if_pos h5]
    have e2 : Dw.deltaS s c = if Dw.isoE s c.n = 0 then { s with iso := Dw.setOn s.iso c.n } else s := by unfold Dw.deltaS; rw [e1]; unfold Dw.deltaT; rw [if_neg h1, if_neg h2, if_neg h3, if_neg h4, if_pos h5]
    rw [e1, e2]
    by_cases hn : c.n < 0 ∨ 3 < c.n
    · have e3 : Dw.isoE s c.n = 1 := by unfold Dw.isoE; rw [if_pos hn]
      rw [e3, if_neg (by decide)]
      exact rdelta_far s c (.inl h5) hn w
    · rcases Dw.n4 hn with hc | hc | hc | hc
      · exact rdelta5_0 s hi c h5 hc w
      · exact rdelta5_1 s hi c h5 hc w
      · exact rdelta5_2 s hi c h5 hc w
      · exact rdelta5_3 s hi c h5 hc w
  by_cases h6 : c.ki = 6
  · have e1 : Dw.deltaE s c = Dw.resE c.n := by unfold Dw.deltaE; rw [if_neg h1, if_neg h2, if_neg h3, if_neg h4, if_neg h5, if_pos h6]
    have e2 : Dw.deltaS s c = if Dw.resE c.n = 0 then { s with iso := Dw.setOff s.iso c.n } else s := by unfold Dw.deltaS; rw [e1]; unfold Dw.deltaT; rw [if_neg h1, if_neg h2, if_neg h3, if_neg h4, if_neg h5]
    rw [e1, e2]
    by_cases hn : c.n < 0 ∨ 3 < c.n
    · have e3 : Dw.resE c.n = 1 := by unfold Dw.resE; rw [if_pos hn]
      rw [e3, if_neg (by decide)]
      exact rdelta_far s c (.inr h6) hn w
    · have e3 : Dw.resE c.n = 0 := by unfold Dw.resE; rw [if_neg hn]
      rw [e3, if_pos rfl]
      rcases Dw.n4 hn with hc | hc | hc | hc
      · exact rdelta6_0 s hi c h6 hc w
      · exact rdelta6_1 s hi c h6 hc w
      · exact rdelta6_2 s hi c h6 hc w
      · exact rdelta6_3 s hi c h6 hc w
  · have e1 : Dw.deltaE s c = 1 := by unfold Dw.deltaE; rw [if_neg h1, if_neg h2, if_neg h3, if_neg h4, if_neg h5, if_neg h6]
    have e2 : Dw.deltaS s c = s := by unfold Dw.deltaS; rw [e1, if_neg (by decide)]
    rw [e1, e2]
    exact rdelta_none s c ⟨h1, h2, h3, h4, h5, h6⟩ w
end Go.Proofs.YtcadgecnlahkgaaGreatDoor
