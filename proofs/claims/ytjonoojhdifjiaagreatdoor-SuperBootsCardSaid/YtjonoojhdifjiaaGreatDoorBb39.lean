/- What the statement's proof stands on, part 39: Sup6, RSup1. -/
import Derived.Test.YtjonoojhdifjiaaGreatDoorBb32
import Derived.Test.YtjonoojhdifjiaaGreatDoorBb34
import Derived.WalkMore
import Derived.Test.YtjonoojhdifjiaaGreatDoorBb38
import Derived.Test.YtjonoojhdifjiaaGreatDoorBb35
import Derived.Test.YtjonoojhdifjiaaGreatDoorBb29
set_option linter.unusedSimpArgs false
set_option linter.unusedVariables false
set_option maxRecDepth 100000
set_option maxHeartbeats 4000000
namespace Go.Proofs.YtjonoojhdifjiaaGreatDoor
open Go.RowKit Go.Shelf
attribute [local go_sem] Oper.semAt_some
namespace Dw
theorem cmd_26 {x : Su} (c : Cmd) (p : Pw) (h : x.ph = 2 ∨ x.ph = 3) : commandX x c p = x ∧ commandE x c p = 26 := by
  have : refusedE x c = 26 := by unfold refusedE; rw [if_pos h]
  unfold commandX commandE
  rw [this]
  exact ⟨if_neg (fun h => absurd h.1 (by decide)), if_neg (fun h => absurd h.1 (by decide))⟩
theorem cmd_25 {x : Su} {c : Cmd} (p : Pw) (h : x.ph = 0) (h2 : 1 ≤ c.ki ∧ c.ki ≤ 3) : commandX x c p = x ∧ commandE x c p = 25 := by
  have : refusedE x c = 25 := by unfold refusedE; rw [if_neg (by omega), if_pos ⟨h, h2⟩]
  unfold commandX commandE
  rw [this]
  exact ⟨if_neg (fun h => absurd h.1 (by decide)), if_neg (fun h => absurd h.1 (by decide))⟩
theorem cmd_go {x : Su} {c : Cmd} (p : Pw) (h : ¬ (x.ph = 2 ∨ x.ph = 3)) (h2 : ¬ (x.ph = 0 ∧ 1 ≤ c.ki ∧ c.ki ≤ 3)) :
    commandX x c p = (if deltaE x.s c = 0 ∧ deltaS x.s c ≠ x.s then writeX x (deltaS x.s c) p else x) ∧ commandE x c p = (if deltaE x.s c = 0 ∧ deltaS x.s c ≠ x.s then writeE x (deltaS x.s c) p else deltaE x.s c) := by
  have : refusedE x c = deltaE x.s c := by unfold refusedE; rw [if_neg h, if_neg h2]
  unfold commandX commandE
  rw [this]
  by_cases he : deltaE x.s c = 0
  · have : deltaS x.s c = deltaT x.s c := by unfold deltaS; rw [if_pos he]
    rw [this]
    exact ⟨rfl, rfl⟩
  · rw [if_neg (fun h => he h.1), if_neg (fun h => he h.1), if_neg (fun h => he h.1), if_neg (fun h => he h.1)]
    exact ⟨rfl, rfl⟩
end Dw
theorem scommand_core (x : Dw.Su) (c : Dw.Cmd) (p : Dw.Pw) (hf : Dw.FlOk x.f) (w : World) (hn : NoneAt w)
    (hd : ∀ w, Calls Tryz.prog 56 #[stV x.s, cmV c] w fun e w' => e = .returned (.tuple #[stV (Dw.deltaS x.s c), .int .i64 (Dw.deltaE x.s c)]) ∧ Below w.heap.size w w')
    (hlT : Dw.deltaE x.s c = 0 → Dw.legal (Dw.deltaS x.s c) = true) :
    Calls Tryz.prog 32 #[suV x, cmV c, pwV p] w fun e w' => e = .returned (.tuple #[suV (Dw.commandX x c p), .int .i64 (Dw.commandE x c p)]) ∧ Below w.heap.size w w' := by
  obtain ⟨V, hV⟩ : ∃ V, ((((w.alloc (.cells (suC x) 35)).alloc (.cells (cmC c) 65)).alloc (.cells (pwC p) 49)).alloc (.cells Z14 35)).alloc (.cells #[.int .i64 0] 50) = V := ⟨_, rfl⟩
  obtain ⟨vz, vB, b0, b1, b2, b3, b4⟩ := alloc5 w _ _ _ _ _ V hV
  obtain ⟨W, hW⟩ : ∃ W, V.setRow (w.heap.size + 3) (suC x) = W := ⟨_, rfl⟩
  have e3 := setRow_heap V (w.heap.size + 3) _ (suC x) _ _ b3
  have e0 := (setRow_other V (w.heap.size + 3) w.heap.size (suC x) (by omega)).trans b0
  have e1 := (setRow_other V (w.heap.size + 3) (w.heap.size + 1) (suC x) (by omega)).trans b1
  have e2 := (setRow_other V (w.heap.size + 3) (w.heap.size + 2) (suC x) (by omega)).trans b2
  have e4 := (setRow_other V (w.heap.size + 3) (w.heap.size + 4) (suC x) (by omega)).trans b4
  have hB := below_setRow vB (show w.heap.size ≤ w.heap.size + 3 by omega) (suC x)
  rw [hW] at e0 e1 e2 e3 e4 hB
  have hng := hn.pos
  have H26 := Lib.hid (fun h => Dw.cmd_26 (x := x) c p h)
  have H25 := Lib.hid (fun h h2 => Dw.cmd_25 (x := x) (c := c) p h h2)
  have HGO := Lib.hid (fun h h2 => Dw.cmd_go (x := x) (c := c) p h h2)
  have HD := Lib.hid hd
  clear hd
  obtain ⟨-, -, x11, -, -⟩ := cells14 e0
  obtain ⟨k0, -⟩ := cells4 e1
  obtain ⟨xf, xs, ph, vo, n⟩ := x
  obtain ⟨ki, cn, cla, clo⟩ := c
  dsimp only at *
  generalize Dw.commandX ⟨xf, xs, ph, vo, n⟩ ⟨ki, cn, cla, clo⟩ p = SX at *
  generalize Dw.commandE ⟨xf, xs, ph, vo, n⟩ ⟨ki, cn, cla, clo⟩ p = SE at *
  generalize Dw.deltaS xs ⟨ki, cn, cla, clo⟩ = T at *
  generalize Dw.deltaE xs ⟨ki, cn, cla, clo⟩ = E at *
  by_cases h2 : ph = 2
  · subst h2
    obtain ⟨hX, hE⟩ := H26.out (.inl rfl)
    go_enter_defers Tryz.func32, Tryz.ntmps32
    go_wp2_with fail
    go_step3
    go_wp2_with (first | (refine lb b0 rfl rfl rfl (by kernel_rfl) ?_) | (refine sb b0 rfl rfl rfl rfl (by kernel_rfl) ?_) | (refine lb b3 rfl rfl rfl (by kernel_rfl) ?_) | (refine sb b3 rfl rfl rfl rfl (by kernel_rfl) ?_))
    go_step3
    go_wp2_with fail
    exact leave_stop rfl (by rfl) (by rfl) e3 e4 (by omega) (by simp [go_sem]) (fun w' hk => ⟨by first | rfl | rw [hX, hE], hB.trans (hk.below hB.size (fun k hk => by omega))⟩)
  by_cases h3 : ph = 3
  · subst h3
    obtain ⟨hX, hE⟩ := H26.out (.inr rfl)
    go_enter_defers Tryz.func32, Tryz.ntmps32
    go_wp2_with fail
    go_step3
    go_wp2_with (first | (refine lb b0 rfl rfl rfl (by kernel_rfl) ?_) | (refine sb b0 rfl rfl rfl rfl (by kernel_rfl) ?_) | (refine lb b3 rfl rfl rfl (by kernel_rfl) ?_) | (refine sb b3 rfl rfl rfl rfl (by kernel_rfl) ?_))
    go_step3
    go_wp2_with fail
    exact leave_stop rfl (by rfl) (by rfl) e3 e4 (by omega) (by simp [go_sem]) (fun w' hk => ⟨by first | rfl | rw [hX, hE], hB.trans (hk.below hB.size (fun k hk => by omega))⟩)
  by_cases h0 : ph = 0
  · subst h0
    by_cases hk1 : ki = 1
    · subst hk1
      obtain ⟨hX, hE⟩ := H25.out rfl (by decide)
      go_enter_defers Tryz.func32, Tryz.ntmps32
      go_wp2_with fail
      go_step3
      go_wp2_with (first | (refine lb b0 rfl rfl rfl (by kernel_rfl) ?_) | (refine sb b0 rfl rfl rfl rfl (by kernel_rfl) ?_) | (refine lb b3 rfl rfl rfl (by kernel_rfl) ?_) | (refine sb b3 rfl rfl rfl rfl (by kernel_rfl) ?_))
      go_step3
      go_wp2_with fail
      exact leave_stop rfl (by rfl) (by rfl) e3 e4 (by omega) (by simp [go_sem]) (fun w' hk => ⟨by first | rfl | rw [hX, hE], hB.trans (hk.below hB.size (fun k hk => by omega))⟩)
    by_cases hk2 : ki = 2
    · subst hk2
      obtain ⟨hX, hE⟩ := H25.out rfl (by decide)
      go_enter_defers Tryz.func32, Tryz.ntmps32
      go_wp2_with fail
      go_step3
      go_wp2_with (first | (refine lb b0 rfl rfl rfl (by kernel_rfl) ?_) | (refine sb b0 rfl rfl rfl rfl (by kernel_rfl) ?_) | (refine lb b3 rfl rfl rfl (by kernel_rfl) ?_) | (refine sb b3 rfl rfl rfl rfl (by kernel_rfl) ?_))
      go_step3
      go_wp2_with fail
      exact leave_stop rfl (by rfl) (by rfl) e3 e4 (by omega) (by simp [go_sem]) (fun w' hk => ⟨by first | rfl | rw [hX, hE], hB.trans (hk.below hB.size (fun k hk => by omega))⟩)
    by_cases hk3 : ki = 3
    · subst hk3
      obtain ⟨hX, hE⟩ := H25.out rfl (by decide)
      go_enter_defers Tryz.func32, Tryz.ntmps32
      go_wp2_with fail
      go_step3
      go_wp2_with (first | (refine lb b0 rfl rfl rfl (by kernel_rfl) ?_) | (refine sb b0 rfl rfl rfl rfl (by kernel_rfl) ?_) | (refine lb b3 rfl rfl rfl (by kernel_rfl) ?_) | (refine sb b3 rfl rfl rfl rfl (by kernel_rfl) ?_))
      go_step3
      go_wp2_with fail
      exact leave_stop rfl (by rfl) (by rfl) e3 e4 (by omega) (by simp [go_sem]) (fun w' hk => ⟨by first | rfl | rw [hX, hE], hB.trans (hk.below hB.size (fun k hk => by omega))⟩)
    obtain ⟨hx, hee⟩ := HGO.out (by decide) (by omega)
    have HX := Lib.hid hx; have HE := Lib.hid hee
    have q1 : (ki == 1) = false := by simpa using hk1
    have q2 : (ki == 2) = false := by simpa using hk2
    have q3 : (ki == 3) = false := by simpa using hk3
    clear hx hee H26 H25 HGO h2 h3 hk1 hk2 hk3
    go_enter_defers Tryz.func32, Tryz.ntmps32
    go_wp2_with fail
    go_step3
    go_wp2_with (first | (refine lb b0 rfl rfl rfl (by kernel_rfl) ?_) | (refine sb b0 rfl rfl rfl rfl (by kernel_rfl) ?_) | (refine lb b3 rfl rfl rfl (by kernel_rfl) ?_) | (refine sb b3 rfl rfl rfl rfl (by kernel_rfl) ?_))
    go_step3
    go_wp2_with (first | (refine lp 27 5 (stC xs) e0 rfl rfl rfl (by kernel_rfl) (by rfl) ?_) | (refine lb e1 rfl rfl rfl (by kernel_rfl) ?_) | (refine sb e1 rfl rfl rfl rfl (by kernel_rfl) ?_))
    refine cb (HD.out _) fun w5 hb => ?_
    have f0 := kp hb e0
    have f2 := kp hb e2
    have f3 := kp hb e3
    have f4 := kp hb e4
    replace hB := tr hB hb
    clear hb x11 k0 e0 e1 e2 e3 e4 b0 b1 b2 b3 b4 hV hW vB
    have b9 := han w5 (.cells (stC T) 27)
    replace f0 := hao w5 (.cells (stC T) 27) f0
    replace f2 := hao w5 (.cells (stC T) 27) f2
    replace f3 := hao w5 (.cells (stC T) 27) f3
    replace f4 := hao w5 (.cells (stC T) 27) f4
    replace hB := hB.alloc hB.size (.cells (stC T) 27)
    obtain ⟨W6, hW6⟩ : ∃ W6, w5.alloc (.cells (stC T) 27) = W6 := ⟨_, rfl⟩
    rw [hW6] at b9 f0 f2 f3 f4 hB
    by_cases he0 : E = 0
    · subst he0
      have HLT := Lib.hid (hlT rfl)
      clear hlT
      by_cases hT : T = xs
      · subst hT
        have hst : ∀ x y, (do eqGuard .neq 27 x y (stV T) (stV T); binOp .neq 27 (stV T) (stV T) : Sem Value).run Tryz.prog W6 = .ok (.bool false) W6 := fun x y => (st_neq x y T T W6).trans (by simp)
        have HST := Lib.hid hst
        clear hst
        have hX := HX.out; have hE := HE.out
        rw [if_neg (by simp)] at hX hE
        clear HX HE
        obtain ⟨c4, d4, z4, r1, r4, hB'⟩ := tail_facts rfl f3 f4 hB
        go_wp2_with (first | (refine lb b9 rfl rfl rfl (by kernel_rfl) ?_) | (refine sb b9 rfl rfl rfl rfl (by kernel_rfl) ?_) | (refine lp 27 5 (stC T) f0 rfl rfl rfl (by kernel_rfl) (by rfl) ?_) | (refine wpList_bin rfl .neq 27 _ _ _ rfl (stV T) (stV T) (.bool false) rfl rfl (HST.out _ _) ?_) | (refine lb f3 rfl rfl rfl (by kernel_rfl) ?_) | (refine sb f3 rfl rfl rfl rfl (by kernel_rfl) ?_))
        exact leave_ok rfl (by rfl) (by rfl) r1 r4 (by simp [go_sem]) ⟨by first | rfl | rw [hX, hE], hB'⟩
      · have hst : ∀ x y, (do eqGuard .neq 27 x y (stV T) (stV xs); binOp .neq 27 (stV T) (stV xs) : Sem Value).run Tryz.prog W6 = .ok (.bool true) W6 := fun x y => (st_neq x y T xs W6).trans (by rw [decide_eq_false hT]; rfl)
        have HST := Lib.hid hst
        clear hst
        have hX := HX.out; have hE := HE.out
        rw [if_pos ⟨rfl, hT⟩] at hX hE
        clear HX HE
        go_wp2_with (first | (refine lb b9 rfl rfl rfl (by kernel_rfl) ?_) | (refine sb b9 rfl rfl rfl rfl (by kernel_rfl) ?_) | (refine lp 27 5 (stC xs) f0 rfl rfl rfl (by kernel_rfl) (by rfl) ?_) | (refine wpList_bin rfl .neq 27 _ _ _ rfl (stV T) (stV xs) (.bool true) rfl rfl (HST.out _ _) ?_) | (refine lb f2 rfl rfl rfl (by kernel_rfl) ?_) | (refine sb f2 rfl rfl rfl rfl (by kernel_rfl) ?_))
        refine (sup_write ⟨xf, xs, 0, vo, n⟩ T p hf HLT.out (w.heap.size + 3) _ (hn.next hB) (by omega) f3).mono ?_
        rintro e w9 ⟨hk, hq, ⟨he, rfl⟩ | ⟨he, rfl⟩⟩
        · have g4 := (hk.block _ (block_lt f4) (by omega)).trans f4
          have hB9 := hB.trans (hk.below hB.size (fun k hk => by omega))
          rw [he] at hE
          obtain ⟨Y, hY⟩ : ∃ Y, Dw.writeX ⟨xf, xs, 0, vo, n⟩ T p = Y := ⟨_, rfl⟩
          rw [hY] at hq hX
          clear hY hk
          obtain ⟨c4, d4, z4, r1, r4, hB'⟩ := tail_facts rfl hq g4 hB9
          go_wp2_with (first | (refine lb hq rfl rfl rfl (by kernel_rfl) ?_) | (refine sb hq rfl rfl rfl rfl (by kernel_rfl) ?_))
          exact leave_ok rfl (by rfl) (by rfl) r1 r4 (by simp [go_sem]) ⟨by first | rfl | rw [hX, hE], hB'⟩
        · have g4 := (hk.block _ (block_lt f4) (by omega)).trans f4
          have hB9 := hB.trans (hk.below hB.size (fun k hk => by omega))
          rw [he] at hE
          clear hk
          go_wp2_with fail
          exact leave_stop rfl (by rfl) (by rfl) hq g4 (by omega) (by simp [go_sem]) (fun w' hk => ⟨by rw [hX, hE], hB9.trans (hk.below hB9.size (fun k hk => by omega))⟩)
    · have hX := HX.out; have hE := HE.out
      rw [if_neg (fun h => he0 h.1)] at hX hE
      have heb : (E == 0) = false := by simpa using he0
      go_wp2_with fail
      exact leave_stop rfl (by rfl) (by rfl) f3 f4 (by omega) (by simp [go_sem]) (fun w' hk => ⟨by rw [hX, hE], hB.trans (hk.below hB.size (fun k hk => by omega))⟩)
  · obtain ⟨hx, hee⟩ := HGO.out (by omega) (by omega)
    have HX := Lib.hid hx; have HE := Lib.hid hee
    have q1 : (ph == 2) = false := by simpa using h2
    have q2 : (ph == 3) = false := by simpa using h3
    have q3 : (ph == 0) = false := by simpa using h0
    clear hx hee H26 H25 HGO h2 h3 h0
    go_enter_defers Tryz.func32, Tryz.ntmps32
    go_wp2_with fail
    go_step3
    go_wp2_with (first | (refine lb b0 rfl rfl rfl (by kernel_rfl) ?_) | (refine sb b0 rfl rfl rfl rfl (by kernel_rfl) ?_) | (refine lb b3 rfl rfl rfl (by kernel_rfl) ?_) | (refine sb b3 rfl rfl rfl rfl (by kernel_rfl) ?_))
    go_step3
    go_wp2_with (first | (refine lp 27 5 (stC xs) e0 rfl rfl rfl (by kernel_rfl) (by rfl) ?_) | (refine lb e1 rfl rfl rfl (by kernel_rfl) ?_) | (refine sb e1 rfl rfl rfl rfl (by kernel_rfl) ?_))
    refine cb (HD.out _) fun w5 hb => ?_
    have f0 := kp hb e0
    have f2 := kp hb e2
    have f3 := kp hb e3
    have f4 := kp hb e4
    replace hB := tr hB hb
    clear hb x11 k0 e0 e1 e2 e3 e4 b0 b1 b2 b3 b4 hV hW vB
    have b9 := han w5 (.cells (stC T) 27)
    replace f0 := hao w5 (.cells (stC T) 27) f0
    replace f2 := hao w5 (.cells (stC T) 27) f2
    replace f3 := hao w5 (.cells (stC T) 27) f3
    replace f4 := hao w5 (.cells (stC T) 27) f4
    replace hB := hB.alloc hB.size (.cells (stC T) 27)
    obtain ⟨W6, hW6⟩ : ∃ W6, w5.alloc (.cells (stC T) 27) = W6 := ⟨_, rfl⟩
    rw [hW6] at b9 f0 f2 f3 f4 hB
    by_cases he0 : E = 0
    · subst he0
      have HLT := Lib.hid (hlT rfl)
      clear hlT
      by_cases hT : T = xs
      · subst hT
        have hst : ∀ x y, (do eqGuard .neq 27 x y (stV T) (stV T); binOp .neq 27 (stV T) (stV T) : Sem Value).run Tryz.prog W6 = .ok (.bool false) W6 := fun x y => (st_neq x y T T W6).trans (by simp)
        have HST := Lib.hid hst
        clear hst
        have hX := HX.out; have hE := HE.out
        rw [if_neg (by simp)] at hX hE
        clear HX HE
        obtain ⟨c4, d4, z4, r1, r4, hB'⟩ := tail_facts rfl f3 f4 hB
        go_wp2_with (first | (refine lb b9 rfl rfl rfl (by kernel_rfl) ?_) | (refine sb b9 rfl rfl rfl rfl (by kernel_rfl) ?_) | (refine lp 27 5 (stC T) f0 rfl rfl rfl (by kernel_rfl) (by rfl) ?_) | (refine wpList_bin rfl .neq 27 _ _ _ rfl (stV T) (stV T) (.bool false) rfl rfl (HST.out _ _) ?_) | (refine lb f3 rfl rfl rfl (by kernel_rfl) ?_) | (refine sb f3 rfl rfl rfl rfl (by kernel_rfl) ?_))
        exact leave_ok rfl (by rfl) (by rfl) r1 r4 (by simp [go_sem]) ⟨by first | rfl | rw [hX, hE], hB'⟩
      · have hst : ∀ x y, (do eqGuard .neq 27 x y (stV T) (stV xs); binOp .neq 27 (stV T) (stV xs) : Sem Value).run Tryz.prog W6 = .ok (.bool true) W6 := fun x y => (st_neq x y T xs W6).trans (by rw [decide_eq_false hT]; rfl)
        have HST := Lib.hid hst
        clear hst
        have hX := HX.out; have hE := HE.out
        rw [if_pos ⟨rfl, hT⟩] at hX hE
        clear HX HE
        go_wp2_with (first | (refine lb b9 rfl rfl rfl (by kernel_rfl) ?_) | (refine sb b9 rfl rfl rfl rfl (by kernel_rfl) ?_) | (refine lp 27 5 (stC xs) f0 rfl rfl rfl (by kernel_rfl) (by rfl) ?_) | (refine wpList_bin rfl .neq 27 _ _ _ rfl (stV T) (stV xs) (.bool true) rfl rfl (HST.out _ _) ?_) | (refine lb f2 rfl rfl rfl (by kernel_rfl) ?_) | (refine sb f2 rfl rfl rfl rfl (by kernel_rfl) ?_))
        refine (sup_write ⟨xf, xs, ph, vo, n⟩ T p hf HLT.out (w.heap.size + 3) _ (hn.next hB) (by omega) f3).mono ?_
        rintro e w9 ⟨hk, hq, ⟨he, rfl⟩ | ⟨he, rfl⟩⟩
        · have g4 := (hk.block _ (block_lt f4) (by omega)).trans f4
          have hB9 := hB.trans (hk.below hB.size (fun k hk => by omega))
          rw [he] at hE
          obtain ⟨Y, hY⟩ : ∃ Y, Dw.writeX ⟨xf, xs, ph, vo, n⟩ T p = Y := ⟨_, rfl⟩
          rw [hY] at hq hX
          clear hY hk
          obtain ⟨c4, d4, z4, r1, r4, hB'⟩ := tail_facts rfl hq g4 hB9
          go_wp2_with (first | (refine lb hq rfl rfl rfl (by kernel_rfl) ?_) | (refine sb hq rfl rfl rfl rfl (by kernel_rfl) ?_))
          exact leave_ok rfl (by rfl) (by rfl) r1 r4 (by simp [go_sem]) ⟨by first | rfl | rw [hX, hE], hB'⟩
        · have g4 := (hk.block _ (block_lt f4) (by omega)).trans f4
          have hB9 := hB.trans (hk.below hB.size (fun k hk => by omega))
          rw [he] at hE
          clear hk
          go_wp2_with fail
          exact leave_stop rfl (by rfl) (by rfl) hq g4 (by omega) (by simp [go_sem]) (fun w' hk => ⟨by rw [hX, hE], hB9.trans (hk.below hB9.size (fun k hk => by omega))⟩)
    · have hX := HX.out; have hE := HE.out
      rw [if_neg (fun h => he0 h.1)] at hX hE
      have heb : (E == 0) = false := by simpa using he0
      go_wp2_with fail
      exact leave_stop rfl (by rfl) (by rfl) f3 f4 (by omega) (by simp [go_sem]) (fun w' hk => ⟨by rw [hX, hE], hB.trans (hk.below hB.size (fun k hk => by omega))⟩)
end Go.Proofs.YtjonoojhdifjiaaGreatDoor
namespace Go.Proofs.YtjonoojhdifjiaaGreatDoor
open Go.RowKit Go.Shelf
attribute [local go_sem] Oper.semAt_some
theorem rboot_any (f : Dw.Fl) (hf : Dw.FlOk f) (w : World) :
    Calls Tryz.prog 18 #[flV f] w fun e w' => e = .returned (suV (Dw.boot f)) ∧ Below w.heap.size w w' := by
  obtain ⟨V, hV⟩ : ∃ V, ((w.alloc (.cells (flC f) 37)).alloc (.cells Z14 40)).alloc (.cells Z14 40) = V := ⟨_, rfl⟩
  obtain ⟨vz, hB, b0, b1, b2⟩ := alloc3 w _ _ _ V hV
  have e2 := setRow_heap V (w.heap.size + 2) _ (suC ⟨f, ⟨0, false, false, 0, 0, 0⟩, 0, 0, 0⟩) _ _ b2
  have e0 := (setRow_other V (w.heap.size + 2) w.heap.size (suC ⟨f, ⟨0, false, false, 0, 0, 0⟩, 0, 0, 0⟩) (by omega)).trans b0
  have e1 := (setRow_other V (w.heap.size + 2) (w.heap.size + 1) (suC ⟨f, ⟨0, false, false, 0, 0, 0⟩, 0, 0, 0⟩) (by omega)).trans b1
  replace hB := below_setRow hB (show w.heap.size ≤ w.heap.size + 2 by omega) (suC ⟨f, ⟨0, false, false, 0, 0, 0⟩, 0, 0, 0⟩)
  have HR := Lib.hid (fun w => rread_any f hf.a hf.b w)
  have HT := Lib.hid (show Dw.boot f = ⟨f, if Dw.readE f.a f.b = 0 then Dw.unP (Dw.readS f.a f.b).data else Dw.st0, 0, 0, 0⟩ from rfl)
  have hE2 := Dw.readE_two f.a f.b
  have hlt := Dw.readS_lt f.a f.b
  generalize Dw.boot f = X at *
  generalize Dw.readE f.a f.b = er at *
  obtain ⟨⟨pb, pg, pq, pd⟩, hS⟩ : ∃ p, Dw.readS f.a f.b = p := ⟨_, rfl⟩
  rw [hS] at HT HR hlt
  dsimp only at HT hlt
  have HU := Lib.hid (fun w => runpack_any pd hlt w)
  have hbad : Dw.unE pd = 0 ∨ (Dw.unE pd = 13 ∧ Dw.unP pd = Dw.st0) := by
    unfold Dw.unE Dw.unP
    cases Dw.unOk pd
    · exact .inr ⟨rfl, rfl⟩
    · exact .inl rfl
  clear hS hlt
  go_enter Tryz.func18, Tryz.ntmps18
  go_wp2_with (first | (refine lb b0 rfl rfl rfl (by kernel_rfl) ?_) | (refine sb b0 rfl rfl rfl rfl (by kernel_rfl) ?_) | (refine lb e0 rfl rfl rfl (by kernel_rfl) ?_) | (refine sb e0 rfl rfl rfl rfl (by kernel_rfl) ?_) | (refine lb b2 rfl rfl rfl (by kernel_rfl) ?_) | (refine sb b2 rfl rfl rfl rfl (by kernel_rfl) ?_))
  refine cb (HR.out _) fun w1 hb' => ?_
  replace e1 := kp hb' e1
  replace e2 := kp hb' e2
  replace hB := hB.trans (hb'.mono hB.size)
  clear hb' b0 b1 b2 e0 HR hV
  have b4 := han w1 (.cells #[.int .i64 pb, .int .u64 pg, .int .u64 pq, .int .u64 pd] 87)
  replace e1 := hao w1 (.cells #[.int .i64 pb, .int .u64 pg, .int .u64 pq, .int .u64 pd] 87) e1
  replace e2 := hao w1 (.cells #[.int .i64 pb, .int .u64 pg, .int .u64 pq, .int .u64 pd] 87) e2
  replace hB := hB.alloc hB.size (.cells #[.int .i64 pb, .int .u64 pg, .int .u64 pq, .int .u64 pd] 87)
  obtain ⟨W5, hW5⟩ : ∃ W, w1.alloc (.cells #[.int .i64 pb, .int .u64 pg, .int .u64 pq, .int .u64 pd] 87) = W := ⟨_, rfl⟩
  rw [hW5] at b4 e1 e2 hB
  obtain ⟨q0, q1, q2, q3⟩ := cells4 b4
  rcases hE2 with rfl | rfl
  · go_wp2_with fail
    refine cb (HU.out _) fun w2 hb' => ?_
    replace e1 := kp hb' e1
    replace e2 := kp hb' e2
    replace hB := hB.trans (hb'.mono hB.size)
    clear hb' b4 q0 q1 q2 q3 HU hW5
    have hT : X = ⟨f, Dw.unP pd, 0, 0, 0⟩ := by rw [HT.out]; rfl
    generalize hu : Dw.unP pd = U at *
    have b5 := han w2 (.cells (stC U) 30)
    replace e1 := hao w2 (.cells (stC U) 30) e1
    replace e2 := hao w2 (.cells (stC U) 30) e2
    replace hB := hB.alloc hB.size (.cells (stC U) 30)
    generalize hue : Dw.unE pd = E at *
    rcases hbad with rfl | ⟨rfl, rfl⟩
    · have r1 := (setRow_other _ (w.heap.size + 2) (w.heap.size + 1) (suC ⟨f, U, 0, 0, 0⟩) (by omega)).trans e1
      have r3 := setRow_heap _ (w.heap.size + 2) _ (suC ⟨f, U, 0, 0, 0⟩) _ _ e2
      have hB3 := below_setRow hB (show w.heap.size ≤ w.heap.size + 2 by omega) (suC ⟨f, U, 0, 0, 0⟩)
      go_wp2_with (first | (refine lb b5 rfl rfl rfl (by kernel_rfl) ?_) | (refine sb b5 rfl rfl rfl rfl (by kernel_rfl) ?_) | (refine sp 30 5 (stC U) (suC ⟨f, U, 0, 0, 0⟩) e2 rfl rfl rfl rfl (by kernel_rfl) (by rfl) (by rfl) ?_) | (refine lb r3 rfl rfl rfl (by kernel_rfl) ?_) | (refine sb r3 rfl rfl rfl rfl (by kernel_rfl) ?_) | (refine lb r1 rfl rfl rfl (by kernel_rfl) ?_) | (refine sb r1 rfl rfl rfl rfl (by kernel_rfl) ?_))
      exact bodyPost_ret (rcr rfl (srh r1) (by rfl) (by kernel_rfl)) rfl ⟨by rw [hT], below_setRow hB3 (by omega) _⟩
    · go_wp2_with (first | (refine lb e2 rfl rfl rfl (by kernel_rfl) ?_) | (refine sb e2 rfl rfl rfl rfl (by kernel_rfl) ?_) | (refine lb e1 rfl rfl rfl (by kernel_rfl) ?_) | (refine sb e1 rfl rfl rfl rfl (by kernel_rfl) ?_))
      exact bodyPost_ret (rcr rfl (srh e1) (by rfl) (by kernel_rfl)) rfl ⟨by rw [hT]; rfl, below_setRow hB (by omega) _⟩
  · have hT : X = ⟨f, Dw.st0, 0, 0, 0⟩ := by rw [HT.out]; rfl
    clear HU q0 q1 q2 q3
    go_wp2_with (first | (refine lb e2 rfl rfl rfl (by kernel_rfl) ?_) | (refine sb e2 rfl rfl rfl rfl (by kernel_rfl) ?_) | (refine lb e1 rfl rfl rfl (by kernel_rfl) ?_) | (refine sb e1 rfl rfl rfl rfl (by kernel_rfl) ?_))
    exact bodyPost_ret (rcr rfl (srh e1) (by rfl) (by kernel_rfl)) rfl ⟨by rw [hT]; rfl, below_setRow hB (by omega) _⟩
theorem rkept_any (x : Dw.Su) (hf : Dw.FlOk x.f) (hl : Dw.legal x.s = true) (w : World) :
    Calls Tryz.prog 21 #[suV x] w fun e w' => e = .returned (.bool (Dw.kept x)) ∧ Below w.heap.size w w' := by
  have hB := (Below.refl w.heap.size w).alloc (Nat.le_refl _) (.cells (suC x) 40)
  have hC := han w (.cells (suC x) 40)
  obtain ⟨f, s, ph, vo, nn⟩ := x
  have HP := Lib.hid (fun w => rpack_any s hl w)
  have HR := Lib.hid (fun w => rread_any f hf.a hf.b w)
  have HK := Lib.hid (show Dw.kept ⟨f, s, ph, vo, nn⟩ = (decide (Dw.readE f.a f.b = 0) && decide (Dw.pack s = (Dw.readS f.a f.b).data)) from rfl)
  have hE2 := Dw.readE_two f.a f.b
  generalize Dw.kept ⟨f, s, ph, vo, nn⟩ = K at *
  generalize Dw.readE f.a f.b = er at *
  obtain ⟨⟨pb, pg, pq, pd⟩, hS⟩ : ∃ p, Dw.readS f.a f.b = p := ⟨_, rfl⟩
  rw [hS] at HK HR
  generalize Dw.pack s = pk at *
  clear hS hf hl
  dsimp only at hC HK
  obtain ⟨x0, x1, -⟩ := cells14 hC
  obtain ⟨x00, x01, x02, x03, x04⟩ := x0
  go_enter Tryz.func21, Tryz.ntmps21
  go_wp2_with (first | (refine lp 37 0 (flC f) hC rfl rfl rfl (by kernel_rfl) (by rfl) ?_))
  refine cb (HR.out _) fun w1 hb => ?_
  have hC1 := kp hb hC
  replace hB := tr hB hb
  clear hb hC x00 x01 x02 x03 x04 x1 HR
  have b4 := han w1 (.cells #[.int .i64 pb, .int .u64 pg, .int .u64 pq, .int .u64 pd] 87)
  have b1 := hao w1 (.cells #[.int .i64 pb, .int .u64 pg, .int .u64 pq, .int .u64 pd] 87) hC1
  replace hB := hB.alloc hB.size (.cells #[.int .i64 pb, .int .u64 pg, .int .u64 pq, .int .u64 pd] 87)
  obtain ⟨W, hW⟩ : ∃ W, w1.alloc (.cells #[.int .i64 pb, .int .u64 pg, .int .u64 pq, .int .u64 pd] 87) = W := ⟨_, rfl⟩
  rw [hW] at b4 b1 hB
  clear hC1
  obtain ⟨-, ⟨x5, x6, x7, x8, x9, x10⟩, -⟩ := cells14 b1
  obtain ⟨q0, q1, q2, q3⟩ := cells4 b4
  go_wp2_with fail
  try rw [hW]
  clear hW
  rcases hE2 with rfl | rfl
  · refine wp_pure [0,1,2,3,4,5,6,7,8,9] 10 (by kernel_rfl) (by kernel_rfl) rfl ?_
    (apply rat; (focus (intro w' hk; obtain ⟨k0,k1,k2,k3,k4,k5,k6⟩ := look7 hk x5 x6 x7 x8 x9 x10 q3; repeat' (first | exact rn | ((first | refine' rv ?_ rfl rfl (by go_simp; first | done | with_reducible rfl | exact rfl) | refine' rc ?_ (by exact rfl) (by exact rfl) (by go_simp; first | done | (constructor <;> with_reducible rfl) | with_reducible rfl) (by exact HP.out w') | refine' rs ?_ rfl rfl); try simp only [Act.put, List.setIfInBounds_toArray, List.set_cons_zero, List.set_cons_succ])))))
    intro w2 hk2
    simp only [List.drop_succ_cons, List.drop_zero]
    replace hB := hB.trans (hk2.whole.mono hB.size)
    clear hk2 x5 x6 x7 x8 x9 x10 q0 q1 q2 q3 b1 b4
    go_wp2_with fail
    go_ret
    refine ⟨ret_bool ?_, hB⟩
    rw [HK.out, Bool.eq_iff_iff]
    simp
    try omega
  · refine wp_pure [0,1,2,3,4,5,6,7,8,9] 10 (by kernel_rfl) (by kernel_rfl) rfl ?_
    (apply rat; (focus (intro w' hk; repeat' (first | exact rn | ((first | refine' rv ?_ rfl rfl (by go_simp; first | done | with_reducible rfl | exact rfl) | refine' rc ?_ (by exact rfl) (by exact rfl) (by go_simp; first | done | (constructor <;> with_reducible rfl) | with_reducible rfl) (by exact HP.out w') | refine' rs ?_ rfl rfl); try simp only [Act.put, List.setIfInBounds_toArray, List.set_cons_zero, List.set_cons_succ])))))
    intro w2 hk2
    simp only [List.drop_succ_cons, List.drop_zero]
    replace hB := hB.trans (hk2.whole.mono hB.size)
    clear hk2 x5 x6 x7 x8 x9 x10 q0 q1 q2 q3 b1 b4
    go_wp2_with fail
    go_ret
    refine ⟨ret_bool ?_, hB⟩
    rw [HK.out]
    simp
end Go.Proofs.YtjonoojhdifjiaaGreatDoor
