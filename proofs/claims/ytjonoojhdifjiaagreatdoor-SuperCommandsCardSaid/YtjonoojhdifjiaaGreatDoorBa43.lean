/- What the statement's proof stands on, part 43: Show20, LawB20, Writes20, Sams20, RSup3, Coms20. -/
import Derived.Test.YtjonoojhdifjiaaGreatDoorBa39
import Derived.Test.YtjonoojhdifjiaaGreatDoorBa41
import Derived.Test.YtjonoojhdifjiaaGreatDoorBa42
import Derived.Test.YtjonoojhdifjiaaGreatDoorBa34
set_option linter.unusedSimpArgs false
set_option linter.unusedVariables false
set_option maxRecDepth 100000
set_option maxHeartbeats 4000000
namespace Go.Proofs.YtjonoojhdifjiaaGreatDoor
open Go.RowKit Go.Shelf
theorem Dw.boot_f (f : Dw.Fl) : (Dw.boot f).f = f := rfl
theorem shown20_any (w : World) (hn : NoneAt w) :
    Calls Tryz.prog 15 #[] w fun e w' => e = .returned (.bool true) ∧ Below w.heap.size w w' := by
  have okY : Dw.FlOk Dw.y20.f := by unfold Dw.y20; rw [Dw.itS_three]; exact Dw.itS_ok 1 (by rw [Dw.boot_f]; exact Dw.ok20) 3
  have leY : Dw.legal Dw.y20.s = true := by unfold Dw.y20; rw [Dw.itS_three]; exact Dw.itS_legal 1 (Dw.boot_legal _) 3
  have okZ : Dw.FlOk Dw.z20.f := Dw.commandX_ok okY _ _
  have leZ : Dw.legal Dw.z20.s = true := Dw.command_legal leY _ _
  have okU : Dw.FlOk Dw.u20.f := Dw.commandX_ok okZ _ _
  have okV : Dw.FlOk (Dw.boot Dw.u20.f).f := by rw [Dw.boot_f]; exact okU
  have e0 : ∀ k, Dw.itS (Dw.boot Dw.u20.f) 2 (k + 1) = Dw.sampleX (Dw.itS (Dw.boot Dw.u20.f) 2 k) 2 Dw.whole := fun _ => Dw.itS_succ _ _ _
  have e3 : Dw.itS (Dw.boot Dw.u20.f) 2 3 = Dw.v20 := (Dw.itS_three _ _).symm
  refine shown20_walk Dw.g20 (Dw.boot Dw.g20) (Dw.commandX (Dw.boot Dw.g20) Dw.arm20 Dw.whole) Dw.y20 Dw.z20 Dw.u20 (Dw.itS (Dw.boot Dw.u20.f) 2) (fun j => Dw.sampleE (Dw.itS (Dw.boot Dw.u20.f) 2 j) 2 Dw.whole) w hn
    (fun w => new_any 72 5 (by decide) (by decide) w) (fun w hn => boot_any Dw.g20 Dw.ok20 w hn) (fun w hn => ?_) (fun w hn => stood20_any Dw.g20 Dw.ok20 w hn) (fun w hn => ?_) (fun w hn => ?_) (fun w hn => boot_any Dw.u20.f okU w hn) (fun j _ w hn => ?_) (fun w hn => ?_) Dw.ev20b.1 Dw.ev20c.2 Dw.ev20d.2 ?_ ?_
  · have := scommand_any (Dw.boot Dw.g20) Dw.arm20 Dw.whole Dw.ok20 (Dw.boot_legal _) (by decide) (by decide) w hn
    rw [Dw.ev20a] at this
    exact this
  · have := scommand_any Dw.y20 Dw.arm20 Dw.whole okY leY (by decide) (by decide) w hn
    rw [Dw.ev20c.1] at this
    exact this
  · have := scommand_any Dw.z20 Dw.go20 Dw.cut20 okZ leZ (by decide) (by decide) w hn
    rw [Dw.ev20d.1] at this
    exact this
  · rw [e0]
    exact sampleV (Dw.itS (Dw.boot Dw.u20.f) 2 j) _ 0 _ (by decide) 2 Dw.vote20b (Dw.itS_ok 2 okV j) (Dw.itS_legal 2 (Dw.boot_legal _) j) w hn
  · have := skept_any Dw.y20 okY leY w hn
    rw [Dw.ev20b.2] at this
    exact this
  · rw [e3]; exact Dw.ev20e.1
  · rw [e3]; exact Dw.ev20e.2
end Go.Proofs.YtjonoojhdifjiaaGreatDoor
namespace Go.Proofs.YtjonoojhdifjiaaGreatDoor
open Go.RowKit Go.Shelf
namespace Dw
structure FlR (f : Fl) : Prop where
  li : f.li ≤ 9223372036854775807
  e0 : -9223372036854775808 ≤ f.e0
  e1 : -9223372036854775808 ≤ f.e1
theorem flOk_of {f : Fl} (h : FlR f) (hb : big f.a f.b = false) : FlOk f := by
  unfold big at hb
  have := of_decide_eq_false hb
  exact ⟨by omega, by omega, h.li, h.e0, h.e1⟩
end Dw
theorem exec_bin {P : Program} {w : World} {o : Oper} {a : Act} {op : BinOp} {t t2 : TypeId} {x y : Operand} (hop : o.op = .binOp op t x y t2)
    {vx vy v : Value} (hx : a.eval x = vx) (hy : a.eval y = vy) (hr : (do eqGuard op t x y vx vy; binOp op t vx vy : Sem Value).run P w = .ok v w) : (execOp a.eval o).run P w = .ok (.value v) w := by
  unfold execOp
  rw [hop]
  simp only [hx, hy]
  rw [Sem.run_bind] at hr
  cases hq : (eqGuard op t x y vx vy).run P w with
  | ok u w1 =>
    rw [hq] at hr
    have hr' : (binOp op t vx vy).run P w1 = .ok v w := hr
    simp [Sem.run_bind, hq, hr', Result.andThen]
  | halt h w1 =>
    rw [hq] at hr
    cases hr
theorem rsu_self (y : Dw.Su) (u v : Operand) (w : World) : (do eqGuard .eql 40 u v (suV y) (suV y); binOp .eql 40 (suV y) (suV y) : Sem Value).run Tryz.prog w = .ok (.bool true) w := by
  rw [rsu_eq, Dw.suEq_refl]
end Go.Proofs.YtjonoojhdifjiaaGreatDoor
namespace Go.Proofs.YtjonoojhdifjiaaGreatDoor
open Go.RowKit Go.Shelf
attribute [local go_sem] Oper.semAt_some
theorem writes20_any (x : Dw.Su) (t : Dw.St) (p : Dw.Pw) (hr : Dw.FlR x.f) (w : World) (hn : NoneAt w) :
    Calls Tryz.prog 4 #[suV x, stV t, pwV p] w fun e w' => e = .returned (.bool true) ∧ Below w.heap.size w w' := by
  obtain ⟨V, hV⟩ : ∃ V, ((w.alloc (.cells (suC x) 35)).alloc (.cells (stC t) 27)).alloc (.cells (pwC p) 49) = V := ⟨_, rfl⟩
  obtain ⟨vz, hB, b0, b1, b2⟩ := alloc3 w _ _ _ V hV
  have HL := Lib.hid (fun w => legal20_any x w)
  have HT := Lib.hid (fun w => rlegal_any t w)
  have HSH := Lib.hid (fun w hn => shown20_any w hn)
  obtain ⟨lg, hlg⟩ : ∃ b, (!Dw.big x.f.a x.f.b && Dw.legal x.s) = b := ⟨_, rfl⟩
  obtain ⟨lt, hlt⟩ : ∃ b, Dw.legal t = b := ⟨_, rfl⟩
  rw [hlg] at HL
  rw [hlt] at HT
  have HLG := Lib.hid hlg; have HLT := Lib.hid hlt
  clear hlg hlt
  cases lg
  · go_enter Tryz.func4, Tryz.ntmps4
    go_wp2_with (first | (refine lb b0 rfl rfl rfl (by kernel_rfl) ?_) | (refine sb b0 rfl rfl rfl rfl (by kernel_rfl) ?_))
    refine cb (HL.out _) fun w1 hb => ?_
    replace b0 := kp hb b0
    replace b1 := kp hb b1
    replace b2 := kp hb b2
    replace hB := tr hB hb
    clear hb
    clear hV HL HT
    go_wp2_with fail
    refine cb (HSH.out _ (hn.next hB)) fun wy hb => ?_
    replace hB := tr hB hb
    clear hb
    go_wp2_with fail
    go_ret
    exact ⟨rfl, hB⟩
  · cases lt
    · go_enter Tryz.func4, Tryz.ntmps4
      go_wp2_with (first | (refine lb b0 rfl rfl rfl (by kernel_rfl) ?_) | (refine sb b0 rfl rfl rfl rfl (by kernel_rfl) ?_))
      refine cb (HL.out _) fun w1 hb => ?_
      replace b0 := kp hb b0
      replace b1 := kp hb b1
      replace b2 := kp hb b2
      replace hB := tr hB hb
      clear hb
      clear hV HL
      go_wp2_with (first | (refine wpList_load_block_on rfl 27 _ rfl rfl b1 Tryz.underlying27 rfl (by kernel_rfl) ?_))
      refine cb (HT.out _) fun w2 hb => ?_
      replace b0 := kp hb b0
      replace b1 := kp hb b1
      replace b2 := kp hb b2
      replace hB := tr hB hb
      clear hb
      clear HT
      go_wp2_with fail
      refine cb (HSH.out _ (hn.next hB)) fun wy hb => ?_
      replace hB := tr hB hb
      clear hb
      go_wp2_with fail
      go_ret
      exact ⟨rfl, hB⟩
    · by_cases hm : 500 < p.mask.length
      · have hm' : (500 : Int) < (p.mask.length : Int) := by omega
        go_enter Tryz.func4, Tryz.ntmps4
        go_wp2_with (first | (refine lb b0 rfl rfl rfl (by kernel_rfl) ?_) | (refine sb b0 rfl rfl rfl rfl (by kernel_rfl) ?_))
        refine cb (HL.out _) fun w1 hb => ?_
        replace b0 := kp hb b0
        replace b1 := kp hb b1
        replace b2 := kp hb b2
        replace hB := tr hB hb
        clear hb
        clear hV HL
        go_wp2_with (first | (refine wpList_load_block_on rfl 27 _ rfl rfl b1 Tryz.underlying27 rfl (by kernel_rfl) ?_))
        refine cb (HT.out _) fun w2 hb => ?_
        replace b0 := kp hb b0
        replace b1 := kp hb b1
        replace b2 := kp hb b2
        replace hB := tr hB hb
        clear hb
        clear HT
        obtain ⟨-, p1⟩ := cells2 b2
        go_wp2_with fail
        refine cb (HSH.out _ (hn.next hB)) fun wy hb => ?_
        replace hB := tr hB hb
        clear hb
        go_wp2_with fail
        go_ret
        exact ⟨rfl, hB⟩
      · have hm' : ¬ (500 : Int) < (p.mask.length : Int) := by omega
        have hlg := HLG.out
        simp only [Bool.and_eq_true, Bool.not_eq_true'] at hlg
        have hok := Dw.flOk_of hr hlg.1
        have HWP := Lib.hid (fun w hn => swrite_any x t p hok HLT.out w hn)
        have HWR := Lib.hid (fun w => rwrite_any x t p hok HLT.out (by omega) w)
        have HSU := Lib.hid (fun y w => sup20_any y w)
        clear HLG HLT hlg hok hr
        generalize Dw.writeX x t p = Y at *
        generalize Dw.writeE x t p = E at *
        go_enter Tryz.func4, Tryz.ntmps4
        go_wp2_with (first | (refine lb b0 rfl rfl rfl (by kernel_rfl) ?_) | (refine sb b0 rfl rfl rfl rfl (by kernel_rfl) ?_))
        refine cb (HL.out _) fun w1 hb => ?_
        replace b0 := kp hb b0
        replace b1 := kp hb b1
        replace b2 := kp hb b2
        replace hB := tr hB hb
        clear hb
        clear hV HL
        go_wp2_with (first | (refine wpList_load_block_on rfl 27 _ rfl rfl b1 Tryz.underlying27 rfl (by kernel_rfl) ?_))
        refine cb (HT.out _) fun w2 hb => ?_
        replace b0 := kp hb b0
        replace b1 := kp hb b1
        replace b2 := kp hb b2
        replace hB := tr hB hb
        clear hb
        clear HT
        obtain ⟨-, p1⟩ := cells2 b2
        go_wp2_with fail
        refine cb (HSH.out _ (hn.next hB)) fun w3 hb => ?_
        replace b0 := kp hb b0
        replace b1 := kp hb b1
        replace b2 := kp hb b2
        replace hB := tr hB hb
        clear hb
        clear HSH p1
        go_wp2_with (first | (refine lb b0 rfl rfl rfl (by kernel_rfl) ?_) | (refine sb b0 rfl rfl rfl rfl (by kernel_rfl) ?_) | (refine lb b1 rfl rfl rfl (by kernel_rfl) ?_) | (refine sb b1 rfl rfl rfl rfl (by kernel_rfl) ?_) | (refine lb b2 rfl rfl rfl (by kernel_rfl) ?_) | (refine sb b2 rfl rfl rfl rfl (by kernel_rfl) ?_))
        refine cb (HWP.out _ (hn.next hB)) fun w4 hb => ?_
        replace b0 := kp hb b0
        replace b1 := kp hb b1
        replace b2 := kp hb b2
        replace hB := tr hB hb
        clear hb
        clear HWP
        have bY := han w4 (.cells (suC Y) 35)
        replace b0 := hao w4 (.cells (suC Y) 35) b0
        replace b1 := hao w4 (.cells (suC Y) 35) b1
        replace b2 := hao w4 (.cells (suC Y) 35) b2
        replace hB := hB.alloc hB.size (.cells (suC Y) 35)
        obtain ⟨gy, hgy⟩ : ∃ g, w4.heap.size = g := ⟨_, rfl⟩
        obtain ⟨W4, hW4⟩ : ∃ W, w4.alloc (.cells (suC Y) 35) = W := ⟨_, rfl⟩
        rw [hW4] at bY b0 b1 b2 hB
        rw [hgy] at bY
        obtain ⟨⟨x0, x1, x2, x3, x4⟩, ⟨x5, x6, x7, x8, x9, x10⟩, x11, x12, x13⟩ := cells14 b0
        obtain ⟨t0, t1, t2, t3, t4, t5⟩ := cells6 b1
        obtain ⟨p0, p1⟩ := cells2 b2
        have HY := Lib.hid bY
        clear b0 b1 b2 bY
        go_wp2_with fail
        clear hW4 hgy
        refine RT.wp_letter2 (fun j => W4.heap.size ≤ j) (fun k => decide (7 ≤ k)) [0, 1, 2, 3, 4, 5, 6, 7] 8 9 10 (some 9) none (NewBlock W4 Z14 40) (fun v w2 w' => ∃ b, v = .pointer (some ⟨b, 0, none⟩) ∧ RT.Stored w2 b (suC Y) 40 w') rfl rfl rfl rfl (by kernel_rfl) (by kernel_rfl) (by kernel_rfl) rfl (fun v w2 A B h hk => by obtain ⟨b, e, h⟩ := h; exact ⟨b, e, h.keep hk⟩) ?_
        (apply RT.rat; (focus (intro w' w'' hk hk2; obtain ⟨k0,k1,k2,k3,k4,k5,k6,k7⟩ := look8 hk x0 x1 x2 x3 x4 x5 x6 x7; obtain ⟨k8,k9,k10,k11,k12,k13,j0,j1⟩ := look8 hk x8 x9 x10 x11 x12 x13 t0 t1; obtain ⟨j2,j3,j4,j5,j6,j7⟩ := look6 hk t2 t3 t4 t5 p0 p1; repeat' (first | exact RT.rn | ((first | refine' RT.rv ?_ rfl rfl rfl (by go_simp; first | done | with_reducible rfl | exact rfl) | refine' RT.rc ?_ (by exact rfl) (by exact rfl) (by exact rfl) (by go_simp; first | done | (constructor <;> with_reducible rfl) | with_reducible rfl) (by first | exact HSU.out x w' | exact HWR.out w') | refine' RT.rl ?_ rfl rfl rfl (by go_simp; first | done | with_reducible rfl | exact rfl) | refine' RT.rs ?_ rfl rfl); try simp only [Act.put, List.setIfInBounds_toArray, List.set_cons_zero, List.set_cons_succ])))))
        refine RT.pl_nil ⟨rfl, sure_new (fun w' _ => by go_simp), ?_⟩
        rintro v W5 hk2 ⟨b, rfl, hb, hbc⟩
        refine ⟨rfl, RT.Stores.mono (fun k h => by rw [h]; exact hb) (fun w' h => ⟨b, rfl, h⟩) (RT.stb hbc rfl rfl rfl (by kernel_rfl)), ?_⟩
        rintro W6 ⟨b', hb', hst⟩
        obtain rfl : b = b' := by injection hb' with h; injection h with h; injection h with h
        obtain ⟨hk3, eb⟩ := hst
        clear hb' hbc
        simp only [List.drop_succ_cons, List.drop_zero, List.setIfInBounds_toArray, List.set_cons_zero, List.set_cons_succ]
        have hwb : w.heap.size ≤ b := by have := hB.size; omega
        have hyl := block_lt HY.out
        have hY5 := (hk2.block _ hyl id).trans HY.out
        have hY := (hk3.block _ (block_lt hY5) (by omega)).trans hY5
        replace hB := hB.trans (hk2.whole.mono hB.size)
        replace hB := hB.trans (hk3.below hB.size (fun k hk => by omega))
        clear hk2 hk3 x0 x1 x2 x3 x4 x5 x6 x7 x8 x9 x10 x11 x12 x13 t0 t1 t2 t3 t4 t5 p0 p1 hb HWR HY hY5 hyl hwb
        have REQ := Lib.hid (fun u v w => rsu_self Y u v w)
        obtain ⟨yf, ys, yp, yv, yn⟩ := Y
        obtain ⟨⟨x0, x1, x2, x3, x4⟩, ⟨x5, x6, x7, x8, x9, x10⟩, x11, x12, x13⟩ := cells14 hY
        obtain ⟨⟨y0, y1, y2, y3, y4⟩, ⟨y5, y6, y7, y8, y9, y10⟩, y11, y12, y13⟩ := cells14 eb
        clear hY eb
        go_wp2_with fail
        refine wp_pure [0,1,2,3,4,5,6,7,8] 9 (by kernel_rfl) (by kernel_rfl) rfl ?_
        (apply rat; (focus (intro w' hk; obtain ⟨k0,k1,k2,k3,k4,k5,k6,k7⟩ := look8 hk x0 x1 x2 x3 x4 x5 x6 x7; obtain ⟨k8,k9,k10,k11,k12,k13,j0,j1⟩ := look8 hk x8 x9 x10 x11 x12 x13 y0 y1; obtain ⟨j2,j3,j4,j5,j6,j7,j8,j9⟩ := look8 hk y2 y3 y4 y5 y6 y7 y8 y9; obtain ⟨j10,j11,j12,j13⟩ := look4 hk y10 y11 y12 y13; repeat' (first | exact rn | ((first | refine' rv ?_ rfl rfl (by go_simp; first | done | with_reducible rfl | exact rfl) | refine' rv ?_ rfl rfl (by exact exec_bin rfl rfl rfl (REQ.out _ _ w')) | refine' rc ?_ (by exact rfl) (by exact rfl) (by go_simp; first | done | (constructor <;> with_reducible rfl) | with_reducible rfl) (by exact HSU.out ⟨yf, ys, yp, yv, yn⟩ w') | refine' rs ?_ rfl rfl); try simp only [Act.put, List.setIfInBounds_toArray, List.set_cons_zero, List.set_cons_succ])))))
        intro w7 hk7
        simp only [List.drop_succ_cons, List.drop_zero]
        replace hB := hB.trans (hk7.whole.mono hB.size)
        clear hk7 x0 x1 x2 x3 x4 x5 x6 x7 x8 x9 x10 x11 x12 x13 y0 y1 y2 y3 y4 y5 y6 y7 y8 y9 y10 y11 y12 y13
        go_wp2_with fail
        go_ret
        exact ⟨by first | rfl | simp, hB⟩
theorem sams20_any (x : Dw.Su) (a b c : Nat) (p : Dw.Pw) (hs : b < 18446744073709551616) (hr : Dw.FlR x.f) (w : World) (hn : NoneAt w) :
    Calls Tryz.prog 5 #[suV x, smV a b c, pwV p] w fun e w' => e = .returned (.bool true) ∧ Below w.heap.size w w' := by
  obtain ⟨V, hV⟩ : ∃ V, ((w.alloc (.cells (suC x) 35)).alloc (.cells (smC a b c) 59)).alloc (.cells (pwC p) 49) = V := ⟨_, rfl⟩
  obtain ⟨vz, hB, b0, b1, b2⟩ := alloc3 w _ _ _ V hV
  have HL := Lib.hid (fun w => legal20_any x w)
  have HSH := Lib.hid (fun w hn => shown20_any w hn)
  obtain ⟨lg, hlg⟩ : ∃ b, (!Dw.big x.f.a x.f.b && Dw.legal x.s) = b := ⟨_, rfl⟩
  rw [hlg] at HL
  have HLG := Lib.hid hlg
  clear hlg
  cases lg
  · go_enter Tryz.func5, Tryz.ntmps5
    go_wp2_with (first | (refine lb b0 rfl rfl rfl (by kernel_rfl) ?_) | (refine sb b0 rfl rfl rfl rfl (by kernel_rfl) ?_))
    refine cb (HL.out _) fun w1 hb => ?_
    replace b0 := kp hb b0
    replace b1 := kp hb b1
    replace b2 := kp hb b2
    replace hB := tr hB hb
    clear hb
    clear hV HL
    go_wp2_with fail
    refine cb (HSH.out _ (hn.next hB)) fun wy hb => ?_
    replace hB := tr hB hb
    clear hb
    go_wp2_with fail
    go_ret
    exact ⟨rfl, hB⟩
  · by_cases hm : 500 < p.mask.length
    · have hm' : (500 : Int) < (p.mask.length : Int) := by omega
      go_enter Tryz.func5, Tryz.ntmps5
      go_wp2_with (first | (refine lb b0 rfl rfl rfl (by kernel_rfl) ?_) | (refine sb b0 rfl rfl rfl rfl (by kernel_rfl) ?_))
      refine cb (HL.out _) fun w1 hb => ?_
      replace b0 := kp hb b0
      replace b1 := kp hb b1
      replace b2 := kp hb b2
      replace hB := tr hB hb
      clear hb
      clear hV HL
      obtain ⟨-, p1⟩ := cells2 b2
      go_wp2_with fail
      refine cb (HSH.out _ (hn.next hB)) fun wy hb => ?_
      replace hB := tr hB hb
      clear hb
      go_wp2_with fail
      go_ret
      exact ⟨rfl, hB⟩
    · have hm' : ¬ (500 : Int) < (p.mask.length : Int) := by omega
      have hlg := HLG.out
      simp only [Bool.and_eq_true, Bool.not_eq_true'] at hlg
      have hok := Dw.flOk_of hr hlg.1
      have HWP := Lib.hid (fun w hn => ssample_any x a b c hs p hok hlg.2 w hn)
      have HWR := Lib.hid (fun w => rsample_any x a b c p hok hlg.2 (by omega) w)
      have HSU := Lib.hid (fun y w => sup20_any y w)
      clear HLG hlg hok hr
      generalize Dw.sampleX x (Dw.voteI a b c) p = Y at *
      generalize Dw.sampleE x (Dw.voteI a b c) p = E at *
      go_enter Tryz.func5, Tryz.ntmps5
      go_wp2_with (first | (refine lb b0 rfl rfl rfl (by kernel_rfl) ?_) | (refine sb b0 rfl rfl rfl rfl (by kernel_rfl) ?_))
      refine cb (HL.out _) fun w1 hb => ?_
      replace b0 := kp hb b0
      replace b1 := kp hb b1
      replace b2 := kp hb b2
      replace hB := tr hB hb
      clear hb
      clear hV HL
      obtain ⟨-, p1⟩ := cells2 b2
      go_wp2_with fail
      refine cb (HSH.out _ (hn.next hB)) fun w3 hb => ?_
      replace b0 := kp hb b0
      replace b1 := kp hb b1
      replace b2 := kp hb b2
      replace hB := tr hB hb
      clear hb
      clear HSH p1
      go_wp2_with (first | (refine lb b0 rfl rfl rfl (by kernel_rfl) ?_) | (refine sb b0 rfl rfl rfl rfl (by kernel_rfl) ?_) | (refine lb b1 rfl rfl rfl (by kernel_rfl) ?_) | (refine sb b1 rfl rfl rfl rfl (by kernel_rfl) ?_) | (refine lb b2 rfl rfl rfl (by kernel_rfl) ?_) | (refine sb b2 rfl rfl rfl rfl (by kernel_rfl) ?_))
      refine cb (HWP.out _ (hn.next hB)) fun w4 hb => ?_
      replace b0 := kp hb b0
      replace b1 := kp hb b1
      replace b2 := kp hb b2
      replace hB := tr hB hb
      clear hb
      clear HWP
      have bY := han w4 (.cells (suC Y) 35)
      replace b0 := hao w4 (.cells (suC Y) 35) b0
      replace b1 := hao w4 (.cells (suC Y) 35) b1
      replace b2 := hao w4 (.cells (suC Y) 35) b2
      replace hB := hB.alloc hB.size (.cells (suC Y) 35)
      obtain ⟨gy, hgy⟩ : ∃ g, w4.heap.size = g := ⟨_, rfl⟩
      obtain ⟨W4, hW4⟩ : ∃ W, w4.alloc (.cells (suC Y) 35) = W := ⟨_, rfl⟩
      rw [hW4] at bY b0 b1 b2 hB
      rw [hgy] at bY
      obtain ⟨⟨x0, x1, x2, x3, x4⟩, ⟨x5, x6, x7, x8, x9, x10⟩, x11, x12, x13⟩ := cells14 b0
      obtain ⟨d0, d1, d2⟩ := cells3 b1
      obtain ⟨p0, p1⟩ := cells2 b2
      have HY := Lib.hid bY
      clear b0 b1 b2 bY
      go_wp2_with fail
      clear hW4 hgy
      refine RT.wp_letter2 (fun j => W4.heap.size ≤ j) (fun k => decide (7 ≤ k)) [0, 1, 2, 3, 4, 5, 6, 7] 8 9 10 (some 9) none (NewBlock W4 Z14 40) (fun v w2 w' => ∃ b, v = .pointer (some ⟨b, 0, none⟩) ∧ RT.Stored w2 b (suC Y) 40 w') rfl rfl rfl rfl (by kernel_rfl) (by kernel_rfl) (by kernel_rfl) rfl (fun v w2 A B h hk => by obtain ⟨b, e, h⟩ := h; exact ⟨b, e, h.keep hk⟩) ?_
      (apply RT.rat; (focus (intro w' w'' hk hk2; obtain ⟨k0,k1,k2,k3,k4,k5,k6,k7⟩ := look8 hk x0 x1 x2 x3 x4 x5 x6 x7; obtain ⟨k8,k9,k10,k11,k12,k13,id0,id1⟩ := look8 hk x8 x9 x10 x11 x12 x13 d0 d1; obtain ⟨id2,j6,j7⟩ := look3 hk d2 p0 p1; repeat' (first | exact RT.rn | ((first | refine' RT.rv ?_ rfl rfl rfl (by go_simp; first | done | with_reducible rfl | exact rfl) | refine' RT.rc ?_ (by exact rfl) (by exact rfl) (by exact rfl) (by go_simp; first | done | (constructor <;> with_reducible rfl) | with_reducible rfl) (by first | exact HSU.out x w' | exact HWR.out w') | refine' RT.rl ?_ rfl rfl rfl (by go_simp; first | done | with_reducible rfl | exact rfl) | refine' RT.rs ?_ rfl rfl); try simp only [Act.put, List.setIfInBounds_toArray, List.set_cons_zero, List.set_cons_succ])))))
      refine RT.pl_nil ⟨rfl, sure_new (fun w' _ => by go_simp), ?_⟩
      rintro v W5 hk2 ⟨b, rfl, hb, hbc⟩
      refine ⟨rfl, RT.Stores.mono (fun k h => by rw [h]; exact hb) (fun w' h => ⟨b, rfl, h⟩) (RT.stb hbc rfl rfl rfl (by kernel_rfl)), ?_⟩
      rintro W6 ⟨b', hb', hst⟩
      obtain rfl : b = b' := by injection hb' with h; injection h with h; injection h with h
      obtain ⟨hk3, eb⟩ := hst
      clear hb' hbc
      simp only [List.drop_succ_cons, List.drop_zero, List.setIfInBounds_toArray, List.set_cons_zero, List.set_cons_succ]
      have hwb : w.heap.size ≤ b := by have := hB.size; omega
      have hyl := block_lt HY.out
      have hY5 := (hk2.block _ hyl id).trans HY.out
      have hY := (hk3.block _ (block_lt hY5) (by omega)).trans hY5
      replace hB := hB.trans (hk2.whole.mono hB.size)
      replace hB := hB.trans (hk3.below hB.size (fun k hk => by omega))
      clear hk2 hk3 x0 x1 x2 x3 x4 x5 x6 x7 x8 x9 x10 x11 x12 x13 d0 d1 d2 p0 p1 hb HWR HY hY5 hyl hwb
      have REQ := Lib.hid (fun u v w => rsu_self Y u v w)
      obtain ⟨yf, ys, yp, yv, yn⟩ := Y
      obtain ⟨⟨x0, x1, x2, x3, x4⟩, ⟨x5, x6, x7, x8, x9, x10⟩, x11, x12, x13⟩ := cells14 hY
      obtain ⟨⟨y0, y1, y2, y3, y4⟩, ⟨y5, y6, y7, y8, y9, y10⟩, y11, y12, y13⟩ := cells14 eb
      clear hY eb
      go_wp2_with fail
      refine wp_pure [0,1,2,3,4,5,6,7,8] 9 (by kernel_rfl) (by kernel_rfl) rfl ?_
      (apply rat; (focus (intro w' hk; obtain ⟨k0,k1,k2,k3,k4,k5,k6,k7⟩ := look8 hk x0 x1 x2 x3 x4 x5 x6 x7; obtain ⟨k8,k9,k10,k11,k12,k13,j0,j1⟩ := look8 hk x8 x9 x10 x11 x12 x13 y0 y1; obtain ⟨j2,j3,j4,j5,j6,j7,j8,j9⟩ := look8 hk y2 y3 y4 y5 y6 y7 y8 y9; obtain ⟨j10,j11,j12,j13⟩ := look4 hk y10 y11 y12 y13; repeat' (first | exact rn | ((first | refine' rv ?_ rfl rfl (by go_simp; first | done | with_reducible rfl | exact rfl) | refine' rv ?_ rfl rfl (by exact exec_bin rfl rfl rfl (REQ.out _ _ w')) | refine' rc ?_ (by exact rfl) (by exact rfl) (by go_simp; first | done | (constructor <;> with_reducible rfl) | with_reducible rfl) (by exact HSU.out ⟨yf, ys, yp, yv, yn⟩ w') | refine' rs ?_ rfl rfl); try simp only [Act.put, List.setIfInBounds_toArray, List.set_cons_zero, List.set_cons_succ])))))
      intro w7 hk7
      simp only [List.drop_succ_cons, List.drop_zero]
      replace hB := hB.trans (hk7.whole.mono hB.size)
      clear hk7 x0 x1 x2 x3 x4 x5 x6 x7 x8 x9 x10 x11 x12 x13 y0 y1 y2 y3 y4 y5 y6 y7 y8 y9 y10 y11 y12 y13
      go_wp2_with fail
      go_ret
      exact ⟨by first | rfl | simp, hB⟩
theorem rcommand_any (x : Dw.Su) (c : Dw.Cmd) (p : Dw.Pw) (hf : Dw.FlOk x.f) (hl : Dw.legal x.s = true) (hm : p.mask.length ≤ 100000) (w : World) :
    Calls Tryz.prog 35 #[suV x, cmV c, pwV p] w fun e w' => e = .returned (.tuple #[suV (Dw.commandX x c p), .int .i64 (Dw.commandE x c p)]) ∧ Below w.heap.size w w' := by
  obtain ⟨V, hV⟩ : ∃ V, (((w.alloc (.cells (suC x) 40)).alloc (.cells (cmC c) 77)).alloc (.cells (pwC p) 55)).alloc (.cells Z14 40) = V := ⟨_, rfl⟩
  obtain ⟨vz, hB, b0, b1, b2, b3⟩ := alloc4 w _ _ _ _ V hV
  have HD := Lib.hid (fun w => rdelta_any x.s (Dw.legal_iso hl) c w)
  have HWr := Lib.hid (fun h w => rwrite_any x (Dw.deltaS x.s c) p hf h hm w)
  have hlT := Dw.deltaS_legal hl c
  have H26 := Lib.hid (fun h => Dw.cmd_26 (x := x) c p h)
  have H25 := Lib.hid (fun h h2 => Dw.cmd_25 (x := x) (c := c) p h h2)
  have HGO := Lib.hid (fun h h2 => Dw.cmd_go (x := x) (c := c) p h h2)
  have HWr := Lib.hid (HWr.out hlT)
  clear hl hm hlT
  obtain ⟨-, -, x11, -, -⟩ := cells14 b0
  obtain ⟨k0, -⟩ := cells4 b1
  obtain ⟨xf, xs, ph, vo, n⟩ := x
  obtain ⟨ki, cn, cla, clo⟩ := c
  dsimp only at *
  obtain ⟨SX, hSX⟩ : ∃ S, Dw.commandX ⟨xf, xs, ph, vo, n⟩ ⟨ki, cn, cla, clo⟩ p = S := ⟨_, rfl⟩
  obtain ⟨SE, hSE⟩ : ∃ S, Dw.commandE ⟨xf, xs, ph, vo, n⟩ ⟨ki, cn, cla, clo⟩ p = S := ⟨_, rfl⟩
  rw [hSX] at H26 H25 HGO ⊢
  rw [hSE] at H26 H25 HGO ⊢
  clear hSX hSE
  generalize Dw.deltaS xs ⟨ki, cn, cla, clo⟩ = T at *
  generalize Dw.deltaE xs ⟨ki, cn, cla, clo⟩ = E at *
  by_cases h23 : ph = 2 ∨ ph = 3
  · obtain ⟨hX, hE⟩ := H26.out h23
    subst hX; subst hE
    clear H26 H25 HGO HWr HD
    rcases h23 with rfl | rfl
    all_goals
      go_enter Tryz.func35, Tryz.ntmps35
      go_wp2_with (first | (refine lb b0 rfl rfl rfl (by kernel_rfl) ?_) | (refine sb b0 rfl rfl rfl rfl (by kernel_rfl) ?_) | (refine lb b3 rfl rfl rfl (by kernel_rfl) ?_) | (refine sb b3 rfl rfl rfl rfl (by kernel_rfl) ?_))
      refine bodyPost_ret (rct rfl (srh b3) (by rfl) (by kernel_rfl)) rfl ⟨?_, below_setRow hB (by omega) _⟩
      rfl
  · have p2 : (ph == 2) = false := by simp; omega
    have p3 : (ph == 3) = false := by simp; omega
    by_cases hh : ph = 0 ∧ 1 ≤ ki ∧ ki ≤ 3
    · obtain ⟨hX, hE⟩ := H25.out hh.1 hh.2
      obtain ⟨rfl, hk1, hk3⟩ := hh
      subst hX; subst hE
      clear H26 H25 HGO HWr HD h23 p2 p3
      go_enter Tryz.func35, Tryz.ntmps35
      go_wp2_with (first | (refine lb b0 rfl rfl rfl (by kernel_rfl) ?_) | (refine sb b0 rfl rfl rfl rfl (by kernel_rfl) ?_) | (refine lb b3 rfl rfl rfl (by kernel_rfl) ?_) | (refine sb b3 rfl rfl rfl rfl (by kernel_rfl) ?_))
      refine bodyPost_ret (rct rfl (srh b3) (by rfl) (by kernel_rfl)) rfl ⟨?_, below_setRow hB (by omega) _⟩
      rfl
    · obtain ⟨hX, hE⟩ := HGO.out h23 hh
      have HX := Lib.hid hX; have HE := Lib.hid hE
      clear H26 H25 HGO h23 hX hE
      have hcase : (ph == 0) = false ∨ (ph = 0 ∧ ki < 1) ∨ (ph = 0 ∧ 1 ≤ ki ∧ ¬ ki ≤ 3) := by
        by_cases h0 : ph = 0
        · right
          by_cases h1 : ki < 1
          · exact .inl ⟨h0, h1⟩
          · exact .inr ⟨h0, by omega, fun h => hh ⟨h0, by omega, h⟩⟩
        · left; simpa using h0
      clear hh
      rcases hcase with hc | ⟨rfl, hc⟩ | ⟨rfl, hc, hc2⟩
      all_goals
        go_enter Tryz.func35, Tryz.ntmps35
        go_wp2_with (first | (refine lp 30 5 (stC xs) b0 rfl rfl rfl (by kernel_rfl) (by rfl) ?_) | (refine lb b1 rfl rfl rfl (by kernel_rfl) ?_) | (refine sb b1 rfl rfl rfl rfl (by kernel_rfl) ?_))
        refine cb (HD.out _) fun w5 hb => ?_
        replace b0 := kp hb b0
        replace b1 := kp hb b1
        replace b2 := kp hb b2
        replace b3 := kp hb b3
        replace hB := tr hB hb
        clear hb
        clear hV k0 x11
        have b9 := han w5 (.cells (stC T) 30)
        replace b0 := hao w5 (.cells (stC T) 30) b0
        replace b2 := hao w5 (.cells (stC T) 30) b2
        replace b3 := hao w5 (.cells (stC T) 30) b3
        replace hB := hB.alloc hB.size (.cells (stC T) 30)
        obtain ⟨W6, hW6⟩ : ∃ W6, w5.alloc (.cells (stC T) 30) = W6 := ⟨_, rfl⟩
        rw [hW6] at b9 b0 b2 b3 hB
        by_cases he0 : E = 0
        · subst he0
          by_cases hT : T = xs
          · subst hT
            have hst : ∀ x y, (do eqGuard .eql 30 x y (stV T) (stV T); binOp .eql 30 (stV T) (stV T) : Sem Value).run Tryz.prog W6 = .ok (.bool true) W6 := fun x y => (rst_eq x y T T W6).trans (by simp)
            have HST := Lib.hid hst
            clear hst
            have hX := HX.out; have hE := HE.out
            rw [if_neg (by simp)] at hX hE
            subst hX; subst hE
            clear HX HE HWr HD
            go_wp2_with (first | (refine wpList_load_block_on rfl 30 _ rfl rfl b9 Tryz.underlying30 rfl (by kernel_rfl) ?_) | (refine wpList_load_part_on rfl 30 _ rfl 5 (stC T) rfl b0 Tryz.underlying30 rfl (by kernel_rfl) (by rfl) ?_) | (refine wpList_bin_on rfl .eql 30 _ _ _ rfl (stV T) (stV T) (.bool true) rfl rfl (HST.out _ _) ?_) | (refine lb b0 rfl rfl rfl (by kernel_rfl) ?_) | (refine sb b0 rfl rfl rfl rfl (by kernel_rfl) ?_) | (refine lb b3 rfl rfl rfl (by kernel_rfl) ?_) | (refine sb b3 rfl rfl rfl rfl (by kernel_rfl) ?_))
            refine bodyPost_ret (rct rfl (srh b3) (by rfl) (by kernel_rfl)) rfl ⟨?_, below_setRow hB (by omega) _⟩
            rfl
          · have hst : ∀ x y, (do eqGuard .eql 30 x y (stV T) (stV xs); binOp .eql 30 (stV T) (stV xs) : Sem Value).run Tryz.prog W6 = .ok (.bool false) W6 := fun x y => (rst_eq x y T xs W6).trans (by rw [decide_eq_false hT])
            have HST := Lib.hid hst
            clear hst
            have hX := HX.out; have hE := HE.out
            rw [if_pos ⟨rfl, hT⟩] at hX hE
            rw [← hX, ← hE] at HWr
            clear HX HE HD hX hE
            go_wp2_with (first | (refine wpList_load_block_on rfl 30 _ rfl rfl b9 Tryz.underlying30 rfl (by kernel_rfl) ?_) | (refine wpList_load_part_on rfl 30 _ rfl 5 (stC xs) rfl b0 Tryz.underlying30 rfl (by kernel_rfl) (by rfl) ?_) | (refine wpList_bin_on rfl .eql 30 _ _ _ rfl (stV T) (stV xs) (.bool false) rfl rfl (HST.out _ _) ?_) | (refine lb b0 rfl rfl rfl (by kernel_rfl) ?_) | (refine sb b0 rfl rfl rfl rfl (by kernel_rfl) ?_) | (refine lb b9 rfl rfl rfl (by kernel_rfl) ?_) | (refine sb b9 rfl rfl rfl rfl (by kernel_rfl) ?_) | (refine lb b2 rfl rfl rfl (by kernel_rfl) ?_) | (refine sb b2 rfl rfl rfl rfl (by kernel_rfl) ?_))
            refine cb (HWr.out _) fun w7 hb => ?_
            replace b3 := kp hb b3
            replace hB := tr hB hb
            clear hb b0 b2 b9 hW6 HWr HST
            go_wp2_with (first | (refine lb b3 rfl rfl rfl (by kernel_rfl) ?_) | (refine sb b3 rfl rfl rfl rfl (by kernel_rfl) ?_))
            refine bodyPost_ret (rct rfl (srh b3) (by rfl) (by kernel_rfl)) rfl ⟨?_, below_setRow hB (by omega) _⟩
            rfl
        · have hX := HX.out; have hE := HE.out
          rw [if_neg (fun h => he0 h.1)] at hX hE
          subst hX; subst hE
          have heb : (SE == 0) = false := by simpa using he0
          clear HX HE HWr HD
          go_wp2_with (first | (refine lb b0 rfl rfl rfl (by kernel_rfl) ?_) | (refine sb b0 rfl rfl rfl rfl (by kernel_rfl) ?_) | (refine lb b3 rfl rfl rfl (by kernel_rfl) ?_) | (refine sb b3 rfl rfl rfl rfl (by kernel_rfl) ?_))
          refine bodyPost_ret (rct rfl (srh b3) (by rfl) (by kernel_rfl)) rfl ⟨?_, below_setRow hB (by omega) _⟩
          rfl
theorem coms20_any (x : Dw.Su) (c : Dw.Cmd) (p : Dw.Pw) (hla : c.la < 18446744073709551616) (hlo : c.lo < 18446744073709551616) (hr : Dw.FlR x.f) (w : World) (hn : NoneAt w) :
    Calls Tryz.prog 9 #[suV x, cmV c, pwV p] w fun e w' => e = .returned (.bool true) ∧ Below w.heap.size w w' := by
  obtain ⟨V, hV⟩ : ∃ V, ((w.alloc (.cells (suC x) 35)).alloc (.cells (cmC c) 65)).alloc (.cells (pwC p) 49) = V := ⟨_, rfl⟩
  obtain ⟨vz, hB, b0, b1, b2⟩ := alloc3 w _ _ _ V hV
  have HL := Lib.hid (fun w => legal20_any x w)
  have HSH := Lib.hid (fun w hn => shown20_any w hn)
  obtain ⟨lg, hlg⟩ : ∃ b, (!Dw.big x.f.a x.f.b && Dw.legal x.s) = b := ⟨_, rfl⟩
  rw [hlg] at HL
  have HLG := Lib.hid hlg
  clear hlg
  cases lg
  · go_enter Tryz.func9, Tryz.ntmps9
    go_wp2_with (first | (refine lb b0 rfl rfl rfl (by kernel_rfl) ?_) | (refine sb b0 rfl rfl rfl rfl (by kernel_rfl) ?_))
    refine cb (HL.out _) fun w1 hb => ?_
    replace b0 := kp hb b0
    replace b1 := kp hb b1
    replace b2 := kp hb b2
    replace hB := tr hB hb
    clear hb
    clear hV HL
    go_wp2_with fail
    refine cb (HSH.out _ (hn.next hB)) fun wy hb => ?_
    replace hB := tr hB hb
    clear hb
    go_wp2_with fail
    go_ret
    exact ⟨rfl, hB⟩
  · by_cases hm : 500 < p.mask.length
    · have hm' : (500 : Int) < (p.mask.length : Int) := by omega
      go_enter Tryz.func9, Tryz.ntmps9
      go_wp2_with (first | (refine lb b0 rfl rfl rfl (by kernel_rfl) ?_) | (refine sb b0 rfl rfl rfl rfl (by kernel_rfl) ?_))
      refine cb (HL.out _) fun w1 hb => ?_
      replace b0 := kp hb b0
      replace b1 := kp hb b1
      replace b2 := kp hb b2
      replace hB := tr hB hb
      clear hb
      clear hV HL
      obtain ⟨-, p1⟩ := cells2 b2
      go_wp2_with fail
      refine cb (HSH.out _ (hn.next hB)) fun wy hb => ?_
      replace hB := tr hB hb
      clear hb
      go_wp2_with fail
      go_ret
      exact ⟨rfl, hB⟩
    · have hm' : ¬ (500 : Int) < (p.mask.length : Int) := by omega
      have hlg := HLG.out
      simp only [Bool.and_eq_true, Bool.not_eq_true'] at hlg
      have hok := Dw.flOk_of hr hlg.1
      have HWP := Lib.hid (fun w hn => scommand_any x c p hok hlg.2 hla hlo w hn)
      have HWR := Lib.hid (fun w => rcommand_any x c p hok hlg.2 (by omega) w)
      have HSU := Lib.hid (fun y w => sup20_any y w)
      clear HLG hlg hok hr
      generalize Dw.commandX x c p = Y at *
      generalize Dw.commandE x c p = E at *
      go_enter Tryz.func9, Tryz.ntmps9
      go_wp2_with (first | (refine lb b0 rfl rfl rfl (by kernel_rfl) ?_) | (refine sb b0 rfl rfl rfl rfl (by kernel_rfl) ?_))
      refine cb (HL.out _) fun w1 hb => ?_
      replace b0 := kp hb b0
      replace b1 := kp hb b1
      replace b2 := kp hb b2
      replace hB := tr hB hb
      clear hb
      clear hV HL
      obtain ⟨-, p1⟩ := cells2 b2
      go_wp2_with fail
      refine cb (HSH.out _ (hn.next hB)) fun w3 hb => ?_
      replace b0 := kp hb b0
      replace b1 := kp hb b1
      replace b2 := kp hb b2
      replace hB := tr hB hb
      clear hb
      clear HSH p1
      go_wp2_with (first | (refine lb b0 rfl rfl rfl (by kernel_rfl) ?_) | (refine sb b0 rfl rfl rfl rfl (by kernel_rfl) ?_) | (refine lb b1 rfl rfl rfl (by kernel_rfl) ?_) | (refine sb b1 rfl rfl rfl rfl (by kernel_rfl) ?_) | (refine lb b2 rfl rfl rfl (by kernel_rfl) ?_) | (refine sb b2 rfl rfl rfl rfl (by kernel_rfl) ?_))
      refine cb (HWP.out _ (hn.next hB)) fun w4 hb => ?_
      replace b0 := kp hb b0
      replace b1 := kp hb b1
      replace b2 := kp hb b2
      replace hB := tr hB hb
      clear hb
      clear HWP
      have bY := han w4 (.cells (suC Y) 35)
      replace b0 := hao w4 (.cells (suC Y) 35) b0
      replace b1 := hao w4 (.cells (suC Y) 35) b1
      replace b2 := hao w4 (.cells (suC Y) 35) b2
      replace hB := hB.alloc hB.size (.cells (suC Y) 35)
      obtain ⟨gy, hgy⟩ : ∃ g, w4.heap.size = g := ⟨_, rfl⟩
      obtain ⟨W4, hW4⟩ : ∃ W, w4.alloc (.cells (suC Y) 35) = W := ⟨_, rfl⟩
      rw [hW4] at bY b0 b1 b2 hB
      rw [hgy] at bY
      obtain ⟨⟨x0, x1, x2, x3, x4⟩, ⟨x5, x6, x7, x8, x9, x10⟩, x11, x12, x13⟩ := cells14 b0
      obtain ⟨d0, d1, d2, d3⟩ := cells4 b1
      obtain ⟨p0, p1⟩ := cells2 b2
      have HY := Lib.hid bY
      clear b0 b1 b2 bY
      go_wp2_with fail
      clear hW4 hgy
      refine RT.wp_letter2 (fun j => W4.heap.size ≤ j) (fun k => decide (7 ≤ k)) [0, 1, 2, 3, 4, 5, 6, 7] 8 9 10 (some 9) none (NewBlock W4 Z14 40) (fun v w2 w' => ∃ b, v = .pointer (some ⟨b, 0, none⟩) ∧ RT.Stored w2 b (suC Y) 40 w') rfl rfl rfl rfl (by kernel_rfl) (by kernel_rfl) (by kernel_rfl) rfl (fun v w2 A B h hk => by obtain ⟨b, e, h⟩ := h; exact ⟨b, e, h.keep hk⟩) ?_
      (apply RT.rat; (focus (intro w' w'' hk hk2; obtain ⟨k0,k1,k2,k3,k4,k5,k6,k7⟩ := look8 hk x0 x1 x2 x3 x4 x5 x6 x7; obtain ⟨k8,k9,k10,k11,k12,k13,id0,id1⟩ := look8 hk x8 x9 x10 x11 x12 x13 d0 d1; obtain ⟨id2,id3,j6,j7⟩ := look4 hk d2 d3 p0 p1; repeat' (first | exact RT.rn | ((first | refine' RT.rv ?_ rfl rfl rfl (by go_simp; first | done | with_reducible rfl | exact rfl) | refine' RT.rc ?_ (by exact rfl) (by exact rfl) (by exact rfl) (by go_simp; first | done | (constructor <;> with_reducible rfl) | with_reducible rfl) (by first | exact HSU.out x w' | exact HWR.out w') | refine' RT.rl ?_ rfl rfl rfl (by go_simp; first | done | with_reducible rfl | exact rfl) | refine' RT.rs ?_ rfl rfl); try simp only [Act.put, List.setIfInBounds_toArray, List.set_cons_zero, List.set_cons_succ])))))
      refine RT.pl_nil ⟨rfl, sure_new (fun w' _ => by go_simp), ?_⟩
      rintro v W5 hk2 ⟨b, rfl, hb, hbc⟩
      refine ⟨rfl, RT.Stores.mono (fun k h => by rw [h]; exact hb) (fun w' h => ⟨b, rfl, h⟩) (RT.stb hbc rfl rfl rfl (by kernel_rfl)), ?_⟩
      rintro W6 ⟨b', hb', hst⟩
      obtain rfl : b = b' := by injection hb' with h; injection h with h; injection h with h
      obtain ⟨hk3, eb⟩ := hst
      clear hb' hbc
      simp only [List.drop_succ_cons, List.drop_zero, List.setIfInBounds_toArray, List.set_cons_zero, List.set_cons_succ]
      have hwb : w.heap.size ≤ b := by have := hB.size; omega
      have hyl := block_lt HY.out
      have hY5 := (hk2.block _ hyl id).trans HY.out
      have hY := (hk3.block _ (block_lt hY5) (by omega)).trans hY5
      replace hB := hB.trans (hk2.whole.mono hB.size)
      replace hB := hB.trans (hk3.below hB.size (fun k hk => by omega))
      clear hk2 hk3 x0 x1 x2 x3 x4 x5 x6 x7 x8 x9 x10 x11 x12 x13 d0 d1 d2 d3 p0 p1 hb HWR HY hY5 hyl hwb
      have REQ := Lib.hid (fun u v w => rsu_self Y u v w)
      obtain ⟨yf, ys, yp, yv, yn⟩ := Y
      obtain ⟨⟨x0, x1, x2, x3, x4⟩, ⟨x5, x6, x7, x8, x9, x10⟩, x11, x12, x13⟩ := cells14 hY
      obtain ⟨⟨y0, y1, y2, y3, y4⟩, ⟨y5, y6, y7, y8, y9, y10⟩, y11, y12, y13⟩ := cells14 eb
      clear hY eb
      go_wp2_with fail
      refine wp_pure [0,1,2,3,4,5,6,7,8] 9 (by kernel_rfl) (by kernel_rfl) rfl ?_
      (apply rat; (focus (intro w' hk; obtain ⟨k0,k1,k2,k3,k4,k5,k6,k7⟩ := look8 hk x0 x1 x2 x3 x4 x5 x6 x7; obtain ⟨k8,k9,k10,k11,k12,k13,j0,j1⟩ := look8 hk x8 x9 x10 x11 x12 x13 y0 y1; obtain ⟨j2,j3,j4,j5,j6,j7,j8,j9⟩ := look8 hk y2 y3 y4 y5 y6 y7 y8 y9; obtain ⟨j10,j11,j12,j13⟩ := look4 hk y10 y11 y12 y13; repeat' (first | exact rn | ((first | refine' rv ?_ rfl rfl (by go_simp; first | done | with_reducible rfl | exact rfl) | refine' rv ?_ rfl rfl (by exact exec_bin rfl rfl rfl (REQ.out _ _ w')) | refine' rc ?_ (by exact rfl) (by exact rfl) (by go_simp; first | done | (constructor <;> with_reducible rfl) | with_reducible rfl) (by exact HSU.out ⟨yf, ys, yp, yv, yn⟩ w') | refine' rs ?_ rfl rfl); try simp only [Act.put, List.setIfInBounds_toArray, List.set_cons_zero, List.set_cons_succ])))))
      intro w7 hk7
      simp only [List.drop_succ_cons, List.drop_zero]
      replace hB := hB.trans (hk7.whole.mono hB.size)
      clear hk7 x0 x1 x2 x3 x4 x5 x6 x7 x8 x9 x10 x11 x12 x13 y0 y1 y2 y3 y4 y5 y6 y7 y8 y9 y10 y11 y12 y13
      go_wp2_with fail
      go_ret
      exact ⟨by first | rfl | simp, hB⟩
end Go.Proofs.YtjonoojhdifjiaaGreatDoor
