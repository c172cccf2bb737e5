/- What the statement's proof stands on, part 40: RefsR20, Refs20. -/
import Derived.Test.YtnaokijcggbfdaaGreatDoorBg2
import Derived.Test.YtnaokijcggbfdaaGreatDoorBg37
import Derived.Test.YtnaokijcggbfdaaGreatDoorBg39
set_option linter.unusedSimpArgs false
set_option linter.unusedVariables false
set_option maxRecDepth 100000
set_option maxHeartbeats 4000000
namespace Go.Proofs.YtnaokijcggbfdaaGreatDoor
open Go.RowKit Go.Shelf
attribute [local go_sem] Oper.semAt_some
theorem refs_r5n {t0 t1 t2 t5 t6 t7 t8 t9 t11 t12 t13 t14 t15 t16 t17 t18 t19 t20 t21 t22 t23 t24 t25 t26 t27 t28 t29 t30 t31 t32 t33 t34 t35 t36 t37 t38 t39 t40 t41 t42 t43 t44 t45 t46 t47 t48 t49 t50 t51 t52 t53 t54 t55 t56 t57 t58 t59 t60 t61 t62 t63 t64 t65 t66 t67 t68 t69 t70 t71 t72 t73 t74 t75 t76 t77 : Value} {R : Exit → Act → World → Prop} {w : World} {g3 g4 : Nat} {ph ki E2 : Int} (x11 : w.cell? ⟨g3, 11, none⟩ = some (.int .i64 ph)) (k0 : w.cell? ⟨g4, 0, none⟩ = some (.int .i64 ki)) (hc : ph = 2 ∨ ph = 3 ∨ (ph = 0 ∧ 1 ≤ ki ∧ ki ≤ 3) ∨ ((ph == 2) = false ∧ (ph == 3) = false ∧ ((ph == 0) = false ∨ (ph = 0 ∧ ki < 1) ∨ (ph = 0 ∧ 1 ≤ ki ∧ 3 < ki)) ∧ (E2 != 0) = true))
    (hR : ∀ (v40 v41 v42 v43 v44 v45 v46 v47 v48 v49 v50 v51 v52 v53 v54 v55 v56 v57 v58 v59 v60 v61 v62 v63 v64 v65 v66 : Value), wpList Tryz.prog (opsR 5 Tryz.f3) R [] { tmps := #[t0, t1, t2, .pointer (some ⟨g3, 0, none⟩), .pointer (some ⟨g4, 0, none⟩), t5, t6, t7, t8, t9, .int .i64 E2, .bool true, t12, t13, t14, t15, t16, t17, t18, t19, t20, t21, t22, t23, t24, t25, t26, t27, t28, t29, t30, t31, t32, t33, t34, t35, t36, t37, t38, t39, v40, v41, v42, v43, v44, v45, v46, v47, v48, v49, v50, v51, v52, v53, v54, v55, v56, v57, v58, v59, v60, v61, v62, v63, v64, v65, v66, t67, t68, t69, t70, t71, t72, t73, t74, t75, t76, t77], defers := [] } w) :
    wpList Tryz.prog (opsR 5 Tryz.f3) R (opsR 5 Tryz.f3).toList { tmps := #[t0, t1, t2, .pointer (some ⟨g3, 0, none⟩), .pointer (some ⟨g4, 0, none⟩), t5, t6, t7, t8, t9, .int .i64 E2, t11, t12, t13, t14, t15, t16, t17, t18, t19, t20, t21, t22, t23, t24, t25, t26, t27, t28, t29, t30, t31, t32, t33, t34, t35, t36, t37, t38, t39, t40, t41, t42, t43, t44, t45, t46, t47, t48, t49, t50, t51, t52, t53, t54, t55, t56, t57, t58, t59, t60, t61, t62, t63, t64, t65, t66, t67, t68, t69, t70, t71, t72, t73, t74, t75, t76, t77], defers := [] } w := by
  have e : findR 5 Tryz.f3.body.get! = findR 5 Tryz.f3.body.get! := rfl
  conv at e => rhs; whnf
  unfold opsR
  rw [e, Option.getD_some]
  simp only [List.toList_toArray]
  clear e
  have HR := Lib.hid hR
  clear hR
  rcases hc with rfl | rfl | ⟨rfl, g1, g2⟩ | ⟨q2, q3, q0 | ⟨rfl, g1⟩ | ⟨rfl, g1, g2⟩, qe⟩
  all_goals
    try have g3 : ¬ ki ≤ 3 := by omega
    go_wp2_with fail
  all_goals exact HR.out _ _ _ _ _ _ _ _ _ _ _ _ _ _ _ _ _ _ _ _ _ _ _ _ _ _ _
theorem refs_r5y {t0 t1 t2 t5 t6 t7 t8 t9 t11 t12 t13 t14 t15 t16 t17 t18 t19 t20 t21 t22 t23 t24 t25 t26 t27 t28 t29 t30 t31 t32 t33 t34 t35 t36 t37 t38 t39 t40 t41 t42 t43 t44 t45 t46 t47 t48 t49 t50 t51 t52 t53 t54 t55 t56 t57 t58 t59 t60 t61 t62 t63 t64 t65 t66 t67 t68 t69 t70 t71 t72 t73 t74 t75 t76 t77 : Value} {R : Exit → Act → World → Prop} {w : World} {g3 g4 : Nat} {ph ki : Int} (x11 : w.cell? ⟨g3, 11, none⟩ = some (.int .i64 ph)) (k0 : w.cell? ⟨g4, 0, none⟩ = some (.int .i64 ki)) (q2 : (ph == 2) = false) (q3 : (ph == 3) = false) (hc : (ph == 0) = false ∨ (ph = 0 ∧ ki < 1) ∨ (ph = 0 ∧ 1 ≤ ki ∧ 3 < ki))
    (hR : ∀ (v40 v41 v42 v43 v44 v45 v46 v47 v48 v49 v50 v51 v52 v53 v54 v55 v56 v57 v58 v59 v60 v61 v62 v63 v64 v65 v66 : Value), wpList Tryz.prog (opsR 5 Tryz.f3) R [] { tmps := #[t0, t1, t2, .pointer (some ⟨g3, 0, none⟩), .pointer (some ⟨g4, 0, none⟩), t5, t6, t7, t8, t9, .int .i64 0, .bool false, t12, t13, t14, t15, t16, t17, t18, t19, t20, t21, t22, t23, t24, t25, t26, t27, t28, t29, t30, t31, t32, t33, t34, t35, t36, t37, t38, t39, v40, v41, v42, v43, v44, v45, v46, v47, v48, v49, v50, v51, v52, v53, v54, v55, v56, v57, v58, v59, v60, v61, v62, v63, v64, v65, v66, t67, t68, t69, t70, t71, t72, t73, t74, t75, t76, t77], defers := [] } w) :
    wpList Tryz.prog (opsR 5 Tryz.f3) R (opsR 5 Tryz.f3).toList { tmps := #[t0, t1, t2, .pointer (some ⟨g3, 0, none⟩), .pointer (some ⟨g4, 0, none⟩), t5, t6, t7, t8, t9, .int .i64 0, t11, t12, t13, t14, t15, t16, t17, t18, t19, t20, t21, t22, t23, t24, t25, t26, t27, t28, t29, t30, t31, t32, t33, t34, t35, t36, t37, t38, t39, t40, t41, t42, t43, t44, t45, t46, t47, t48, t49, t50, t51, t52, t53, t54, t55, t56, t57, t58, t59, t60, t61, t62, t63, t64, t65, t66, t67, t68, t69, t70, t71, t72, t73, t74, t75, t76, t77], defers := [] } w := by
  have e : findR 5 Tryz.f3.body.get! = findR 5 Tryz.f3.body.get! := rfl
  conv at e => rhs; whnf
  unfold opsR
  rw [e, Option.getD_some]
  simp only [List.toList_toArray]
  clear e
  have HR := Lib.hid hR
  clear hR
  rcases hc with q0 | ⟨rfl, g1⟩ | ⟨rfl, g1, g2⟩
  all_goals
    try have g3 : ¬ ki ≤ 3 := by omega
    go_wp2_with fail
  all_goals exact HR.out _ _ _ _ _ _ _ _ _ _ _ _ _ _ _ _ _ _ _ _ _ _ _ _ _ _ _
theorem refs_r6n {t0 t1 t2 t4 t5 t6 t9 t10 t12 t13 t14 t15 t16 t17 t18 t19 t20 t21 t22 t23 t24 t25 t26 t27 t28 t29 t30 t31 t32 t33 t34 t35 t36 t37 t38 t39 t40 t41 t42 t43 t44 t45 t46 t47 t48 t49 t50 t51 t52 t53 t54 t55 t56 t57 t58 t59 t60 t61 t62 t63 t64 t65 t66 t67 t68 t69 t70 t71 t72 t73 t74 t75 t76 t77 : Value} {R : Exit → Act → World → Prop} {w : World} {g3 gy : Nat} {R8 : Int} {X : Dw.Su} (b0 : w.heap[g3]? = some (.cells (suC X) 31)) (bY : w.heap[gy]? = some (.cells (suC X) 31)) (hR8 : (R8 != 0) = true)
    (hR : ∀ (v67 v68 v69 v70 v71 v72 v73 v74 v75 v76 v77 : Value), wpList Tryz.prog (opsR 6 Tryz.f3) R [] { tmps := #[t0, t1, t2, .pointer (some ⟨g3, 0, none⟩), t4, t5, .bool true, .pointer (some ⟨gy, 0, none⟩), .int .i64 R8, t9, t10, .bool true, t12, t13, t14, t15, t16, t17, t18, t19, t20, t21, t22, t23, t24, t25, t26, t27, t28, t29, t30, t31, t32, t33, t34, t35, t36, t37, t38, t39, t40, t41, t42, t43, t44, t45, t46, t47, t48, t49, t50, t51, t52, t53, t54, t55, t56, t57, t58, t59, t60, t61, t62, t63, t64, t65, t66, v67, v68, v69, v70, v71, v72, v73, v74, v75, v76, v77], defers := [] } w) :
    wpList Tryz.prog (opsR 6 Tryz.f3) R (opsR 6 Tryz.f3).toList { tmps := #[t0, t1, t2, .pointer (some ⟨g3, 0, none⟩), t4, t5, t6, .pointer (some ⟨gy, 0, none⟩), .int .i64 R8, t9, t10, .bool true, t12, t13, t14, t15, t16, t17, t18, t19, t20, t21, t22, t23, t24, t25, t26, t27, t28, t29, t30, t31, t32, t33, t34, t35, t36, t37, t38, t39, t40, t41, t42, t43, t44, t45, t46, t47, t48, t49, t50, t51, t52, t53, t54, t55, t56, t57, t58, t59, t60, t61, t62, t63, t64, t65, t66, t67, t68, t69, t70, t71, t72, t73, t74, t75, t76, t77], defers := [] } w := by
  have e : findR 6 Tryz.f3.body.get! = findR 6 Tryz.f3.body.get! := rfl
  conv at e => rhs; whnf
  unfold opsR
  rw [e, Option.getD_some]
  simp only [List.toList_toArray]
  clear e
  have HR := Lib.hid hR
  clear hR
  have HQ := Lib.hid (fun u v w => su_self X u v w)
  go_wp2_with (first | (refine lbq bY rfl rfl rfl (by kernel_rfl) ?_) | (refine lbq b0 rfl rfl rfl (by kernel_rfl) ?_) | (refine bnq (HQ.out _ _ _) rfl rfl rfl rfl ?_))
  all_goals exact HR.out _ _ _ _ _ _ _ _ _ _ _
theorem refs_r6y {t0 t1 t2 t4 t5 t6 t9 t10 t12 t13 t14 t15 t16 t17 t18 t19 t20 t21 t22 t23 t24 t25 t26 t27 t28 t29 t30 t31 t32 t33 t34 t35 t36 t37 t38 t39 t40 t41 t42 t43 t44 t45 t46 t47 t48 t49 t50 t51 t52 t53 t54 t55 t56 t57 t58 t59 t60 t61 t62 t63 t64 t65 t66 t67 t68 t69 t70 t71 t72 t73 t74 t75 t76 t77 : Value} {R : Exit → Act → World → Prop} {w : World} {g3 gy : Nat} {R8 : Int}
    (hR : ∀ (v67 v68 v69 v70 v71 v72 v73 v74 v75 v76 v77 : Value), wpList Tryz.prog (opsR 6 Tryz.f3) R [] { tmps := #[t0, t1, t2, .pointer (some ⟨g3, 0, none⟩), t4, t5, .bool true, .pointer (some ⟨gy, 0, none⟩), .int .i64 R8, t9, t10, .bool false, t12, t13, t14, t15, t16, t17, t18, t19, t20, t21, t22, t23, t24, t25, t26, t27, t28, t29, t30, t31, t32, t33, t34, t35, t36, t37, t38, t39, t40, t41, t42, t43, t44, t45, t46, t47, t48, t49, t50, t51, t52, t53, t54, t55, t56, t57, t58, t59, t60, t61, t62, t63, t64, t65, t66, v67, v68, v69, v70, v71, v72, v73, v74, v75, v76, v77], defers := [] } w) :
    wpList Tryz.prog (opsR 6 Tryz.f3) R (opsR 6 Tryz.f3).toList { tmps := #[t0, t1, t2, .pointer (some ⟨g3, 0, none⟩), t4, t5, t6, .pointer (some ⟨gy, 0, none⟩), .int .i64 R8, t9, t10, .bool false, t12, t13, t14, t15, t16, t17, t18, t19, t20, t21, t22, t23, t24, t25, t26, t27, t28, t29, t30, t31, t32, t33, t34, t35, t36, t37, t38, t39, t40, t41, t42, t43, t44, t45, t46, t47, t48, t49, t50, t51, t52, t53, t54, t55, t56, t57, t58, t59, t60, t61, t62, t63, t64, t65, t66, t67, t68, t69, t70, t71, t72, t73, t74, t75, t76, t77], defers := [] } w := by
  have e : findR 6 Tryz.f3.body.get! = findR 6 Tryz.f3.body.get! := rfl
  conv at e => rhs; whnf
  unfold opsR
  rw [e, Option.getD_some]
  simp only [List.toList_toArray]
  clear e
  have HR := Lib.hid hR
  clear hR
  go_wp2_with fail
  all_goals exact HR.out _ _ _ _ _ _ _ _ _ _ _
theorem refs20_no (xf : Dw.Fl) (xs : Dw.St) (ph vo n : Int) (ki cn : Int) (cla clo : Nat) (p : Dw.Pw) (R E2 : Int) (D : Dw.St) (hR : (R != 0) = true) (hm : ¬ (500 : Int) < (p.mask.length : Int)) (w : World) (hn : NoneAt w)
    (HL : Hid (∀ w, Calls Tryz.prog 10 #[suV ⟨xf, xs, ph, vo, n⟩] w fun e w' => e = .returned (.bool true) ∧ Below w.heap.size w w'))
    (HWP : Hid (∀ w, NoneAt w → Calls Tryz.prog 12 #[suV ⟨xf, xs, ph, vo, n⟩, cmV ⟨ki, cn, cla, clo⟩, pwV p] w fun e w' => e = .returned (.tuple #[suV ⟨xf, xs, ph, vo, n⟩, .int .i64 R]) ∧ Below w.heap.size w w'))
    (HD : Hid (∀ w, Calls Tryz.prog 13 #[stV xs, cmV ⟨ki, cn, cla, clo⟩] w fun e w' => e = .returned (.tuple #[stV D, .int .i64 E2]) ∧ Below w.heap.size w w'))
    (hc : ph = 2 ∨ ph = 3 ∨ (ph = 0 ∧ 1 ≤ ki ∧ ki ≤ 3) ∨ (E2 != 0) = true) :
    Calls Tryz.prog 3 #[suV ⟨xf, xs, ph, vo, n⟩, cmV ⟨ki, cn, cla, clo⟩, pwV p] w fun e w' => e = .returned (.bool true) ∧ Below w.heap.size w w' := by
  obtain ⟨V, hV⟩ : ∃ V, ((w.alloc (.cells (suC ⟨xf, xs, ph, vo, n⟩) 31)).alloc (.cells (cmC ⟨ki, cn, cla, clo⟩) 34)).alloc (.cells (pwC p) 36) = V := ⟨_, rfl⟩
  obtain ⟨vz, hB, b0, b1, b2⟩ := alloc3 w _ _ _ V hV
  have HSH := Lib.hid (fun w hn => shown20_any w hn)
  obtain ⟨Y, hYx⟩ : ∃ Y, (⟨xf, xs, ph, vo, n⟩ : Dw.Su) = Y := ⟨_, rfl⟩
  have HYX := Lib.hid hYx
  have HQ := Lib.hid (fun u v w => su_self ⟨xf, xs, ph, vo, n⟩ u v w)
  have HCC := Lib.hid hc
  clear hYx hc
  have HWP := Lib.hid (show ∀ w, NoneAt w → Calls Tryz.prog 12 #[suV ⟨xf, xs, ph, vo, n⟩, cmV ⟨ki, cn, cla, clo⟩, pwV p] w fun e w' => e = .returned (.tuple #[suV Y, .int .i64 R]) ∧ Below w.heap.size w w' from by rw [← HYX.out]; exact HWP.out)
  go_enter Tryz.func3, Tryz.ntmps3
  go_wp2_with (first | (refine lb b0 rfl rfl rfl (by kernel_rfl) ?_) | (refine sb b0 rfl rfl rfl rfl (by kernel_rfl) ?_))
  refine cb (HL.out _) fun w1 hb => ?_
  replace b0 := kp hb b0
  replace b1 := kp hb b1
  replace b2 := kp hb b2
  replace hB := tr hB hb
  clear hb
  clear hV HL
  obtain ⟨-, p1⟩ := cells2 b2
  go_wp2_with fail
  refine cb (HSH.out _ (hn.next hB)) fun w3 hb => ?_
  replace b0 := kp hb b0
  replace b1 := kp hb b1
  replace b2 := kp hb b2
  replace hB := tr hB hb
  clear hb
  clear HSH p1
  go_wp2_with (first | (refine lb b0 rfl rfl rfl (by kernel_rfl) ?_) | (refine sb b0 rfl rfl rfl rfl (by kernel_rfl) ?_) | (refine lb b1 rfl rfl rfl (by kernel_rfl) ?_) | (refine sb b1 rfl rfl rfl rfl (by kernel_rfl) ?_) | (refine lb b2 rfl rfl rfl (by kernel_rfl) ?_) | (refine sb b2 rfl rfl rfl rfl (by kernel_rfl) ?_))
  refine cb (HWP.out _ (hn.next hB)) fun w4 hb => ?_
  replace b0 := kp hb b0
  replace b1 := kp hb b1
  replace b2 := kp hb b2
  replace hB := tr hB hb
  clear hb
  clear HWP
  have bY := han w4 (.cells (suC Y) 31)
  replace b0 := hao w4 (.cells (suC Y) 31) b0
  replace b1 := hao w4 (.cells (suC Y) 31) b1
  replace hB := hB.alloc hB.size (.cells (suC Y) 31)
  obtain ⟨gy, hgy⟩ : ∃ g, w4.heap.size = g := ⟨_, rfl⟩
  obtain ⟨W4, hW4⟩ : ∃ W, w4.alloc (.cells (suC Y) 31) = W := ⟨_, rfl⟩
  rw [hW4] at bY b0 b1 hB
  rw [hgy] at bY
  clear b2
  have HY := Lib.hid bY
  clear bY
  go_wp2_with (first | (refine nb rfl rfl rfl rfl (by go_simp; first | done | with_reducible rfl | exact rfl) rfl rfl (by kernel_rfl) ?_; rw [hW4, hgy]) | (refine lp 27 5 (stC xs) b0 rfl rfl rfl (by kernel_rfl) (by rfl) ?_) | (refine lb b1 rfl rfl rfl (by kernel_rfl) ?_) | (refine sb b1 rfl rfl rfl rfl (by kernel_rfl) ?_))
  clear hW4 hgy
  refine cb (HD.out _) fun w5 hb => ?_
  have bY := kp hb HY.out
  replace b0 := kp hb b0
  replace b1 := kp hb b1
  replace hB := tr hB hb
  clear hb HD HY
  replace bY := hao w5 (.cells (stC D) 42) bY
  replace b0 := hao w5 (.cells (stC D) 42) b0
  replace b1 := hao w5 (.cells (stC D) 42) b1
  replace hB := hB.alloc hB.size (.cells (stC D) 42)
  obtain ⟨W5, hW5⟩ : ∃ W, w5.alloc (.cells (stC D) 42) = W := ⟨_, rfl⟩
  rw [hW5] at bY b0 b1 hB
  obtain ⟨-, -, x11, -, -⟩ := cells14 b0
  obtain ⟨k0, -⟩ := cells4 b1
  obtain rfl := HYX.out
  have hc := HCC.out
  clear HCC HYX
  have hcs : ph = 2 ∨ ph = 3 ∨ (ph = 0 ∧ 1 ≤ ki ∧ ki ≤ 3) ∨ ((ph == 2) = false ∧ (ph == 3) = false ∧ ((ph == 0) = false ∨ (ph = 0 ∧ ki < 1) ∨ (ph = 0 ∧ 1 ≤ ki ∧ ¬ ki ≤ 3)) ∧ (E2 != 0) = true) := by
    by_cases h2 : ph = 2
    · exact .inl h2
    by_cases h3 : ph = 3
    · exact .inr (.inl h3)
    by_cases h0 : ph = 0 ∧ 1 ≤ ki ∧ ki ≤ 3
    · exact .inr (.inr (.inl h0))
    · right; right; right
      refine ⟨by simpa using h2, by simpa using h3, ?_, ?_⟩
      · by_cases hz : ph = 0
        · right
          by_cases h1 : ki < 1
          · exact .inl ⟨hz, h1⟩
          · exact .inr ⟨hz, by omega, fun h => h0 ⟨hz, by omega, h⟩⟩
        · left; simpa using hz
      · rcases hc with h | h | h | h
        · exact absurd h h2
        · exact absurd h h3
        · exact absurd h h0
        · exact h
  clear hc
  have HX11 := Lib.hid x11; have HK0 := Lib.hid k0; have HCS := Lib.hid hcs; have HRR := Lib.hid hR; have HBY := Lib.hid bY; have HB0 := Lib.hid b0; have HB := Lib.hid hB
  clear x11 k0 hcs hR bY b0 b1 hB HQ hm hn
  rename_i h0K
  refine h0K _ _ ?_
  clear h0K
  rename_i hK Kop
  have HK := Lib.hid hK
  clear hK
  go_wp2_with fail
  refine HK.out _ _ ?_
  clear HK
  go_step
  rename_i hK
  have HK := Lib.hid hK
  clear hK
  go_step
  refine list_swap (ops := opsR 5 Tryz.f3) ?_ (by kernel_rfl) (by kernel_rfl); refine refs_r5n HX11.out HK0.out HCS.out ?_; intro v40 v41 v42 v43 v44 v45 v46 v47 v48 v49 v50 v51 v52 v53 v54 v55 v56 v57 v58 v59 v60 v61 v62 v63 v64 v65 v66
  go_wp2_with fail
  refine HK.out _ _ ?_
  clear HK
  go_step
  go_step
  refine list_swap (ops := opsR 6 Tryz.f3) ?_ (by kernel_rfl) (by kernel_rfl); refine refs_r6n HB0.out HBY.out HRR.out ?_; intro v67 v68 v69 v70 v71 v72 v73 v74 v75 v76 v77
  go_wp2_with fail
  go_ret
  exact ⟨rfl, HB.out⟩
theorem refs20_yes (xf : Dw.Fl) (xs : Dw.St) (ph vo n : Int) (ki cn : Int) (cla clo : Nat) (p : Dw.Pw) (Y : Dw.Su) (R : Int) (D : Dw.St) (hm : ¬ (500 : Int) < (p.mask.length : Int)) (w : World) (hn : NoneAt w)
    (HL : Hid (∀ w, Calls Tryz.prog 10 #[suV ⟨xf, xs, ph, vo, n⟩] w fun e w' => e = .returned (.bool true) ∧ Below w.heap.size w w'))
    (HWP : Hid (∀ w, NoneAt w → Calls Tryz.prog 12 #[suV ⟨xf, xs, ph, vo, n⟩, cmV ⟨ki, cn, cla, clo⟩, pwV p] w fun e w' => e = .returned (.tuple #[suV Y, .int .i64 R]) ∧ Below w.heap.size w w'))
    (HD : Hid (∀ w, Calls Tryz.prog 13 #[stV xs, cmV ⟨ki, cn, cla, clo⟩] w fun e w' => e = .returned (.tuple #[stV D, .int .i64 0]) ∧ Below w.heap.size w w'))
    (q2 : (ph == 2) = false) (q3 : (ph == 3) = false) (hc : (ph == 0) = false ∨ (ph = 0 ∧ ki < 1) ∨ (ph = 0 ∧ 1 ≤ ki ∧ ¬ ki ≤ 3)) :
    Calls Tryz.prog 3 #[suV ⟨xf, xs, ph, vo, n⟩, cmV ⟨ki, cn, cla, clo⟩, pwV p] w fun e w' => e = .returned (.bool true) ∧ Below w.heap.size w w' := by
  obtain ⟨V, hV⟩ : ∃ V, ((w.alloc (.cells (suC ⟨xf, xs, ph, vo, n⟩) 31)).alloc (.cells (cmC ⟨ki, cn, cla, clo⟩) 34)).alloc (.cells (pwC p) 36) = V := ⟨_, rfl⟩
  obtain ⟨vz, hB, b0, b1, b2⟩ := alloc3 w _ _ _ V hV
  have HSH := Lib.hid (fun w hn => shown20_any w hn)
  have HCC := Lib.hid hc; have Q2 := Lib.hid q2; have Q3 := Lib.hid q3
  clear hc q2 q3
  go_enter Tryz.func3, Tryz.ntmps3
  go_wp2_with (first | (refine lb b0 rfl rfl rfl (by kernel_rfl) ?_) | (refine sb b0 rfl rfl rfl rfl (by kernel_rfl) ?_))
  refine cb (HL.out _) fun w1 hb => ?_
  replace b0 := kp hb b0
  replace b1 := kp hb b1
  replace b2 := kp hb b2
  replace hB := tr hB hb
  clear hb
  clear hV HL
  obtain ⟨-, p1⟩ := cells2 b2
  go_wp2_with fail
  refine cb (HSH.out _ (hn.next hB)) fun w3 hb => ?_
  replace b0 := kp hb b0
  replace b1 := kp hb b1
  replace b2 := kp hb b2
  replace hB := tr hB hb
  clear hb
  clear HSH p1
  go_wp2_with (first | (refine lb b0 rfl rfl rfl (by kernel_rfl) ?_) | (refine sb b0 rfl rfl rfl rfl (by kernel_rfl) ?_) | (refine lb b1 rfl rfl rfl (by kernel_rfl) ?_) | (refine sb b1 rfl rfl rfl rfl (by kernel_rfl) ?_) | (refine lb b2 rfl rfl rfl (by kernel_rfl) ?_) | (refine sb b2 rfl rfl rfl rfl (by kernel_rfl) ?_))
  refine cb (HWP.out _ (hn.next hB)) fun w4 hb => ?_
  replace b0 := kp hb b0
  replace b1 := kp hb b1
  replace b2 := kp hb b2
  replace hB := tr hB hb
  clear hb
  clear HWP
  have bY := han w4 (.cells (suC Y) 31)
  replace b0 := hao w4 (.cells (suC Y) 31) b0
  replace b1 := hao w4 (.cells (suC Y) 31) b1
  replace hB := hB.alloc hB.size (.cells (suC Y) 31)
  obtain ⟨gy, hgy⟩ : ∃ g, w4.heap.size = g := ⟨_, rfl⟩
  obtain ⟨W4, hW4⟩ : ∃ W, w4.alloc (.cells (suC Y) 31) = W := ⟨_, rfl⟩
  rw [hW4] at bY b0 b1 hB
  rw [hgy] at bY
  clear b2
  have HY := Lib.hid bY
  clear bY
  go_wp2_with (first | (refine nb rfl rfl rfl rfl (by go_simp; first | done | with_reducible rfl | exact rfl) rfl rfl (by kernel_rfl) ?_; rw [hW4, hgy]) | (refine lp 27 5 (stC xs) b0 rfl rfl rfl (by kernel_rfl) (by rfl) ?_) | (refine lb b1 rfl rfl rfl (by kernel_rfl) ?_) | (refine sb b1 rfl rfl rfl rfl (by kernel_rfl) ?_))
  clear hW4 hgy
  refine cb (HD.out _) fun w5 hb => ?_
  have bY := kp hb HY.out
  replace b0 := kp hb b0
  replace b1 := kp hb b1
  replace hB := tr hB hb
  clear hb HD HY
  replace bY := hao w5 (.cells (stC D) 42) bY
  replace b0 := hao w5 (.cells (stC D) 42) b0
  replace b1 := hao w5 (.cells (stC D) 42) b1
  replace hB := hB.alloc hB.size (.cells (stC D) 42)
  obtain ⟨W5, hW5⟩ : ∃ W, w5.alloc (.cells (stC D) 42) = W := ⟨_, rfl⟩
  rw [hW5] at bY b0 b1 hB
  obtain ⟨-, -, x11, -, -⟩ := cells14 b0
  obtain ⟨k0, -⟩ := cells4 b1
  have hc := HCC.out; have q2 := Q2.out; have q3 := Q3.out
  clear HCC Q2 Q3
  have HX11 := Lib.hid x11; have HK0 := Lib.hid k0; have HCC := Lib.hid hc; have Q2 := Lib.hid q2; have Q3 := Lib.hid q3; have HB := Lib.hid hB
  clear x11 k0 hc q2 q3 bY b0 b1 hB hm hn
  rename_i h0K
  refine h0K _ _ ?_
  clear h0K
  rename_i hK Kop
  have HK := Lib.hid hK
  clear hK
  go_wp2_with fail
  refine HK.out _ _ ?_
  clear HK
  go_step
  rename_i hK
  have HK := Lib.hid hK
  clear hK
  go_step
  refine list_swap (ops := opsR 5 Tryz.f3) ?_ (by kernel_rfl) (by kernel_rfl); refine refs_r5y HX11.out HK0.out Q2.out Q3.out HCC.out ?_; intro v40 v41 v42 v43 v44 v45 v46 v47 v48 v49 v50 v51 v52 v53 v54 v55 v56 v57 v58 v59 v60 v61 v62 v63 v64 v65 v66
  go_wp2_with fail
  refine HK.out _ _ ?_
  clear HK
  go_step
  go_step
  refine list_swap (ops := opsR 6 Tryz.f3) ?_ (by kernel_rfl) (by kernel_rfl); refine refs_r6y ?_; intro v67 v68 v69 v70 v71 v72 v73 v74 v75 v76 v77
  go_wp2_with fail
  go_ret
  exact ⟨rfl, HB.out⟩
theorem refs20_any (x : Dw.Su) (c : Dw.Cmd) (p : Dw.Pw) (hla : c.la < 18446744073709551616) (hlo : c.lo < 18446744073709551616) (hr : Dw.FlR x.f) (w : World) (hn : NoneAt w) :
    Calls Tryz.prog 3 #[suV x, cmV c, pwV p] w fun e w' => e = .returned (.bool true) ∧ Below w.heap.size w w' := by
  have HL := Lib.hid (fun w => legal20_any x w)
  obtain ⟨lg, hlg⟩ : ∃ b, (!Dw.big x.f.a x.f.b && Dw.legal x.s) = b := ⟨_, rfl⟩
  rw [hlg] at HL
  have HLG := Lib.hid hlg
  clear hlg
  by_cases hgood : lg = true ∧ ¬ 500 < p.mask.length
  · obtain ⟨rfl, hm⟩ := hgood
    have hlg := HLG.out
    simp only [Bool.and_eq_true, Bool.not_eq_true'] at hlg
    have hok := Dw.flOk_of hr hlg.1
    have HWP := Lib.hid (fun w hn => scommand_any x c p hok hlg.2 hla hlo w hn)
    have HD := Lib.hid (fun w => rdelta_any x.s (Dw.legal_iso hlg.2) c w)
    have hm' : ¬ (500 : Int) < (p.mask.length : Int) := by omega
    by_cases hr : Dw.refusedE x c = 0
    · have hq : ¬ (x.ph = 2 ∨ x.ph = 3 ∨ (x.ph = 0 ∧ 1 ≤ c.ki ∧ c.ki ≤ 3) ∨ Dw.deltaE x.s c ≠ 0) := fun h => (Dw.refused_iff x c).2 h hr
      have hE : Dw.deltaE x.s c = 0 := Decidable.byContradiction fun h => hq (.inr (.inr (.inr h)))
      rw [hE] at HD
      obtain ⟨xf, xs, ph, vo, n⟩ := x
      obtain ⟨ki, cn, cla, clo⟩ := c
      dsimp only at *
      refine refs20_yes xf xs ph vo n ki cn cla clo p _ _ _ hm' w hn HL HWP HD (by simp; omega) (by simp; omega) ?_
      by_cases hz : ph = 0
      · right
        by_cases h1 : ki < 1
        · exact .inl ⟨hz, h1⟩
        · exact .inr ⟨hz, by omega, by omega⟩
      · left; simpa using hz
    · obtain ⟨e1, e2⟩ := Dw.command_refused p hr
      have hq := (Dw.refused_iff x c).1 hr
      rw [e1, e2] at HWP
      obtain ⟨xf, xs, ph, vo, n⟩ := x
      obtain ⟨ki, cn, cla, clo⟩ := c
      refine refs20_no xf xs ph vo n ki cn cla clo p _ _ _ (by simpa using hr) hm' w hn HL HWP HD ?_
      rcases hq with h | h | h | h
      · exact .inl h
      · exact .inr (.inl h)
      · exact .inr (.inr (.inl h))
      · exact .inr (.inr (.inr (by simpa using h)))
  · obtain ⟨V, hV⟩ : ∃ V, ((w.alloc (.cells (suC x) 31)).alloc (.cells (cmC c) 34)).alloc (.cells (pwC p) 36) = V := ⟨_, rfl⟩
    obtain ⟨vz, hB, b0, b1, b2⟩ := alloc3 w _ _ _ V hV
    have HSH := Lib.hid (fun w hn => shown20_any w hn)
    cases lg
    · go_enter Tryz.func3, Tryz.ntmps3
      go_wp2_with (first | (refine lb b0 rfl rfl rfl (by kernel_rfl) ?_) | (refine sb b0 rfl rfl rfl rfl (by kernel_rfl) ?_))
      refine cb (HL.out _) fun w1 hb => ?_
      replace b0 := kp hb b0
      replace b1 := kp hb b1
      replace b2 := kp hb b2
      replace hB := tr hB hb
      clear hb
      clear hV HL
      go_wp2_with fail
      refine cb (HSH.out _ (hn.next hB)) fun wy hb => ?_
      replace hB := tr hB hb
      clear hb
      go_wp2_with fail
      go_ret
      exact ⟨rfl, hB⟩
    · have hm' : (500 : Int) < (p.mask.length : Int) := by
        have : 500 < p.mask.length := Decidable.byContradiction fun h => hgood ⟨rfl, h⟩
        omega
      go_enter Tryz.func3, Tryz.ntmps3
      go_wp2_with (first | (refine lb b0 rfl rfl rfl (by kernel_rfl) ?_) | (refine sb b0 rfl rfl rfl rfl (by kernel_rfl) ?_))
      refine cb (HL.out _) fun w1 hb => ?_
      replace b0 := kp hb b0
      replace b1 := kp hb b1
      replace b2 := kp hb b2
      replace hB := tr hB hb
      clear hb
      clear hV HL
      obtain ⟨-, p1⟩ := cells2 b2
      go_wp2_with fail
      refine cb (HSH.out _ (hn.next hB)) fun wy hb => ?_
      replace hB := tr hB hb
      clear hb
      go_wp2_with fail
      go_ret
      exact ⟨rfl, hB⟩
end Go.Proofs.YtnaokijcggbfdaaGreatDoor
