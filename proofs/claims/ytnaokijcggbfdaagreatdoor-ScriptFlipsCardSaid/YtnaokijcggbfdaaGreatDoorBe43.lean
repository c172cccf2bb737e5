/- What the statement's proof stands on, part 43: RepsP21, RepsZ21. -/
import Derived.Test.YtnaokijcggbfdaaGreatDoorBe2
import Derived.Test.YtnaokijcggbfdaaGreatDoorBe39
import Derived.Test.YtnaokijcggbfdaaGreatDoorBe35
set_option linter.unusedSimpArgs false
set_option linter.unusedVariables false
set_option maxRecDepth 100000
set_option maxHeartbeats 4000000
namespace Go.Proofs.YtnaokijcggbfdaaGreatDoor
open Go.RowKit Go.Shelf
attribute [local go_sem] Oper.semAt_some
theorem st_noself (s : Dw.St) (u v : Operand) (w : World) : (do eqGuard .neq 27 u v (stV s) (stV s); binOp .neq 27 (stV s) (stV s) : Sem Value).run Tryz.prog w = .ok (.bool false) w := by rw [st_neq, decide_eq_true rfl]; rfl
theorem reps_pos {t0 t1 t2 t3 t4 t5 t6 t9 t10 t11 t12 t13 t14 t15 t16 t17 t18 t19 t20 t21 t22 t23 t24 t25 t26 t27 t28 t29 t30 t31 t32 t33 t34 t35 t36 t37 t38 t39 t40 t41 t42 t43 t44 t45 t46 t47 t48 t49 t50 u51 u52 u53 u54 u55 u56 u57 u58 u59 u60 u61 u62 u63 u64 u65 u66 u67 u68 u69 u70 u71 u72 u73 u74 u75 u76 u77 u78 u79 u80 u81 u82 u83 u84 u85 : Value} {R : Exit → Act → World → Prop} {w : World} {gF : Nat} {K q cap : Nat} {gs : Dw.St} {gph : Int} (hKk : K ≤ 60)
    (y5 : w.cell? ⟨gF, 5, none⟩ = some (.int .i64 gs.mo)) (y6 : w.cell? ⟨gF, 6, none⟩ = some (.bool gs.ar)) (y7 : w.cell? ⟨gF, 7, none⟩ = some (.bool gs.ho)) (y8 : w.cell? ⟨gF, 8, none⟩ = some (.int .i64 gs.la)) (y9 : w.cell? ⟨gF, 9, none⟩ = some (.int .i64 gs.lo)) (y10 : w.cell? ⟨gF, 10, none⟩ = some (.int .i64 gs.iso)) (y11 : w.cell? ⟨gF, 11, none⟩ = some (.int .i64 gph)) (y14 : w.cell? ⟨gF, 14, none⟩ = some (.slice (some ⟨q, 0, none⟩) (K + 1) cap))
    (d1 : w.cell? ⟨q, K * 8 + 1, none⟩ = some (.int .i64 gph)) (d2 : w.cell? ⟨q, K * 8 + 2, none⟩ = some (.int .i64 gs.mo)) (d3 : w.cell? ⟨q, K * 8 + 2 + 1, none⟩ = some (.bool gs.ar)) (d4 : w.cell? ⟨q, K * 8 + 2 + 2, none⟩ = some (.bool gs.ho)) (d5 : w.cell? ⟨q, K * 8 + 2 + 3, none⟩ = some (.int .i64 gs.la)) (d6 : w.cell? ⟨q, K * 8 + 2 + 4, none⟩ = some (.int .i64 gs.lo)) (d7 : w.cell? ⟨q, K * 8 + 2 + 5, none⟩ = some (.int .i64 gs.iso))
    (hR : ∀ (v51 v52 v53 v54 v55 v56 v57 v58 v59 v60 v61 v62 v63 v64 v65 v66 v67 v68 v69 v70 v71 v72 v73 v74 v75 v76 v77 v78 v79 v80 v81 v82 v83 v84 : Value) (w' : World), Keep w w' → wpList Tryz.prog (opsR 11 Tryz.f7) R [] { tmps := #[t0, t1, t2, t3, t4, t5, t6, .pointer (some ⟨gF, 0, none⟩), .int .i64 ((K : Int) + 1), t9, t10, t11, t12, t13, t14, t15, t16, t17, t18, t19, t20, t21, t22, t23, t24, t25, t26, t27, t28, t29, t30, t31, t32, t33, t34, t35, t36, t37, t38, t39, t40, t41, t42, t43, t44, t45, t46, t47, t48, t49, t50, v51, v52, v53, v54, v55, v56, v57, v58, v59, v60, v61, v62, v63, v64, v65, v66, v67, v68, v69, v70, v71, v72, v73, v74, v75, v76, v77, v78, v79, v80, v81, v82, v83, v84, .bool false], defers := [] } w') :
    (Code.region 11 (opsR 11 Tryz.f7) true).wp Tryz.prog R { tmps := #[t0, t1, t2, t3, t4, t5, t6, .pointer (some ⟨gF, 0, none⟩), .int .i64 ((K : Int) + 1), t9, t10, t11, t12, t13, t14, t15, t16, t17, t18, t19, t20, t21, t22, t23, t24, t25, t26, t27, t28, t29, t30, t31, t32, t33, t34, t35, t36, t37, t38, t39, t40, t41, t42, t43, t44, t45, t46, t47, t48, t49, t50, u51, u52, u53, u54, u55, u56, u57, u58, u59, u60, u61, u62, u63, u64, u65, u66, u67, u68, u69, u70, u71, u72, u73, u74, u75, u76, u77, u78, u79, u80, u81, u82, u83, u84, u85], defers := [] } w := by
  have e : findR 11 Tryz.f7.body.get! = findR 11 Tryz.f7.body.get! := rfl
  conv at e => rhs; whnf
  unfold opsR
  rw [e, Option.getD_some]
  clear e
  have HR := Lib.hid hR
  clear hR
  have e1 : IntKind.i64.wrap ((K : Int) + 1) = (K : Int) + 1 := IntWalk.i64_in _ (by omega)
  have e2 : wrap64 ((K : Int) + 1) = (K : Int) + 1 := IntWalk.wrap64_in _ (by omega)
  have e3 : ((K + 1 : Nat) : Int) = (K : Int) + 1 := by clear e1 e2; omega
  have e4 : (0 : Int) ≤ (K : Int) := by clear e1 e2; omega
  have e5 : (K : Int) < (K : Int) + 1 := by clear e1 e2; omega
  have e6 : (0 : Int) < (K : Int) + 1 := by clear e1 e2; omega
  have e7 : IntKind.i64.wrap (K : Int) = (K : Int) := by clear e1 e2; exact IntWalk.i64_in _ (by omega)
  have e8 : wrap64 (K : Int) = (K : Int) := by clear e1 e2 e7; exact IntWalk.wrap64_in _ (by omega)
  refine wp_pure [0, 1, 2, 3, 4, 5, 6, 7, 8, 9, 10, 11, 12, 13, 14, 15, 16, 17, 18, 19, 20, 21, 22, 23, 24, 25, 26, 27, 28, 29, 30, 31, 32, 33, 34] 35 (by kernel_rfl) (by kernel_rfl) rfl ?_
  (apply rat; (focus (intro w' hk; obtain ⟨j5,j6,j7,j8,j9,j10,j11,j14⟩ := look8 hk y5 y6 y7 y8 y9 y10 y11 y14; obtain ⟨m1,m2,m3,m4,m5,m6,m7⟩ := look7 hk d1 d2 d3 d4 d5 d6 d7; (iterate 31 (refine' rv ?_ rfl rfl (by go_simp; first | done | with_reducible rfl | exact rfl); try simp only [Act.put, List.setIfInBounds_toArray, List.set_cons_zero, List.set_cons_succ])); (refine' rv ?_ rfl rfl (by exact exec_bin rfl rfl rfl (st_noself gs _ _ w')); try simp only [Act.put, List.setIfInBounds_toArray, List.set_cons_zero, List.set_cons_succ]); (iterate 3 (refine' rv ?_ rfl rfl (by go_simp; first | done | with_reducible rfl | exact rfl); try simp only [Act.put, List.setIfInBounds_toArray, List.set_cons_zero, List.set_cons_succ])); (exact rn))))
  intro w9 hk9
  exact HR.out _ _ _ _ _ _ _ _ _ _ _ _ _ _ _ _ _ _ _ _ _ _ _ _ _ _ _ _ _ _ _ _ _ _ w9 hk9
theorem reps_zero {t0 t1 t2 t3 t4 t5 t6 t9 t10 t11 t12 t13 t14 t15 t16 t17 t18 t19 t20 t21 t22 t23 t24 t25 t26 t27 t28 t29 t30 t31 t32 t33 t34 t35 t36 t37 t38 t39 t40 t41 t42 t43 t44 t45 t46 t47 t48 t49 t50 u51 u52 u53 u54 u55 u56 u57 u58 u59 u60 u61 u62 u63 u64 u65 u66 u67 u68 u69 u70 u71 u72 u73 u74 u75 u76 u77 u78 u79 u80 u81 u82 u83 u84 u85 : Value} {R : Exit → Act → World → Prop} {w : World} {gF : Nat} {p : Option Addr} {cap : Nat} (y14 : w.cell? ⟨gF, 14, none⟩ = some (.slice p 0 cap))
    (hR : ∀ (v51 v52 v53 v54 v55 v56 v57 v58 v59 v60 v61 v62 v63 v64 v65 v66 v67 v68 v69 v70 v71 v72 v73 v74 v75 v76 v77 v78 v79 v80 v81 v82 v83 v84 : Value) (w' : World), Keep w w' → wpList Tryz.prog (opsR 11 Tryz.f7) R [] { tmps := #[t0, t1, t2, t3, t4, t5, t6, .pointer (some ⟨gF, 0, none⟩), .int .i64 0, t9, t10, t11, t12, t13, t14, t15, t16, t17, t18, t19, t20, t21, t22, t23, t24, t25, t26, t27, t28, t29, t30, t31, t32, t33, t34, t35, t36, t37, t38, t39, t40, t41, t42, t43, t44, t45, t46, t47, t48, t49, t50, v51, v52, v53, v54, v55, v56, v57, v58, v59, v60, v61, v62, v63, v64, v65, v66, v67, v68, v69, v70, v71, v72, v73, v74, v75, v76, v77, v78, v79, v80, v81, v82, v83, v84, .bool false], defers := [] } w') :
    (Code.region 11 (opsR 11 Tryz.f7) true).wp Tryz.prog R { tmps := #[t0, t1, t2, t3, t4, t5, t6, .pointer (some ⟨gF, 0, none⟩), .int .i64 0, t9, t10, t11, t12, t13, t14, t15, t16, t17, t18, t19, t20, t21, t22, t23, t24, t25, t26, t27, t28, t29, t30, t31, t32, t33, t34, t35, t36, t37, t38, t39, t40, t41, t42, t43, t44, t45, t46, t47, t48, t49, t50, u51, u52, u53, u54, u55, u56, u57, u58, u59, u60, u61, u62, u63, u64, u65, u66, u67, u68, u69, u70, u71, u72, u73, u74, u75, u76, u77, u78, u79, u80, u81, u82, u83, u84, u85], defers := [] } w := by
  have e : findR 11 Tryz.f7.body.get! = findR 11 Tryz.f7.body.get! := rfl
  conv at e => rhs; whnf
  unfold opsR
  rw [e, Option.getD_some]
  clear e
  have HR := Lib.hid hR
  clear hR
  refine wp_pure [0, 1, 2, 3, 4, 5, 6, 7, 8, 9, 10, 11, 12, 13, 14, 15, 16, 17, 18, 19, 20, 21, 22, 23, 24, 25, 26, 27, 28, 29, 30, 31, 32, 33, 34] 35 (by kernel_rfl) (by kernel_rfl) rfl ?_
  (apply rat; (focus (intro w' hk; have j14 := look hk y14; (iterate 9 (refine' rv ?_ rfl rfl (by go_simp; first | done | with_reducible rfl | exact rfl); try simp only [Act.put, List.setIfInBounds_toArray, List.set_cons_zero, List.set_cons_succ])); (iterate 24 (refine' rs ?_ rfl rfl; try simp only [Act.put, List.setIfInBounds_toArray, List.set_cons_zero, List.set_cons_succ])); (iterate 2 (refine' rv ?_ rfl rfl (by go_simp; first | done | with_reducible rfl | exact rfl); try simp only [Act.put, List.setIfInBounds_toArray, List.set_cons_zero, List.set_cons_succ])); (exact rn))))
  intro w9 hk9
  exact HR.out _ _ _ _ _ _ _ _ _ _ _ _ _ _ _ _ _ _ _ _ _ _ _ _ _ _ _ _ _ _ _ _ _ _ w9 hk9
end Go.Proofs.YtnaokijcggbfdaaGreatDoor
