/- What the statement's proof stands on, part 46: AUncut22, AAsks22, TopFol. -/
import Derived.Test.YtcadgecnlahkgaaGreatDoorAj45
import Derived.Test.YtcadgecnlahkgaaGreatDoorAj44
import Derived.Test.YtcadgecnlahkgaaGreatDoorAj41
set_option linter.unusedSimpArgs false
set_option linter.unusedVariables false
set_option maxRecDepth 100000
set_option maxHeartbeats 4000000
namespace Go.Proofs.YtcadgecnlahkgaaGreatDoor
open Go.RowKit Go.Shelf
attribute [local go_sem] Oper.semAt_some
theorem au_r12 {t0 t1 t2 t3 t4 t5 t6 t7 t8 t9 t12 t13 t14 t15 t16 t17 t18 t19 t20 t21 t22 t23 t24 t25 t26 t27 t28 t29 t30 t31 t32 t33 t34 t35 t36 t37 t38 t39 t40 t41 t42 t43 t44 t45 t46 t47 t48 t49 t50 t51 t52 t53 t54 t55 t56 t57 t58 t59 t60 t61 t62 t63 t64 t65 t66 : Value} {R : Exit → Act → World → Prop} {w : World} {g4 g5 na q : Nat} {p : Option Addr} {ack : List Dw.St} {fs nA : Dw.St} {xf : Dw.Fl} {xp xv xn : Int} {vr : Value} (b4 : w.heap[g4]? = some (.cells (audC ⟨ack, false, fs⟩ nA (.slice p na q)) 66)) (b5 : w.heap[g5]? = some (.cells (fliC ⟨xf, nA, xp, xv, xn⟩ vr) 36)) (HSA : Hid (StsAt w (.slice p na q) ack))
    (HLA : Hid (∀ w, StsAt w (.slice p na q) ack → Calls Tryz.prog 24 #[audV ⟨ack, false, fs⟩ nA (.slice p na q)] w fun e w' => e = .returned (stV nA) ∧ Below w.heap.size w w'))
    (hR : ∀ (v49 v50 v51 v52 v53 v54 v55 v56 v57 v58 v59 v60 v61 v62 v63 v64 v65 v66 : Value) (w' : World), Keep w w' → wpList Tryz.prog (opsR 12 Tryz.f6) R [] { tmps := #[t0, t1, t2, t3, t4, t5, .bool true, t7, t8, t9, .pointer (some ⟨g4, 0, none⟩), .pointer (some ⟨g5, 0, none⟩), t12, t13, t14, t15, t16, t17, t18, t19, t20, t21, t22, t23, t24, t25, t26, t27, t28, t29, t30, t31, t32, t33, t34, t35, t36, t37, t38, t39, t40, t41, t42, t43, t44, t45, t46, t47, t48, v49, v50, v51, v52, v53, v54, v55, v56, v57, v58, v59, v60, v61, v62, v63, v64, v65, v66], defers := [] } w') :
    (Code.region 12 (opsR 12 Tryz.f6) true).wp Tryz.prog R { tmps := #[t0, t1, t2, t3, t4, t5, t6, t7, t8, t9, .pointer (some ⟨g4, 0, none⟩), .pointer (some ⟨g5, 0, none⟩), t12, t13, t14, t15, t16, t17, t18, t19, t20, t21, t22, t23, t24, t25, t26, t27, t28, t29, t30, t31, t32, t33, t34, t35, t36, t37, t38, t39, t40, t41, t42, t43, t44, t45, t46, t47, t48, t49, t50, t51, t52, t53, t54, t55, t56, t57, t58, t59, t60, t61, t62, t63, t64, t65, t66], defers := [] } w := by
  have e : findR 12 Tryz.f6.body.get! = findR 12 Tryz.f6.body.get! := rfl
  conv at e => rhs; whnf
  unfold opsR
  rw [e, Option.getD_some]
  clear e
  have HR := Lib.hid hR
  clear hR
  have HQ := Lib.hid (fun (u v : Operand) (w : World) => st_self nA u v w)
  have x1 : w.cell? ⟨g4, 1, none⟩ = some (.bool false) := by rw [cell_of_row _ _ 1 _ _ _ b4]; rfl
  refine wp_pure [0, 1, 2, 3, 4, 5, 6, 7, 8, 9, 10, 11, 12, 13, 14, 15, 16, 17] 18 (by kernel_rfl) (by kernel_rfl) rfl ?_
  (apply rat; (focus (intro w' hk; have k1 := look hk x1; (iterate 5 (refine' rv ?_ rfl rfl (by go_simp; first | done | with_reducible rfl | exact rfl); try simp only [Act.put, List.setIfInBounds_toArray, List.set_cons_zero, List.set_cons_succ])); (refine' rv ?_ rfl rfl (by exact exec_cells (b := g4) (off := 8) (stC nA) (cells_part (kpi hk b4) 8 (stC nA) rfl) rfl rfl (by kernel_rfl)); try simp only [Act.put, List.setIfInBounds_toArray, List.set_cons_zero, List.set_cons_succ]); (refine' rv ?_ rfl rfl (by exact exec_cells (audC ⟨ack, false, fs⟩ nA (.slice p na q)) (cells_of (kpi hk b4)) rfl rfl (by kernel_rfl)); try simp only [Act.put, List.setIfInBounds_toArray, List.set_cons_zero, List.set_cons_succ]); (refine' rc ?_ (by exact rfl) (by exact rfl) (by go_simp; first | done | (constructor <;> with_reducible rfl) | with_reducible rfl) (by exact HLA.out w' (RowsAt.next HSA.out hk.whole)); try simp only [Act.put, List.setIfInBounds_toArray, List.set_cons_zero, List.set_cons_succ]); (refine' rv ?_ rfl rfl (by exact exec_bin rfl rfl rfl (HQ.out _ _ _)); try simp only [Act.put, List.setIfInBounds_toArray, List.set_cons_zero, List.set_cons_succ]); (iterate 4 (refine' rv ?_ rfl rfl (by go_simp; first | done | with_reducible rfl | exact rfl); try simp only [Act.put, List.setIfInBounds_toArray, List.set_cons_zero, List.set_cons_succ])); (refine' rv ?_ rfl rfl (by exact exec_cells (b := g5) (off := 5) (stC nA) (cells_part (kpi hk b5) 5 (stC nA) rfl) rfl rfl (by kernel_rfl)); try simp only [Act.put, List.setIfInBounds_toArray, List.set_cons_zero, List.set_cons_succ]); (refine' rv ?_ rfl rfl (by go_simp; first | done | with_reducible rfl | exact rfl); try simp only [Act.put, List.setIfInBounds_toArray, List.set_cons_zero, List.set_cons_succ]); (refine' rv ?_ rfl rfl (by exact exec_cells (b := g4) (off := 8) (stC nA) (cells_part (kpi hk b4) 8 (stC nA) rfl) rfl rfl (by kernel_rfl)); try simp only [Act.put, List.setIfInBounds_toArray, List.set_cons_zero, List.set_cons_succ]); (refine' rv ?_ rfl rfl (by exact exec_bin rfl rfl rfl (HQ.out _ _ _)); try simp only [Act.put, List.setIfInBounds_toArray, List.set_cons_zero, List.set_cons_succ]); (refine' rv ?_ rfl rfl (by go_simp; first | done | with_reducible rfl | exact rfl); try simp only [Act.put, List.setIfInBounds_toArray, List.set_cons_zero, List.set_cons_succ]); (exact rn))))
  intro w9 hk9
  simp only [List.drop_succ_cons, List.drop_zero]
  go_wp2_with fail
  exact HR.out _ _ _ _ _ _ _ _ _ _ _ _ _ _ _ _ _ _ w9 hk9
theorem auncut_any (n li : Int) (l : List Dw.En) (v : Value) (w : World) (hv : EnsAt w v l) (hn : NoneAt w) :
    Calls Tryz.prog 6 #[.int .i64 n, .int .i64 li, v] w fun e w' => e = .returned (.bool true) ∧ Below w.heap.size w w' := by
  have hB := Below.refl w.heap.size w
  have HV := Lib.hid hv
  obtain ⟨sa, cap, rfl, -, -⟩ := id hv
  clear hv
  go_enter Tryz.func6, Tryz.ntmps6
  go_wp2_with fail
  refine (long22_any l _ _ HV.out).mono ?_
  rintro en w1 ⟨⟨b, rfl, hlb⟩, hb⟩
  replace hB := tr hB hb
  clear hb
  cases b with
  | true =>
    go_wp2_with fail
    refine (shown22_any _ (hn.next hB)).mono ?_
    rintro en wy ⟨rfl, hb⟩
    replace hB := tr hB hb
    clear hb
    go_wp2_with fail
    go_ret
    exact ⟨rfl, hB⟩
  | false =>
  have HL := Lib.hid (hlb rfl)
  clear hlb
  go_wp2_with fail
  refine (turned22_any l (by have := HL.out; omega) _ _ (HV.out.next hB)).mono ?_
  rintro en w2 ⟨⟨b, rfl, htb⟩, hb⟩
  replace hB := tr hB hb
  clear hb
  cases b with
  | true =>
    go_wp2_with fail
    refine (shown22_any _ (hn.next hB)).mono ?_
    rintro en wy ⟨rfl, hb⟩
    replace hB := tr hB hb
    clear hb
    go_wp2_with fail
    go_ret
    exact ⟨rfl, hB⟩
  | false =>
  have HT := Lib.hid (htb rfl)
  clear htb
  go_wp2_with fail
  refine (shown22_any _ (hn.next hB)).mono ?_
  rintro en w3 ⟨rfl, hb⟩
  replace hB := tr hB hb
  clear hb
  go_wp2_with fail
  obtain ⟨V0, hV0⟩ : ∃ V, w3.alloc (.cells #[] 48) = V := ⟨_, rfl⟩
  have bO : V0.heap[w3.heap.size]? = some (.cells #[] 48) := by rw [← hV0]; exact han _ _
  have hown0 : V0.ownsRow w3.heap.size 48 11 (.slice (some ⟨w3.heap.size, 0, none⟩) 0 0) 0 (enCells []) := ⟨rfl, .inr ⟨_, 0, #[], rfl, Nat.le_refl _, bO, Nat.le_refl _, Nat.zero_le _, rfl, rfl⟩⟩
  have hb : Below w3.heap.size w3 V0 := by rw [← hV0]; exact (Below.refl _ w3).alloc (Nat.le_refl _) _
  have hB0 := tr hB hb
  have z3 : w.heap.size ≤ w3.heap.size := hB.size
  have z0 : w3.heap.size < V0.heap.size := block_lt bO
  have h0l : (0 : Int) ≤ (l.length : Int) := by omega
  clear bO hb
  try rw [hV0]
  clear hV0 hB
  go_loopw [7, 8] (fun s i wr => ∃ (k : Nat) (vo : Value), k ≤ l.length ∧ i = .int .i64 k ∧ s = vo ∧ wr.ownsRow w3.heap.size 48 11 vo k (enCells ((l.take k).map Dw.unc)) ∧ Below w.heap.size w wr ∧ w3.heap.size ≤ wr.heap.size) (fun _ i _ => l.length - (intOf i).toNat)
  case atStart => exact ⟨0, _, Nat.zero_le _, rfl, rfl, hown0, hB0, by omega⟩
  case round =>
    clear hown0 hB0 z0
    obtain ⟨k, vo, hk, rfl, rfl, hown, hB, zw⟩ := hrel
    by_cases hlt : k < l.length
    · have hlt' : (k : Int) < (l.length : Int) := by omega
      obtain ⟨e, hce⟩ : ∃ e, l[k]? = some e := ⟨l[k], List.getElem?_eq_getElem hlt⟩
      obtain ⟨he, bb, off, hsa, kc⟩ := EnsAt.get (HV.out.next hB) hce
      subst hsa
      have HTK := Lib.hid (show enCells ((l.take (k + 1)).map Dw.unc) = enCells ((l.take k).map Dw.unc) ++ (enC (Dw.unc e)).toList by rw [Dw.take_snoc hce, List.map_append]; exact enCells_snoc _ _)
      have ll := HL.out
      obtain ⟨V4, hV4⟩ : ∃ V, wr.alloc (.cells (enC e) 48) = V := ⟨_, rfl⟩
      have hb4 : Below wr.heap.size wr V4 := by rw [← hV4]; exact (Below.refl _ wr).alloc (Nat.le_refl _) _
      have bE : V4.heap[wr.heap.size]? = some (.cells (enC e) 48) := by rw [← hV4]; exact han _ _
      have k8 : V4.cell? ⟨wr.heap.size, 8, none⟩ = some (.int .i64 e.p.cut) := by rw [cell_of_row _ _ 8 _ _ _ bE]; rfl
      have f8 := frozen0 bE 8
      have b5 : (V4.setCell ⟨wr.heap.size, 8, none⟩ (.int .i64 (-1))).heap[wr.heap.size]? = some (.cells (enC (Dw.unc e)) 48 (0, 0)) := heap_setCell_same V4 wr.heap.size 8 _ _ (.int .i64 (-1)) bE
      have hb5 : Below wr.heap.size V4 (V4.setCell ⟨wr.heap.size, 8, none⟩ (.int .i64 (-1))) := ((KeepBut.refl (fun j => j = wr.heap.size) V4).setCell (p := ⟨wr.heap.size, 8, none⟩) rfl (.int .i64 (-1))).below hb4.size (fun j hj => by omega)
      have zE := block_lt bE
      obtain ⟨V6, hV6⟩ : ∃ V, (V4.setCell ⟨wr.heap.size, 8, none⟩ (.int .i64 (-1))).alloc (.cells (enC (Dw.unc e)) 48) = V := ⟨_, rfl⟩
      have hb6 : Below (V4.setCell ⟨wr.heap.size, 8, none⟩ (.int .i64 (-1))).heap.size (V4.setCell ⟨wr.heap.size, 8, none⟩ (.int .i64 (-1))) V6 := by rw [← hV6]; exact (Below.refl _ _).alloc (Nat.le_refl _) _
      have hsz : (V4.setCell ⟨wr.heap.size, 8, none⟩ (.int .i64 (-1))).heap.size = V4.heap.size := by simp
      have b6 : V6.heap[V4.heap.size]? = some (.cells (enC (Dw.unc e)) 48) := by rw [← hsz, ← hV6]; exact han _ _
      have hBw : Below wr.heap.size wr V6 := (hb4.trans hb5).trans (hb6.mono (hb4.trans hb5).size)
      have how6 := own_next hown hBw
      have hB6 := tr hB hBw
      have z6 : w3.heap.size ≤ V6.heap.size := by have := hBw.size; omega
      have HB6 := Lib.hid hB6; have HV4 := Lib.hid hV4; have HV6 := Lib.hid hV6
      clear hce he hb4 hb5 hb6 hBw hB hown hB6 hV4 hV6 hsz
      go_wp2_with (first | (refine lr (enC e).toList.toArray kc rfl rfl rfl (by kernel_rfl) ?_) | (refine nb rfl rfl rfl rfl (by go_simp; first | done | with_reducible rfl | exact rfl) rfl rfl (by kernel_rfl) ?_; rw [HV4.out]) | (refine lb b5 rfl rfl rfl (by kernel_rfl) ?_) | (at_builtin; (try rw [HV6.out]); refine append_own22 (by rfl) (by rfl) Tryz.underlying22 infoEn rfl (by decide) (by decide) how6 (by omega) z6 rfl b6 rfl rfl (enC_one _) ?_; intro v1 w5 how5 hk5))
      have HB5 := Lib.hid (HB6.out.trans (hk5.below (by have := HB6.out.size; omega) (fun j hj => by have := (own_blk how6 hj).1; omega)))
      have HO5 := Lib.hid how5
      have zz : w3.heap.size ≤ w5.heap.size := by have := hk5.size; omega
      clear hk5 how5 how6 b6 b5 bE k8 f8 kc HB6 HV4 HV6
      go_wp2_with fail
      go_roundw
      case rel => exact ⟨k + 1, _, hlt, by go_num, rfl, by rw [HTK.out]; exact HO5.out, HB5.out, zz⟩
      case measure => first | done | (simp [intOf]; done) | (simp [intOf]; omega)
    · skip
      have hge : ¬ (k : Int) < (l.length : Int) := by omega
      obtain rfl : k = l.length := by omega
      rw [List.take_length] at hown
      have HM := Lib.hid (ens_own hown (by simp) (Dw.unc_ok HV.out.oks))
      have hml : (l.map Dw.unc).length ≤ 100 := by rw [List.length_map]; have := HL.out; omega
      have hmk := Dw.unc_ki HT.out
      have hmc := Dw.unc_cut l
      clear hown
      generalize l.map Dw.unc = m at *
      have hFA := fun w v hn hv => follow_any n li m hml v w hn hv
      have hBG := fun w hn => begin_any n li w hn
      have hRN := fun w v2 hn hv => frun_any (Dw.beginF n li) m (Dw.newF_ok n li) (Dw.boot_legal _) (by omega) (Nat.zero_le _) (.slice none 0 0) v2 w hn (World.ownsRow_nil _ _ _ _) hv
      have hfly := Dw.fly_run m 0 (Dw.beginF n li) Dw.aud0 (Dw.fly_begin n li) (by omega) hmk
      have h3 := hfly.2 hmc (by show (0 : Int) ≠ 3; decide) rfl
      have hnow := hfly.1.now
      have his := hfly.1.is h3.1
      have hlA := Dw.audF_len m (Dw.beginF n li) Dw.aud0
      have h00 : Dw.aud0.ack.length = 0 := rfl
      generalize Dw.audF (Dw.beginF n li) Dw.aud0 m = A at *
      generalize Dw.runF (Dw.beginF n li) m = G at *
      obtain ⟨⟨xf, xs, xp, xv, xn⟩, go⟩ := G
      obtain ⟨ack, fly, fs⟩ := A
      dsimp only at *
      obtain ⟨h31, h32⟩ := h3
      subst h32 his
      have hsay : Dw.saysA ⟨ack, false, fs⟩ = Dw.lastA ack := rfl
      rw [hsay] at hnow
      have hlA2 : ack.length ≤ 1000 := by omega
      have hLA := fun va w h => alast_any ⟨ack, false, fs⟩ (Dw.bootT xf) va w h hlA2
      dsimp only at hLA
      rw [← hnow] at hLA
      generalize Dw.bootT xf = nA at *
      have HFA := Lib.hid hFA; have HBG := Lib.hid hBG; have HRN := Lib.hid hRN; have HLA := Lib.hid hLA; have HB := Lib.hid hB
      clear hFA hBG hRN hfly hnow hlA h00 hsay hlA2 hLA hB hmk hmc hml h31
      go_wp2_with fail
      refine (HFA.out _ _ (hn.next HB.out) HM.out).mono ?_
      rintro en w5 ⟨⟨va, rfl, how⟩, hb⟩
      have hB := tr HB.out hb
      have hM := HM.out.next hb
      obtain ⟨p, q, rfl⟩ := own_shape22 how
      have hSA := sts_own how rfl
      dsimp only at hSA ⊢
      clear hb HB HM HFA how
      obtain ⟨V4, hV4⟩ : ∃ V, w5.alloc (.cells (audC ⟨ack, false, fs⟩ nA (.slice p ack.length q)) 66) = V := ⟨_, rfl⟩
      have b4 : V4.heap[w5.heap.size]? = some (.cells (audC ⟨ack, false, fs⟩ nA (.slice p ack.length q)) 66) := by rw [← hV4]; exact han _ _
      have hb : Below w5.heap.size w5 V4 := by rw [← hV4]; exact (Below.refl _ w5).alloc (Nat.le_refl _) _
      have HSA := Lib.hid (hSA.next hb); have HB := Lib.hid (tr hB hb); have HM := Lib.hid (hM.next hb); have HV4 := Lib.hid hV4; have H4 := Lib.hid b4
      clear hb hV4 hSA hB hM b4
      go_wp2_with (first | (refine nb rfl rfl rfl rfl (by go_simp; first | done | with_reducible rfl | exact rfl) rfl rfl (by kernel_rfl) ?_; rw [HV4.out]))
      clear HV4
      refine (HBG.out _ (hn.next HB.out)).mono ?_
      rintro en w6 ⟨rfl, hb⟩
      have hB := tr HB.out hb
      have hSA := RowsAt.next HSA.out hb
      have hM := HM.out.next hb
      have b4 := kp hb H4.out
      clear hb HB HM HSA H4 HBG
      go_wp2_with fail
      refine (HRN.out _ _ (hn.next hB) hM).mono ?_
      rintro en w7 ⟨⟨vr, rfl, hr⟩, hb⟩
      obtain ⟨pr, qr, rfl⟩ := reps_shape hr
      replace hB := tr hB hb
      replace hSA := RowsAt.next hSA hb
      replace b4 := kp hb b4
      clear hb hM HRN hr
      obtain ⟨V5, hV5⟩ : ∃ V, w7.alloc (.cells (fliC ⟨xf, nA, xp, xv, xn⟩ (.slice pr go.length qr)) 36) = V := ⟨_, rfl⟩
      have b5 : V5.heap[w7.heap.size]? = some (.cells (fliC ⟨xf, nA, xp, xv, xn⟩ (.slice pr go.length qr)) 36) := by rw [← hV5]; exact han _ _
      have hb : Below w7.heap.size w7 V5 := by rw [← hV5]; exact (Below.refl _ w7).alloc (Nat.le_refl _) _
      have HSA := Lib.hid (RowsAt.next hSA hb); have HB := Lib.hid (tr hB hb); have HV5 := Lib.hid hV5; have H4 := Lib.hid (kp hb b4); have H5 := Lib.hid b5
      clear hb hV5 hSA hB b4 b5
      go_wp2_with (first | (refine nb rfl rfl rfl rfl (by go_simp; first | done | with_reducible rfl | exact rfl) rfl rfl (by kernel_rfl) ?_; rw [HV5.out]))
      clear HV5
      refine reg_swap (ops := opsR 12 Tryz.f6) ?_ (by kernel_rfl)
      refine au_r12 H4.out H5.out HSA (Lib.hid (fun w h => HLA.out _ w h)) ?_
      intro v49 v50 v51 v52 v53 v54 v55 v56 v57 v58 v59 v60 v61 v62 v63 v64 v65 v66 w9 hk9
      have HB9 := Lib.hid (HB.out.trans (hk9.whole.mono HB.out.size))
      clear H4 H5 HSA HLA HB hk9
      go_wp2_with fail
      go_ret
      exact ⟨rfl, HB9.out⟩
theorem infoRSt : (Tryz.prog.info? 38).map (fun i => (i.zero, i.size, i.bytes)) = some (some (.agg #[.int .i64 0, .bool false, .bool false, .int .i64 0, .int .i64 0, .int .i64 0]), 6, 40) := by kernel_rfl
abbrev ZR : Array Value := #[.slice none 0 0, .bool false, .int .i64 0, .bool false, .bool false, .int .i64 0, .int .i64 0, .int .i64 0, .int .i64 0, .bool false, .bool false, .int .i64 0, .int .i64 0, .int .i64 0]
theorem bool_self (b : Bool) (u v : Operand) (w : World) : (do eqGuard .eql 4 u v (.bool b) (.bool b); binOp .eql 4 (.bool b) (.bool b) : Sem Value).run Tryz.prog w = .ok (.bool true) w := by
  cases b <;> go_simp
theorem its22_any (a : Dw.Aud) (now : Dw.St) (va : Value) (w : World) (hs : StsAt w va a.ack) (hl : a.ack.length ≤ 1000) :
    Calls Tryz.prog 21 #[audV a now va] w fun en w' => (∃ v', en = .returned (audV a now v') ∧ StsAt w' v' a.ack) ∧ Below w.heap.size w w' := by
  obtain ⟨p, q, rfl⟩ := StsAt.shape hs
  obtain ⟨V, hV⟩ : ∃ V, (w.alloc (.cells (audC a now (.slice p a.ack.length q)) 66)).alloc (.cells ZR 69) = V := ⟨_, rfl⟩
  obtain ⟨b1, b2, hB⟩ := allocs2 _ _ _ _ hV
  have HV := Lib.hid hs
  obtain ⟨ack, fly, fs⟩ := a
  dsimp only at *
  have c1 : V.cell? ⟨w.heap.size, 1, none⟩ = some (.bool fly) := by rw [cell_of_row _ _ 1 _ _ _ b1]; rfl
  obtain ⟨V3, hV3⟩ : ∃ W, V.alloc (.cells (audC ⟨ack, fly, fs⟩ now (.slice none 0 0)) 69) = W := ⟨_, rfl⟩
  have b3 : V3.heap[V.heap.size]? = some (.cells (audC ⟨ack, fly, fs⟩ now (.slice none 0 0)) 69) := by rw [← hV3]; exact han _ _
  have hb3 : Below V.heap.size V V3 := by rw [← hV3]; exact (Below.refl _ V).alloc (Nat.le_refl _) _
  obtain ⟨V4, hV4⟩ : ∃ W, V3.alloc (.cells #[] 38) = W := ⟨_, rfl⟩
  have b4 : V4.heap[V3.heap.size]? = some (.cells #[] 38) := by rw [← hV4]; exact han _ _
  have hb4 : Below V3.heap.size V3 V4 := by rw [← hV4]; exact (Below.refl _ V3).alloc (Nat.le_refl _) _
  have hown0 : V4.ownsRow V3.heap.size 38 6 (.slice (some ⟨V3.heap.size, 0, none⟩) 0 0) 0 (stCells []) := ⟨rfl, .inr ⟨_, 0, #[], rfl, Nat.le_refl _, b4, Nat.le_refl _, Nat.zero_le _, rfl, rfl⟩⟩
  have B1 := kp hb4 (kp hb3 b1); have B2 := kp hb4 (kp hb3 b2); have B3 := kp hb4 b3
  have hB4 := tr (tr hB hb3) hb4
  have z1 : w.heap.size + 1 < V.heap.size := block_lt b2
  have z3 : V.heap.size < V3.heap.size := block_lt b3
  have z4 : V3.heap.size < V4.heap.size := block_lt b4
  have h0l : (0 : Int) ≤ (ack.length : Int) := by omega
  have HV3 := Lib.hid hV3
  have H1 := Lib.hid B1; have H2 := Lib.hid B2; have H3 := Lib.hid B3; have HO := Lib.hid hown0; have HB4 := Lib.hid hB4
  clear hs b2 b3 b4 hb3 hb4 B1 B2 B3 hown0 hB4 hB hV3
  go_enter Tryz.func21, Tryz.ntmps21
  go_wp2_with (first | (refine lp 29 2 (stC fs) b1 rfl rfl rfl (by kernel_rfl) (by rfl) ?_) | (refine lp 29 8 (stC now) b1 rfl rfl rfl (by kernel_rfl) (by rfl) ?_) | (refine nb rfl rfl rfl rfl (by go_simp; first | done | with_reducible rfl | exact rfl) rfl rfl (by kernel_rfl) ?_; rw [HV3.out]))
  clear HV3 b1 c1
  try rw [hV4]
  clear hV hV4
  go_loopw [4, 5] (fun s i wr => ∃ (k : Nat) (vo : Value), k ≤ ack.length ∧ i = .int .i64 k ∧ s = vo ∧ wr.ownsRow V3.heap.size 38 6 vo k (stCells (ack.take k)) ∧ wr.heap[w.heap.size]? = some (.cells (audC ⟨ack, fly, fs⟩ now (.slice p ack.length q)) 66 (0, 0)) ∧ wr.heap[w.heap.size + 1]? = some (.cells ZR 69 (0, 0)) ∧ wr.heap[V.heap.size]? = some (.cells (audC ⟨ack, fly, fs⟩ now (.slice none 0 0)) 69 (0, 0)) ∧ Below w.heap.size w wr ∧ V3.heap.size ≤ wr.heap.size) (fun _ i _ => ack.length - (intOf i).toNat)
  case atStart => exact ⟨0, _, Nat.zero_le _, rfl, rfl, HO.out, H1.out, H2.out, H3.out, HB4.out, by omega⟩
  case round =>
    clear HO H1 H2 H3 HB4 z4
    obtain ⟨k, vo, hk, rfl, rfl, hown, b1, b2, b3, hB, zw⟩ := hrel
    have c0 : wr.cell? ⟨w.heap.size, 0, none⟩ = some (.slice p ack.length q) := by rw [cell_of_row _ _ 0 _ _ _ b1]; rfl
    by_cases hlt : k < ack.length
    · have hlt' : (k : Int) < (ack.length : Int) := by omega
      obtain ⟨e, hce⟩ : ∃ e, ack[k]? = some e := ⟨ack[k], List.getElem?_eq_getElem hlt⟩
      obtain ⟨ab, off, hp, hc⟩ := StsAt.get (HV.out.next hB) hce
      subst hp
      have HTK := Lib.hid (show stCells (ack.take (k + 1)) = stCells (ack.take k) ++ (stC e).toList by rw [Dw.take_snoc hce]; exact stCells_snoc _ _)
      obtain ⟨V6, hV6⟩ : ∃ W, wr.alloc (.cells (stC e) 38) = W := ⟨_, rfl⟩
      have hb6 : Below wr.heap.size wr V6 := by rw [← hV6]; exact (Below.refl _ wr).alloc (Nat.le_refl _) _
      have b6 : V6.heap[wr.heap.size]? = some (.cells (stC e) 38) := by rw [← hV6]; exact han _ _
      have how6 := own_next hown hb6
      have z6 : V3.heap.size ≤ V6.heap.size := by have := hb6.size; omega
      have H1 := Lib.hid (kp hb6 b1); have H2 := Lib.hid (kp hb6 b2); have H3 := Lib.hid (kp hb6 b3); have HB6 := Lib.hid (tr hB hb6); have HV6 := Lib.hid hV6
      clear hce hown hb6 b1 b2 b3 hB hV6
      go_wp2_with (first | (refine lr (stC e) hc rfl rfl rfl (by kernel_rfl) ?_) | (at_builtin; (try rw [HV6.out]); refine append_own22 (by rfl) (by rfl) Tryz.underlying67 infoRSt rfl (by decide) (by decide) how6 (by omega) z6 rfl b6 rfl rfl (stC_one _) ?_; intro v1 w5 how5 hk5))
      have hown6 := fun j hj => (own_blk how6 (j := j) hj).1
      have bb1 := (hk5.block _ (block_lt H1.out) (fun h => by have := hown6 _ h; omega)).trans H1.out
      have bb2 := (hk5.block _ (block_lt H2.out) (fun h => by have := hown6 _ h; omega)).trans H2.out
      have bb3 := (hk5.block _ (block_lt H3.out) (fun h => by have := hown6 _ h; omega)).trans H3.out
      have HB5 := Lib.hid (HB6.out.trans (hk5.below HB6.out.size (fun j hj => by have := hown6 _ hj; omega)))
      have HO5 := Lib.hid how5; have J1 := Lib.hid bb1; have J2 := Lib.hid bb2; have J3 := Lib.hid bb3
      have zz : V3.heap.size ≤ w5.heap.size := by have := hk5.size; omega
      clear hk5 how5 how6 b6 bb1 bb2 bb3 hown6 H1 H2 H3 HB6 HV6 hc c0
      go_wp2_with fail
      go_roundw
      case rel => exact ⟨k + 1, _, hlt, by go_num, rfl, by rw [HTK.out]; exact HO5.out, J1.out, J2.out, J3.out, HB5.out, zz⟩
      case measure => first | done | (simp [intOf]; done) | (simp [intOf]; omega)
    · have hge : ¬ (k : Int) < (ack.length : Int) := by omega
      obtain rfl : k = ack.length := by omega
      rw [List.take_length] at hown
      obtain ⟨po, qo, rfl⟩ := own_shape22 hown
      have hSO := sts_own hown rfl
      have c1 : wr.cell? ⟨V.heap.size, 1, none⟩ = some (.bool fly) := by rw [cell_of_row _ _ 1 _ _ _ b3]; rfl
      have HS := Lib.hid (sts_own (own_rowT hown b2 (by decide) (audC ⟨ack, fly, fs⟩ now (.slice po ack.length qo))) rfl)
      have HB := Lib.hid hB
      clear hown hSO hB
      go_wp2_with (first | (refine lp 38 2 (stC fs) b3 rfl rfl rfl (by kernel_rfl) (by rfl) ?_) | (refine lp 38 8 (stC now) b3 rfl rfl rfl (by kernel_rfl) (by rfl) ?_) | (refine sb (c' := audC ⟨ack, fly, fs⟩ now (.slice po ack.length qo)) b2 rfl rfl rfl rfl (by kernel_rfl) ?_))
      exact bodyPost_ret (rcr rfl (srh b2) (by rfl) (by kernel_rfl)) rfl ⟨⟨_, rfl, HS.out⟩, below_setRow HB.out (by omega) _⟩
theorem aasks_any (a : Dw.Aud) (now s : Dw.St) (va : Value) (w : World) (hs : StsAt w va a.ack) (hn : NoneAt w) :
    Calls Tryz.prog 4 #[audV a now va, stV s] w fun e w' => e = .returned (.bool true) ∧ Below w.heap.size w w' := by
  obtain ⟨p, q, rfl⟩ := StsAt.shape hs
  obtain ⟨V, hV⟩ : ∃ V, (w.alloc (.cells (audC a now (.slice p a.ack.length q)) 66)).alloc (.cells (stC s) 29) = V := ⟨_, rfl⟩
  obtain ⟨b2, b3, hB⟩ := allocs2 _ _ _ _ hV
  have c0 : V.cell? ⟨w.heap.size, 0, none⟩ = some (.slice p a.ack.length q) := by rw [cell_of_row _ _ 0 _ _ _ b2]; rfl
  have HS := Lib.hid (hs.next hB)
  have hB0 := hB
  by_cases hl : 60 < a.ack.length
  · have g0 : (60 : Int) < (a.ack.length : Int) := by omega
    clear hs hl b2 b3
    go_enter Tryz.func4, Tryz.ntmps4
    go_wp2_with fail
    try rw [hV]
    refine (shown22_any _ (hn.next hB)).mono ?_
    rintro en wy ⟨rfl, hb⟩
    replace hB := tr hB hb
    clear hb
    go_wp2_with fail
    go_ret
    exact ⟨rfl, hB⟩
  · have g0 : ¬ (60 : Int) < (a.ack.length : Int) := by omega
    have hl1 : a.ack.length ≤ 1000 := by omega
    have HI := Lib.hid (fun w h => its22_any a now (.slice p a.ack.length q) w h hl1)
    have HH := Lib.hid (fun va w h => holds_any a now va w h hl1)
    have HRH := Lib.hid (fun va w h => rholds22_any a now va w h hl1)
    have HL := Lib.hid (fun va w h => alast_any a now va w h hl1)
    have HRL := Lib.hid (fun va w h => rlast22_any a now va w h hl1)
    have HK := Lib.hid (fun va w h => known_any a now s va w h hl1)
    have HRK := Lib.hid (fun va w h => rknown22_any a now s va w h hl1)
    obtain ⟨ack, fly, fs⟩ := a
    dsimp only at *
    generalize decide (now = Dw.saysA ⟨ack, fly, fs⟩) = D at *
    generalize Dw.lastA ack = L at *
    generalize Dw.knownB ⟨ack, fly, fs⟩ s = E at *
    have HD := Lib.hid (fun u v w => bool_self D u v w)
    have HE := Lib.hid (fun u v w => bool_self E u v w)
    have HQ := Lib.hid (fun u v w => rst_self L u v w)
    clear hs hl hl1
    go_enter Tryz.func4, Tryz.ntmps4
    go_wp2_with fail
    try rw [hV]
    refine (shown22_any _ (hn.next hB)).mono ?_
    rintro en wy ⟨rfl, hb⟩
    replace hB := tr hB hb
    replace b2 := kp hb b2; replace b3 := kp hb b3
    have hS := RowsAt.next HS.out hb
    clear hb HS c0 hV hB0
    go_wp2_with (first | (refine lb b2 rfl rfl rfl (by kernel_rfl) ?_))
    refine (HI.out _ hS).mono ?_
    rintro en w5 ⟨⟨v5, rfl, hS5⟩, hb⟩
    obtain ⟨p5, q5, rfl⟩ := StsAt.shape hS5
    replace hB := tr hB hb
    replace b2 := kp hb b2; replace b3 := kp hb b3
    replace hS := RowsAt.next hS hb
    clear hb HI
    obtain ⟨V4, hV4⟩ : ∃ V, w5.alloc (.cells (audC ⟨ack, fly, fs⟩ now (.slice p5 ack.length q5)) 69) = V := ⟨_, rfl⟩
    have b4 : V4.heap[w5.heap.size]? = some (.cells (audC ⟨ack, fly, fs⟩ now (.slice p5 ack.length q5)) 69) := by rw [← hV4]; exact han _ _
    have hb : Below w5.heap.size w5 V4 := by rw [← hV4]; exact (Below.refl _ w5).alloc (Nat.le_refl _) _
    have HS := Lib.hid (RowsAt.next hS hb); have HS5 := Lib.hid (RowsAt.next hS5 hb); have HB := Lib.hid (tr hB hb); have HV4 := Lib.hid hV4; have H2 := Lib.hid (kp hb b2); have H3 := Lib.hid (kp hb b3); have H4 := Lib.hid b4
    clear hb hV4 hS hS5 hB b2 b3 b4
    go_wp2_with (first | (refine nb rfl rfl rfl rfl (by go_simp; first | done | with_reducible rfl | exact rfl) rfl rfl (by kernel_rfl) ?_; rw [HV4.out]))
    clear HV4
    refine wp_pure [0, 1, 2, 3, 4, 5, 6, 7, 8, 9, 10, 11, 12, 13, 14, 15, 16, 17, 18, 19, 20] 21 (by kernel_rfl) (by kernel_rfl) rfl ?_
    (apply rat; (focus (intro w' hk; (refine' rv ?_ rfl rfl (by exact exec_cells (audC ⟨ack, fly, fs⟩ now (.slice p ack.length q)) (cells_of (kpi hk H2.out)) rfl rfl (by kernel_rfl)); try simp only [Act.put, List.setIfInBounds_toArray, List.set_cons_zero, List.set_cons_succ]); (refine' rc ?_ (by exact rfl) (by exact rfl) (by go_simp; first | done | (constructor <;> with_reducible rfl) | with_reducible rfl) (by exact HH.out _ w' (RowsAt.next HS.out hk.whole)); try simp only [Act.put, List.setIfInBounds_toArray, List.set_cons_zero, List.set_cons_succ]); (refine' rv ?_ rfl rfl (by exact exec_cells (audC ⟨ack, fly, fs⟩ now (.slice p5 ack.length q5)) (cells_of (kpi hk H4.out)) rfl rfl (by kernel_rfl)); try simp only [Act.put, List.setIfInBounds_toArray, List.set_cons_zero, List.set_cons_succ]); (refine' rc ?_ (by exact rfl) (by exact rfl) (by go_simp; first | done | (constructor <;> with_reducible rfl) | with_reducible rfl) (by exact HRH.out _ w' (RowsAt.next HS5.out hk.whole)); try simp only [Act.put, List.setIfInBounds_toArray, List.set_cons_zero, List.set_cons_succ]); (refine' rv ?_ rfl rfl (by exact exec_bin rfl rfl rfl (HD.out _ _ _)); try simp only [Act.put, List.setIfInBounds_toArray, List.set_cons_zero, List.set_cons_succ]); (refine' rv ?_ rfl rfl (by go_simp; first | done | with_reducible rfl | exact rfl); try simp only [Act.put, List.setIfInBounds_toArray, List.set_cons_zero, List.set_cons_succ]); (refine' rv ?_ rfl rfl (by exact exec_cells (audC ⟨ack, fly, fs⟩ now (.slice p ack.length q)) (cells_of (kpi hk H2.out)) rfl rfl (by kernel_rfl)); try simp only [Act.put, List.setIfInBounds_toArray, List.set_cons_zero, List.set_cons_succ]); (refine' rc ?_ (by exact rfl) (by exact rfl) (by go_simp; first | done | (constructor <;> with_reducible rfl) | with_reducible rfl) (by exact HL.out _ w' (RowsAt.next HS.out hk.whole)); try simp only [Act.put, List.setIfInBounds_toArray, List.set_cons_zero, List.set_cons_succ]); (refine' rv ?_ rfl rfl (by exact exec_cells (audC ⟨ack, fly, fs⟩ now (.slice p5 ack.length q5)) (cells_of (kpi hk H4.out)) rfl rfl (by kernel_rfl)); try simp only [Act.put, List.setIfInBounds_toArray, List.set_cons_zero, List.set_cons_succ]); (refine' rc ?_ (by exact rfl) (by exact rfl) (by go_simp; first | done | (constructor <;> with_reducible rfl) | with_reducible rfl) (by exact HRL.out _ w' (RowsAt.next HS5.out hk.whole)); try simp only [Act.put, List.setIfInBounds_toArray, List.set_cons_zero, List.set_cons_succ]); (refine' rv ?_ rfl rfl (by exact exec_bin rfl rfl rfl (HQ.out _ _ _)); try simp only [Act.put, List.setIfInBounds_toArray, List.set_cons_zero, List.set_cons_succ]); (iterate 2 (refine' rv ?_ rfl rfl (by go_simp; first | done | with_reducible rfl | exact rfl); try simp only [Act.put, List.setIfInBounds_toArray, List.set_cons_zero, List.set_cons_succ])); (refine' rv ?_ rfl rfl (by exact exec_cells (audC ⟨ack, fly, fs⟩ now (.slice p ack.length q)) (cells_of (kpi hk H2.out)) rfl rfl (by kernel_rfl)); try simp only [Act.put, List.setIfInBounds_toArray, List.set_cons_zero, List.set_cons_succ]); (refine' rv ?_ rfl rfl (by exact exec_cells (stC s) (cells_of (kpi hk H3.out)) rfl rfl (by kernel_rfl)); try simp only [Act.put, List.setIfInBounds_toArray, List.set_cons_zero, List.set_cons_succ]); (refine' rc ?_ (by exact rfl) (by exact rfl) (by go_simp; first | done | (constructor <;> with_reducible rfl) | with_reducible rfl) (by exact HK.out _ w' (RowsAt.next HS.out hk.whole)); try simp only [Act.put, List.setIfInBounds_toArray, List.set_cons_zero, List.set_cons_succ]); (refine' rv ?_ rfl rfl (by exact exec_cells (audC ⟨ack, fly, fs⟩ now (.slice p5 ack.length q5)) (cells_of (kpi hk H4.out)) rfl rfl (by kernel_rfl)); try simp only [Act.put, List.setIfInBounds_toArray, List.set_cons_zero, List.set_cons_succ]); (refine' rv ?_ rfl rfl (by exact exec_cells (stC s) (cells_of (kpi hk H3.out)) rfl rfl (by kernel_rfl)); try simp only [Act.put, List.setIfInBounds_toArray, List.set_cons_zero, List.set_cons_succ]); (refine' rc ?_ (by exact rfl) (by exact rfl) (by go_simp; first | done | (constructor <;> with_reducible rfl) | with_reducible rfl) (by exact HRK.out _ w' (RowsAt.next HS5.out hk.whole)); try simp only [Act.put, List.setIfInBounds_toArray, List.set_cons_zero, List.set_cons_succ]); (refine' rv ?_ rfl rfl (by exact exec_bin rfl rfl rfl (HE.out _ _ _)); try simp only [Act.put, List.setIfInBounds_toArray, List.set_cons_zero, List.set_cons_succ]); (refine' rv ?_ rfl rfl (by go_simp; first | done | with_reducible rfl | exact rfl); try simp only [Act.put, List.setIfInBounds_toArray, List.set_cons_zero, List.set_cons_succ]); (exact rn))))
    intro w9 hk9
    simp only [List.drop_succ_cons, List.drop_zero]
    have HB9 := Lib.hid (HB.out.trans (hk9.whole.mono HB.out.size))
    clear hk9
    go_wp2_with fail
    go_ret
    exact ⟨rfl, HB9.out⟩
theorem own_some {w : World} {B n k : Nat} {e : TypeId} {v : Value} {xs : List Value} (h : w.ownsRow B e k v (n + 1) xs) : ∃ g q, v = .slice (some ⟨g, 0, none⟩) (n + 1) q := by
  obtain ⟨hl, ⟨h0, hn⟩ | ⟨g, cap, cur, he, -⟩⟩ := h
  · omega
  · exact ⟨g, cap, he⟩
theorem enCells_one : ∀ (l : List Dw.En) (u : Value), u ∈ enCells l → u.oneCell' = true := by
  intro l u hu
  obtain ⟨e, _, he⟩ := List.mem_flatMap.1 hu
  exact (Array.all_eq_true_iff_forall_mem.1 (enC_one e)) u (by simpa using he)
def Dw.noT (l : List Dw.En) : List Dw.En := l.filter fun e => decide (e.ki ≠ 4)
theorem Dw.noT_add {l : List Dw.En} {k : Nat} {e : Dw.En} (h : l[k]? = some e) : Dw.noT (l.take (k + 1)) = if e.ki ≠ 4 then Dw.noT (l.take k) ++ [e] else Dw.noT (l.take k) := by
  unfold Dw.noT
  rw [Dw.take_snoc h, List.filter_append]
  split
  · rename_i h1
    rw [List.filter_cons, if_pos (by simpa using h1)]
    rfl
  · rename_i h1
    rw [List.filter_cons, if_neg (by simpa using h1)]
    simp
theorem Dw.noT_len (l : List Dw.En) : (Dw.noT l).length ≤ l.length := List.length_filter_le _ _
theorem Dw.noT_ki (l : List Dw.En) : ∀ e ∈ Dw.noT l, e.ki ≠ 4 := fun e he => by simpa using (List.mem_filter.1 he).2
theorem Dw.noT_ok {l : List Dw.En} (h : ∀ e ∈ l, enOk e) : ∀ e ∈ Dw.noT l, enOk e := fun e he => h e (List.mem_filter.1 he).1
theorem Dw.reset_step (G : Dw.Fli) : Dw.stepF G (Dw.sK 3) = ⟨Dw.boot G.x.f, G.out ++ [⟨0, 0, Dw.bootT G.x.f⟩]⟩ := rfl
theorem tf_r14 {t0 t1 t2 t3 t4 t5 t6 t10 t11 t12 t13 t14 t15 t16 t17 t18 t19 t20 t21 t22 t23 t24 t25 t26 t27 t28 t29 t30 t31 t32 t33 t34 t35 t36 t37 t38 t39 t40 t41 t42 t43 t44 t45 t46 t47 t48 t49 t50 t51 t52 t53 t54 t55 t56 t57 t58 t59 t60 t61 t62 t63 t64 t65 t66 t67 t68 t69 t70 t71 t72 t73 t74 t75 t76 t77 t78 t79 t80 t81 t82 t83 t84 t85 t86 t87 t88 t89 t90 t91 t92 t93 t94 : Value} {R : Exit → Act → World → Prop} {w : World} {g4 g5 na q qq K cap : Nat} {p : Option Addr} {A : Dw.Aud} {nA : Dw.St} (hK : K ≤ 1000) (b4 : w.heap[g4]? = some (.cells (audC A nA (.slice p na q)) 66)) (y14 : w.cell? ⟨g5, 14, none⟩ = some (.slice (some ⟨qq, 0, none⟩) (K + 1) cap)) (d1 : w.cell? ⟨qq, K * 8 + 1, none⟩ = some (.int .i64 0)) (hcs : ∀ i u, (stC nA).toList[i]? = some u → w.cell? ⟨qq, K * 8 + 2 + i, none⟩ = some u) (HSA : Hid (StsAt w (.slice p na q) A.ack))
    (HHA : Hid (∀ w, StsAt w (.slice p na q) A.ack → Calls Tryz.prog 22 #[(audV A nA (.slice p na q))] w fun e w' => e = .returned (.bool true) ∧ Below w.heap.size w w'))
    (hR : ∀ (v67 v68 v69 v70 v71 v72 v73 v74 v75 v76 v77 v78 v79 v80 v81 v82 v83 v84 v85 v86 v87 v88 v89 v90 v91 v92 v93 v94 : Value) (w' : World), Keep w w' → wpList Tryz.prog (opsR 14 Tryz.f9) R [] { tmps := #[t0, t1, t2, t3, .bool true, t5, t6, .pointer (some ⟨g4, 0, none⟩), .pointer (some ⟨g5, 0, none⟩), .int .i64 ((K : Int) + 1), t10, t11, t12, t13, t14, t15, t16, t17, t18, t19, t20, t21, t22, t23, t24, t25, t26, t27, t28, t29, t30, t31, t32, t33, t34, t35, t36, t37, t38, t39, t40, t41, t42, t43, t44, t45, t46, t47, t48, t49, t50, t51, t52, t53, t54, t55, t56, t57, t58, t59, t60, t61, t62, t63, t64, t65, t66, v67, v68, v69, v70, v71, v72, v73, v74, v75, v76, v77, v78, v79, v80, v81, v82, v83, v84, v85, v86, v87, v88, v89, v90, v91, v92, v93, v94], defers := [] } w') :
    (Code.region 14 (opsR 14 Tryz.f9) true).wp Tryz.prog R { tmps := #[t0, t1, t2, t3, t4, t5, t6, .pointer (some ⟨g4, 0, none⟩), .pointer (some ⟨g5, 0, none⟩), .int .i64 ((K : Int) + 1), t10, t11, t12, t13, t14, t15, t16, t17, t18, t19, t20, t21, t22, t23, t24, t25, t26, t27, t28, t29, t30, t31, t32, t33, t34, t35, t36, t37, t38, t39, t40, t41, t42, t43, t44, t45, t46, t47, t48, t49, t50, t51, t52, t53, t54, t55, t56, t57, t58, t59, t60, t61, t62, t63, t64, t65, t66, t67, t68, t69, t70, t71, t72, t73, t74, t75, t76, t77, t78, t79, t80, t81, t82, t83, t84, t85, t86, t87, t88, t89, t90, t91, t92, t93, t94], defers := [] } w := by
  have e : findR 14 Tryz.f9.body.get! = findR 14 Tryz.f9.body.get! := rfl
  conv at e => rhs; whnf
  unfold opsR
  rw [e, Option.getD_some]
  clear e
  have HR := Lib.hid hR
  clear hR
  have a1 : IntKind.i64.wrap (K : Int) = (K : Int) := IntWalk.i64_in _ (by omega)
  have a2 : wrap64 (K : Int) = (K : Int) := by clear a1; exact IntWalk.wrap64_in _ (by omega)
  have a4 : (0 : Int) ≤ (K : Int) := by clear a1 a2; omega
  have a5 : (K : Int) < (K : Int) + 1 := by clear a1 a2; omega
  have a6 : (0 : Int) < (K : Int) + 1 := by clear a1 a2; omega
  have HQ := Lib.hid (fun (u v : Operand) (w : World) => st_self nA u v w)
  refine wp_pure [0, 1, 2, 3, 4, 5, 6, 7, 8, 9, 10, 11, 12, 13, 14, 15, 16, 17, 18, 19, 20, 21, 22, 23, 24, 25, 26, 27] 28 (by kernel_rfl) (by kernel_rfl) rfl ?_
  (apply rat; (focus (intro w' hk; obtain ⟨m14,n1⟩ := look2 hk y14 d1; (refine' rv ?_ rfl rfl (by exact exec_cells (audC A nA (.slice p na q)) (cells_of (kpi hk b4)) rfl rfl (by kernel_rfl)); try simp only [Act.put, List.setIfInBounds_toArray, List.set_cons_zero, List.set_cons_succ]); (refine' rc ?_ (by exact rfl) (by exact rfl) (by go_simp; first | done | (constructor <;> with_reducible rfl) | with_reducible rfl) (by exact HHA.out w' (RowsAt.next HSA.out hk.whole)); try simp only [Act.put, List.setIfInBounds_toArray, List.set_cons_zero, List.set_cons_succ]); (iterate 11 (refine' rv ?_ rfl rfl (by go_simp; first | done | with_reducible rfl | exact rfl); try simp only [Act.put, List.setIfInBounds_toArray, List.set_cons_zero, List.set_cons_succ])); (refine' rv ?_ rfl rfl (by exact exec_cells (b := qq) (off := K * 8 + 2) (stC nA) (fun i u hi => look hk (hcs i u hi)) rfl rfl (by kernel_rfl)); try simp only [Act.put, List.setIfInBounds_toArray, List.set_cons_zero, List.set_cons_succ]); (refine' rv ?_ rfl rfl (by go_simp; first | done | with_reducible rfl | exact rfl); try simp only [Act.put, List.setIfInBounds_toArray, List.set_cons_zero, List.set_cons_succ]); (refine' rv ?_ rfl rfl (by exact exec_cells (b := g4) (off := 8) (stC nA) (cells_part (kpi hk b4) 8 (stC nA) rfl) rfl rfl (by kernel_rfl)); try simp only [Act.put, List.setIfInBounds_toArray, List.set_cons_zero, List.set_cons_succ]); (refine' rv ?_ rfl rfl (by exact exec_bin rfl rfl rfl (HQ.out _ _ _)); try simp only [Act.put, List.setIfInBounds_toArray, List.set_cons_zero, List.set_cons_succ]); (iterate 11 (refine' rv ?_ rfl rfl (by go_simp; first | done | with_reducible rfl | exact rfl); try simp only [Act.put, List.setIfInBounds_toArray, List.set_cons_zero, List.set_cons_succ])); (exact rn))))
  intro w9 hk9
  simp only [List.drop_succ_cons, List.drop_zero]
  go_wp2_with fail
  exact HR.out _ _ _ _ _ _ _ _ _ _ _ _ _ _ _ _ _ _ _ _ _ _ _ _ _ _ _ _ w9 hk9
theorem tfol_any (n : Nat) (hn8 : n < 256) (l : List Dw.En) (v : Value) (w : World) (hv : EnsAt w v l) (hn : NoneAt w) :
    Calls Tryz.prog 9 #[.int .u8 n, v] w fun e w' => e = .returned (.bool true) ∧ Below w.heap.size w w' := by
  have hB := Below.refl w.heap.size w
  have HV := Lib.hid hv
  obtain ⟨sa, cap, rfl, -, -⟩ := id hv
  clear hv
  by_cases hlen : 40 < l.length
  · have hl' : (40 : Int) < (l.length : Int) := by omega
    go_enter Tryz.func9, Tryz.ntmps9
    go_wp2_with fail
    refine (tshown_any _ (hn.next hB)).mono ?_
    rintro en wy ⟨rfl, hb⟩
    replace hB := tr hB hb
    clear hb
    go_wp2_with fail
    go_ret
    exact ⟨rfl, hB⟩
  have hl' : ¬ (40 : Int) < (l.length : Int) := by omega
  obtain ⟨m12, hm12⟩ : ∃ m, n % 12 = m := ⟨_, rfl⟩
  have hm : m12 < 12 := by omega
  have A1 := Lib.hid (show IntKind.i64.wrap (n : Int) = (n : Int) from IntWalk.i64_in _ (by omega))
  have A2 := Lib.hid (show Int.tmod (n : Int) 12 = (m12 : Int) by rw [← hm12]; rfl)
  have A3 := Lib.hid (show IntKind.i64.wrap (m12 : Int) = (m12 : Int) from IntWalk.i64_in _ (by omega))
  have A4 := Lib.hid (show IntKind.i64.wrap (1 + (m12 : Int)) = 1 + (m12 : Int) from IntWalk.i64_in _ (by omega))
  have A5 := Lib.hid (show wrap64 (1 + (m12 : Int)) = 1 + (m12 : Int) from IntWalk.wrap64_in _ (by omega))
  clear hm12 hm hn8
  go_enter Tryz.func9, Tryz.ntmps9
  go_wp2_with fail
  refine (tshown_any _ (hn.next hB)).mono ?_
  rintro en w3 ⟨rfl, hb⟩
  replace hB := tr hB hb
  clear hb
  go_wp2_with fail
  obtain ⟨V0, hV0⟩ : ∃ V, w3.alloc (.cells #[] 48) = V := ⟨_, rfl⟩
  have bO : V0.heap[w3.heap.size]? = some (.cells #[] 48) := by rw [← hV0]; exact han _ _
  have hown0 : V0.ownsRow w3.heap.size 48 11 (.slice (some ⟨w3.heap.size, 0, none⟩) 0 0) 0 (enCells []) := ⟨rfl, .inr ⟨_, 0, #[], rfl, Nat.le_refl _, bO, Nat.le_refl _, Nat.zero_le _, rfl, rfl⟩⟩
  have hb : Below w3.heap.size w3 V0 := by rw [← hV0]; exact (Below.refl _ w3).alloc (Nat.le_refl _) _
  have hB0 := tr hB hb
  have z3 : w.heap.size ≤ w3.heap.size := hB.size
  have z0 : w3.heap.size < V0.heap.size := block_lt bO
  have h0l : (0 : Int) ≤ (l.length : Int) := by omega
  clear bO hb
  try rw [hV0]
  clear hV0 hB
  go_loopw [5, 6] (fun s i wr => ∃ k g q : Nat, k ≤ l.length ∧ i = .int .i64 k ∧ s = .slice (some ⟨g, 0, none⟩) (Dw.noT (l.take k)).length q ∧ wr.ownsRow w3.heap.size 48 11 (.slice (some ⟨g, 0, none⟩) (Dw.noT (l.take k)).length q) (Dw.noT (l.take k)).length (enCells (Dw.noT (l.take k))) ∧ Below w.heap.size w wr ∧ w3.heap.size ≤ wr.heap.size) (fun _ i _ => l.length - (intOf i).toNat)
  case atStart => exact ⟨0, _, _, Nat.zero_le _, rfl, rfl, hown0, hB0, by omega⟩
  case round =>
    clear hown0 hB0 z0
    obtain ⟨k, g, q, hk, rfl, rfl, hown, hB, zw⟩ := hrel
    by_cases hlt : k < l.length
    · have hlt' : (k : Int) < (l.length : Int) := by omega
      obtain ⟨e, hce⟩ : ∃ e, l[k]? = some e := ⟨l[k], List.getElem?_eq_getElem hlt⟩
      obtain ⟨he, bb, off, hsa, kc⟩ := EnsAt.get (HV.out.next hB) hce
      subst hsa
      have k9 : wr.cell? ⟨bb, off + k * 11 + 8 + 1, none⟩ = some (.string ⟨e.p.mask.toArray⟩) := kc 9 _ rfl
      have k0 : wr.cell? ⟨bb, off + k * 11, none⟩ = some (.int .i64 e.ki) := kc 0 _ rfl
      have hs : (ByteArray.size ⟨e.p.mask.toArray⟩ : Int) = (e.p.mask.length : Int) := by simp [ByteArray.size]
      have hnx := Dw.noT_add hce
      have hnl := Dw.noT_len (l.take k)
      rw [List.length_take] at hnl
      clear he hce
      by_cases hm : 400 < e.p.mask.length
      · have hm' : (400 : Int) < (e.p.mask.length : Int) := by omega
        have HB := Lib.hid hB
        clear kc hnx hnl hown hB
        go_wp2_with fail
        go_ret
        exact ⟨rfl, HB.out⟩
      · have hm' : ¬ (400 : Int) < (e.p.mask.length : Int) := by omega
        by_cases h4 : e.ki = 4
        · have q4 : (e.ki != 4) = false := by rw [h4]; rfl
          rw [if_neg (fun h => h h4)] at hnx
          have HNX := Lib.hid hnx; have HO := Lib.hid hown; have HB := Lib.hid hB
          clear h4 hnx hown hB kc hnl
          go_wp2_with fail
          go_roundw
          case rel => exact ⟨k + 1, g, q, hlt, by go_num, by rw [HNX.out], by rw [HNX.out]; exact HO.out, HB.out, zw⟩
          case measure => first | done | (simp [intOf]; done) | (simp [intOf]; omega)
        · have q4 : (e.ki != 4) = true := by simp [h4]
          rw [if_pos h4] at hnx
          obtain ⟨T, hT⟩ : ∃ T, Dw.noT (l.take k) = T := ⟨_, rfl⟩
          rw [hT] at hnx hown hnl ⊢
          have hTl : T.length ≤ 1000 := by omega
          have HNX := Lib.hid (show enCells (Dw.noT (l.take (k + 1))) = enCells T ++ (enC e).toList by rw [hnx]; exact enCells_snoc _ _)
          have HNL := Lib.hid (show (Dw.noT (l.take (k + 1))).length = T.length + 1 by rw [hnx]; simp)
          obtain ⟨V6, hV6⟩ : ∃ V, wr.alloc (.cells (enC e) 48) = V := ⟨_, rfl⟩
          have hb6 : Below wr.heap.size wr V6 := by rw [← hV6]; exact (Below.refl _ wr).alloc (Nat.le_refl _) _
          have b6 : V6.heap[wr.heap.size]? = some (.cells (enC e) 48) := by rw [← hV6]; exact han _ _
          have how6 := own_next hown hb6
          have z6 : w3.heap.size ≤ V6.heap.size := by have := hb6.size; omega
          have HB6 := Lib.hid (tr hB hb6); have HV6 := Lib.hid hV6
          clear h4 hnx hown hb6 hB hV6 hT hnl
          go_wp2_with (first | (refine lr (t := 48) (enC e).toList.toArray kc rfl rfl rfl (by kernel_rfl) ?_) | (at_builtin; (try rw [HV6.out]); go_loud (refine append_own22 (by rfl) (by rfl) Tryz.underlying22 infoEn rfl (by decide) (by decide) how6 (by omega) z6 rfl b6 rfl rfl (enC_one _) ?_); intro v1 w5 how5 hk5))
          have HB5 := Lib.hid (HB6.out.trans (hk5.below HB6.out.size (fun j hj => by have := (own_blk how6 hj).1; omega)))
          have zz : w3.heap.size ≤ w5.heap.size := by have := hk5.size; omega
          obtain ⟨g5, q5, rfl⟩ := own_some how5
          have HO5 := Lib.hid how5
          clear hk5 how5 how6 b6 kc k9 k0 HB6 HV6
          go_wp2_with fail
          go_roundw
          case rel => exact ⟨k + 1, g5, q5, hlt, by go_num, by rw [HNL.out], by rw [HNL.out, HNX.out]; exact HO5.out, HB5.out, zz⟩
          case measure => first | done | (simp [intOf]; done) | (simp [intOf]; omega)
    · have hge : ¬ (k : Int) < (l.length : Int) := by omega
      obtain rfl : k = l.length := by omega
      rw [List.take_length] at hown ⊢
      have hmk := Dw.noT_ki l
      have hml := Dw.noT_len l
      have hmo := Dw.noT_ok HV.out.oks
      generalize Dw.noT l = m at *
      have hml2 : m.length ≤ 100 := by omega
      have hFA := fun w v hn hv => follow_any (1 + (m12 : Int)) 100 m hml2 v w hn hv
      have hBG := fun w hn => begin_any (1 + (m12 : Int)) 100 w hn
      have hRN := fun w v2 hn hv => frun_any (Dw.beginF (1 + (m12 : Int)) 100) (m ++ [Dw.sK 3]) (Dw.newF_ok (1 + (m12 : Int)) 100) (Dw.boot_legal _) (by rw [List.length_append, List.length_singleton]; omega) (Nat.zero_le _) (.slice none 0 0) v2 w hn (World.ownsRow_nil _ _ _ _) hv
      rw [Dw.runF_snoc, Dw.reset_step] at hRN
      have hnow := (Dw.fly_run m 0 (Dw.beginF (1 + (m12 : Int)) 100) Dw.aud0 (Dw.fly_begin _ _) (by omega) hmk).1.now
      have hlA := Dw.audF_len m (Dw.beginF (1 + (m12 : Int)) 100) Dw.aud0
      have hlo := Dw.out_le m (Dw.beginF (1 + (m12 : Int)) 100)
      have h00 : Dw.aud0.ack.length = 0 := rfl
      have h01 : (Dw.beginF (1 + (m12 : Int)) 100).out.length = 0 := rfl
      generalize Dw.audF (Dw.beginF (1 + (m12 : Int)) 100) Dw.aud0 m = A at *
      generalize Dw.runF (Dw.beginF (1 + (m12 : Int)) 100) m = G at *
      obtain ⟨X, o⟩ := G
      dsimp only at *
      rw [show Dw.boot X.f = ⟨X.f, Dw.bootT X.f, 0, 0, 0⟩ from rfl] at hRN
      generalize Dw.bootT X.f = nA at *
      have hlA2 : A.ack.length ≤ 1000 := by omega
      have hHA := fun va w h => holds_true hnow hlA2 va w h
      obtain ⟨K, hK⟩ : ∃ K, o.length = K := ⟨_, rfl⟩
      have HK1 := Lib.hid (show K ≤ 1000 by omega)
      have HKE := Lib.hid hK
      have HFA := Lib.hid hFA; have HBG := Lib.hid hBG; have HRN := Lib.hid hRN; have HHA := Lib.hid hHA
      have HM := Lib.hid (ens_own hown rfl hmo)
      have HMO := Lib.hid hmo; have HML := Lib.hid hml2
      have HOW := Lib.hid hown; have HB := Lib.hid hB
      clear hFA hBG hRN hnow hlA hlo h00 h01 hlA2 hHA hmk hml hml2 hmo hown hB hK
      have a1 := A1.out; have a2 := A2.out; have a3 := A3.out; have a4 := A4.out; have a5 := A5.out
      go_wp2_with fail
      refine (HFA.out _ _ (hn.next HB.out) HM.out).mono ?_
      rintro en w5 ⟨⟨va, rfl, how⟩, hb⟩
      have hB := tr HB.out hb
      have hM := own_next HOW.out hb
      obtain ⟨p, qa, rfl⟩ := own_shape22 how
      have hSA := sts_own how rfl
      have zb5 := hb.size
      clear hb HB HM HFA how HOW
      obtain ⟨V4, hV4⟩ : ∃ V, w5.alloc (.cells (audC A nA (.slice p A.ack.length qa)) 66) = V := ⟨_, rfl⟩
      have b4 : V4.heap[w5.heap.size]? = some (.cells (audC A nA (.slice p A.ack.length qa)) 66) := by rw [← hV4]; exact han _ _
      have hb : Below w5.heap.size w5 V4 := by rw [← hV4]; exact (Below.refl _ w5).alloc (Nat.le_refl _) _
      have HSA := Lib.hid (hSA.next hb); have HB := Lib.hid (tr hB hb); have HOW := Lib.hid (own_next hM hb); have HV4 := Lib.hid hV4; have H4 := Lib.hid b4
      clear hb hV4 hSA hB hM b4
      go_wp2_with (first | (refine nb rfl rfl rfl rfl (by go_simp; first | done | with_reducible rfl | exact rfl) rfl rfl (by kernel_rfl) ?_; rw [HV4.out]))
      clear HV4
      refine (HBG.out _ (hn.next HB.out)).mono ?_
      rintro en w6 ⟨rfl, hb⟩
      have hB := tr HB.out hb
      have hSA := RowsAt.next HSA.out hb
      have hM := own_next HOW.out hb
      have b4 := kp hb H4.out
      clear hb HB HOW HSA H4 HBG
      obtain ⟨V7, hV7⟩ : ∃ V, w6.alloc (.cells #[] 48) = V := ⟨_, rfl⟩
      have bO : V7.heap[w6.heap.size]? = some (.cells #[] 48) := by rw [← hV7]; exact han _ _
      have how0 : V7.ownsRow w6.heap.size 48 11 (.slice (some ⟨w6.heap.size, 0, none⟩) 0 0) 0 (enCells []) := ⟨rfl, .inr ⟨_, 0, #[], rfl, Nat.le_refl _, bO, Nat.le_refl _, Nat.zero_le _, rfl, rfl⟩⟩
      have hb67 : Below w6.heap.size w6 V7 := by rw [← hV7]; exact (Below.refl _ w6).alloc (Nat.le_refl _) _
      have z7 : w6.heap.size ≤ V7.heap.size := hb67.size
      have hM7 := own_next hM hb67
      obtain ⟨ao7, cap7, he7, -, -, hc7⟩ := slAt_own hM7
      injection he7 with he7a he7b he7c
      subst he7a
      have hnews : ∀ (j : Nat) (u : Value), (enCells m)[j]? = some u → V7.cell? ((⟨g, 0, none⟩ : Addr).add j) = some u := fun j u hj => hc7 _ rfl j u hj
      have H4 := Lib.hid b4; have HSA := Lib.hid hSA; have HB := Lib.hid hB; have HV7 := Lib.hid hV7; have HB67 := Lib.hid hb67
      have HX1 := Lib.hid (enCells_one m); have HLN := Lib.hid (enCells_len m)
      have hml := HML.out
      clear hV7 bO hM hM7 hB hSA b4 he7b he7c hc7 hb67
      go_wp2_with (first | (at_builtin; (try rw [HV7.out]); refine append_ownm (by rfl) (by rfl) Tryz.underlying22 infoEn rfl (by decide) (by decide) how0 (Nat.zero_le _) z7 rfl (show m.length ≤ 100000 by omega) rfl HLN.out hnews HX1.out ?_; intro v8 w8 how8 hk8; have z8 : w6.heap.size ≤ w8.heap.size := (by have := hk8.size; omega); have how8' := own_next how8 ((Below.refl w8.heap.size w8).alloc (Nat.le_refl _) (.cells (enC (Dw.sK 3)) 48)); have z8' : w6.heap.size ≤ (w8.alloc (.cells (enC (Dw.sK 3)) 48)).heap.size := (by simp; omega)) | (at_builtin; refine append_own22 (by rfl) (by rfl) Tryz.underlying22 infoEn rfl (by decide) (by decide) how8' (by omega) z8' rfl (han w8 (.cells (enC (Dw.sK 3)) 48)) rfl rfl (enC_one (Dw.sK 3)) ?_; intro v9 w9 how9 hk9))
      have hb69 : Below w6.heap.size w6 w9 := ((HB67.out.trans (hk8.below z7 (fun j hj => (own_blk how0 hj).1))).trans ((Below.refl w6.heap.size w8).alloc z8 _)).trans (hk9.below z8' (fun j hj => (own_blk how8' hj).1))
      have hE9 : EnsAt w9 v9 (m ++ [Dw.sK 3]) := by
        have h9 : w9.ownsRow w6.heap.size 48 11 v9 (0 + m.length + 1) (enCells (m ++ [Dw.sK 3])) := by
          rw [enCells_snoc]
          exact how9
        refine ens_own h9 (by simp) (fun e he => ?_)
        rcases List.mem_append.1 he with he | he
        · exact HMO.out e he
        · rw [List.mem_singleton] at he
          subst he
          decide
      have hB := tr HB.out hb69
      have hSA := RowsAt.next HSA.out hb69
      have b4 := kp hb69 H4.out
      clear hb69 how9 hk9 how8' how8 hk8 z8' HB67 hnews HX1 HLN HV7 H4 HSA HB how0 HMO HML
      refine (HRN.out _ _ (hn.next hB) hE9).mono ?_
      rintro en w10 ⟨⟨vr, rfl, hr⟩, hb⟩
      obtain ⟨pr, qr, hvr⟩ := reps_shape hr
      have hln : (o ++ [(⟨0, 0, nA⟩ : Dw.Rep)]).length = K + 1 := by simp [HKE.out]
      rw [hln] at hvr
      rw [hvr] at hr
      obtain ⟨qq, hqq, hc⟩ := own_get (k := K) (r := ⟨0, 0, nA⟩) hr (by rw [← HKE.out]; simp)
      rw [hqq] at hvr hr
      subst hvr
      have d1 : w10.cell? ⟨qq, K * 8 + 1, none⟩ = some (.int .i64 0) := hc 1 _ rfl
      have hcs : ∀ i u, (stC nA).toList[i]? = some u → w10.cell? ⟨qq, K * 8 + 2 + i, none⟩ = some u := fun i u hi => by
        rw [Nat.add_assoc]
        exact hc (2 + i) u (by rw [Nat.add_comm]; exact hi)
      replace hB := tr hB hb
      replace hSA := RowsAt.next hSA hb
      replace b4 := kp hb b4
      clear hb hqq hc hr hln hE9 HRN a1 a2 a3 a4 a5
      obtain ⟨V5, hV5⟩ : ∃ V, w10.alloc (.cells (fliC ⟨X.f, nA, 0, 0, 0⟩ (.slice (some ⟨qq, 0, none⟩) (K + 1) qr)) 36) = V := ⟨_, rfl⟩
      have b5 : V5.heap[w10.heap.size]? = some (.cells (fliC ⟨X.f, nA, 0, 0, 0⟩ (.slice (some ⟨qq, 0, none⟩) (K + 1) qr)) 36) := by rw [← hV5]; exact han _ _
      have hb : Below w10.heap.size w10 V5 := by rw [← hV5]; exact (Below.refl _ w10).alloc (Nat.le_refl _) _
      have y14 := (cells15 b5).2.2.2.2.2
      have D1 := Lib.hid ((hb.cell (lt_of_cell d1)).trans d1)
      have HCS := Lib.hid (fun i u hi => (hb.cell (lt_of_cell (hcs i u hi))).trans (hcs i u hi))
      have HSA := Lib.hid (RowsAt.next hSA hb); have HB := Lib.hid (tr hB hb); have HV5 := Lib.hid hV5; have H4 := Lib.hid (kp hb b4)
      clear hb hV5 hSA hB b4 b5 d1 hcs
      go_wp2_with (first | (refine nb rfl rfl rfl rfl (by go_simp; first | done | with_reducible rfl | exact rfl) rfl rfl (by kernel_rfl) ?_; rw [HV5.out]))
      clear HV5
      refine reg_swap (ops := opsR 14 Tryz.f9) ?_ (by kernel_rfl)
      refine tf_r14 HK1.out H4.out y14 D1.out HCS.out HSA (Lib.hid (fun w h => HHA.out _ w h)) ?_
      intro v67 v68 v69 v70 v71 v72 v73 v74 v75 v76 v77 v78 v79 v80 v81 v82 v83 v84 v85 v86 v87 v88 v89 v90 v91 v92 v93 v94 w12 hk12
      have HB9 := Lib.hid (HB.out.trans (hk12.whole.mono HB.out.size))
      clear H4 HSA HHA HB hk12 y14 D1 HCS
      go_wp2_with fail
      go_ret
      exact ⟨rfl, HB9.out⟩
end Go.Proofs.YtcadgecnlahkgaaGreatDoor
