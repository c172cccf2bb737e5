/- What the statement's proof stands on, part 44: HoldA20, HoldB20, HoldC20, Holds20. -/
import Derived.Test.YtnaokijcggbfdaaGreatDoorBg43
set_option linter.unusedSimpArgs false
set_option linter.unusedVariables false
set_option maxRecDepth 100000
set_option maxHeartbeats 4000000
namespace Go.Proofs.YtnaokijcggbfdaaGreatDoor
open Go.RowKit Go.Shelf
attribute [local go_sem] Oper.semAt_some
theorem holds20_lo (f : Dw.Fl) (d : Dw.Cmd) (l : List Dw.Smp) (v : Value) (hda : d.la < 18446744073709551616) (hdo : d.lo < 18446744073709551616) (hr : Dw.FlR f) (hbg : Dw.big f.a f.b = false) (hlen : ¬ (40 : Int) < (l.length : Int)) (hki : d.ki < 1) (w : World) (hv : SmsAt w v l) (hn : NoneAt w) :
    Calls Tryz.prog 4 #[flV f, cmV d, v] w fun e w' => e = .returned (.bool true) ∧ Below w.heap.size w w' := by
  have HV0 := Lib.hid hv
  obtain ⟨sa, cap, hvs, -, -⟩ := id hv
  subst hvs
  clear hv
  have hll : (0 : Int) ≤ (l.length : Int) := by omega
  obtain ⟨V, hV⟩ : ∃ V, (w.alloc (.cells (flC f) 25)).alloc (.cells (cmC d) 34) = V := ⟨_, rfl⟩
  have bF : V.heap[w.heap.size]? = some (.cells (flC f) 25) := by rw [← hV]; exact heap_alloc2_old _ _ _
  have bC : V.heap[w.heap.size + 1]? = some (.cells (cmC d) 34) := by rw [← hV]; exact heap_alloc2_new _ _ _
  have hB : Below w.heap.size w V := by rw [← hV]; exact ((Below.refl _ w).alloc (Nat.le_refl _) _).alloc (by simp) _
  have HL := Lib.hid (fun w => big20_any f w)
  have HKI := Lib.hid hki
  clear hki
  rw [hbg] at HL
  have hok := Dw.flOk_of hr hbg
  have HBt := Lib.hid (fun w hn => boot_any f hok w hn)
  have h0 := Dw.holds_boot hok
  generalize Dw.boot f = X0 at *
  have HLL := Lib.hid hlen
  clear hr hok hbg
  go_enter Tryz.func4, Tryz.ntmps4
  go_wp2_with (first | (refine lb bF rfl rfl rfl (by kernel_rfl) ?_))
  try rw [hV]
  clear hV
  refine cb (HL.out _) fun w1 hb => ?_
  replace bF := kp hb bF
  replace bC := kp hb bC
  replace hB := tr hB hb
  clear hb HL
  go_wp2_with fail
  refine cb (shown20_any _ (hn.next hB)) fun w2 hb => ?_
  replace bF := kp hb bF
  replace bC := kp hb bC
  replace hB := tr hB hb
  clear hb hlen
  go_wp2_with (first | (refine lb bF rfl rfl rfl (by kernel_rfl) ?_))
  refine cb (HBt.out _ (hn.next hB)) fun w3 hb => ?_
  replace bC := kp hb bC
  replace hB := tr hB hb
  clear hb HBt bF
  have H0 := Lib.hid h0
  clear h0
  obtain ⟨s0, hs0⟩ : ∃ s, X0.s = s := ⟨_, rfl⟩
  have bX := han w3 (.cells (suC X0) 31)
  have lbC := block_lt bC
  replace bC := hao w3 (.cells (suC X0) 31) bC
  have lzbX := hB.size
  replace hB := hB.alloc hB.size (.cells (suC X0) 31)
  obtain ⟨gX, hgX⟩ : ∃ g, w3.heap.size = g := ⟨_, rfl⟩
  obtain ⟨W1, hW1⟩ : ∃ W, w3.alloc (.cells (suC X0) 31) = W := ⟨_, rfl⟩
  rw [hW1] at bX bC hB
  rw [hgX] at bX lbC lzbX
  have vX := Lib.hid bX
  have bS := han W1 (.cells (stC s0) 27)
  have lbX := block_lt bX
  have lbC := block_lt bC
  replace bX := hao W1 (.cells (stC s0) 27) bX
  replace bC := hao W1 (.cells (stC s0) 27) bC
  have lzbS := hB.size
  replace hB := hB.alloc hB.size (.cells (stC s0) 27)
  obtain ⟨gS, hgS⟩ : ∃ g, W1.heap.size = g := ⟨_, rfl⟩
  obtain ⟨W2, hW2⟩ : ∃ W, W1.alloc (.cells (stC s0) 27) = W := ⟨_, rfl⟩
  rw [hW2] at bS bX bC hB
  rw [hgS] at bS lbX lbC lzbS
  have bV := han W2 (.cells #[.int .i64 0, .int .i64 0] 50)
  have lbS := block_lt bS
  have lbX := block_lt bX
  have lbC := block_lt bC
  replace bS := hao W2 (.cells #[.int .i64 0, .int .i64 0] 50) bS
  replace bX := hao W2 (.cells #[.int .i64 0, .int .i64 0] 50) bX
  replace bC := hao W2 (.cells #[.int .i64 0, .int .i64 0] 50) bC
  have lzbV := hB.size
  replace hB := hB.alloc hB.size (.cells #[.int .i64 0, .int .i64 0] 50)
  obtain ⟨gV, hgV⟩ : ∃ g, W2.heap.size = g := ⟨_, rfl⟩
  obtain ⟨W3, hW3⟩ : ∃ W, W2.alloc (.cells #[.int .i64 0, .int .i64 0] 50) = W := ⟨_, rfl⟩
  rw [hW3] at bV bS bX bC hB
  rw [hgV] at bV lbS lbX lbC lzbV
  have HW1 := Lib.hid hW1; have HW2 := Lib.hid hW2; have HW3 := Lib.hid hW3; have HS0 := Lib.hid hs0
  clear hW1 hW2 hW3 hs0
  go_wp2_with (first | (refine nb rfl rfl rfl rfl (by go_simp; first | done | with_reducible rfl | exact rfl) rfl rfl (by kernel_rfl) ?_; first | rw [HW1.out, hgX] | rw [HW2.out, hgS] | rw [HW3.out, hgV]) | (refine lp 27 5 (stC s0) vX.out rfl rfl rfl (by kernel_rfl) (by rw [← HS0.out]; rfl) ?_))
  clear HW1 HW2 HW3 hgX hgS hgV vX
  go_loopw [10] (fun i wr => ∃ (k : Nat) (x : Dw.Su) (vo n : Int), k ≤ l.length ∧ i = .int .i64 k ∧ Dw.Holds s0 vo n x ∧ wr.heap[gX]? = some (.cells (suC x) 31 (0, 0)) ∧ wr.heap[gS]? = some (.cells (stC s0) 27 (0, 0)) ∧ wr.heap[gV]? = some (.cells #[.int .i64 vo, .int .i64 n] 50 (0, 0)) ∧ wr.heap[w.heap.size + 1]? = some (.cells (cmC d) 34 (0, 0)) ∧ Below w.heap.size w wr) (fun i _ => l.length - (intOf i).toNat)
  case atStart => exact ⟨0, X0, 0, 0, Nat.zero_le _, rfl, by rw [← HS0.out]; exact H0.out, bX, bS, bV, bC, hB⟩
  case round =>
    clear bX bS bV bC hB H0 HS0
    obtain ⟨k, x, vo, n, hk, rfl, hg, bX, bS, bV, bC, hB⟩ := hrel
    by_cases hlt : k < l.length
    · have hlt' : (k : Int) < (l.length : Int) := by omega
      obtain ⟨c, hce⟩ : ∃ c, l[k]? = some c := ⟨l[k], List.getElem?_eq_getElem hlt⟩
      have hv := HV0.out.next hB
      obtain ⟨hcb, bb, off, hsa, k0, k1, k2⟩ := SmsAt.get hv hce
      subst hsa
      have HCE := Lib.hid hce
      clear hv hce
      have hk40 : k + 1 ≤ 40 := by have := HLL.out; omega
      obtain ⟨u, hu⟩ : ∃ u, Dw.voteI c.a c.b c.c = u := ⟨_, rfl⟩
      have HVt := Lib.hid (fun w => rvote_any c.a c.b c.c w)
      rw [hu] at HVt
      have HAd := Lib.hid (fun w => radd_any vo n u w)
      have HVd := Lib.hid (fun w => rverd_any (addV vo u) (addN vo n u) w)
      have HS := Lib.hid (fun w hn => sampleV x c.a c.b c.c hcb u hu hg.ok hg.leg w hn)
      have HW := Lib.hid (fun w => whole20_any w)
      clear hu hcb
      obtain ⟨v0, v1⟩ := cells2 bV
      have z0 := hB.size
      have HbX := Lib.hid bX; have HbS := Lib.hid bS; have HbC := Lib.hid bC; have HbV := Lib.hid bV; have HB := Lib.hid hB; have HN := Lib.hid (hn.next hB)
      clear hB bX bS bC bV
      go_wp2_with fail
      refine RT.wp_letter (fun k => k = gV) (fun k => decide (99 ≤ k)) [0,1,2,3,4,5,6] 7 8 (RT.Stored wr gV (#[.int .i64 (addV vo u), .int .i64 (addN vo n u)]) 50) rfl (by kernel_rfl) (by kernel_rfl) rfl (fun A B h hk => h.keep hk) ?_
      (apply RT.rat; (focus (intro w' w'' hk hk2; obtain ⟨i0,i1,j0,j1,j2⟩ := look5 hk v0 v1 k0 k1 k2; repeat' (first | exact RT.rn | ((first | refine' RT.rv ?_ rfl rfl rfl (by go_simp; first | done | with_reducible rfl | exact rfl) | refine' RT.rc ?_ (by exact rfl) (by exact rfl) (by exact rfl) (by go_simp; first | done | (constructor <;> with_reducible rfl) | with_reducible rfl) (by first | exact HVt.out w' | exact HAd.out w') | refine' RT.rl ?_ rfl rfl rfl (by go_simp; first | done | with_reducible rfl | exact rfl) | refine' RT.rs ?_ rfl rfl); try simp only [Act.put, List.setIfInBounds_toArray, List.set_cons_zero, List.set_cons_succ])))))
      refine RT.pl_nil ⟨rfl, RT.stb HbV.out rfl rfl rfl (by kernel_rfl), ?_⟩
      rintro W5 ⟨hk5, bV⟩
      have bX := (hk5.block _ (block_lt HbX.out) (by omega)).trans HbX.out
      have bS := (hk5.block _ (block_lt HbS.out) (by omega)).trans HbS.out
      have bC := (hk5.block _ (block_lt HbC.out) (by omega)).trans HbC.out
      have hB := HB.out.trans (hk5.below HB.out.size (fun k hk => by omega))
      simp only [List.drop_succ_cons, List.drop_zero, Act.put, List.setIfInBounds_toArray, List.set_cons_zero, List.set_cons_succ]
      clear HB HN HbX HbS HbC HbV
      clear hk5 v0 v1 HVt HAd k0 k1 k2
      go_wp2_with (first | (refine lb bV rfl rfl rfl (by kernel_rfl) ?_))
      refine cb (HVd.out _) fun w6 hb => ?_
      replace bX := kp hb bX
      replace bS := kp hb bS
      replace bC := kp hb bC
      replace bV := kp hb bV
      replace hB := tr hB hb
      clear hb HVd
      by_cases hd : verdC (addV vo u) (addN vo n u) = 0
      rotate_left
      · have hd1 : (verdC (addV vo u) (addN vo n u) != 0) = true := by simpa using hd
        clear hd
        go_wp2_with fail
        go_ret
        exact ⟨rfl, hB⟩
      have h1 := Dw.holds_sample hg hd Dw.whole
      have hd0 : (verdC (addV vo u) (addN vo n u) != 0) = false := by rw [hd]; rfl
      generalize addV vo u = vo' at *
      generalize addN vo n u = n' at *
      obtain ⟨X1, hX1⟩ : ∃ X, Dw.sampleX x u Dw.whole = X := ⟨_, rfl⟩
      rw [hX1] at HS h1
      generalize Dw.sampleE x u Dw.whole = E0 at *
      have hc := Dw.holds_command h1 d
      have HC := Lib.hid (fun w hn => scommand_any X1 d Dw.whole h1.ok h1.leg hda hdo w hn)
      obtain ⟨Y, hY⟩ : ∃ Y, Dw.commandX X1 d Dw.whole = Y := ⟨_, rfl⟩
      obtain ⟨E, hE⟩ : ∃ E, Dw.commandE X1 d Dw.whole = E := ⟨_, rfl⟩
      have hnx := hc.nx
      have href := hc.ref
      rw [hY, hE] at href HC
      rw [hY] at hnx
      have HNX := Lib.hid hnx; have HRF := Lib.hid href
      clear hc hY hE hX1 h1 hd hg hnx href
      obtain ⟨⟨x0, x1, x2, x3, x4⟩, ⟨x5, x6, x7, x8, x9, x10⟩, x11, x12, x13⟩ := cells14 bX
      obtain ⟨-, bb', off', hsa, k0, k1, k2⟩ := SmsAt.get (HV0.out.next hB) HCE.out
      cases hsa
      have HbS := Lib.hid bS; have HbV := Lib.hid bV; have HbC := Lib.hid bC; have HbX := Lib.hid bX; have HB := Lib.hid hB; have HN := Lib.hid (hn.next hB)
      clear hB bS bV bC bX
      go_wp2_with fail
      refine RT.wp_letter (fun k => k = gX) (fun k => decide (9 ≤ k)) [0,1,2,3,4,5,6,7,8,9] 10 11 (RT.Stored w6 gX (suC X1) 31) rfl (by kernel_rfl) (by kernel_rfl) rfl (fun A B h hk => h.keep hk) ?_
      (apply RT.rat; (focus (intro w' w'' hk hk2; obtain ⟨i0,i1,i2,i3,i4,i5,i6,i7⟩ := look8 hk x0 x1 x2 x3 x4 x5 x6 x7; obtain ⟨i8,i9,i10,i11,i12,i13,j0,j1⟩ := look8 hk x8 x9 x10 x11 x12 x13 k0 k1; have j2 := look hk k2; repeat' (first | exact RT.rn | ((first | refine' RT.rv ?_ rfl rfl rfl (by go_simp; first | done | with_reducible rfl | exact rfl) | refine' RT.rc ?_ (by exact rfl) (by exact rfl) (by exact rfl) (by go_simp; first | done | (constructor <;> with_reducible rfl) | with_reducible rfl) (by first | exact HW.out w' | exact HS.out w' (HN.out.keep hk)) | refine' RT.rl ?_ rfl rfl rfl (by go_simp; first | done | with_reducible rfl | exact rfl) | refine' RT.rs ?_ rfl rfl); try simp only [Act.put, List.setIfInBounds_toArray, List.set_cons_zero, List.set_cons_succ])))))
      refine RT.pl_nil ⟨rfl, RT.stb HbX.out rfl rfl rfl (by kernel_rfl), ?_⟩
      rintro W7 ⟨hk5, bX⟩
      have bS := (hk5.block _ (block_lt HbS.out) (by omega)).trans HbS.out
      have bV := (hk5.block _ (block_lt HbV.out) (by omega)).trans HbV.out
      have bC := (hk5.block _ (block_lt HbC.out) (by omega)).trans HbC.out
      have hB := HB.out.trans (hk5.below HB.out.size (fun k hk => by omega))
      simp only [List.drop_succ_cons, List.drop_zero, Act.put, List.setIfInBounds_toArray, List.set_cons_zero, List.set_cons_succ]
      clear HB HN HbS HbV HbC HbX
      clear hk5 HS HCE hd0 k0 k1 k2 x0 x1 x2 x3 x4 x5 x6 x7 x8 x9 x10 x11 x12 x13
      obtain ⟨⟨x0, x1, x2, x3, x4⟩, ⟨x5, x6, x7, x8, x9, x10⟩, x11, x12, x13⟩ := cells14 bX
      obtain ⟨d0, d1, d2, d3⟩ := cells4 bC
      have HbX := Lib.hid bX; have HbS := Lib.hid bS; have HbV := Lib.hid bV; have HbC := Lib.hid bC; have HB := Lib.hid hB; have HN := Lib.hid (hn.next hB)
      have lX7 := block_lt bX
      clear bX bS bV bC hB
      go_wp2_with fail
      refine wp_new (fun k => decide (6 ≤ k)) [0,1,2,3,4,5,6] 7 8 9 11 (suC Y) Z14 31 rfl rfl rfl rfl rfl (by kernel_rfl) (by kernel_rfl) (by kernel_rfl) (by kernel_rfl) rfl ?_
      (apply RT.rat; (focus (intro w' w'' hk hk2; obtain ⟨i0,i1,i2,i3,i4,i5,i6,i7⟩ := look8 hk x0 x1 x2 x3 x4 x5 x6 x7; obtain ⟨i8,i9,i10,i11,i12,i13,j0,j1⟩ := look8 hk x8 x9 x10 x11 x12 x13 d0 d1; obtain ⟨j2,j3⟩ := look2 hk d2 d3; repeat' (first | exact RT.rn | ((first | refine' RT.rv ?_ rfl rfl rfl (by go_simp; first | done | with_reducible rfl | exact rfl) | refine' RT.rc ?_ (by exact rfl) (by exact rfl) (by exact rfl) (by go_simp; first | done | (constructor <;> with_reducible rfl) | with_reducible rfl) (by first | exact HW.out w' | exact HC.out w' (HN.out.keep hk)) | refine' RT.rl ?_ rfl rfl rfl (by go_simp; first | done | with_reducible rfl | exact rfl) | refine' RT.rs ?_ rfl rfl); try simp only [Act.put, List.setIfInBounds_toArray, List.set_cons_zero, List.set_cons_succ])))))
      refine RT.pl_nil ⟨rfl, fun w' _ => (by go_simp), fun gY => ⟨⟨rfl, rfl, rfl⟩, ?_⟩⟩
      intro W8 hk8 hgY bY
      simp only [List.drop_succ_cons, List.drop_zero, Act.put, List.setIfInBounds_toArray, List.set_cons_zero, List.set_cons_succ]
      have bX := kpi hk8 HbX.out
      have bS := kpi hk8 HbS.out
      have bV := kpi hk8 HbV.out
      have bC := kpi hk8 HbC.out
      have hB := HB.out.trans (hk8.whole.mono HB.out.size)
      have hXY : gX < gY := Nat.lt_of_lt_of_le lX7 hgY
      clear hk8 hgY lX7 HbX HbS HbV HbC HB HN HC HW x0 x1 x2 x3 x4 x5 x6 x7 x8 x9 x10 x11 x12 x13 d0 d1 d2 d3
      have bX2 := setRow_heap W8 gX _ (suC Y) _ _ bX
      have bS2 := (setRow_other W8 gX gS (suC Y) (by omega)).trans bS
      have bV2 := (setRow_other W8 gX gV (suC Y) (by omega)).trans bV
      have bC2 := (setRow_other W8 gX (w.heap.size + 1) (suC Y) (by omega)).trans bC
      have hB2 := below_setRow hB (show w.heap.size ≤ gX by omega) (suC Y)
      obtain ⟨q0, -, -, -⟩ := cells4 bC
      obtain ⟨r0, r1, -, -, -, -⟩ := cells6 bS
      obtain ⟨-, ⟨y5, y6, -, -, -, -⟩, y11, -, -⟩ := cells14 bY
      rw [HNX.out.mo] at y5
      rw [HNX.out.ar] at y6
      have hph := HNX.out.ph
      have href := HRF.out
      have g1 := HKI.out
      clear href HRF bC bV bS hB HKI
      have HSN := Lib.hid (fun u v w => su_noself Y u v w)
      rcases hph with hph | hph
      all_goals
        rw [hph] at y11
        go_wp2_with (first | (refine lbo bY rfl rfl rfl (by kernel_rfl) ?_) | (refine lbo bX rfl rfl rfl (by kernel_rfl) ?_) | (refine sb bX rfl rfl rfl rfl (by kernel_rfl) ?_) | (refine bno (HSN.out _ _ _) rfl rfl rfl rfl ?_))
        go_roundw
        case rel => exact ⟨k + 1, Y, vo', n', hlt, by go_num, HNX.out, bX2, bS2, bV2, bC2, hB2⟩
        case measure => first | done | (simp [intOf]; done) | (simp [intOf]; omega)
    · have hge : ¬ (k : Int) < (l.length : Int) := by omega
      go_wp2_with fail
      go_ret
      exact ⟨rfl, hB⟩
theorem holds20_hi (f : Dw.Fl) (d : Dw.Cmd) (l : List Dw.Smp) (v : Value) (hda : d.la < 18446744073709551616) (hdo : d.lo < 18446744073709551616) (hr : Dw.FlR f) (hbg : Dw.big f.a f.b = false) (hlen : ¬ (40 : Int) < (l.length : Int)) (hki : 1 ≤ d.ki ∧ ¬ d.ki ≤ 3) (w : World) (hv : SmsAt w v l) (hn : NoneAt w) :
    Calls Tryz.prog 4 #[flV f, cmV d, v] w fun e w' => e = .returned (.bool true) ∧ Below w.heap.size w w' := by
  have HV0 := Lib.hid hv
  obtain ⟨sa, cap, hvs, -, -⟩ := id hv
  subst hvs
  clear hv
  have hll : (0 : Int) ≤ (l.length : Int) := by omega
  obtain ⟨V, hV⟩ : ∃ V, (w.alloc (.cells (flC f) 25)).alloc (.cells (cmC d) 34) = V := ⟨_, rfl⟩
  have bF : V.heap[w.heap.size]? = some (.cells (flC f) 25) := by rw [← hV]; exact heap_alloc2_old _ _ _
  have bC : V.heap[w.heap.size + 1]? = some (.cells (cmC d) 34) := by rw [← hV]; exact heap_alloc2_new _ _ _
  have hB : Below w.heap.size w V := by rw [← hV]; exact ((Below.refl _ w).alloc (Nat.le_refl _) _).alloc (by simp) _
  have HL := Lib.hid (fun w => big20_any f w)
  have HKI := Lib.hid hki
  clear hki
  rw [hbg] at HL
  have hok := Dw.flOk_of hr hbg
  have HBt := Lib.hid (fun w hn => boot_any f hok w hn)
  have h0 := Dw.holds_boot hok
  generalize Dw.boot f = X0 at *
  have HLL := Lib.hid hlen
  clear hr hok hbg
  go_enter Tryz.func4, Tryz.ntmps4
  go_wp2_with (first | (refine lb bF rfl rfl rfl (by kernel_rfl) ?_))
  try rw [hV]
  clear hV
  refine cb (HL.out _) fun w1 hb => ?_
  replace bF := kp hb bF
  replace bC := kp hb bC
  replace hB := tr hB hb
  clear hb HL
  go_wp2_with fail
  refine cb (shown20_any _ (hn.next hB)) fun w2 hb => ?_
  replace bF := kp hb bF
  replace bC := kp hb bC
  replace hB := tr hB hb
  clear hb hlen
  go_wp2_with (first | (refine lb bF rfl rfl rfl (by kernel_rfl) ?_))
  refine cb (HBt.out _ (hn.next hB)) fun w3 hb => ?_
  replace bC := kp hb bC
  replace hB := tr hB hb
  clear hb HBt bF
  have H0 := Lib.hid h0
  clear h0
  obtain ⟨s0, hs0⟩ : ∃ s, X0.s = s := ⟨_, rfl⟩
  have bX := han w3 (.cells (suC X0) 31)
  have lbC := block_lt bC
  replace bC := hao w3 (.cells (suC X0) 31) bC
  have lzbX := hB.size
  replace hB := hB.alloc hB.size (.cells (suC X0) 31)
  obtain ⟨gX, hgX⟩ : ∃ g, w3.heap.size = g := ⟨_, rfl⟩
  obtain ⟨W1, hW1⟩ : ∃ W, w3.alloc (.cells (suC X0) 31) = W := ⟨_, rfl⟩
  rw [hW1] at bX bC hB
  rw [hgX] at bX lbC lzbX
  have vX := Lib.hid bX
  have bS := han W1 (.cells (stC s0) 27)
  have lbX := block_lt bX
  have lbC := block_lt bC
  replace bX := hao W1 (.cells (stC s0) 27) bX
  replace bC := hao W1 (.cells (stC s0) 27) bC
  have lzbS := hB.size
  replace hB := hB.alloc hB.size (.cells (stC s0) 27)
  obtain ⟨gS, hgS⟩ : ∃ g, W1.heap.size = g := ⟨_, rfl⟩
  obtain ⟨W2, hW2⟩ : ∃ W, W1.alloc (.cells (stC s0) 27) = W := ⟨_, rfl⟩
  rw [hW2] at bS bX bC hB
  rw [hgS] at bS lbX lbC lzbS
  have bV := han W2 (.cells #[.int .i64 0, .int .i64 0] 50)
  have lbS := block_lt bS
  have lbX := block_lt bX
  have lbC := block_lt bC
  replace bS := hao W2 (.cells #[.int .i64 0, .int .i64 0] 50) bS
  replace bX := hao W2 (.cells #[.int .i64 0, .int .i64 0] 50) bX
  replace bC := hao W2 (.cells #[.int .i64 0, .int .i64 0] 50) bC
  have lzbV := hB.size
  replace hB := hB.alloc hB.size (.cells #[.int .i64 0, .int .i64 0] 50)
  obtain ⟨gV, hgV⟩ : ∃ g, W2.heap.size = g := ⟨_, rfl⟩
  obtain ⟨W3, hW3⟩ : ∃ W, W2.alloc (.cells #[.int .i64 0, .int .i64 0] 50) = W := ⟨_, rfl⟩
  rw [hW3] at bV bS bX bC hB
  rw [hgV] at bV lbS lbX lbC lzbV
  have HW1 := Lib.hid hW1; have HW2 := Lib.hid hW2; have HW3 := Lib.hid hW3; have HS0 := Lib.hid hs0
  clear hW1 hW2 hW3 hs0
  go_wp2_with (first | (refine nb rfl rfl rfl rfl (by go_simp; first | done | with_reducible rfl | exact rfl) rfl rfl (by kernel_rfl) ?_; first | rw [HW1.out, hgX] | rw [HW2.out, hgS] | rw [HW3.out, hgV]) | (refine lp 27 5 (stC s0) vX.out rfl rfl rfl (by kernel_rfl) (by rw [← HS0.out]; rfl) ?_))
  clear HW1 HW2 HW3 hgX hgS hgV vX
  go_loopw [10] (fun i wr => ∃ (k : Nat) (x : Dw.Su) (vo n : Int), k ≤ l.length ∧ i = .int .i64 k ∧ Dw.Holds s0 vo n x ∧ wr.heap[gX]? = some (.cells (suC x) 31 (0, 0)) ∧ wr.heap[gS]? = some (.cells (stC s0) 27 (0, 0)) ∧ wr.heap[gV]? = some (.cells #[.int .i64 vo, .int .i64 n] 50 (0, 0)) ∧ wr.heap[w.heap.size + 1]? = some (.cells (cmC d) 34 (0, 0)) ∧ Below w.heap.size w wr) (fun i _ => l.length - (intOf i).toNat)
  case atStart => exact ⟨0, X0, 0, 0, Nat.zero_le _, rfl, by rw [← HS0.out]; exact H0.out, bX, bS, bV, bC, hB⟩
  case round =>
    clear bX bS bV bC hB H0 HS0
    obtain ⟨k, x, vo, n, hk, rfl, hg, bX, bS, bV, bC, hB⟩ := hrel
    by_cases hlt : k < l.length
    · have hlt' : (k : Int) < (l.length : Int) := by omega
      obtain ⟨c, hce⟩ : ∃ c, l[k]? = some c := ⟨l[k], List.getElem?_eq_getElem hlt⟩
      have hv := HV0.out.next hB
      obtain ⟨hcb, bb, off, hsa, k0, k1, k2⟩ := SmsAt.get hv hce
      subst hsa
      have HCE := Lib.hid hce
      clear hv hce
      have hk40 : k + 1 ≤ 40 := by have := HLL.out; omega
      obtain ⟨u, hu⟩ : ∃ u, Dw.voteI c.a c.b c.c = u := ⟨_, rfl⟩
      have HVt := Lib.hid (fun w => rvote_any c.a c.b c.c w)
      rw [hu] at HVt
      have HAd := Lib.hid (fun w => radd_any vo n u w)
      have HVd := Lib.hid (fun w => rverd_any (addV vo u) (addN vo n u) w)
      have HS := Lib.hid (fun w hn => sampleV x c.a c.b c.c hcb u hu hg.ok hg.leg w hn)
      have HW := Lib.hid (fun w => whole20_any w)
      clear hu hcb
      obtain ⟨v0, v1⟩ := cells2 bV
      have z0 := hB.size
      have HbX := Lib.hid bX; have HbS := Lib.hid bS; have HbC := Lib.hid bC; have HbV := Lib.hid bV; have HB := Lib.hid hB; have HN := Lib.hid (hn.next hB)
      clear hB bX bS bC bV
      go_wp2_with fail
      refine RT.wp_letter (fun k => k = gV) (fun k => decide (99 ≤ k)) [0,1,2,3,4,5,6] 7 8 (RT.Stored wr gV (#[.int .i64 (addV vo u), .int .i64 (addN vo n u)]) 50) rfl (by kernel_rfl) (by kernel_rfl) rfl (fun A B h hk => h.keep hk) ?_
      (apply RT.rat; (focus (intro w' w'' hk hk2; obtain ⟨i0,i1,j0,j1,j2⟩ := look5 hk v0 v1 k0 k1 k2; repeat' (first | exact RT.rn | ((first | refine' RT.rv ?_ rfl rfl rfl (by go_simp; first | done | with_reducible rfl | exact rfl) | refine' RT.rc ?_ (by exact rfl) (by exact rfl) (by exact rfl) (by go_simp; first | done | (constructor <;> with_reducible rfl) | with_reducible rfl) (by first | exact HVt.out w' | exact HAd.out w') | refine' RT.rl ?_ rfl rfl rfl (by go_simp; first | done | with_reducible rfl | exact rfl) | refine' RT.rs ?_ rfl rfl); try simp only [Act.put, List.setIfInBounds_toArray, List.set_cons_zero, List.set_cons_succ])))))
      refine RT.pl_nil ⟨rfl, RT.stb HbV.out rfl rfl rfl (by kernel_rfl), ?_⟩
      rintro W5 ⟨hk5, bV⟩
      have bX := (hk5.block _ (block_lt HbX.out) (by omega)).trans HbX.out
      have bS := (hk5.block _ (block_lt HbS.out) (by omega)).trans HbS.out
      have bC := (hk5.block _ (block_lt HbC.out) (by omega)).trans HbC.out
      have hB := HB.out.trans (hk5.below HB.out.size (fun k hk => by omega))
      simp only [List.drop_succ_cons, List.drop_zero, Act.put, List.setIfInBounds_toArray, List.set_cons_zero, List.set_cons_succ]
      clear HB HN HbX HbS HbC HbV
      clear hk5 v0 v1 HVt HAd k0 k1 k2
      go_wp2_with (first | (refine lb bV rfl rfl rfl (by kernel_rfl) ?_))
      refine cb (HVd.out _) fun w6 hb => ?_
      replace bX := kp hb bX
      replace bS := kp hb bS
      replace bC := kp hb bC
      replace bV := kp hb bV
      replace hB := tr hB hb
      clear hb HVd
      by_cases hd : verdC (addV vo u) (addN vo n u) = 0
      rotate_left
      · have hd1 : (verdC (addV vo u) (addN vo n u) != 0) = true := by simpa using hd
        clear hd
        go_wp2_with fail
        go_ret
        exact ⟨rfl, hB⟩
      have h1 := Dw.holds_sample hg hd Dw.whole
      have hd0 : (verdC (addV vo u) (addN vo n u) != 0) = false := by rw [hd]; rfl
      generalize addV vo u = vo' at *
      generalize addN vo n u = n' at *
      obtain ⟨X1, hX1⟩ : ∃ X, Dw.sampleX x u Dw.whole = X := ⟨_, rfl⟩
      rw [hX1] at HS h1
      generalize Dw.sampleE x u Dw.whole = E0 at *
      have hc := Dw.holds_command h1 d
      have HC := Lib.hid (fun w hn => scommand_any X1 d Dw.whole h1.ok h1.leg hda hdo w hn)
      obtain ⟨Y, hY⟩ : ∃ Y, Dw.commandX X1 d Dw.whole = Y := ⟨_, rfl⟩
      obtain ⟨E, hE⟩ : ∃ E, Dw.commandE X1 d Dw.whole = E := ⟨_, rfl⟩
      have hnx := hc.nx
      have href := hc.ref
      rw [hY, hE] at href HC
      rw [hY] at hnx
      have HNX := Lib.hid hnx; have HRF := Lib.hid href
      clear hc hY hE hX1 h1 hd hg hnx href
      obtain ⟨⟨x0, x1, x2, x3, x4⟩, ⟨x5, x6, x7, x8, x9, x10⟩, x11, x12, x13⟩ := cells14 bX
      obtain ⟨-, bb', off', hsa, k0, k1, k2⟩ := SmsAt.get (HV0.out.next hB) HCE.out
      cases hsa
      have HbS := Lib.hid bS; have HbV := Lib.hid bV; have HbC := Lib.hid bC; have HbX := Lib.hid bX; have HB := Lib.hid hB; have HN := Lib.hid (hn.next hB)
      clear hB bS bV bC bX
      go_wp2_with fail
      refine RT.wp_letter (fun k => k = gX) (fun k => decide (9 ≤ k)) [0,1,2,3,4,5,6,7,8,9] 10 11 (RT.Stored w6 gX (suC X1) 31) rfl (by kernel_rfl) (by kernel_rfl) rfl (fun A B h hk => h.keep hk) ?_
      (apply RT.rat; (focus (intro w' w'' hk hk2; obtain ⟨i0,i1,i2,i3,i4,i5,i6,i7⟩ := look8 hk x0 x1 x2 x3 x4 x5 x6 x7; obtain ⟨i8,i9,i10,i11,i12,i13,j0,j1⟩ := look8 hk x8 x9 x10 x11 x12 x13 k0 k1; have j2 := look hk k2; repeat' (first | exact RT.rn | ((first | refine' RT.rv ?_ rfl rfl rfl (by go_simp; first | done | with_reducible rfl | exact rfl) | refine' RT.rc ?_ (by exact rfl) (by exact rfl) (by exact rfl) (by go_simp; first | done | (constructor <;> with_reducible rfl) | with_reducible rfl) (by first | exact HW.out w' | exact HS.out w' (HN.out.keep hk)) | refine' RT.rl ?_ rfl rfl rfl (by go_simp; first | done | with_reducible rfl | exact rfl) | refine' RT.rs ?_ rfl rfl); try simp only [Act.put, List.setIfInBounds_toArray, List.set_cons_zero, List.set_cons_succ])))))
      refine RT.pl_nil ⟨rfl, RT.stb HbX.out rfl rfl rfl (by kernel_rfl), ?_⟩
      rintro W7 ⟨hk5, bX⟩
      have bS := (hk5.block _ (block_lt HbS.out) (by omega)).trans HbS.out
      have bV := (hk5.block _ (block_lt HbV.out) (by omega)).trans HbV.out
      have bC := (hk5.block _ (block_lt HbC.out) (by omega)).trans HbC.out
      have hB := HB.out.trans (hk5.below HB.out.size (fun k hk => by omega))
      simp only [List.drop_succ_cons, List.drop_zero, Act.put, List.setIfInBounds_toArray, List.set_cons_zero, List.set_cons_succ]
      clear HB HN HbS HbV HbC HbX
      clear hk5 HS HCE hd0 k0 k1 k2 x0 x1 x2 x3 x4 x5 x6 x7 x8 x9 x10 x11 x12 x13
      obtain ⟨⟨x0, x1, x2, x3, x4⟩, ⟨x5, x6, x7, x8, x9, x10⟩, x11, x12, x13⟩ := cells14 bX
      obtain ⟨d0, d1, d2, d3⟩ := cells4 bC
      have HbX := Lib.hid bX; have HbS := Lib.hid bS; have HbV := Lib.hid bV; have HbC := Lib.hid bC; have HB := Lib.hid hB; have HN := Lib.hid (hn.next hB)
      have lX7 := block_lt bX
      clear bX bS bV bC hB
      go_wp2_with fail
      refine wp_new (fun k => decide (6 ≤ k)) [0,1,2,3,4,5,6] 7 8 9 11 (suC Y) Z14 31 rfl rfl rfl rfl rfl (by kernel_rfl) (by kernel_rfl) (by kernel_rfl) (by kernel_rfl) rfl ?_
      (apply RT.rat; (focus (intro w' w'' hk hk2; obtain ⟨i0,i1,i2,i3,i4,i5,i6,i7⟩ := look8 hk x0 x1 x2 x3 x4 x5 x6 x7; obtain ⟨i8,i9,i10,i11,i12,i13,j0,j1⟩ := look8 hk x8 x9 x10 x11 x12 x13 d0 d1; obtain ⟨j2,j3⟩ := look2 hk d2 d3; repeat' (first | exact RT.rn | ((first | refine' RT.rv ?_ rfl rfl rfl (by go_simp; first | done | with_reducible rfl | exact rfl) | refine' RT.rc ?_ (by exact rfl) (by exact rfl) (by exact rfl) (by go_simp; first | done | (constructor <;> with_reducible rfl) | with_reducible rfl) (by first | exact HW.out w' | exact HC.out w' (HN.out.keep hk)) | refine' RT.rl ?_ rfl rfl rfl (by go_simp; first | done | with_reducible rfl | exact rfl) | refine' RT.rs ?_ rfl rfl); try simp only [Act.put, List.setIfInBounds_toArray, List.set_cons_zero, List.set_cons_succ])))))
      refine RT.pl_nil ⟨rfl, fun w' _ => (by go_simp), fun gY => ⟨⟨rfl, rfl, rfl⟩, ?_⟩⟩
      intro W8 hk8 hgY bY
      simp only [List.drop_succ_cons, List.drop_zero, Act.put, List.setIfInBounds_toArray, List.set_cons_zero, List.set_cons_succ]
      have bX := kpi hk8 HbX.out
      have bS := kpi hk8 HbS.out
      have bV := kpi hk8 HbV.out
      have bC := kpi hk8 HbC.out
      have hB := HB.out.trans (hk8.whole.mono HB.out.size)
      have hXY : gX < gY := Nat.lt_of_lt_of_le lX7 hgY
      clear hk8 hgY lX7 HbX HbS HbV HbC HB HN HC HW x0 x1 x2 x3 x4 x5 x6 x7 x8 x9 x10 x11 x12 x13 d0 d1 d2 d3
      have bX2 := setRow_heap W8 gX _ (suC Y) _ _ bX
      have bS2 := (setRow_other W8 gX gS (suC Y) (by omega)).trans bS
      have bV2 := (setRow_other W8 gX gV (suC Y) (by omega)).trans bV
      have bC2 := (setRow_other W8 gX (w.heap.size + 1) (suC Y) (by omega)).trans bC
      have hB2 := below_setRow hB (show w.heap.size ≤ gX by omega) (suC Y)
      obtain ⟨q0, -, -, -⟩ := cells4 bC
      obtain ⟨r0, r1, -, -, -, -⟩ := cells6 bS
      obtain ⟨-, ⟨y5, y6, -, -, -, -⟩, y11, -, -⟩ := cells14 bY
      rw [HNX.out.mo] at y5
      rw [HNX.out.ar] at y6
      have hph := HNX.out.ph
      have href := HRF.out
      obtain ⟨g1, g20⟩ := HKI.out
      have g2 : (3 : Int) < d.ki := by omega
      have g3 : decide (d.ki ≤ 3) = false := decide_eq_false (by omega)
      clear g20
      clear href HRF bC bV bS hB HKI
      have HSN := Lib.hid (fun u v w => su_noself Y u v w)
      rcases hph with hph | hph
      all_goals
        rw [hph] at y11
        go_wp2_with (first | (refine lbo bY rfl rfl rfl (by kernel_rfl) ?_) | (refine lbo bX rfl rfl rfl (by kernel_rfl) ?_) | (refine sb bX rfl rfl rfl rfl (by kernel_rfl) ?_) | (refine bno (HSN.out _ _ _) rfl rfl rfl rfl ?_))
        go_roundw
        case rel => exact ⟨k + 1, Y, vo', n', hlt, by go_num, HNX.out, bX2, bS2, bV2, bC2, hB2⟩
        case measure => first | done | (simp [intOf]; done) | (simp [intOf]; omega)
    · have hge : ¬ (k : Int) < (l.length : Int) := by omega
      go_wp2_with fail
      go_ret
      exact ⟨rfl, hB⟩
theorem holds20_in (f : Dw.Fl) (d : Dw.Cmd) (l : List Dw.Smp) (v : Value) (hda : d.la < 18446744073709551616) (hdo : d.lo < 18446744073709551616) (hr : Dw.FlR f) (hbg : Dw.big f.a f.b = false) (hlen : ¬ (40 : Int) < (l.length : Int)) (hki : 1 ≤ d.ki ∧ d.ki ≤ 3) (w : World) (hv : SmsAt w v l) (hn : NoneAt w) :
    Calls Tryz.prog 4 #[flV f, cmV d, v] w fun e w' => e = .returned (.bool true) ∧ Below w.heap.size w w' := by
  have HV0 := Lib.hid hv
  obtain ⟨sa, cap, hvs, -, -⟩ := id hv
  subst hvs
  clear hv
  have hll : (0 : Int) ≤ (l.length : Int) := by omega
  obtain ⟨V, hV⟩ : ∃ V, (w.alloc (.cells (flC f) 25)).alloc (.cells (cmC d) 34) = V := ⟨_, rfl⟩
  have bF : V.heap[w.heap.size]? = some (.cells (flC f) 25) := by rw [← hV]; exact heap_alloc2_old _ _ _
  have bC : V.heap[w.heap.size + 1]? = some (.cells (cmC d) 34) := by rw [← hV]; exact heap_alloc2_new _ _ _
  have hB : Below w.heap.size w V := by rw [← hV]; exact ((Below.refl _ w).alloc (Nat.le_refl _) _).alloc (by simp) _
  have HL := Lib.hid (fun w => big20_any f w)
  have HKI := Lib.hid hki
  clear hki
  rw [hbg] at HL
  have hok := Dw.flOk_of hr hbg
  have HBt := Lib.hid (fun w hn => boot_any f hok w hn)
  have h0 := Dw.holds_boot hok
  generalize Dw.boot f = X0 at *
  have HLL := Lib.hid hlen
  clear hr hok hbg
  go_enter Tryz.func4, Tryz.ntmps4
  go_wp2_with (first | (refine lb bF rfl rfl rfl (by kernel_rfl) ?_))
  try rw [hV]
  clear hV
  refine cb (HL.out _) fun w1 hb => ?_
  replace bF := kp hb bF
  replace bC := kp hb bC
  replace hB := tr hB hb
  clear hb HL
  go_wp2_with fail
  refine cb (shown20_any _ (hn.next hB)) fun w2 hb => ?_
  replace bF := kp hb bF
  replace bC := kp hb bC
  replace hB := tr hB hb
  clear hb hlen
  go_wp2_with (first | (refine lb bF rfl rfl rfl (by kernel_rfl) ?_))
  refine cb (HBt.out _ (hn.next hB)) fun w3 hb => ?_
  replace bC := kp hb bC
  replace hB := tr hB hb
  clear hb HBt bF
  have H0 := Lib.hid h0
  clear h0
  obtain ⟨s0, hs0⟩ : ∃ s, X0.s = s := ⟨_, rfl⟩
  have bX := han w3 (.cells (suC X0) 31)
  have lbC := block_lt bC
  replace bC := hao w3 (.cells (suC X0) 31) bC
  have lzbX := hB.size
  replace hB := hB.alloc hB.size (.cells (suC X0) 31)
  obtain ⟨gX, hgX⟩ : ∃ g, w3.heap.size = g := ⟨_, rfl⟩
  obtain ⟨W1, hW1⟩ : ∃ W, w3.alloc (.cells (suC X0) 31) = W := ⟨_, rfl⟩
  rw [hW1] at bX bC hB
  rw [hgX] at bX lbC lzbX
  have vX := Lib.hid bX
  have bS := han W1 (.cells (stC s0) 27)
  have lbX := block_lt bX
  have lbC := block_lt bC
  replace bX := hao W1 (.cells (stC s0) 27) bX
  replace bC := hao W1 (.cells (stC s0) 27) bC
  have lzbS := hB.size
  replace hB := hB.alloc hB.size (.cells (stC s0) 27)
  obtain ⟨gS, hgS⟩ : ∃ g, W1.heap.size = g := ⟨_, rfl⟩
  obtain ⟨W2, hW2⟩ : ∃ W, W1.alloc (.cells (stC s0) 27) = W := ⟨_, rfl⟩
  rw [hW2] at bS bX bC hB
  rw [hgS] at bS lbX lbC lzbS
  have bV := han W2 (.cells #[.int .i64 0, .int .i64 0] 50)
  have lbS := block_lt bS
  have lbX := block_lt bX
  have lbC := block_lt bC
  replace bS := hao W2 (.cells #[.int .i64 0, .int .i64 0] 50) bS
  replace bX := hao W2 (.cells #[.int .i64 0, .int .i64 0] 50) bX
  replace bC := hao W2 (.cells #[.int .i64 0, .int .i64 0] 50) bC
  have lzbV := hB.size
  replace hB := hB.alloc hB.size (.cells #[.int .i64 0, .int .i64 0] 50)
  obtain ⟨gV, hgV⟩ : ∃ g, W2.heap.size = g := ⟨_, rfl⟩
  obtain ⟨W3, hW3⟩ : ∃ W, W2.alloc (.cells #[.int .i64 0, .int .i64 0] 50) = W := ⟨_, rfl⟩
  rw [hW3] at bV bS bX bC hB
  rw [hgV] at bV lbS lbX lbC lzbV
  have HW1 := Lib.hid hW1; have HW2 := Lib.hid hW2; have HW3 := Lib.hid hW3; have HS0 := Lib.hid hs0
  clear hW1 hW2 hW3 hs0
  go_wp2_with (first | (refine nb rfl rfl rfl rfl (by go_simp; first | done | with_reducible rfl | exact rfl) rfl rfl (by kernel_rfl) ?_; first | rw [HW1.out, hgX] | rw [HW2.out, hgS] | rw [HW3.out, hgV]) | (refine lp 27 5 (stC s0) vX.out rfl rfl rfl (by kernel_rfl) (by rw [← HS0.out]; rfl) ?_))
  clear HW1 HW2 HW3 hgX hgS hgV vX
  go_loopw [10] (fun i wr => ∃ (k : Nat) (x : Dw.Su) (vo n : Int), k ≤ l.length ∧ i = .int .i64 k ∧ Dw.Holds s0 vo n x ∧ wr.heap[gX]? = some (.cells (suC x) 31 (0, 0)) ∧ wr.heap[gS]? = some (.cells (stC s0) 27 (0, 0)) ∧ wr.heap[gV]? = some (.cells #[.int .i64 vo, .int .i64 n] 50 (0, 0)) ∧ wr.heap[w.heap.size + 1]? = some (.cells (cmC d) 34 (0, 0)) ∧ Below w.heap.size w wr) (fun i _ => l.length - (intOf i).toNat)
  case atStart => exact ⟨0, X0, 0, 0, Nat.zero_le _, rfl, by rw [← HS0.out]; exact H0.out, bX, bS, bV, bC, hB⟩
  case round =>
    clear bX bS bV bC hB H0 HS0
    obtain ⟨k, x, vo, n, hk, rfl, hg, bX, bS, bV, bC, hB⟩ := hrel
    by_cases hlt : k < l.length
    · have hlt' : (k : Int) < (l.length : Int) := by omega
      obtain ⟨c, hce⟩ : ∃ c, l[k]? = some c := ⟨l[k], List.getElem?_eq_getElem hlt⟩
      have hv := HV0.out.next hB
      obtain ⟨hcb, bb, off, hsa, k0, k1, k2⟩ := SmsAt.get hv hce
      subst hsa
      have HCE := Lib.hid hce
      clear hv hce
      have hk40 : k + 1 ≤ 40 := by have := HLL.out; omega
      obtain ⟨u, hu⟩ : ∃ u, Dw.voteI c.a c.b c.c = u := ⟨_, rfl⟩
      have HVt := Lib.hid (fun w => rvote_any c.a c.b c.c w)
      rw [hu] at HVt
      have HAd := Lib.hid (fun w => radd_any vo n u w)
      have HVd := Lib.hid (fun w => rverd_any (addV vo u) (addN vo n u) w)
      have HS := Lib.hid (fun w hn => sampleV x c.a c.b c.c hcb u hu hg.ok hg.leg w hn)
      have HW := Lib.hid (fun w => whole20_any w)
      clear hu hcb
      obtain ⟨v0, v1⟩ := cells2 bV
      have z0 := hB.size
      have HbX := Lib.hid bX; have HbS := Lib.hid bS; have HbC := Lib.hid bC; have HbV := Lib.hid bV; have HB := Lib.hid hB; have HN := Lib.hid (hn.next hB)
      clear hB bX bS bC bV
      go_wp2_with fail
      refine RT.wp_letter (fun k => k = gV) (fun k => decide (99 ≤ k)) [0,1,2,3,4,5,6] 7 8 (RT.Stored wr gV (#[.int .i64 (addV vo u), .int .i64 (addN vo n u)]) 50) rfl (by kernel_rfl) (by kernel_rfl) rfl (fun A B h hk => h.keep hk) ?_
      (apply RT.rat; (focus (intro w' w'' hk hk2; obtain ⟨i0,i1,j0,j1,j2⟩ := look5 hk v0 v1 k0 k1 k2; repeat' (first | exact RT.rn | ((first | refine' RT.rv ?_ rfl rfl rfl (by go_simp; first | done | with_reducible rfl | exact rfl) | refine' RT.rc ?_ (by exact rfl) (by exact rfl) (by exact rfl) (by go_simp; first | done | (constructor <;> with_reducible rfl) | with_reducible rfl) (by first | exact HVt.out w' | exact HAd.out w') | refine' RT.rl ?_ rfl rfl rfl (by go_simp; first | done | with_reducible rfl | exact rfl) | refine' RT.rs ?_ rfl rfl); try simp only [Act.put, List.setIfInBounds_toArray, List.set_cons_zero, List.set_cons_succ])))))
      refine RT.pl_nil ⟨rfl, RT.stb HbV.out rfl rfl rfl (by kernel_rfl), ?_⟩
      rintro W5 ⟨hk5, bV⟩
      have bX := (hk5.block _ (block_lt HbX.out) (by omega)).trans HbX.out
      have bS := (hk5.block _ (block_lt HbS.out) (by omega)).trans HbS.out
      have bC := (hk5.block _ (block_lt HbC.out) (by omega)).trans HbC.out
      have hB := HB.out.trans (hk5.below HB.out.size (fun k hk => by omega))
      simp only [List.drop_succ_cons, List.drop_zero, Act.put, List.setIfInBounds_toArray, List.set_cons_zero, List.set_cons_succ]
      clear HB HN HbX HbS HbC HbV
      clear hk5 v0 v1 HVt HAd k0 k1 k2
      go_wp2_with (first | (refine lb bV rfl rfl rfl (by kernel_rfl) ?_))
      refine cb (HVd.out _) fun w6 hb => ?_
      replace bX := kp hb bX
      replace bS := kp hb bS
      replace bC := kp hb bC
      replace bV := kp hb bV
      replace hB := tr hB hb
      clear hb HVd
      by_cases hd : verdC (addV vo u) (addN vo n u) = 0
      rotate_left
      · have hd1 : (verdC (addV vo u) (addN vo n u) != 0) = true := by simpa using hd
        clear hd
        go_wp2_with fail
        go_ret
        exact ⟨rfl, hB⟩
      have h1 := Dw.holds_sample hg hd Dw.whole
      have hd0 : (verdC (addV vo u) (addN vo n u) != 0) = false := by rw [hd]; rfl
      generalize addV vo u = vo' at *
      generalize addN vo n u = n' at *
      obtain ⟨X1, hX1⟩ : ∃ X, Dw.sampleX x u Dw.whole = X := ⟨_, rfl⟩
      rw [hX1] at HS h1
      generalize Dw.sampleE x u Dw.whole = E0 at *
      have hc := Dw.holds_command h1 d
      have HC := Lib.hid (fun w hn => scommand_any X1 d Dw.whole h1.ok h1.leg hda hdo w hn)
      obtain ⟨Y, hY⟩ : ∃ Y, Dw.commandX X1 d Dw.whole = Y := ⟨_, rfl⟩
      obtain ⟨E, hE⟩ : ∃ E, Dw.commandE X1 d Dw.whole = E := ⟨_, rfl⟩
      have hnx := hc.nx
      have href := hc.ref
      rw [hY, hE] at href HC
      rw [hY] at hnx
      have HNX := Lib.hid hnx; have HRF := Lib.hid href
      clear hc hY hE hX1 h1 hd hg hnx href
      obtain ⟨⟨x0, x1, x2, x3, x4⟩, ⟨x5, x6, x7, x8, x9, x10⟩, x11, x12, x13⟩ := cells14 bX
      obtain ⟨-, bb', off', hsa, k0, k1, k2⟩ := SmsAt.get (HV0.out.next hB) HCE.out
      cases hsa
      have HbS := Lib.hid bS; have HbV := Lib.hid bV; have HbC := Lib.hid bC; have HbX := Lib.hid bX; have HB := Lib.hid hB; have HN := Lib.hid (hn.next hB)
      clear hB bS bV bC bX
      go_wp2_with fail
      refine RT.wp_letter (fun k => k = gX) (fun k => decide (9 ≤ k)) [0,1,2,3,4,5,6,7,8,9] 10 11 (RT.Stored w6 gX (suC X1) 31) rfl (by kernel_rfl) (by kernel_rfl) rfl (fun A B h hk => h.keep hk) ?_
      (apply RT.rat; (focus (intro w' w'' hk hk2; obtain ⟨i0,i1,i2,i3,i4,i5,i6,i7⟩ := look8 hk x0 x1 x2 x3 x4 x5 x6 x7; obtain ⟨i8,i9,i10,i11,i12,i13,j0,j1⟩ := look8 hk x8 x9 x10 x11 x12 x13 k0 k1; have j2 := look hk k2; repeat' (first | exact RT.rn | ((first | refine' RT.rv ?_ rfl rfl rfl (by go_simp; first | done | with_reducible rfl | exact rfl) | refine' RT.rc ?_ (by exact rfl) (by exact rfl) (by exact rfl) (by go_simp; first | done | (constructor <;> with_reducible rfl) | with_reducible rfl) (by first | exact HW.out w' | exact HS.out w' (HN.out.keep hk)) | refine' RT.rl ?_ rfl rfl rfl (by go_simp; first | done | with_reducible rfl | exact rfl) | refine' RT.rs ?_ rfl rfl); try simp only [Act.put, List.setIfInBounds_toArray, List.set_cons_zero, List.set_cons_succ])))))
      refine RT.pl_nil ⟨rfl, RT.stb HbX.out rfl rfl rfl (by kernel_rfl), ?_⟩
      rintro W7 ⟨hk5, bX⟩
      have bS := (hk5.block _ (block_lt HbS.out) (by omega)).trans HbS.out
      have bV := (hk5.block _ (block_lt HbV.out) (by omega)).trans HbV.out
      have bC := (hk5.block _ (block_lt HbC.out) (by omega)).trans HbC.out
      have hB := HB.out.trans (hk5.below HB.out.size (fun k hk => by omega))
      simp only [List.drop_succ_cons, List.drop_zero, Act.put, List.setIfInBounds_toArray, List.set_cons_zero, List.set_cons_succ]
      clear HB HN HbS HbV HbC HbX
      clear hk5 HS HCE hd0 k0 k1 k2 x0 x1 x2 x3 x4 x5 x6 x7 x8 x9 x10 x11 x12 x13
      obtain ⟨⟨x0, x1, x2, x3, x4⟩, ⟨x5, x6, x7, x8, x9, x10⟩, x11, x12, x13⟩ := cells14 bX
      obtain ⟨d0, d1, d2, d3⟩ := cells4 bC
      have HbX := Lib.hid bX; have HbS := Lib.hid bS; have HbV := Lib.hid bV; have HbC := Lib.hid bC; have HB := Lib.hid hB; have HN := Lib.hid (hn.next hB)
      have lX7 := block_lt bX
      clear bX bS bV bC hB
      go_wp2_with fail
      refine wp_new (fun k => decide (6 ≤ k)) [0,1,2,3,4,5,6] 7 8 9 11 (suC Y) Z14 31 rfl rfl rfl rfl rfl (by kernel_rfl) (by kernel_rfl) (by kernel_rfl) (by kernel_rfl) rfl ?_
      (apply RT.rat; (focus (intro w' w'' hk hk2; obtain ⟨i0,i1,i2,i3,i4,i5,i6,i7⟩ := look8 hk x0 x1 x2 x3 x4 x5 x6 x7; obtain ⟨i8,i9,i10,i11,i12,i13,j0,j1⟩ := look8 hk x8 x9 x10 x11 x12 x13 d0 d1; obtain ⟨j2,j3⟩ := look2 hk d2 d3; repeat' (first | exact RT.rn | ((first | refine' RT.rv ?_ rfl rfl rfl (by go_simp; first | done | with_reducible rfl | exact rfl) | refine' RT.rc ?_ (by exact rfl) (by exact rfl) (by exact rfl) (by go_simp; first | done | (constructor <;> with_reducible rfl) | with_reducible rfl) (by first | exact HW.out w' | exact HC.out w' (HN.out.keep hk)) | refine' RT.rl ?_ rfl rfl rfl (by go_simp; first | done | with_reducible rfl | exact rfl) | refine' RT.rs ?_ rfl rfl); try simp only [Act.put, List.setIfInBounds_toArray, List.set_cons_zero, List.set_cons_succ])))))
      refine RT.pl_nil ⟨rfl, fun w' _ => (by go_simp), fun gY => ⟨⟨rfl, rfl, rfl⟩, ?_⟩⟩
      intro W8 hk8 hgY bY
      simp only [List.drop_succ_cons, List.drop_zero, Act.put, List.setIfInBounds_toArray, List.set_cons_zero, List.set_cons_succ]
      have bX := kpi hk8 HbX.out
      have bS := kpi hk8 HbS.out
      have bV := kpi hk8 HbV.out
      have bC := kpi hk8 HbC.out
      have hB := HB.out.trans (hk8.whole.mono HB.out.size)
      have hXY : gX < gY := Nat.lt_of_lt_of_le lX7 hgY
      clear hk8 hgY lX7 HbX HbS HbV HbC HB HN HC HW x0 x1 x2 x3 x4 x5 x6 x7 x8 x9 x10 x11 x12 x13 d0 d1 d2 d3
      have bX2 := setRow_heap W8 gX _ (suC Y) _ _ bX
      have bS2 := (setRow_other W8 gX gS (suC Y) (by omega)).trans bS
      have bV2 := (setRow_other W8 gX gV (suC Y) (by omega)).trans bV
      have bC2 := (setRow_other W8 gX (w.heap.size + 1) (suC Y) (by omega)).trans bC
      have hB2 := below_setRow hB (show w.heap.size ≤ gX by omega) (suC Y)
      obtain ⟨q0, -, -, -⟩ := cells4 bC
      obtain ⟨r0, r1, -, -, -, -⟩ := cells6 bS
      obtain ⟨-, ⟨y5, y6, -, -, -, -⟩, y11, -, -⟩ := cells14 bY
      rw [HNX.out.mo] at y5
      rw [HNX.out.ar] at y6
      have hph := HNX.out.ph
      have href := HRF.out
      obtain ⟨g1, g2⟩ := HKI.out
      obtain ⟨hE, g3⟩ := href ⟨g1, g2⟩
      clear href HRF bC bV bS hB HKI
      rcases hE with rfl | rfl
      all_goals
        try subst g3
        have HSN := Lib.hid (fun u v w => su_noself Y u v w)
        rcases hph with hph | hph
        all_goals
          rw [hph] at y11
          go_wp2_with (first | (refine lbo bY rfl rfl rfl (by kernel_rfl) ?_) | (refine lbo bX rfl rfl rfl (by kernel_rfl) ?_) | (refine sb bX rfl rfl rfl rfl (by kernel_rfl) ?_) | (refine bno (HSN.out _ _ _) rfl rfl rfl rfl ?_))
          go_roundw
          case rel => exact ⟨k + 1, Y, vo', n', hlt, by go_num, HNX.out, bX2, bS2, bV2, bC2, hB2⟩
          case measure => first | done | (simp [intOf]; done) | (simp [intOf]; omega)
    · have hge : ¬ (k : Int) < (l.length : Int) := by omega
      go_wp2_with fail
      go_ret
      exact ⟨rfl, hB⟩
end Go.Proofs.YtnaokijcggbfdaaGreatDoor
namespace Go.Proofs.YtnaokijcggbfdaaGreatDoor
open Go.RowKit Go.Shelf
theorem holds20_any (f : Dw.Fl) (d : Dw.Cmd) (l : List Dw.Smp) (v : Value) (hda : d.la < 18446744073709551616) (hdo : d.lo < 18446744073709551616) (hr : Dw.FlR f) (w : World) (hv : SmsAt w v l) (hn : NoneAt w) :
    Calls Tryz.prog 4 #[flV f, cmV d, v] w fun e w' => e = .returned (.bool true) ∧ Below w.heap.size w w' := by
  cases hbg : Dw.big f.a f.b
  · by_cases hlen : (40 : Int) < (l.length : Int)
    · exact holds20_long f d l v hda hdo hr hbg hlen w hv hn
    by_cases g1 : d.ki < 1
    · exact holds20_lo f d l v hda hdo hr hbg hlen g1 w hv hn
    by_cases g2 : d.ki ≤ 3
    · exact holds20_in f d l v hda hdo hr hbg hlen ⟨by omega, g2⟩ w hv hn
    · exact holds20_hi f d l v hda hdo hr hbg hlen ⟨by omega, g2⟩ w hv hn
  · exact holds20_big f d l v hda hdo hr hbg w hv hn
end Go.Proofs.YtnaokijcggbfdaaGreatDoor
