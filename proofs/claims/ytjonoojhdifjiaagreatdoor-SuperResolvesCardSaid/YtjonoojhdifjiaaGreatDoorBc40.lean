/- What the statement's proof stands on, part 40: Resol20. -/
import Derived.Test.YtjonoojhdifjiaaGreatDoorBc39
set_option linter.unusedSimpArgs false
set_option linter.unusedVariables false
set_option maxRecDepth 100000
set_option maxHeartbeats 4000000
namespace Go.Proofs.YtjonoojhdifjiaaGreatDoor
open Go.RowKit Go.Shelf
attribute [local go_sem] Oper.semAt_some
def World.size' (w : World) : Nat := w.heap.size
namespace Dw
def itE (x : Su) (v : Int) : Nat → Int
  | 0 => 0
  | k + 1 => sampleE (itS x v k) v whole
theorem itE_three (x : Su) (v : Int) : seen3E x v = itE x v 3 := rfl
theorem itE_succ (x : Su) (v : Int) (k : Nat) : itE x v (k + 1) = sampleE (itS x v k) v whole := rfl
theorem vote20c : voteI 4621819117588971520 4621819117588971520 0 = 2 := by decide +kernel
end Dw
theorem resol20_any (f : Dw.Fl) (ab : Bool) (hr : Dw.FlR f) (w : World) (hn : NoneAt w) :
    Calls Tryz.prog 7 #[flV f, .bool ab] w fun e w' => e = .returned (.bool true) ∧ Below w.heap.size w w' := by
  have b0 := han w (.cells (flC f) 25)
  have hB := (Below.refl w.heap.size w).alloc (Nat.le_refl _) (.cells (flC f) 25)
  obtain ⟨V, hV⟩ : ∃ V, w.alloc (.cells (flC f) 25) = V := ⟨_, rfl⟩
  rw [hV] at b0 hB
  have HL := Lib.hid (fun w => big20_any f w)
  have HSH := Lib.hid (fun w hn => shown20_any w hn)
  obtain ⟨bg, hbg⟩ : ∃ b, Dw.big f.a f.b = b := ⟨_, rfl⟩
  rw [hbg] at HL
  have HBG := Lib.hid hbg
  clear hbg
  cases bg
  · have hok := Dw.flOk_of hr HBG.out
    have HBt := Lib.hid (fun w hn => boot_any f hok w hn)
    have hbl := Dw.boot_legal f
    obtain ⟨ts, hts⟩ : ∃ t, Dw.boot f = ⟨f, t, 0, 0, 0⟩ := ⟨_, rfl⟩
    have hle : Dw.legal ts = true := by rw [hts] at hbl; exact hbl
    rw [hts] at HBt
    have hiso := Dw.legal_iso hle
    have HW := Lib.hid (fun w => whole20_any w)
    have HFS := Lib.hid (fun u v w => fl_self f u v w)
    clear hbl hts HBG hr
    cases ab
    · have hsee := Dw.seen_three (x := ⟨f, ts, 0, 0, 0⟩) rfl rfl (v := 1) (by decide)
      have HRS := Lib.hid (fun w => rresolve_any ts (by omega) 1 w)
      have HS := Lib.hid (fun (j : Nat) (_ : j < 3) w hn => sampleV (Dw.itS ⟨f, ts, 0, 0, 0⟩ 1 j) 0 0 0 (by decide) 1 Dw.vote20 (Dw.itS_ok 1 hok j) (Dw.itS_legal 1 hle j) w hn)
      have HK := Lib.hid (fun w hn => skept_any (Dw.itS ⟨f, ts, 0, 0, 0⟩ 1 3) (Dw.itS_ok 1 hok 3) (Dw.itS_legal 1 hle 3) w hn)
      have HI := Lib.hid (Dw.itS_succ ⟨f, ts, 0, 0, 0⟩ 1)
      have HE := Lib.hid (Dw.itE_succ ⟨f, ts, 0, 0, 0⟩ 1)
      have hres := hsee.res
      rw [Dw.itS_three, Dw.itE_three] at hres
      have h0 := Dw.itS_zero ⟨f, ts, 0, 0, 0⟩ 1
      have e0 : Dw.itE ⟨f, ts, 0, 0, 0⟩ 1 0 = 0 := rfl
      generalize Dw.itS ⟨f, ts, 0, 0, 0⟩ 1 = I at *
      generalize Dw.itE ⟨f, ts, 0, 0, 0⟩ 1 = E at *
      generalize Dw.resolveS ts 1 = R at *
      have H0 := Lib.hid h0; have E0 := Lib.hid e0; have HRE := Lib.hid hres
      clear hsee h0 e0 hres hok hle hiso
      go_enter Tryz.func7, Tryz.ntmps7
      go_wp2_with (first | (refine lb b0 rfl rfl rfl (by kernel_rfl) ?_) | (refine sb b0 rfl rfl rfl rfl (by kernel_rfl) ?_))
      refine cb (HL.out _) fun w1 hb => ?_
      replace b0 := kp hb b0
      replace hB := tr hB hb
      clear hb hV HL
      go_wp2_with fail
      refine cb (HSH.out _ (hn.next hB)) fun w2 hb => ?_
      replace b0 := kp hb b0
      replace hB := tr hB hb
      clear hb HSH
      go_wp2_with (first | (refine lb b0 rfl rfl rfl (by kernel_rfl) ?_) | (refine sb b0 rfl rfl rfl rfl (by kernel_rfl) ?_))
      refine cb (HBt.out _ (hn.next hB)) fun w3 hb => ?_
      replace b0 := kp hb b0
      replace hB := tr hB hb
      clear hb HBt
      have bX := han w3 (.cells (suC ⟨f, ts, 0, 0, 0⟩) 35)
      replace b0 := hao w3 (.cells (suC ⟨f, ts, 0, 0, 0⟩) 35) b0
      replace hB := hB.alloc hB.size (.cells (suC ⟨f, ts, 0, 0, 0⟩) 35)
      obtain ⟨gX, hgX⟩ : ∃ g, w3.heap.size = g := ⟨_, rfl⟩
      obtain ⟨W1, hW1⟩ : ∃ W, w3.alloc (.cells (suC ⟨f, ts, 0, 0, 0⟩) 35) = W := ⟨_, rfl⟩
      rw [hW1] at bX b0 hB
      rw [hgX] at bX
      have bS := han W1 (.cells (smC 0 0 0) 59)
      replace b0 := hao W1 (.cells (smC 0 0 0) 59) b0
      have lX := block_lt bX
      replace bX := hao W1 (.cells (smC 0 0 0) 59) bX
      have lB := hB.size
      replace hB := hB.alloc hB.size (.cells (smC 0 0 0) 59)
      obtain ⟨gS, hgS⟩ : ∃ g, W1.heap.size = g := ⟨_, rfl⟩
      obtain ⟨W2, hW2⟩ : ∃ W, W1.alloc (.cells (smC 0 0 0) 59) = W := ⟨_, rfl⟩
      rw [hW2] at bS bX b0 hB
      rw [hgS] at bS lX lB
      have l0 := block_lt b0
      have l0' : w.heap.size < gS := by have := hB.size; have := lB; exact Nat.lt_of_le_of_ne lB (fun h => by rw [h, bS] at b0; cases b0)
      have bX2 := (setRow_other W2 gS gX (smC 0 0 0) (by omega)).trans bX
      have b02 := (setRow_other W2 gS w.heap.size (smC 0 0 0) (by omega)).trans b0
      have bS2 := setRow_heap W2 gS _ (smC 0 0 0) _ _ bS
      have hB2 := below_setRow hB lB (smC 0 0 0)
      have bY := han W2 (.cells (suC ⟨f, ts, 0, 0, 0⟩) 35)
      have y0 := hao W2 (.cells (suC ⟨f, ts, 0, 0, 0⟩) 35) b0
      have yX := hao W2 (.cells (suC ⟨f, ts, 0, 0, 0⟩) 35) bX
      have yS := hao W2 (.cells (suC ⟨f, ts, 0, 0, 0⟩) 35) bS
      have lz := hB.size; have l1 := block_lt b0; have l2 := block_lt bX; have l3 := block_lt bS
      have yB := hB.alloc hB.size (.cells (suC ⟨f, ts, 0, 0, 0⟩) 35)
      obtain ⟨gY, hgY⟩ : ∃ g, World.size' W2 = g := ⟨_, rfl⟩
      obtain ⟨W4, hW4⟩ : ∃ W, World.alloc W2 (.cells (suC ⟨f, ts, 0, 0, 0⟩) 35) = W := ⟨_, rfl⟩
      rw [hW4] at bY y0 yX yS yB
      unfold World.size' at hgY
      rw [hgY] at bY lz l1 l2 l3
      have VX := Lib.hid bX; have VS := Lib.hid bS
      clear b0 b02 bX bX2 bS bS2 hB hB2 lX lB l0 l0'
      have HW1 := Lib.hid hW1; have HW2 := Lib.hid hW2; have HW4 := Lib.hid hW4
      clear hW1 hW2 hW4
      go_wp2_with (first | (refine nb rfl rfl rfl rfl (by go_simp; first | done | with_reducible rfl | exact rfl) rfl rfl (by kernel_rfl) ?_; first | rw [HW1.out, hgX] | rw [HW2.out, hgS] | rw [HW4.out, hgY]) | (refine lb VX.out rfl rfl rfl (by kernel_rfl) ?_) | (refine sb VX.out rfl rfl rfl rfl (by kernel_rfl) ?_) | (refine lb VS.out rfl rfl rfl (by kernel_rfl) ?_) | (refine sb VS.out rfl rfl rfl rfl (by kernel_rfl) ?_))
      clear HW1 HW2 HW4 hgX hgS hgY VX VS
      go_loopw [9, 10] (fun e i wr => ∃ j : Nat, j ≤ 3 ∧ e = .int .i64 (E j) ∧ i = .int .i64 j ∧ wr.heap[gY]? = some (.cells (suC (I j)) 35 (0, 0)) ∧ wr.heap[w.heap.size]? = some (.cells (flC f) 25 (0, 0)) ∧ wr.heap[gX]? = some (.cells (suC ⟨f, ts, 0, 0, 0⟩) 35 (0, 0)) ∧ wr.heap[gS]? = some (.cells (smC 0 0 0) 59 (0, 0)) ∧ Below w.heap.size w wr) (fun _ i _ => 3 - (intOf i).toNat)
      case atStart => exact ⟨0, Nat.zero_le _, by rw [E0.out], rfl, by rw [← H0.out]; exact bY, y0, yX, yS, yB⟩
      case round =>
        clear bY y0 yX yS yB H0 E0
        obtain ⟨j, hj, rfl, rfl, bY, b0, bX, bS, hB⟩ := hrel
        rcases (by omega : j = 0 ∨ j = 1 ∨ j = 2 ∨ j = 3) with rfl | rfl | rfl | rfl
        · have HS0 := Lib.hid (fun w hn => HS.out 0 (by decide) w hn)
          have hi := HI.out 0
          have he := HE.out 0
          rw [← hi, ← he] at HS0
          clear HS hi he HI HE HRE HRS HK HFS
          generalize E 0 = E1 at *
          obtain ⟨E2, hE2⟩ : ∃ e, E 1 = e := ⟨_, rfl⟩
          rw [hE2] at HS0
          have HE2 := Lib.hid hE2
          clear hE2
          obtain ⟨Y, hY⟩ : ∃ Y, I 1 = Y := ⟨_, rfl⟩
          rw [hY] at HS0
          have HY := Lib.hid hY
          generalize I 0 = X at *
          clear hY
          have hN := hn.next hB
          obtain ⟨⟨x0, x1, x2, x3, x4⟩, ⟨x5, x6, x7, x8, x9, x10⟩, x11, x12, x13⟩ := cells14 bY
          obtain ⟨s0, s1, s2⟩ := cells3 bS
          have HN := Lib.hid hN; have HB := Lib.hid hB; have H0 := Lib.hid b0; have H1 := Lib.hid bX; have H2 := Lib.hid bS; have H3 := Lib.hid bY
          clear hN hB b0 bX bS bY
          go_wp2_with fail
          refine RT.wp_letter (fun k => k = gY) (fun k => decide (5 ≤ k)) [0,1,2,3,4,5,6] 7 8 (RT.Stored wr gY (suC Y) 35) rfl (by kernel_rfl) (by kernel_rfl) rfl (fun A B h hk => h.keep hk) ?_
          (apply RT.rat; (focus (intro w' w'' hk hk2; obtain ⟨k0,k1,k2,k3,k4,k5,k6,k7⟩ := look8 hk x0 x1 x2 x3 x4 x5 x6 x7; obtain ⟨k8,k9,k10,k11,k12,k13,i0,i1⟩ := look8 hk x8 x9 x10 x11 x12 x13 s0 s1; have i2 := look hk s2; repeat' (first | exact RT.rn | ((first | refine' RT.rv ?_ rfl rfl rfl (by go_simp; first | done | with_reducible rfl | exact rfl) | refine' RT.rc ?_ (by exact rfl) (by exact rfl) (by exact rfl) (by go_simp; first | done | (constructor <;> with_reducible rfl) | with_reducible rfl) (by first | exact HW.out w' | exact HS0.out w' (HN.out.keep hk)) | refine' RT.rl ?_ rfl rfl rfl (by go_simp; first | done | with_reducible rfl | exact rfl) | refine' RT.rs ?_ rfl rfl); try simp only [Act.put, List.setIfInBounds_toArray, List.set_cons_zero, List.set_cons_succ])))))
          refine RT.pl_nil ⟨rfl, RT.stb H3.out rfl rfl rfl (by kernel_rfl), ?_⟩
          rintro W5 ⟨hk5, hX⟩
          have b0 := (hk5.block _ (block_lt H0.out) (by omega)).trans H0.out
          have bX := (hk5.block _ (block_lt H1.out) (by omega)).trans H1.out
          have bS := (hk5.block _ (block_lt H2.out) (by omega)).trans H2.out
          have hB := HB.out.trans (hk5.below HB.out.size (fun k hk => by omega))
          simp only [List.drop_succ_cons, List.drop_zero]
          clear hk5 x0 x1 x2 x3 x4 x5 x6 x7 x8 x9 x10 x11 x12 x13 s0 s1 s2 HN HB H0 H1 H2 H3
          have H0 := Lib.hid b0; have H1 := Lib.hid bX; have H2 := Lib.hid bS; have HX := Lib.hid hX; have HB := Lib.hid hB
          clear b0 bX bS hX hB
          go_wp2_with fail
          go_roundw
          case rel => exact ⟨1, by decide, by rw [HE2.out], rfl, by rw [HY.out]; exact HX.out, H0.out, H1.out, H2.out, HB.out⟩
          case measure => first | done | (simp [intOf]; done) | (simp [intOf]; omega)
        · have HS0 := Lib.hid (fun w hn => HS.out 1 (by decide) w hn)
          have hi := HI.out 1
          have he := HE.out 1
          rw [← hi, ← he] at HS0
          clear HS hi he HI HE HRE HRS HK HFS
          generalize E 1 = E1 at *
          obtain ⟨E2, hE2⟩ : ∃ e, E 2 = e := ⟨_, rfl⟩
          rw [hE2] at HS0
          have HE2 := Lib.hid hE2
          clear hE2
          obtain ⟨Y, hY⟩ : ∃ Y, I 2 = Y := ⟨_, rfl⟩
          rw [hY] at HS0
          have HY := Lib.hid hY
          generalize I 1 = X at *
          clear hY
          have hN := hn.next hB
          obtain ⟨⟨x0, x1, x2, x3, x4⟩, ⟨x5, x6, x7, x8, x9, x10⟩, x11, x12, x13⟩ := cells14 bY
          obtain ⟨s0, s1, s2⟩ := cells3 bS
          have HN := Lib.hid hN; have HB := Lib.hid hB; have H0 := Lib.hid b0; have H1 := Lib.hid bX; have H2 := Lib.hid bS; have H3 := Lib.hid bY
          clear hN hB b0 bX bS bY
          go_wp2_with fail
          refine RT.wp_letter (fun k => k = gY) (fun k => decide (5 ≤ k)) [0,1,2,3,4,5,6] 7 8 (RT.Stored wr gY (suC Y) 35) rfl (by kernel_rfl) (by kernel_rfl) rfl (fun A B h hk => h.keep hk) ?_
          (apply RT.rat; (focus (intro w' w'' hk hk2; obtain ⟨k0,k1,k2,k3,k4,k5,k6,k7⟩ := look8 hk x0 x1 x2 x3 x4 x5 x6 x7; obtain ⟨k8,k9,k10,k11,k12,k13,i0,i1⟩ := look8 hk x8 x9 x10 x11 x12 x13 s0 s1; have i2 := look hk s2; repeat' (first | exact RT.rn | ((first | refine' RT.rv ?_ rfl rfl rfl (by go_simp; first | done | with_reducible rfl | exact rfl) | refine' RT.rc ?_ (by exact rfl) (by exact rfl) (by exact rfl) (by go_simp; first | done | (constructor <;> with_reducible rfl) | with_reducible rfl) (by first | exact HW.out w' | exact HS0.out w' (HN.out.keep hk)) | refine' RT.rl ?_ rfl rfl rfl (by go_simp; first | done | with_reducible rfl | exact rfl) | refine' RT.rs ?_ rfl rfl); try simp only [Act.put, List.setIfInBounds_toArray, List.set_cons_zero, List.set_cons_succ])))))
          refine RT.pl_nil ⟨rfl, RT.stb H3.out rfl rfl rfl (by kernel_rfl), ?_⟩
          rintro W5 ⟨hk5, hX⟩
          have b0 := (hk5.block _ (block_lt H0.out) (by omega)).trans H0.out
          have bX := (hk5.block _ (block_lt H1.out) (by omega)).trans H1.out
          have bS := (hk5.block _ (block_lt H2.out) (by omega)).trans H2.out
          have hB := HB.out.trans (hk5.below HB.out.size (fun k hk => by omega))
          simp only [List.drop_succ_cons, List.drop_zero]
          clear hk5 x0 x1 x2 x3 x4 x5 x6 x7 x8 x9 x10 x11 x12 x13 s0 s1 s2 HN HB H0 H1 H2 H3
          have H0 := Lib.hid b0; have H1 := Lib.hid bX; have H2 := Lib.hid bS; have HX := Lib.hid hX; have HB := Lib.hid hB
          clear b0 bX bS hX hB
          go_wp2_with fail
          go_roundw
          case rel => exact ⟨2, by decide, by rw [HE2.out], rfl, by rw [HY.out]; exact HX.out, H0.out, H1.out, H2.out, HB.out⟩
          case measure => first | done | (simp [intOf]; done) | (simp [intOf]; omega)
        · have HS0 := Lib.hid (fun w hn => HS.out 2 (by decide) w hn)
          have hi := HI.out 2
          have he := HE.out 2
          rw [← hi, ← he] at HS0
          clear HS hi he HI HE HRE HRS HK HFS
          generalize E 2 = E1 at *
          obtain ⟨E2, hE2⟩ : ∃ e, E 3 = e := ⟨_, rfl⟩
          rw [hE2] at HS0
          have HE2 := Lib.hid hE2
          clear hE2
          obtain ⟨Y, hY⟩ : ∃ Y, I 3 = Y := ⟨_, rfl⟩
          rw [hY] at HS0
          have HY := Lib.hid hY
          generalize I 2 = X at *
          clear hY
          have hN := hn.next hB
          obtain ⟨⟨x0, x1, x2, x3, x4⟩, ⟨x5, x6, x7, x8, x9, x10⟩, x11, x12, x13⟩ := cells14 bY
          obtain ⟨s0, s1, s2⟩ := cells3 bS
          have HN := Lib.hid hN; have HB := Lib.hid hB; have H0 := Lib.hid b0; have H1 := Lib.hid bX; have H2 := Lib.hid bS; have H3 := Lib.hid bY
          clear hN hB b0 bX bS bY
          go_wp2_with fail
          refine RT.wp_letter (fun k => k = gY) (fun k => decide (5 ≤ k)) [0,1,2,3,4,5,6] 7 8 (RT.Stored wr gY (suC Y) 35) rfl (by kernel_rfl) (by kernel_rfl) rfl (fun A B h hk => h.keep hk) ?_
          (apply RT.rat; (focus (intro w' w'' hk hk2; obtain ⟨k0,k1,k2,k3,k4,k5,k6,k7⟩ := look8 hk x0 x1 x2 x3 x4 x5 x6 x7; obtain ⟨k8,k9,k10,k11,k12,k13,i0,i1⟩ := look8 hk x8 x9 x10 x11 x12 x13 s0 s1; have i2 := look hk s2; repeat' (first | exact RT.rn | ((first | refine' RT.rv ?_ rfl rfl rfl (by go_simp; first | done | with_reducible rfl | exact rfl) | refine' RT.rc ?_ (by exact rfl) (by exact rfl) (by exact rfl) (by go_simp; first | done | (constructor <;> with_reducible rfl) | with_reducible rfl) (by first | exact HW.out w' | exact HS0.out w' (HN.out.keep hk)) | refine' RT.rl ?_ rfl rfl rfl (by go_simp; first | done | with_reducible rfl | exact rfl) | refine' RT.rs ?_ rfl rfl); try simp only [Act.put, List.setIfInBounds_toArray, List.set_cons_zero, List.set_cons_succ])))))
          refine RT.pl_nil ⟨rfl, RT.stb H3.out rfl rfl rfl (by kernel_rfl), ?_⟩
          rintro W5 ⟨hk5, hX⟩
          have b0 := (hk5.block _ (block_lt H0.out) (by omega)).trans H0.out
          have bX := (hk5.block _ (block_lt H1.out) (by omega)).trans H1.out
          have bS := (hk5.block _ (block_lt H2.out) (by omega)).trans H2.out
          have hB := HB.out.trans (hk5.below HB.out.size (fun k hk => by omega))
          simp only [List.drop_succ_cons, List.drop_zero]
          clear hk5 x0 x1 x2 x3 x4 x5 x6 x7 x8 x9 x10 x11 x12 x13 s0 s1 s2 HN HB H0 H1 H2 H3
          have H0 := Lib.hid b0; have H1 := Lib.hid bX; have H2 := Lib.hid bS; have HX := Lib.hid hX; have HB := Lib.hid hB
          clear b0 bX bS hX hB
          go_wp2_with fail
          go_roundw
          case rel => exact ⟨3, by decide, by rw [HE2.out], rfl, by rw [HY.out]; exact HX.out, H0.out, H1.out, H2.out, HB.out⟩
          case measure => first | done | (simp [intOf]; done) | (simp [intOf]; omega)
        · rcases HRE.out with ⟨q1, q2⟩ | ⟨q1, ⟨g, q2⟩, q3⟩
          · have q2 : I 3 = ⟨f, ts, 2, 1, 3⟩ := q2
            rw [q2] at bY
            rw [q1]
            clear HI HE HS HK HRE q1 q2 bS HW
            go_wp2_with (first | (refine lp 27 5 (stC ts) bX rfl rfl rfl (by kernel_rfl) (by rfl) ?_))
            refine cb (HRS.out _) fun w5 hb => ?_
            replace b0 := kp hb b0
            replace bX := kp hb bX
            replace bY := kp hb bY
            replace hB := tr hB hb
            clear hb HRS
            have bT := han w5 (.cells (stC R) 30)
            replace b0 := hao w5 (.cells (stC R) 30) b0
            replace bX := hao w5 (.cells (stC R) 30) bX
            replace bY := hao w5 (.cells (stC R) 30) bY
            replace hB := hB.alloc hB.size (.cells (stC R) 30)
            obtain ⟨W6, hW6⟩ : ∃ W, w5.alloc (.cells (stC R) 30) = W := ⟨_, rfl⟩
            rw [hW6] at b0 bX bY bT hB
            obtain ⟨-, -, y11, -, -⟩ := cells14 bY
            go_wp2_with (first | (refine nb rfl rfl rfl rfl (by go_simp; first | done | with_reducible rfl | exact rfl) rfl rfl (by kernel_rfl) ?_; rw [hW6]) | (refine lpo 27 5 (stC ts) bY rfl rfl rfl (by kernel_rfl) (by rfl) ?_) | (refine lpo 27 5 (stC ts) bX rfl rfl rfl (by kernel_rfl) (by rfl) ?_) | (refine lpo 25 0 (flC f) bY rfl rfl rfl (by kernel_rfl) (by rfl) ?_) | (refine lbo b0 rfl rfl rfl (by kernel_rfl) ?_) | (refine bno (st_self ts _ _ _) rfl rfl rfl rfl ?_) | (refine bno (fl_self f _ _ _) rfl rfl rfl rfl ?_))
            go_ret
            exact ⟨by first | rfl | simp, hB⟩
          · have q2 : I 3 = ⟨g, R, 1, 1, 3⟩ := q2
            have HK1 := Lib.hid (show ∀ w, NoneAt w → Calls Tryz.prog 20 #[suV ⟨g, R, 1, 1, 3⟩] w (fun e w' => e = .returned (.bool true) ∧ Below w.heap.size w w') from fun w hn => by have h := HK.out w hn; rw [q3, q2] at h; exact h)
            rw [q2] at bY
            rw [q1]
            clear HI HE HS HK HRE q1 q2 q3 bS HW
            go_wp2_with (first | (refine lp 27 5 (stC ts) bX rfl rfl rfl (by kernel_rfl) (by rfl) ?_))
            refine cb (HRS.out _) fun w5 hb => ?_
            replace b0 := kp hb b0
            replace bX := kp hb bX
            replace bY := kp hb bY
            replace hB := tr hB hb
            clear hb HRS
            have bT := han w5 (.cells (stC R) 30)
            replace b0 := hao w5 (.cells (stC R) 30) b0
            replace bX := hao w5 (.cells (stC R) 30) bX
            replace bY := hao w5 (.cells (stC R) 30) bY
            replace hB := hB.alloc hB.size (.cells (stC R) 30)
            obtain ⟨W6, hW6⟩ : ∃ W, w5.alloc (.cells (stC R) 30) = W := ⟨_, rfl⟩
            rw [hW6] at b0 bX bY bT hB
            obtain ⟨-, -, y11, -, -⟩ := cells14 bY
            go_wp2_with (first | (refine nb rfl rfl rfl rfl (by go_simp; first | done | with_reducible rfl | exact rfl) rfl rfl (by kernel_rfl) ?_; rw [hW6]) | (refine lpo 27 5 (stC R) bY rfl rfl rfl (by kernel_rfl) (by rfl) ?_) | (refine lbo bT rfl rfl rfl (by kernel_rfl) ?_) | (refine lbo bY rfl rfl rfl (by kernel_rfl) ?_) | (refine bno (rst_self R _ _ _) rfl rfl rfl rfl ?_))
            refine cb (HK1.out _ (hn.next hB)) fun w7 hb => ?_
            replace hB := tr hB hb
            clear hb b0 bX bY bT y11 hW6
            go_wp2_with fail
            go_ret
            exact ⟨by first | rfl | simp, hB⟩
    · have hsee := Dw.seen_three (x := ⟨f, ts, 0, 0, 0⟩) rfl rfl (v := 2) (by decide)
      have HRS := Lib.hid (fun w => rresolve_any ts (by omega) 2 w)
      have HS := Lib.hid (fun (j : Nat) (_ : j < 3) w hn => sampleV (Dw.itS ⟨f, ts, 0, 0, 0⟩ 2 j) 4621819117588971520 4621819117588971520 0 (by decide) 2 Dw.vote20c (Dw.itS_ok 2 hok j) (Dw.itS_legal 2 hle j) w hn)
      have HK := Lib.hid (fun w hn => skept_any (Dw.itS ⟨f, ts, 0, 0, 0⟩ 2 3) (Dw.itS_ok 2 hok 3) (Dw.itS_legal 2 hle 3) w hn)
      have HI := Lib.hid (Dw.itS_succ ⟨f, ts, 0, 0, 0⟩ 2)
      have HE := Lib.hid (Dw.itE_succ ⟨f, ts, 0, 0, 0⟩ 2)
      have hres := hsee.res
      rw [Dw.itS_three, Dw.itE_three] at hres
      have h0 := Dw.itS_zero ⟨f, ts, 0, 0, 0⟩ 2
      have e0 : Dw.itE ⟨f, ts, 0, 0, 0⟩ 2 0 = 0 := rfl
      generalize Dw.itS ⟨f, ts, 0, 0, 0⟩ 2 = I at *
      generalize Dw.itE ⟨f, ts, 0, 0, 0⟩ 2 = E at *
      generalize Dw.resolveS ts 2 = R at *
      have H0 := Lib.hid h0; have E0 := Lib.hid e0; have HRE := Lib.hid hres
      clear hsee h0 e0 hres hok hle hiso
      go_enter Tryz.func7, Tryz.ntmps7
      go_wp2_with (first | (refine lb b0 rfl rfl rfl (by kernel_rfl) ?_) | (refine sb b0 rfl rfl rfl rfl (by kernel_rfl) ?_))
      refine cb (HL.out _) fun w1 hb => ?_
      replace b0 := kp hb b0
      replace hB := tr hB hb
      clear hb hV HL
      go_wp2_with fail
      refine cb (HSH.out _ (hn.next hB)) fun w2 hb => ?_
      replace b0 := kp hb b0
      replace hB := tr hB hb
      clear hb HSH
      go_wp2_with (first | (refine lb b0 rfl rfl rfl (by kernel_rfl) ?_) | (refine sb b0 rfl rfl rfl rfl (by kernel_rfl) ?_))
      refine cb (HBt.out _ (hn.next hB)) fun w3 hb => ?_
      replace b0 := kp hb b0
      replace hB := tr hB hb
      clear hb HBt
      have bX := han w3 (.cells (suC ⟨f, ts, 0, 0, 0⟩) 35)
      replace b0 := hao w3 (.cells (suC ⟨f, ts, 0, 0, 0⟩) 35) b0
      replace hB := hB.alloc hB.size (.cells (suC ⟨f, ts, 0, 0, 0⟩) 35)
      obtain ⟨gX, hgX⟩ : ∃ g, w3.heap.size = g := ⟨_, rfl⟩
      obtain ⟨W1, hW1⟩ : ∃ W, w3.alloc (.cells (suC ⟨f, ts, 0, 0, 0⟩) 35) = W := ⟨_, rfl⟩
      rw [hW1] at bX b0 hB
      rw [hgX] at bX
      have bS := han W1 (.cells (smC 0 0 0) 59)
      replace b0 := hao W1 (.cells (smC 0 0 0) 59) b0
      have lX := block_lt bX
      replace bX := hao W1 (.cells (smC 0 0 0) 59) bX
      have lB := hB.size
      replace hB := hB.alloc hB.size (.cells (smC 0 0 0) 59)
      obtain ⟨gS, hgS⟩ : ∃ g, W1.heap.size = g := ⟨_, rfl⟩
      obtain ⟨W2, hW2⟩ : ∃ W, W1.alloc (.cells (smC 0 0 0) 59) = W := ⟨_, rfl⟩
      rw [hW2] at bS bX b0 hB
      rw [hgS] at bS lX lB
      have l0 := block_lt b0
      have l0' : w.heap.size < gS := by have := hB.size; have := lB; exact Nat.lt_of_le_of_ne lB (fun h => by rw [h, bS] at b0; cases b0)
      have bX2 := (setRow_other W2 gS gX (smC 4621819117588971520 4621819117588971520 0) (by omega)).trans bX
      have b02 := (setRow_other W2 gS w.heap.size (smC 4621819117588971520 4621819117588971520 0) (by omega)).trans b0
      have bS2 := setRow_heap W2 gS _ (smC 4621819117588971520 4621819117588971520 0) _ _ bS
      have hB2 := below_setRow hB lB (smC 4621819117588971520 4621819117588971520 0)
      have bY := han (W2.setRow gS (smC 4621819117588971520 4621819117588971520 0)) (.cells (suC ⟨f, ts, 0, 0, 0⟩) 35)
      have y0 := hao (W2.setRow gS (smC 4621819117588971520 4621819117588971520 0)) (.cells (suC ⟨f, ts, 0, 0, 0⟩) 35) b02
      have yX := hao (W2.setRow gS (smC 4621819117588971520 4621819117588971520 0)) (.cells (suC ⟨f, ts, 0, 0, 0⟩) 35) bX2
      have yS := hao (W2.setRow gS (smC 4621819117588971520 4621819117588971520 0)) (.cells (suC ⟨f, ts, 0, 0, 0⟩) 35) bS2
      have lz := hB2.size; have l1 := block_lt b02; have l2 := block_lt bX2; have l3 := block_lt bS2
      have yB := hB2.alloc hB2.size (.cells (suC ⟨f, ts, 0, 0, 0⟩) 35)
      obtain ⟨gY, hgY⟩ : ∃ g, World.size' (W2.setRow gS (smC 4621819117588971520 4621819117588971520 0)) = g := ⟨_, rfl⟩
      obtain ⟨W4, hW4⟩ : ∃ W, World.alloc (W2.setRow gS (smC 4621819117588971520 4621819117588971520 0)) (.cells (suC ⟨f, ts, 0, 0, 0⟩) 35) = W := ⟨_, rfl⟩
      rw [hW4] at bY y0 yX yS yB
      unfold World.size' at hgY
      rw [hgY] at bY lz l1 l2 l3
      have VX := Lib.hid bX2; have VS := Lib.hid bS
      clear b0 b02 bX bX2 bS bS2 hB hB2 lX lB l0 l0'
      have HW1 := Lib.hid hW1; have HW2 := Lib.hid hW2; have HW4 := Lib.hid hW4
      clear hW1 hW2 hW4
      go_wp2_with (first | (refine nb rfl rfl rfl rfl (by go_simp; first | done | with_reducible rfl | exact rfl) rfl rfl (by kernel_rfl) ?_; first | rw [HW1.out, hgX] | rw [HW2.out, hgS] | rw [HW4.out, hgY]) | (refine lb VX.out rfl rfl rfl (by kernel_rfl) ?_) | (refine sb VX.out rfl rfl rfl rfl (by kernel_rfl) ?_) | (refine lb VS.out rfl rfl rfl (by kernel_rfl) ?_) | (refine sb VS.out rfl rfl rfl rfl (by kernel_rfl) ?_))
      clear HW1 HW2 HW4 hgX hgS hgY VX VS
      go_loopw [9, 10] (fun e i wr => ∃ j : Nat, j ≤ 3 ∧ e = .int .i64 (E j) ∧ i = .int .i64 j ∧ wr.heap[gY]? = some (.cells (suC (I j)) 35 (0, 0)) ∧ wr.heap[w.heap.size]? = some (.cells (flC f) 25 (0, 0)) ∧ wr.heap[gX]? = some (.cells (suC ⟨f, ts, 0, 0, 0⟩) 35 (0, 0)) ∧ wr.heap[gS]? = some (.cells (smC 4621819117588971520 4621819117588971520 0) 59 (0, 0)) ∧ Below w.heap.size w wr) (fun _ i _ => 3 - (intOf i).toNat)
      case atStart => exact ⟨0, Nat.zero_le _, by rw [E0.out], rfl, by rw [← H0.out]; exact bY, y0, yX, yS, yB⟩
      case round =>
        clear bY y0 yX yS yB H0 E0
        obtain ⟨j, hj, rfl, rfl, bY, b0, bX, bS, hB⟩ := hrel
        rcases (by omega : j = 0 ∨ j = 1 ∨ j = 2 ∨ j = 3) with rfl | rfl | rfl | rfl
        · have HS0 := Lib.hid (fun w hn => HS.out 0 (by decide) w hn)
          have hi := HI.out 0
          have he := HE.out 0
          rw [← hi, ← he] at HS0
          clear HS hi he HI HE HRE HRS HK HFS
          generalize E 0 = E1 at *
          obtain ⟨E2, hE2⟩ : ∃ e, E 1 = e := ⟨_, rfl⟩
          rw [hE2] at HS0
          have HE2 := Lib.hid hE2
          clear hE2
          obtain ⟨Y, hY⟩ : ∃ Y, I 1 = Y := ⟨_, rfl⟩
          rw [hY] at HS0
          have HY := Lib.hid hY
          generalize I 0 = X at *
          clear hY
          have hN := hn.next hB
          obtain ⟨⟨x0, x1, x2, x3, x4⟩, ⟨x5, x6, x7, x8, x9, x10⟩, x11, x12, x13⟩ := cells14 bY
          obtain ⟨s0, s1, s2⟩ := cells3 bS
          have HN := Lib.hid hN; have HB := Lib.hid hB; have H0 := Lib.hid b0; have H1 := Lib.hid bX; have H2 := Lib.hid bS; have H3 := Lib.hid bY
          clear hN hB b0 bX bS bY
          go_wp2_with fail
          refine RT.wp_letter (fun k => k = gY) (fun k => decide (5 ≤ k)) [0,1,2,3,4,5,6] 7 8 (RT.Stored wr gY (suC Y) 35) rfl (by kernel_rfl) (by kernel_rfl) rfl (fun A B h hk => h.keep hk) ?_
          (apply RT.rat; (focus (intro w' w'' hk hk2; obtain ⟨k0,k1,k2,k3,k4,k5,k6,k7⟩ := look8 hk x0 x1 x2 x3 x4 x5 x6 x7; obtain ⟨k8,k9,k10,k11,k12,k13,i0,i1⟩ := look8 hk x8 x9 x10 x11 x12 x13 s0 s1; have i2 := look hk s2; repeat' (first | exact RT.rn | ((first | refine' RT.rv ?_ rfl rfl rfl (by go_simp; first | done | with_reducible rfl | exact rfl) | refine' RT.rc ?_ (by exact rfl) (by exact rfl) (by exact rfl) (by go_simp; first | done | (constructor <;> with_reducible rfl) | with_reducible rfl) (by first | exact HW.out w' | exact HS0.out w' (HN.out.keep hk)) | refine' RT.rl ?_ rfl rfl rfl (by go_simp; first | done | with_reducible rfl | exact rfl) | refine' RT.rs ?_ rfl rfl); try simp only [Act.put, List.setIfInBounds_toArray, List.set_cons_zero, List.set_cons_succ])))))
          refine RT.pl_nil ⟨rfl, RT.stb H3.out rfl rfl rfl (by kernel_rfl), ?_⟩
          rintro W5 ⟨hk5, hX⟩
          have b0 := (hk5.block _ (block_lt H0.out) (by omega)).trans H0.out
          have bX := (hk5.block _ (block_lt H1.out) (by omega)).trans H1.out
          have bS := (hk5.block _ (block_lt H2.out) (by omega)).trans H2.out
          have hB := HB.out.trans (hk5.below HB.out.size (fun k hk => by omega))
          simp only [List.drop_succ_cons, List.drop_zero]
          clear hk5 x0 x1 x2 x3 x4 x5 x6 x7 x8 x9 x10 x11 x12 x13 s0 s1 s2 HN HB H0 H1 H2 H3
          have H0 := Lib.hid b0; have H1 := Lib.hid bX; have H2 := Lib.hid bS; have HX := Lib.hid hX; have HB := Lib.hid hB
          clear b0 bX bS hX hB
          go_wp2_with fail
          go_roundw
          case rel => exact ⟨1, by decide, by rw [HE2.out], rfl, by rw [HY.out]; exact HX.out, H0.out, H1.out, H2.out, HB.out⟩
          case measure => first | done | (simp [intOf]; done) | (simp [intOf]; omega)
        · have HS0 := Lib.hid (fun w hn => HS.out 1 (by decide) w hn)
          have hi := HI.out 1
          have he := HE.out 1
          rw [← hi, ← he] at HS0
          clear HS hi he HI HE HRE HRS HK HFS
          generalize E 1 = E1 at *
          obtain ⟨E2, hE2⟩ : ∃ e, E 2 = e := ⟨_, rfl⟩
          rw [hE2] at HS0
          have HE2 := Lib.hid hE2
          clear hE2
          obtain ⟨Y, hY⟩ : ∃ Y, I 2 = Y := ⟨_, rfl⟩
          rw [hY] at HS0
          have HY := Lib.hid hY
          generalize I 1 = X at *
          clear hY
          have hN := hn.next hB
          obtain ⟨⟨x0, x1, x2, x3, x4⟩, ⟨x5, x6, x7, x8, x9, x10⟩, x11, x12, x13⟩ := cells14 bY
          obtain ⟨s0, s1, s2⟩ := cells3 bS
          have HN := Lib.hid hN; have HB := Lib.hid hB; have H0 := Lib.hid b0; have H1 := Lib.hid bX; have H2 := Lib.hid bS; have H3 := Lib.hid bY
          clear hN hB b0 bX bS bY
          go_wp2_with fail
          refine RT.wp_letter (fun k => k = gY) (fun k => decide (5 ≤ k)) [0,1,2,3,4,5,6] 7 8 (RT.Stored wr gY (suC Y) 35) rfl (by kernel_rfl) (by kernel_rfl) rfl (fun A B h hk => h.keep hk) ?_
          (apply RT.rat; (focus (intro w' w'' hk hk2; obtain ⟨k0,k1,k2,k3,k4,k5,k6,k7⟩ := look8 hk x0 x1 x2 x3 x4 x5 x6 x7; obtain ⟨k8,k9,k10,k11,k12,k13,i0,i1⟩ := look8 hk x8 x9 x10 x11 x12 x13 s0 s1; have i2 := look hk s2; repeat' (first | exact RT.rn | ((first | refine' RT.rv ?_ rfl rfl rfl (by go_simp; first | done | with_reducible rfl | exact rfl) | refine' RT.rc ?_ (by exact rfl) (by exact rfl) (by exact rfl) (by go_simp; first | done | (constructor <;> with_reducible rfl) | with_reducible rfl) (by first | exact HW.out w' | exact HS0.out w' (HN.out.keep hk)) | refine' RT.rl ?_ rfl rfl rfl (by go_simp; first | done | with_reducible rfl | exact rfl) | refine' RT.rs ?_ rfl rfl); try simp only [Act.put, List.setIfInBounds_toArray, List.set_cons_zero, List.set_cons_succ])))))
          refine RT.pl_nil ⟨rfl, RT.stb H3.out rfl rfl rfl (by kernel_rfl), ?_⟩
          rintro W5 ⟨hk5, hX⟩
          have b0 := (hk5.block _ (block_lt H0.out) (by omega)).trans H0.out
          have bX := (hk5.block _ (block_lt H1.out) (by omega)).trans H1.out
          have bS := (hk5.block _ (block_lt H2.out) (by omega)).trans H2.out
          have hB := HB.out.trans (hk5.below HB.out.size (fun k hk => by omega))
          simp only [List.drop_succ_cons, List.drop_zero]
          clear hk5 x0 x1 x2 x3 x4 x5 x6 x7 x8 x9 x10 x11 x12 x13 s0 s1 s2 HN HB H0 H1 H2 H3
          have H0 := Lib.hid b0; have H1 := Lib.hid bX; have H2 := Lib.hid bS; have HX := Lib.hid hX; have HB := Lib.hid hB
          clear b0 bX bS hX hB
          go_wp2_with fail
          go_roundw
          case rel => exact ⟨2, by decide, by rw [HE2.out], rfl, by rw [HY.out]; exact HX.out, H0.out, H1.out, H2.out, HB.out⟩
          case measure => first | done | (simp [intOf]; done) | (simp [intOf]; omega)
        · have HS0 := Lib.hid (fun w hn => HS.out 2 (by decide) w hn)
          have hi := HI.out 2
          have he := HE.out 2
          rw [← hi, ← he] at HS0
          clear HS hi he HI HE HRE HRS HK HFS
          generalize E 2 = E1 at *
          obtain ⟨E2, hE2⟩ : ∃ e, E 3 = e := ⟨_, rfl⟩
          rw [hE2] at HS0
          have HE2 := Lib.hid hE2
          clear hE2
          obtain ⟨Y, hY⟩ : ∃ Y, I 3 = Y := ⟨_, rfl⟩
          rw [hY] at HS0
          have HY := Lib.hid hY
          generalize I 2 = X at *
          clear hY
          have hN := hn.next hB
          obtain ⟨⟨x0, x1, x2, x3, x4⟩, ⟨x5, x6, x7, x8, x9, x10⟩, x11, x12, x13⟩ := cells14 bY
          obtain ⟨s0, s1, s2⟩ := cells3 bS
          have HN := Lib.hid hN; have HB := Lib.hid hB; have H0 := Lib.hid b0; have H1 := Lib.hid bX; have H2 := Lib.hid bS; have H3 := Lib.hid bY
          clear hN hB b0 bX bS bY
          go_wp2_with fail
          refine RT.wp_letter (fun k => k = gY) (fun k => decide (5 ≤ k)) [0,1,2,3,4,5,6] 7 8 (RT.Stored wr gY (suC Y) 35) rfl (by kernel_rfl) (by kernel_rfl) rfl (fun A B h hk => h.keep hk) ?_
          (apply RT.rat; (focus (intro w' w'' hk hk2; obtain ⟨k0,k1,k2,k3,k4,k5,k6,k7⟩ := look8 hk x0 x1 x2 x3 x4 x5 x6 x7; obtain ⟨k8,k9,k10,k11,k12,k13,i0,i1⟩ := look8 hk x8 x9 x10 x11 x12 x13 s0 s1; have i2 := look hk s2; repeat' (first | exact RT.rn | ((first | refine' RT.rv ?_ rfl rfl rfl (by go_simp; first | done | with_reducible rfl | exact rfl) | refine' RT.rc ?_ (by exact rfl) (by exact rfl) (by exact rfl) (by go_simp; first | done | (constructor <;> with_reducible rfl) | with_reducible rfl) (by first | exact HW.out w' | exact HS0.out w' (HN.out.keep hk)) | refine' RT.rl ?_ rfl rfl rfl (by go_simp; first | done | with_reducible rfl | exact rfl) | refine' RT.rs ?_ rfl rfl); try simp only [Act.put, List.setIfInBounds_toArray, List.set_cons_zero, List.set_cons_succ])))))
          refine RT.pl_nil ⟨rfl, RT.stb H3.out rfl rfl rfl (by kernel_rfl), ?_⟩
          rintro W5 ⟨hk5, hX⟩
          have b0 := (hk5.block _ (block_lt H0.out) (by omega)).trans H0.out
          have bX := (hk5.block _ (block_lt H1.out) (by omega)).trans H1.out
          have bS := (hk5.block _ (block_lt H2.out) (by omega)).trans H2.out
          have hB := HB.out.trans (hk5.below HB.out.size (fun k hk => by omega))
          simp only [List.drop_succ_cons, List.drop_zero]
          clear hk5 x0 x1 x2 x3 x4 x5 x6 x7 x8 x9 x10 x11 x12 x13 s0 s1 s2 HN HB H0 H1 H2 H3
          have H0 := Lib.hid b0; have H1 := Lib.hid bX; have H2 := Lib.hid bS; have HX := Lib.hid hX; have HB := Lib.hid hB
          clear b0 bX bS hX hB
          go_wp2_with fail
          go_roundw
          case rel => exact ⟨3, by decide, by rw [HE2.out], rfl, by rw [HY.out]; exact HX.out, H0.out, H1.out, H2.out, HB.out⟩
          case measure => first | done | (simp [intOf]; done) | (simp [intOf]; omega)
        · rcases HRE.out with ⟨q1, q2⟩ | ⟨q1, ⟨g, q2⟩, q3⟩
          · have q2 : I 3 = ⟨f, ts, 2, 2, 3⟩ := q2
            rw [q2] at bY
            rw [q1]
            clear HI HE HS HK HRE q1 q2 bS HW
            go_wp2_with (first | (refine lp 27 5 (stC ts) bX rfl rfl rfl (by kernel_rfl) (by rfl) ?_))
            refine cb (HRS.out _) fun w5 hb => ?_
            replace b0 := kp hb b0
            replace bX := kp hb bX
            replace bY := kp hb bY
            replace hB := tr hB hb
            clear hb HRS
            have bT := han w5 (.cells (stC R) 30)
            replace b0 := hao w5 (.cells (stC R) 30) b0
            replace bX := hao w5 (.cells (stC R) 30) bX
            replace bY := hao w5 (.cells (stC R) 30) bY
            replace hB := hB.alloc hB.size (.cells (stC R) 30)
            obtain ⟨W6, hW6⟩ : ∃ W, w5.alloc (.cells (stC R) 30) = W := ⟨_, rfl⟩
            rw [hW6] at b0 bX bY bT hB
            obtain ⟨-, -, y11, -, -⟩ := cells14 bY
            go_wp2_with (first | (refine nb rfl rfl rfl rfl (by go_simp; first | done | with_reducible rfl | exact rfl) rfl rfl (by kernel_rfl) ?_; rw [hW6]) | (refine lpo 27 5 (stC ts) bY rfl rfl rfl (by kernel_rfl) (by rfl) ?_) | (refine lpo 27 5 (stC ts) bX rfl rfl rfl (by kernel_rfl) (by rfl) ?_) | (refine lpo 25 0 (flC f) bY rfl rfl rfl (by kernel_rfl) (by rfl) ?_) | (refine lbo b0 rfl rfl rfl (by kernel_rfl) ?_) | (refine bno (st_self ts _ _ _) rfl rfl rfl rfl ?_) | (refine bno (fl_self f _ _ _) rfl rfl rfl rfl ?_))
            go_ret
            exact ⟨by first | rfl | simp, hB⟩
          · have q2 : I 3 = ⟨g, R, 1, 2, 3⟩ := q2
            have HK1 := Lib.hid (show ∀ w, NoneAt w → Calls Tryz.prog 20 #[suV ⟨g, R, 1, 2, 3⟩] w (fun e w' => e = .returned (.bool true) ∧ Below w.heap.size w w') from fun w hn => by have h := HK.out w hn; rw [q3, q2] at h; exact h)
            rw [q2] at bY
            rw [q1]
            clear HI HE HS HK HRE q1 q2 q3 bS HW
            go_wp2_with (first | (refine lp 27 5 (stC ts) bX rfl rfl rfl (by kernel_rfl) (by rfl) ?_))
            refine cb (HRS.out _) fun w5 hb => ?_
            replace b0 := kp hb b0
            replace bX := kp hb bX
            replace bY := kp hb bY
            replace hB := tr hB hb
            clear hb HRS
            have bT := han w5 (.cells (stC R) 30)
            replace b0 := hao w5 (.cells (stC R) 30) b0
            replace bX := hao w5 (.cells (stC R) 30) bX
            replace bY := hao w5 (.cells (stC R) 30) bY
            replace hB := hB.alloc hB.size (.cells (stC R) 30)
            obtain ⟨W6, hW6⟩ : ∃ W, w5.alloc (.cells (stC R) 30) = W := ⟨_, rfl⟩
            rw [hW6] at b0 bX bY bT hB
            obtain ⟨-, -, y11, -, -⟩ := cells14 bY
            go_wp2_with (first | (refine nb rfl rfl rfl rfl (by go_simp; first | done | with_reducible rfl | exact rfl) rfl rfl (by kernel_rfl) ?_; rw [hW6]) | (refine lpo 27 5 (stC R) bY rfl rfl rfl (by kernel_rfl) (by rfl) ?_) | (refine lbo bT rfl rfl rfl (by kernel_rfl) ?_) | (refine lbo bY rfl rfl rfl (by kernel_rfl) ?_) | (refine bno (rst_self R _ _ _) rfl rfl rfl rfl ?_))
            refine cb (HK1.out _ (hn.next hB)) fun w7 hb => ?_
            replace hB := tr hB hb
            clear hb b0 bX bY bT y11 hW6
            go_wp2_with fail
            go_ret
            exact ⟨by first | rfl | simp, hB⟩
  · go_enter Tryz.func7, Tryz.ntmps7
    go_wp2_with (first | (refine lb b0 rfl rfl rfl (by kernel_rfl) ?_) | (refine sb b0 rfl rfl rfl rfl (by kernel_rfl) ?_))
    refine cb (HL.out _) fun w1 hb => ?_
    replace b0 := kp hb b0
    replace hB := tr hB hb
    clear hb hV HL
    go_wp2_with fail
    refine cb (HSH.out _ (hn.next hB)) fun wy hb => ?_
    replace hB := tr hB hb
    clear hb
    go_wp2_with fail
    go_ret
    exact ⟨rfl, hB⟩
end Go.Proofs.YtjonoojhdifjiaaGreatDoor
