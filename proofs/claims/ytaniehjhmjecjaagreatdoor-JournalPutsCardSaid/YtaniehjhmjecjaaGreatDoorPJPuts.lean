/- The walk of JournalPuts. -/
import Derived.Test.YtaniehjhmjecjaaGreatDoorPRWear
import Derived.Test.YtaniehjhmjecjaaGreatDoorP20
import Derived.Test.YtaniehjhmjecjaaGreatDoorPPlainOne
import Derived.Test.YtaniehjhmjecjaaGreatDoorPEq12
namespace Go.Proofs.YtaniehjhmjecjaaGreatDoor
open Go.RowKit Go.Shelf
attribute [local go_sem] Oper.semAt_some

theorem put_parts (f : Dw.Fl) (s : Dw.Stp) : ∃ g ack er, putV f s = .tuple #[flV g, .bool ack, .int .i64 er] := by
  unfold putV
  split
  · exact ⟨_, _, _, rfl⟩
  · exact ⟨_, _, _, rfl⟩
set_option maxRecDepth 100000 in
set_option maxHeartbeats 4000000 in
theorem jputs_any (f : Dw.Fl) (hr : Dw.FlRange2 f) (s : Dw.Stp) (hd : s.data < 18446744073709551616) (w : World) (hn : NoneAt w) :
    Calls Tryz.prog 6 #[flV f, stpV s] w fun e w' => e = .returned (.bool true) ∧ Below w.heap.size w w' := by
  obtain ⟨V, hV⟩ : ∃ V, ((w.alloc (.cells (flashC f.a f.b f.e0 f.e1 f.li) 25)).alloc (.cells (stpC s) 49)).alloc (.cells (stpC s) 49) = V := ⟨_, rfl⟩
  obtain ⟨vz, hB, hF, hS, hA⟩ := alloc3 w _ _ _ V hV
  have b0 := heap_alloc2_old w (.cells (flashC f.a f.b f.e0 f.e1 f.li) 25) (.cells (stpC s) 49)
  have b1 := heap_alloc2_new w (.cells (flashC f.a f.b f.e0 f.e1 f.li) 25) (.cells (stpC s) 49)
  obtain ⟨c0, c1, c2, c3, c4⟩ := cells5 b0
  obtain ⟨s0, s1, s2⟩ := cells3 b1
  have HR := Lib.hid hr; have HD := Lib.hid hd; have HN := Lib.hid hn; have HV := Lib.hid hV
  have HF := Lib.hid hF; have HS := Lib.hid hS; have HA := Lib.hid hA; have HB := Lib.hid hB
  clear hr hd b0 b1 hV hF hS hA hB vz
  go_enter Tryz.func6, Tryz.ntmps6
  go_wp2_with fail
  rw [HV.out]
  refine (big12_any f [s] _ _ (one_at HD.out HA.out)).mono ?_
  rintro e w1 ⟨rfl, hb⟩
  have hF := (hb.block _ (block_lt HF.out)).trans HF.out
  have hS := (hb.block _ (block_lt HS.out)).trans HS.out
  have hB := HB.out.trans (hb.mono HB.out.size)
  clear hb HF HS HB HA HV c0 c1 c2 c3 c4 s0 s1 s2
  cases hbig : Dw.big12 f [s]
  · obtain ⟨ha, hb', _⟩ := Dw.not_big hbig
    have hmk := Dw.big_mask hbig s (by simp)
    have hok : Dw.FlOk f := ⟨ha, hb', HR.out.1.1, HR.out.1.2.1, HR.out.1.2.2⟩
    have HP := Lib.hid (fun w hn => put12_any f hok s HD.out w hn)
    have HQ := Lib.hid (fun w => rput12_any f hok s HD.out (by omega) w)
    have HW1 := Lib.hid (fun w => wearW_any f HR.out w)
    have HW2 := Lib.hid (fun w => rwear_any f w)
    obtain ⟨g, ack, er, hp⟩ := put_parts f s
    rw [hp] at HP HQ
    clear hp ha hb' hmk hok hbig
    generalize IntKind.i64.wrap (f.e0 + f.e1) = S at *
    have HF := Lib.hid hF; have HS := Lib.hid hS; have HB := Lib.hid hB
    clear hF hS hB
    go_wp2_with fail
    refine (shown12_any _ (HN.out.next HB.out)).mono ?_
    rintro e w2 ⟨rfl, hb⟩
    have hF := (hb.block _ (block_lt HF.out)).trans HF.out
    have hS := (hb.block _ (block_lt HS.out)).trans HS.out
    have hB := HB.out.trans (hb.mono HB.out.size)
    clear hb HF HS HB
    obtain ⟨c0, c1, c2, c3, c4⟩ := cells5 hF
    obtain ⟨s0, s1, s2⟩ := cells3 hS
    have HF := Lib.hid hF; have HS := Lib.hid hS; have HB := Lib.hid hB
    clear hF hS hB
    go_wp2_with fail
    refine (HP.out _ (HN.out.next HB.out)).mono ?_
    rintro e w3 ⟨rfl, hb⟩
    have hF := (hb.block _ (block_lt HF.out)).trans HF.out
    have hS := (hb.block _ (block_lt HS.out)).trans HS.out
    have hB := HB.out.trans (hb.mono HB.out.size)
    clear hb HF HS HB c0 c1 c2 c3 c4 s0 s1 s2
    have hG := heap_alloc_new w3 (.cells (flashC g.a g.b g.e0 g.e1 g.li) 25)
    replace hF := (heap_alloc_old w3 (.cells (flashC g.a g.b g.e0 g.e1 g.li) 25) _ (block_lt hF)).trans hF
    replace hS := (heap_alloc_old w3 (.cells (flashC g.a g.b g.e0 g.e1 g.li) 25) _ (block_lt hS)).trans hS
    replace hB := hB.alloc hB.size (.cells (flashC g.a g.b g.e0 g.e1 g.li) 25)
    obtain ⟨c0, c1, c2, c3, c4⟩ := cells5 hF
    obtain ⟨s0, s1, s2⟩ := cells3 hS
    have HF := Lib.hid hF; have HS := Lib.hid hS; have HB := Lib.hid hB; have HG := Lib.hid hG
    clear hF hS hB hG
    go_wp2_with fail
    generalize w3.alloc _ = W3 at *
    generalize w3.heap.size = g3 at *
    refine (HQ.out _).mono ?_
    rintro e w4 ⟨rfl, hb⟩
    have hF := (hb.block _ (block_lt HF.out)).trans HF.out
    have hG := (hb.block _ (block_lt HG.out)).trans HG.out
    have hB := HB.out.trans (hb.mono HB.out.size)
    clear hb HF HS HB HG c0 c1 c2 c3 c4 s0 s1 s2
    have hH := heap_alloc_new w4 (.cells (flashC g.a g.b g.e0 g.e1 g.li) 37)
    replace hF := (heap_alloc_old w4 (.cells (flashC g.a g.b g.e0 g.e1 g.li) 37) _ (block_lt hF)).trans hF
    replace hG := (heap_alloc_old w4 (.cells (flashC g.a g.b g.e0 g.e1 g.li) 37) _ (block_lt hG)).trans hG
    replace hB := hB.alloc hB.size (.cells (flashC g.a g.b g.e0 g.e1 g.li) 37)
    obtain ⟨c0, c1, c2, c3, c4⟩ := cells5 hF
    obtain ⟨g0, g1, g2, g4, g5⟩ := cells5 hG
    obtain ⟨h0, h1, h2, h4, h5⟩ := cells5 hH
    have HB := Lib.hid hB
    clear hF hG hH hB
    go_wp2_with fail
    generalize w4.alloc _ = W4 at *
    refine wp_pure (List.range 20) 20 (by kernel_rfl) (by kernel_rfl) rfl ?_
    rw [show List.range 20 = [0, 1, 2, 3, 4, 5, 6, 7, 8, 9, 10, 11, 12, 13, 14, 15, 16, 17, 18, 19] from rfl]
    (refine pl_value (v := ?_) rfl rfl ?_ ?_; rotate_left 1; (focus (intro w' hk; have x0 := look hk c0; have x1 := look hk c1; have x2 := look hk c2; have x3 := look hk c3; have x4 := look hk c4; have y0 := look hk g0; have y1 := look hk g1; have y2 := look hk g2; have y3 := look hk g4; have y4 := look hk g5; have z0 := look hk h0; have z1 := look hk h1; have z2 := look hk h2; have z3 := look hk h4; have z4 := look hk h5; go_simp; (first | done | with_reducible rfl | exact rfl))); (try simp only [Act.put, List.setIfInBounds_toArray, List.set_cons_zero, List.set_cons_succ]))
    (refine pl_value (v := ?_) rfl rfl ?_ ?_; rotate_left 1; (focus (intro w' hk; have x0 := look hk c0; have x1 := look hk c1; have x2 := look hk c2; have x3 := look hk c3; have x4 := look hk c4; have y0 := look hk g0; have y1 := look hk g1; have y2 := look hk g2; have y3 := look hk g4; have y4 := look hk g5; have z0 := look hk h0; have z1 := look hk h1; have z2 := look hk h2; have z3 := look hk h4; have z4 := look hk h5; go_simp; (first | done | with_reducible rfl | exact rfl))); (try simp only [Act.put, List.setIfInBounds_toArray, List.set_cons_zero, List.set_cons_succ]))
    (refine pl_value (v := ?_) rfl rfl ?_ ?_; rotate_left 1; (focus (intro w' hk; have x0 := look hk c0; have x1 := look hk c1; have x2 := look hk c2; have x3 := look hk c3; have x4 := look hk c4; have y0 := look hk g0; have y1 := look hk g1; have y2 := look hk g2; have y3 := look hk g4; have y4 := look hk g5; have z0 := look hk h0; have z1 := look hk h1; have z2 := look hk h2; have z3 := look hk h4; have z4 := look hk h5; go_simp; (first | done | with_reducible rfl | exact rfl))); (try simp only [Act.put, List.setIfInBounds_toArray, List.set_cons_zero, List.set_cons_succ]))
    (refine pl_value (v := ?_) rfl rfl ?_ ?_; rotate_left 1; (focus (intro w' hk; have x0 := look hk c0; have x1 := look hk c1; have x2 := look hk c2; have x3 := look hk c3; have x4 := look hk c4; have y0 := look hk g0; have y1 := look hk g1; have y2 := look hk g2; have y3 := look hk g4; have y4 := look hk g5; have z0 := look hk h0; have z1 := look hk h1; have z2 := look hk h2; have z3 := look hk h4; have z4 := look hk h5; go_simp; (first | done | with_reducible rfl | exact rfl))); (try simp only [Act.put, List.setIfInBounds_toArray, List.set_cons_zero, List.set_cons_succ]))
    (refine pl_value (v := ?_) rfl rfl ?_ ?_; rotate_left 1; (focus (intro w' hk; have x0 := look hk c0; have x1 := look hk c1; have x2 := look hk c2; have x3 := look hk c3; have x4 := look hk c4; have y0 := look hk g0; have y1 := look hk g1; have y2 := look hk g2; have y3 := look hk g4; have y4 := look hk g5; have z0 := look hk h0; have z1 := look hk h1; have z2 := look hk h2; have z3 := look hk h4; have z4 := look hk h5; go_simp; (first | done | with_reducible rfl | exact rfl))); (try simp only [Act.put, List.setIfInBounds_toArray, List.set_cons_zero, List.set_cons_succ]))
    (refine pl_value (v := ?_) rfl rfl ?_ ?_; rotate_left 1; (focus (intro w' hk; have x0 := look hk c0; have x1 := look hk c1; have x2 := look hk c2; have x3 := look hk c3; have x4 := look hk c4; have y0 := look hk g0; have y1 := look hk g1; have y2 := look hk g2; have y3 := look hk g4; have y4 := look hk g5; have z0 := look hk h0; have z1 := look hk h1; have z2 := look hk h2; have z3 := look hk h4; have z4 := look hk h5; go_simp; (first | done | with_reducible rfl | exact rfl))); (try simp only [Act.put, List.setIfInBounds_toArray, List.set_cons_zero, List.set_cons_succ]))
    (refine pl_value (v := ?_) rfl rfl ?_ ?_; rotate_left 1; (focus (intro w' hk; have x0 := look hk c0; have x1 := look hk c1; have x2 := look hk c2; have x3 := look hk c3; have x4 := look hk c4; have y0 := look hk g0; have y1 := look hk g1; have y2 := look hk g2; have y3 := look hk g4; have y4 := look hk g5; have z0 := look hk h0; have z1 := look hk h1; have z2 := look hk h2; have z3 := look hk h4; have z4 := look hk h5; go_simp; (first | done | with_reducible rfl | exact rfl))); (try simp only [Act.put, List.setIfInBounds_toArray, List.set_cons_zero, List.set_cons_succ]))
    (refine pl_value (v := ?_) rfl rfl ?_ ?_; rotate_left 1; (focus (intro w' hk; have x0 := look hk c0; have x1 := look hk c1; have x2 := look hk c2; have x3 := look hk c3; have x4 := look hk c4; have y0 := look hk g0; have y1 := look hk g1; have y2 := look hk g2; have y3 := look hk g4; have y4 := look hk g5; have z0 := look hk h0; have z1 := look hk h1; have z2 := look hk h2; have z3 := look hk h4; have z4 := look hk h5; go_simp; (first | done | with_reducible rfl | exact rfl))); (try simp only [Act.put, List.setIfInBounds_toArray, List.set_cons_zero, List.set_cons_succ]))
    (refine pl_value (v := ?_) rfl rfl ?_ ?_; rotate_left 1; (focus (intro w' hk; have x0 := look hk c0; have x1 := look hk c1; have x2 := look hk c2; have x3 := look hk c3; have x4 := look hk c4; have y0 := look hk g0; have y1 := look hk g1; have y2 := look hk g2; have y3 := look hk g4; have y4 := look hk g5; have z0 := look hk h0; have z1 := look hk h1; have z2 := look hk h2; have z3 := look hk h4; have z4 := look hk h5; go_simp; (first | done | with_reducible rfl | exact rfl))); (try simp only [Act.put, List.setIfInBounds_toArray, List.set_cons_zero, List.set_cons_succ]))
    (refine pl_value (v := ?_) rfl rfl ?_ ?_; rotate_left 1; (focus (intro w' hk; have x0 := look hk c0; have x1 := look hk c1; have x2 := look hk c2; have x3 := look hk c3; have x4 := look hk c4; have y0 := look hk g0; have y1 := look hk g1; have y2 := look hk g2; have y3 := look hk g4; have y4 := look hk g5; have z0 := look hk h0; have z1 := look hk h1; have z2 := look hk h2; have z3 := look hk h4; have z4 := look hk h5; go_simp; (first | done | with_reducible rfl | exact rfl))); (try simp only [Act.put, List.setIfInBounds_toArray, List.set_cons_zero, List.set_cons_succ]))
    (refine pl_value (v := ?_) rfl rfl ?_ ?_; rotate_left 1; (focus (intro w' hk; have x0 := look hk c0; have x1 := look hk c1; have x2 := look hk c2; have x3 := look hk c3; have x4 := look hk c4; have y0 := look hk g0; have y1 := look hk g1; have y2 := look hk g2; have y3 := look hk g4; have y4 := look hk g5; have z0 := look hk h0; have z1 := look hk h1; have z2 := look hk h2; have z3 := look hk h4; have z4 := look hk h5; go_simp; (first | done | with_reducible rfl | exact rfl))); (try simp only [Act.put, List.setIfInBounds_toArray, List.set_cons_zero, List.set_cons_succ]))
    (refine pl_value (v := ?_) rfl rfl ?_ ?_; rotate_left 1; (focus (intro w' hk; have x0 := look hk c0; have x1 := look hk c1; have x2 := look hk c2; have x3 := look hk c3; have x4 := look hk c4; have y0 := look hk g0; have y1 := look hk g1; have y2 := look hk g2; have y3 := look hk g4; have y4 := look hk g5; have z0 := look hk h0; have z1 := look hk h1; have z2 := look hk h2; have z3 := look hk h4; have z4 := look hk h5; go_simp; (first | done | with_reducible rfl | exact rfl))); (try simp only [Act.put, List.setIfInBounds_toArray, List.set_cons_zero, List.set_cons_succ]))
    (refine pl_value (v := ?_) rfl rfl ?_ ?_; rotate_left 1; (focus (intro w' hk; have x0 := look hk c0; have x1 := look hk c1; have x2 := look hk c2; have x3 := look hk c3; have x4 := look hk c4; have y0 := look hk g0; have y1 := look hk g1; have y2 := look hk g2; have y3 := look hk g4; have y4 := look hk g5; have z0 := look hk h0; have z1 := look hk h1; have z2 := look hk h2; have z3 := look hk h4; have z4 := look hk h5; go_simp; (first | done | with_reducible rfl | exact rfl))); (try simp only [Act.put, List.setIfInBounds_toArray, List.set_cons_zero, List.set_cons_succ]))
    (refine pl_value (v := ?_) rfl rfl ?_ ?_; rotate_left 1; (focus (intro w' hk; have x0 := look hk c0; have x1 := look hk c1; have x2 := look hk c2; have x3 := look hk c3; have x4 := look hk c4; have y0 := look hk g0; have y1 := look hk g1; have y2 := look hk g2; have y3 := look hk g4; have y4 := look hk g5; have z0 := look hk h0; have z1 := look hk h1; have z2 := look hk h2; have z3 := look hk h4; have z4 := look hk h5; go_simp; (first | done | with_reducible rfl | exact rfl))); (try simp only [Act.put, List.setIfInBounds_toArray, List.set_cons_zero, List.set_cons_succ]))
    (refine pl_value (v := ?_) rfl rfl ?_ ?_; rotate_left 1; (focus (intro w' hk; have x0 := look hk c0; have x1 := look hk c1; have x2 := look hk c2; have x3 := look hk c3; have x4 := look hk c4; have y0 := look hk g0; have y1 := look hk g1; have y2 := look hk g2; have y3 := look hk g4; have y4 := look hk g5; have z0 := look hk h0; have z1 := look hk h1; have z2 := look hk h2; have z3 := look hk h4; have z4 := look hk h5; go_simp; (first | done | with_reducible rfl | exact rfl))); (try simp only [Act.put, List.setIfInBounds_toArray, List.set_cons_zero, List.set_cons_succ]))
    (refine pl_call (v := ?_) (f := ?_) (args := ?_) rfl rfl ?_ ?_ ?_; rotate_left 3; (focus (intro w' hk; have x0 := look hk c0; have x1 := look hk c1; have x2 := look hk c2; have x3 := look hk c3; have x4 := look hk c4; have y0 := look hk g0; have y1 := look hk g1; have y2 := look hk g2; have y3 := look hk g4; have y4 := look hk g5; have z0 := look hk h0; have z1 := look hk h1; have z2 := look hk h2; have z3 := look hk h4; have z4 := look hk h5; go_simp; (first | done | (constructor <;> with_reducible rfl) | with_reducible rfl))); (focus (intro w' hk; exact HW1.out w')); (try simp only [Act.put, List.setIfInBounds_toArray, List.set_cons_zero, List.set_cons_succ]))
    (refine pl_value (v := ?_) rfl rfl ?_ ?_; rotate_left 1; (focus (intro w' hk; have x0 := look hk c0; have x1 := look hk c1; have x2 := look hk c2; have x3 := look hk c3; have x4 := look hk c4; have y0 := look hk g0; have y1 := look hk g1; have y2 := look hk g2; have y3 := look hk g4; have y4 := look hk g5; have z0 := look hk h0; have z1 := look hk h1; have z2 := look hk h2; have z3 := look hk h4; have z4 := look hk h5; go_simp; (first | done | with_reducible rfl | exact rfl))); (try simp only [Act.put, List.setIfInBounds_toArray, List.set_cons_zero, List.set_cons_succ]))
    (refine pl_call (v := ?_) (f := ?_) (args := ?_) rfl rfl ?_ ?_ ?_; rotate_left 3; (focus (intro w' hk; have x0 := look hk c0; have x1 := look hk c1; have x2 := look hk c2; have x3 := look hk c3; have x4 := look hk c4; have y0 := look hk g0; have y1 := look hk g1; have y2 := look hk g2; have y3 := look hk g4; have y4 := look hk g5; have z0 := look hk h0; have z1 := look hk h1; have z2 := look hk h2; have z3 := look hk h4; have z4 := look hk h5; go_simp; (first | done | (constructor <;> with_reducible rfl) | with_reducible rfl))); (focus (intro w' hk; exact HW2.out w')); (try simp only [Act.put, List.setIfInBounds_toArray, List.set_cons_zero, List.set_cons_succ]))
    (refine pl_value (v := ?_) rfl rfl ?_ ?_; rotate_left 1; (focus (intro w' hk; have x0 := look hk c0; have x1 := look hk c1; have x2 := look hk c2; have x3 := look hk c3; have x4 := look hk c4; have y0 := look hk g0; have y1 := look hk g1; have y2 := look hk g2; have y3 := look hk g4; have y4 := look hk g5; have z0 := look hk h0; have z1 := look hk h1; have z2 := look hk h2; have z3 := look hk h4; have z4 := look hk h5; go_simp; (first | done | with_reducible rfl | exact rfl))); (try simp only [Act.put, List.setIfInBounds_toArray, List.set_cons_zero, List.set_cons_succ]))
    (refine pl_value (v := ?_) rfl rfl ?_ ?_; rotate_left 1; (focus (intro w' hk; have x0 := look hk c0; have x1 := look hk c1; have x2 := look hk c2; have x3 := look hk c3; have x4 := look hk c4; have y0 := look hk g0; have y1 := look hk g1; have y2 := look hk g2; have y3 := look hk g4; have y4 := look hk g5; have z0 := look hk h0; have z1 := look hk h1; have z2 := look hk h2; have z3 := look hk h4; have z4 := look hk h5; go_simp; (first | done | with_reducible rfl | exact rfl))); (try simp only [Act.put, List.setIfInBounds_toArray, List.set_cons_zero, List.set_cons_succ]))
    refine pl_nil ?_
    intro w5 hk5
    simp only [List.drop_succ_cons, List.drop_zero]
    have hB5 := HB.out.trans (hk5.whole.mono HB.out.size)
    clear hk5 HB c0 c1 c2 c3 c4 g0 g1 g2 g4 g5 h0 h1 h2 h4 h5
    go_wp2_with fail
    go_ret
    exact ⟨rfl, hB5⟩
  · have HB := Lib.hid hB
    clear hF hS hB
    go_wp2_with fail
    refine (shown12_any _ (HN.out.next HB.out)).mono ?_
    rintro e w2 ⟨rfl, hb⟩
    have hB := HB.out.trans (hb.mono HB.out.size)
    clear hb HB
    go_wp2_with fail
    go_ret
    exact ⟨rfl, hB⟩
end Go.Proofs.YtaniehjhmjecjaaGreatDoor
