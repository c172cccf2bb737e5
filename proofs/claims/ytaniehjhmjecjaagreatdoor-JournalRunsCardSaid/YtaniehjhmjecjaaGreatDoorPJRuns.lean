/- The walk of JournalRuns. -/
import Derived.Test.YtaniehjhmjecjaaGreatDoorPRRun12
import Derived.Test.YtaniehjhmjecjaaGreatDoorPRegionW
import Derived.Test.YtaniehjhmjecjaaGreatDoorPRWear
import Derived.Test.YtaniehjhmjecjaaGreatDoorP20
import Derived.Test.YtaniehjhmjecjaaGreatDoorPEq12
namespace Go.Proofs.YtaniehjhmjecjaaGreatDoor
open Go.RowKit Go.Shelf
attribute [local go_sem] Oper.semAt_some

theorem sure_call {P : Program} {w : World} {s : Sem Next} {f : FuncId} {args : Array Value} {G : Value → World → Prop} (hr : ∀ w', Keep w w' → s.run P w' = .ok (.enter f args) w')
    (hc : ∀ w', Keep w w' → Calls P f args w' fun e w'' => (∃ u, e = .returned u ∧ G u w'') ∧ Below w'.heap.size w' w'') : SureSome P w s G :=
  fun w' hk => .inr ⟨f, args, w', hr w' hk, (hc w' hk).mono fun _ _ ⟨⟨u, h1, h2⟩, hb⟩ => ⟨u, h1, keepB hb, h2⟩⟩

set_option maxRecDepth 100000 in
set_option maxHeartbeats 2000000 in
theorem jruns_any (f : Dw.Fl) (hr : Dw.FlRange2 f) (ss : List Dw.Stp) (v : Value) (w : World) (hv : StepsAt w v ss) (hn : NoneAt w) :
    Calls Tryz.prog 7 #[flV f, v] w fun e w' => e = .returned (.bool true) ∧ Below w.heap.size w w' := by
  have HV0 := Lib.hid hv; have HN := Lib.hid hn; have HR := Lib.hid hr
  obtain ⟨sa, cap, hus, _, _⟩ := id hv
  subst hus
  have hB := (Below.refl w.heap.size w).alloc (Nat.le_refl _) (.cells (flashC f.a f.b f.e0 f.e1 f.li) 25)
  have hF := heap_alloc_new w (.cells (flashC f.a f.b f.e0 f.e1 f.li) 25)
  clear hv hn hr
  obtain ⟨c0, c1, c2, c3, c4⟩ := cells5 hF
  have HF := Lib.hid hF; have HB := Lib.hid hB
  clear hF hB
  go_enter Tryz.func7, Tryz.ntmps7
  go_wp2_with fail
  refine (big12_any f ss _ _ (HV0.out.next HB.out)).mono ?_
  rintro e w1 ⟨rfl, hb⟩
  have hF := (hb.block _ (block_lt HF.out)).trans HF.out
  have hB := HB.out.trans (hb.mono HB.out.size)
  clear hb HF HB c0 c1 c2 c3 c4
  cases hbig : Dw.big12 f ss
  · obtain ⟨ha, hb', hlen⟩ := Dw.not_big hbig
    have HM := Lib.hid (Dw.big_mask hbig)
    have hok : Dw.FlOk f := ⟨ha, hb', HR.out.1.1, HR.out.1.2.1, HR.out.1.2.2⟩
    have HOK := Lib.hid hok
    have hokA := Dw.runJ_ok ss (Dw.lg0 f) hok
    have HRA := Lib.hid (fun v w hv hN => run_any f HOK.out ss (by omega) v w hv hN)
    have HRB := Lib.hid (fun v w hv => rrun12_any f HOK.out ss (by omega) (fun s hs => Nat.le_trans (HM.out s hs) (by decide)) v w hv)
    have HST := Lib.hid (fun v w hv => steps12_any ss (by omega) v w hv)
    obtain ⟨lA, hlA⟩ : ∃ lA, Dw.runJ (Dw.lg0 f) ss = lA := ⟨_, rfl⟩
    rw [hlA] at HRA HRB hokA
    have HSA := Lib.hid (fun w hn => state12_any lA hokA w hn)
    have HSB := Lib.hid (fun w => rstate12_any lA hokA w)
    have HLG := Lib.hid (fun w => log12_any lA w)
    clear hlA hokA hok hbig ha hb'
    generalize (Dw.readS lA.f.a lA.f.b).data = dA at *
    generalize decide (Dw.readE lA.f.a lA.f.b = 0) = bA at *
    have HF := Lib.hid hF; have HB := Lib.hid hB
    clear hF hB
    go_wp2_with fail
    refine (shown12_any _ (HN.out.next HB.out)).mono ?_
    rintro e w2 ⟨rfl, hb⟩
    have hF := (hb.block _ (block_lt HF.out)).trans HF.out
    have hB := HB.out.trans (hb.mono HB.out.size)
    clear hb HF HB
    obtain ⟨c0, c1, c2, c3, c4⟩ := cells5 hF
    have HF := Lib.hid hF; have HB := Lib.hid hB
    clear hF hB
    go_wp2_with fail
    refine (HRA.out _ _ (HV0.out.next HB.out) (HN.out.next HB.out)).mono ?_
    rintro e w3 ⟨rfl, hb⟩
    have hF := (hb.block _ (block_lt HF.out)).trans HF.out
    have hB := HB.out.trans (hb.mono HB.out.size)
    clear hb HF HB c0 c1 c2 c3 c4 HRA
    have hA := heap_alloc_new w3 (.cells (lgC lA) 61)
    replace hF := (heap_alloc_old w3 (.cells (lgC lA) 61) _ (block_lt hF)).trans hF
    replace hB := hB.alloc hB.size (.cells (lgC lA) 61)
    obtain ⟨c0, c1, c2, c3, c4⟩ := cells5 hF
    have HA := Lib.hid hA; have HB := Lib.hid hB
    clear hF hA hB
    go_wp2_with fail
    generalize w3.alloc _ = W3 at *
    generalize w3.heap.size = g3 at *
    refine wp_letterMA [0, 1] 2 [3] 4 5 (some 24) (some 6) (fun u w' => StepsAt w' u ss) (NewBlock W3 ZLog 64) rfl rfl rfl rfl (by kernel_rfl) (by kernel_rfl) (by kernel_rfl) (by kernel_rfl) (by kernel_rfl) rfl (fun v A B h k => h.next k.whole) (fun v A B h k => h.keep k) ?_
    (refine pl_value (v := ?_) rfl rfl ?_ ?_; rotate_left 1; (focus (intro w' hk; have k0 := look hk c0; have k1 := look hk c1; have k2 := look hk c2; have k3 := look hk c3; have k4 := look hk c4; go_simp; (first | done | with_reducible rfl | exact rfl))); (try simp only [Act.put, List.setIfInBounds_toArray, List.set_cons_zero, List.set_cons_succ]))
    (refine pl_value (v := ?_) rfl rfl ?_ ?_; rotate_left 1; (focus (intro w' hk; go_simp; (first | done | with_reducible rfl | exact rfl))); (try simp only [Act.put, List.setIfInBounds_toArray, List.set_cons_zero, List.set_cons_succ]))
    refine pl_nil ⟨rfl, sure_call (f := 24) (args := #[.slice sa ss.length cap]) (fun w' _ => by go_simp) (fun w' hk => HST.out _ w' ((HV0.out.next HB.out).next hk.whole)), rfl, sure_new (fun w' _ => by go_simp), ?_⟩
    intro u w4 hk4 hu
    have HU := Lib.hid hu
    clear hu
    try simp only [List.setIfInBounds_toArray, List.set_cons_zero, List.set_cons_succ]
    (refine pl_call (v := ?_) (f := ?_) (args := ?_) rfl rfl ?_ ?_ ?_; rotate_left 3; (focus (intro w' hk; go_simp; (first | done | (constructor <;> with_reducible rfl) | with_reducible rfl))); (focus (intro w' hk; exact HRB.out _ w' (HU.out.next hk.whole))); (try simp only [Act.put, List.setIfInBounds_toArray, List.set_cons_zero, List.set_cons_succ]))
    refine pl_nil ⟨rfl, sure_newL hk4 (fun w' _ => by go_simp), ?_⟩
    rintro va w5 hk5 _ ⟨gy, rfl, hgy, hT⟩
    simp only [List.drop_succ_cons, List.drop_zero, List.setIfInBounds_toArray, List.set_cons_zero, List.set_cons_succ]
    have hA := ((hk4.trans hk5).block _ (block_lt HA.out) id).trans HA.out
    have hgw : w.heap.size ≤ gy := by have := HB.out.size; omega
    have hga : g3 < gy := by have := block_lt HA.out; omega
    have hB := HB.out.trans ((hk4.trans hk5).whole.mono HB.out.size)
    have hY := setRow_heap w5 gy _ (lgC lA) _ _ hT
    have hA6 := (setRow_other w5 gy g3 (lgC lA) (by omega)).trans hA
    have hB6 := below_setRow hB hgw (lgC lA)
    have HA6 := Lib.hid hA6; have HB6 := Lib.hid hB6; have HY := Lib.hid hY
    clear hA hB hY hA6 hB6 hk4 hk5 c0 c1 c2 c3 c4 HRB HST HU HA HB hgy
    refine wpList_store_block rfl 64 _ _ rfl rfl rfl hT (by kernel_rfl) rfl (by simp [Value.oneCell']) ?_
    have hA := HA6.out; have hB := HB6.out; have hY := HY.out
    clear HA6 HB6 HY hT
    generalize World.setRow w5 gy _ = W6 at *
    obtain ⟨l0, l1, l2, l3, l4, l5, l6, l7, l8⟩ := cells9 hA
    have HA := Lib.hid hA; have HB := Lib.hid hB; have HY := Lib.hid hY
    clear hA hB hY
    go_wp2_with fail
    refine (HSA.out _ (HN.out.next HB.out)).mono ?_
    rintro e w7 ⟨rfl, hb⟩
    have hA := (hb.block _ (block_lt HA.out)).trans HA.out
    have hY := (hb.block _ (block_lt HY.out)).trans HY.out
    have hB := HB.out.trans (hb.mono HB.out.size)
    clear hb HA HB HY l0 l1 l2 l3 l4 l5 l6 l7 l8
    obtain ⟨m0, m1, m2, m3, m4, m5, m6, m7, m8⟩ := cells9 hY
    have HA := Lib.hid hA; have HB := Lib.hid hB; have HY := Lib.hid hY
    clear hA hB hY
    go_wp2_with fail
    refine (HSB.out _).mono ?_
    rintro e w8 ⟨rfl, hb⟩
    have hA := (hb.block _ (block_lt HA.out)).trans HA.out
    have hY := (hb.block _ (block_lt HY.out)).trans HY.out
    have hB := HB.out.trans (hb.mono HB.out.size)
    clear hb HA HB HY m0 m1 m2 m3 m4 m5 m6 m7 m8
    obtain ⟨l0, l1, l2, l3, l4, l5, l6, l7, l8⟩ := cells9 hA
    obtain ⟨m0, m1, m2, m3, m4, m5, m6, m7, m8⟩ := cells9 hY
    have HB := Lib.hid hB
    clear hA hY hB
    go_wp2_with fail
    refine wp_pure (List.range 14) 14 (by kernel_rfl) (by kernel_rfl) rfl ?_
    rw [show List.range 14 = [0, 1, 2, 3, 4, 5, 6, 7, 8, 9, 10, 11, 12, 13] from rfl]
    (refine pl_value (v := ?_) rfl rfl ?_ ?_; rotate_left 1; (focus (intro w' hk; have x0 := look hk l0; have x1 := look hk l1; have x2 := look hk l2; have x3 := look hk l3; have x4 := look hk l4; have x5 := look hk l5; have x6 := look hk l6; have x7 := look hk l7; have x8 := look hk l8; have y0 := look hk m0; have y1 := look hk m1; have y2 := look hk m2; have y3 := look hk m3; have y4 := look hk m4; have y5 := look hk m5; have y6 := look hk m6; have y7 := look hk m7; have y8 := look hk m8; go_simp; (first | done | with_reducible rfl | exact rfl))); (try simp only [Act.put, List.setIfInBounds_toArray, List.set_cons_zero, List.set_cons_succ]))
    (refine pl_call (v := ?_) (f := ?_) (args := ?_) rfl rfl ?_ ?_ ?_; rotate_left 3; (focus (intro w' hk; have x0 := look hk l0; have x1 := look hk l1; have x2 := look hk l2; have x3 := look hk l3; have x4 := look hk l4; have x5 := look hk l5; have x6 := look hk l6; have x7 := look hk l7; have x8 := look hk l8; have y0 := look hk m0; have y1 := look hk m1; have y2 := look hk m2; have y3 := look hk m3; have y4 := look hk m4; have y5 := look hk m5; have y6 := look hk m6; have y7 := look hk m7; have y8 := look hk m8; go_simp; (first | done | (constructor <;> with_reducible rfl) | with_reducible rfl))); (focus (intro w' hk; exact HLG.out w')); (try simp only [Act.put, List.setIfInBounds_toArray, List.set_cons_zero, List.set_cons_succ]))
    (refine pl_value (v := ?_) rfl rfl ?_ ?_; rotate_left 1; (focus (intro w' hk; have x0 := look hk l0; have x1 := look hk l1; have x2 := look hk l2; have x3 := look hk l3; have x4 := look hk l4; have x5 := look hk l5; have x6 := look hk l6; have x7 := look hk l7; have x8 := look hk l8; have y0 := look hk m0; have y1 := look hk m1; have y2 := look hk m2; have y3 := look hk m3; have y4 := look hk m4; have y5 := look hk m5; have y6 := look hk m6; have y7 := look hk m7; have y8 := look hk m8; go_simp; (first | done | with_reducible rfl | exact rfl))); (try simp only [Act.put, List.setIfInBounds_toArray, List.set_cons_zero, List.set_cons_succ]))
    (refine pl_value (v := ?_) rfl rfl ?_ ?_; rotate_left 1; (focus (intro w' hk; have x0 := look hk l0; have x1 := look hk l1; have x2 := look hk l2; have x3 := look hk l3; have x4 := look hk l4; have x5 := look hk l5; have x6 := look hk l6; have x7 := look hk l7; have x8 := look hk l8; have y0 := look hk m0; have y1 := look hk m1; have y2 := look hk m2; have y3 := look hk m3; have y4 := look hk m4; have y5 := look hk m5; have y6 := look hk m6; have y7 := look hk m7; have y8 := look hk m8; go_simp; (first | done | with_reducible rfl | exact rfl))); (try simp only [Act.put, List.setIfInBounds_toArray, List.set_cons_zero, List.set_cons_succ]))
    (refine pl_value (v := ?_) rfl rfl ?_ ?_; rotate_left 1; (focus (intro w' hk; have x0 := look hk l0; have x1 := look hk l1; have x2 := look hk l2; have x3 := look hk l3; have x4 := look hk l4; have x5 := look hk l5; have x6 := look hk l6; have x7 := look hk l7; have x8 := look hk l8; have y0 := look hk m0; have y1 := look hk m1; have y2 := look hk m2; have y3 := look hk m3; have y4 := look hk m4; have y5 := look hk m5; have y6 := look hk m6; have y7 := look hk m7; have y8 := look hk m8; go_simp; (first | done | with_reducible rfl | exact rfl))); (try simp only [Act.put, List.setIfInBounds_toArray, List.set_cons_zero, List.set_cons_succ]))
    (refine pl_value (v := ?_) rfl rfl ?_ ?_; rotate_left 1; (focus (intro w' hk; have x0 := look hk l0; have x1 := look hk l1; have x2 := look hk l2; have x3 := look hk l3; have x4 := look hk l4; have x5 := look hk l5; have x6 := look hk l6; have x7 := look hk l7; have x8 := look hk l8; have y0 := look hk m0; have y1 := look hk m1; have y2 := look hk m2; have y3 := look hk m3; have y4 := look hk m4; have y5 := look hk m5; have y6 := look hk m6; have y7 := look hk m7; have y8 := look hk m8; go_simp; (first | done | with_reducible rfl | exact rfl))); (try simp only [Act.put, List.setIfInBounds_toArray, List.set_cons_zero, List.set_cons_succ]))
    (refine pl_value (v := ?_) rfl rfl ?_ ?_; rotate_left 1; (focus (intro w' hk; have x0 := look hk l0; have x1 := look hk l1; have x2 := look hk l2; have x3 := look hk l3; have x4 := look hk l4; have x5 := look hk l5; have x6 := look hk l6; have x7 := look hk l7; have x8 := look hk l8; have y0 := look hk m0; have y1 := look hk m1; have y2 := look hk m2; have y3 := look hk m3; have y4 := look hk m4; have y5 := look hk m5; have y6 := look hk m6; have y7 := look hk m7; have y8 := look hk m8; go_simp; (first | done | with_reducible rfl | exact rfl))); (try simp only [Act.put, List.setIfInBounds_toArray, List.set_cons_zero, List.set_cons_succ]))
    (refine pl_value (v := ?_) rfl rfl ?_ ?_; rotate_left 1; (focus (intro w' hk; have x0 := look hk l0; have x1 := look hk l1; have x2 := look hk l2; have x3 := look hk l3; have x4 := look hk l4; have x5 := look hk l5; have x6 := look hk l6; have x7 := look hk l7; have x8 := look hk l8; have y0 := look hk m0; have y1 := look hk m1; have y2 := look hk m2; have y3 := look hk m3; have y4 := look hk m4; have y5 := look hk m5; have y6 := look hk m6; have y7 := look hk m7; have y8 := look hk m8; go_simp; (first | done | with_reducible rfl | exact rfl))); (try simp only [Act.put, List.setIfInBounds_toArray, List.set_cons_zero, List.set_cons_succ]))
    (refine pl_value (v := ?_) rfl rfl ?_ ?_; rotate_left 1; (focus (intro w' hk; have x0 := look hk l0; have x1 := look hk l1; have x2 := look hk l2; have x3 := look hk l3; have x4 := look hk l4; have x5 := look hk l5; have x6 := look hk l6; have x7 := look hk l7; have x8 := look hk l8; have y0 := look hk m0; have y1 := look hk m1; have y2 := look hk m2; have y3 := look hk m3; have y4 := look hk m4; have y5 := look hk m5; have y6 := look hk m6; have y7 := look hk m7; have y8 := look hk m8; go_simp; (first | done | with_reducible rfl | exact rfl))); (try simp only [Act.put, List.setIfInBounds_toArray, List.set_cons_zero, List.set_cons_succ]))
    (refine pl_value (v := ?_) rfl rfl ?_ ?_; rotate_left 1; (focus (intro w' hk; have x0 := look hk l0; have x1 := look hk l1; have x2 := look hk l2; have x3 := look hk l3; have x4 := look hk l4; have x5 := look hk l5; have x6 := look hk l6; have x7 := look hk l7; have x8 := look hk l8; have y0 := look hk m0; have y1 := look hk m1; have y2 := look hk m2; have y3 := look hk m3; have y4 := look hk m4; have y5 := look hk m5; have y6 := look hk m6; have y7 := look hk m7; have y8 := look hk m8; go_simp; (first | done | with_reducible rfl | exact rfl))); (try simp only [Act.put, List.setIfInBounds_toArray, List.set_cons_zero, List.set_cons_succ]))
    (refine pl_value (v := ?_) rfl rfl ?_ ?_; rotate_left 1; (focus (intro w' hk; have x0 := look hk l0; have x1 := look hk l1; have x2 := look hk l2; have x3 := look hk l3; have x4 := look hk l4; have x5 := look hk l5; have x6 := look hk l6; have x7 := look hk l7; have x8 := look hk l8; have y0 := look hk m0; have y1 := look hk m1; have y2 := look hk m2; have y3 := look hk m3; have y4 := look hk m4; have y5 := look hk m5; have y6 := look hk m6; have y7 := look hk m7; have y8 := look hk m8; go_simp; (first | done | with_reducible rfl | exact rfl))); (try simp only [Act.put, List.setIfInBounds_toArray, List.set_cons_zero, List.set_cons_succ]))
    (refine pl_value (v := ?_) rfl rfl ?_ ?_; rotate_left 1; (focus (intro w' hk; have x0 := look hk l0; have x1 := look hk l1; have x2 := look hk l2; have x3 := look hk l3; have x4 := look hk l4; have x5 := look hk l5; have x6 := look hk l6; have x7 := look hk l7; have x8 := look hk l8; have y0 := look hk m0; have y1 := look hk m1; have y2 := look hk m2; have y3 := look hk m3; have y4 := look hk m4; have y5 := look hk m5; have y6 := look hk m6; have y7 := look hk m7; have y8 := look hk m8; go_simp; (first | done | with_reducible rfl | exact rfl))); (try simp only [Act.put, List.setIfInBounds_toArray, List.set_cons_zero, List.set_cons_succ]))
    (refine pl_value (v := ?_) rfl rfl ?_ ?_; rotate_left 1; (focus (intro w' hk; have x0 := look hk l0; have x1 := look hk l1; have x2 := look hk l2; have x3 := look hk l3; have x4 := look hk l4; have x5 := look hk l5; have x6 := look hk l6; have x7 := look hk l7; have x8 := look hk l8; have y0 := look hk m0; have y1 := look hk m1; have y2 := look hk m2; have y3 := look hk m3; have y4 := look hk m4; have y5 := look hk m5; have y6 := look hk m6; have y7 := look hk m7; have y8 := look hk m8; go_simp; (first | done | with_reducible rfl | exact rfl))); (try simp only [Act.put, List.setIfInBounds_toArray, List.set_cons_zero, List.set_cons_succ]))
    (refine pl_value (v := ?_) rfl rfl ?_ ?_; rotate_left 1; (focus (intro w' hk; have x0 := look hk l0; have x1 := look hk l1; have x2 := look hk l2; have x3 := look hk l3; have x4 := look hk l4; have x5 := look hk l5; have x6 := look hk l6; have x7 := look hk l7; have x8 := look hk l8; have y0 := look hk m0; have y1 := look hk m1; have y2 := look hk m2; have y3 := look hk m3; have y4 := look hk m4; have y5 := look hk m5; have y6 := look hk m6; have y7 := look hk m7; have y8 := look hk m8; go_simp; (first | done | with_reducible rfl | exact rfl))); (try simp only [Act.put, List.setIfInBounds_toArray, List.set_cons_zero, List.set_cons_succ]))
    refine pl_nil ?_
    intro w9 hk9
    simp only [List.drop_succ_cons, List.drop_zero]
    have hB9 := HB.out.trans (hk9.whole.mono HB.out.size)
    clear hk9 HB l0 l1 l2 l3 l4 l5 l6 l7 l8 m0 m1 m2 m3 m4 m5 m6 m7 m8
    go_wp2_with fail
    go_ret
    exact ⟨rfl, hB9⟩
  · have HB := Lib.hid hB
    clear hF hB
    go_wp2_with fail
    refine (shown12_any _ (HN.out.next HB.out)).mono ?_
    rintro e w2 ⟨rfl, hb⟩
    have hB := HB.out.trans (hb.mono HB.out.size)
    clear hb HB
    go_wp2_with fail
    go_ret
    exact ⟨rfl, hB⟩
end Go.Proofs.YtaniehjhmjecjaaGreatDoor
