/- Layer 11: the reference's Plan. -/
import Derived.Test.YtaniehjhmjecjaaGreatDoorPRFresh
import Derived.Test.YtaniehjhmjecjaaGreatDoorPRNext
import Derived.Test.YtaniehjhmjecjaaGreatDoorPRRead
namespace Go.Proofs.YtaniehjhmjecjaaGreatDoor
open Go.RowKit Go.Shelf
attribute [local go_sem] Oper.semAt_some

/-- Ops that a plan says, or none. -/
def RPl (w : World) (v : Value) (l : List Dw.Op) : Prop := (l = [] ∧ v = .slice none 0 0) ∨ (0 < l.length ∧ ROps w v l)
theorem rpl_fresh {w : World} {v : Value} {f : Dw.Fl} {b g q d : Nat} (h : ROps w v (Dw.freshF f b g q d)) : RPl w v (Dw.freshF f b g q d) := .inr ⟨by unfold Dw.freshF; rw [Dw.fresh_len]; split <;> omega, h⟩
theorem rpl_append {w : World} {v : Value} {b j q d : Nat} (h : ROps w v (Dw.appendOps b j q d)) : RPl w v (Dw.appendOps b j q d) := .inr ⟨Nat.zero_lt_succ _, h⟩

set_option maxRecDepth 100000 in
set_option maxHeartbeats 4000000 in
theorem rplanSA (f : Dw.Fl) (hf : Dw.FlOk f) (d : Nat) (hd : d < 18446744073709551616) (g q d0 : Nat) (hg : g < 18446744073709551616) (hq : q < 18446744073709551616) (hev : Dw.even f.a f.b = true) (r1 : Dw.readS f.a f.b = ⟨0, g, q, d0⟩) (r2 : Dw.readE f.a f.b = 0) (w : World) :
    Calls Tryz.prog 46 #[flV f, .int .u64 d] w fun e w' => (∃ v, e = .returned (.tuple #[v, .int .i64 (Dw.plan f d).2]) ∧ RPl w' v (Dw.plan f d).1) ∧ Below w.heap.size w w' := by
  have HP := Lib.hid (show Dw.plan f d = if q = 18446744073709551615 then ([], 11) else if 0 < Dw.next (f.a) then (Dw.appendOps 0 (Dw.next (f.a)) (q + 1) d, 0) else if g = 18446744073709551615 then ([], 11) else if Dw.wornB f 1 = true then ([], 4) else (Dw.freshF f 1 (g + 1) (q + 1) d, 0) from by
    unfold Dw.plan
    rw [if_neg (by rw [hev]; decide), if_neg (by rw [r2]; decide), r1]
    rfl)
  obtain ⟨q1, hq1⟩ : ∃ q1 : Nat, q1 = (q + 1) % 18446744073709551616 := ⟨_, rfl⟩
  obtain ⟨g1, hg1⟩ : ∃ g1 : Nat, g1 = (g + 1) % 18446744073709551616 := ⟨_, rfl⟩
  have hq1l : q1 < 18446744073709551616 := by omega
  have hg1l : g1 < 18446744073709551616 := by omega
  have hw1 : IntKind.u64.wrap ((q : Int) + 1) = (q1 : Int) := by rw [show IntKind.u64.wrap ((q : Int) + 1) = ((q : Int) + 1) % 18446744073709551616 from by simp [IntKind.wrap, IntKind.bits, IntKind.signed]]; omega
  have hw2 : ((q : Int) + 1) % 18446744073709551616 = (q1 : Int) := by omega
  have hw3 : IntKind.u64.wrap ((g : Int) + 1) = (g1 : Int) := by rw [show IntKind.u64.wrap ((g : Int) + 1) = ((g : Int) + 1) % 18446744073709551616 from by simp [IntKind.wrap, IntKind.bits, IntKind.signed]]; omega
  have hw4 : ((g : Int) + 1) % 18446744073709551616 = (g1 : Int) := by omega
  have Hq1 := Lib.hid hq1; have Hg1 := Lib.hid hg1; have Hq := Lib.hid hq; have Hg := Lib.hid hg; have Hq1l := Lib.hid hq1l; have Hg1l := Lib.hid hg1l
  have HEV := Lib.hid (fun w => reven10_any f w)
  rw [hev] at HEV
  have HRD := Lib.hid (fun w => rread_any f hf.a hf.b w)
  rw [r1, r2] at HRD
  have HNX := Lib.hid (fun w => rnext_any (f.a) (by first | exact hf.a | exact hf.b) w)
  have HAP := Lib.hid (fun s (hs : s ≤ 12) w => rappend11_any 0 s q1 d hs Hq1l.out hd w)
  have HFR := Lib.hid (fun w => rfreshP_any f hf 1 (by decide) g1 q1 d Hg1l.out Hq1l.out hd w)
  have hns := Dw.next_le (f.a)
  have HWO := Lib.hid (show Dw.wornB f 1 = decide (f.li ≤ f.e1) from rfl)
  clear hq1 hg1 hq hg hq1l hg1l hd hev r1 r2 hf
  have hB := (Below.refl w.heap.size w).alloc (Nat.le_refl _) (.cells (flashC f.a f.b f.e0 f.e1 f.li) 37)
  have hF := heap_alloc_new w (.cells (flashC f.a f.b f.e0 f.e1 f.li) 37)
  obtain ⟨c0, c1, c2, c3, c4⟩ := cells5 hF
  go_enter Tryz.func46, Tryz.ntmps46
  go_wp2_with fail
  refine (HEV.out _).mono ?_
  rintro e w1 ⟨rfl, hb⟩
  replace hF := (hb.block _ (block_lt hF)).trans hF
  replace hB := hB.trans (hb.mono hB.size)
  clear hb
  clear c0 c1 c2 c3 c4
  obtain ⟨c0, c1, c2, c3, c4⟩ := cells5 hF
  go_wp2_with fail
  refine (HRD.out _).mono ?_
  rintro e w2 ⟨rfl, hb⟩
  replace hF := (hb.block _ (block_lt hF)).trans hF
  replace hB := hB.trans (hb.mono hB.size)
  clear hb
  clear c0 c1 c2 c3 c4
  have hz2 := hB.size
  have hA := heap_alloc_new w2 (.cells #[.int .i64 0, .int .u64 g, .int .u64 q, .int .u64 d0] 34)
  replace hF := (heap_alloc_old w2 (.cells #[.int .i64 0, .int .u64 g, .int .u64 q, .int .u64 d0] 34) _ (block_lt hF)).trans hF
  replace hB := hB.alloc hB.size (.cells #[.int .i64 0, .int .u64 g, .int .u64 q, .int .u64 d0] 34)
  obtain ⟨c0, c1, c2, c3, c4⟩ := cells5 hF
  obtain ⟨a0, a1, a2, a3⟩ := cells4 hA
  have HF := Lib.hid hF; have HA := Lib.hid hA; have HB := Lib.hid hB
  clear hF hA hB
  by_cases e1 : q = 18446744073709551615
  · have HE := Lib.hid (show Dw.plan f d = ([], 11) from by rw [HP.out, if_pos e1])
    have b1 : ((q : Int) == 18446744073709551615) = true := by rw [beq_iff_eq]; omega
    clear e1 HP
    go_wp2_with fail
    refine bodyPost_ret (results_tmp2 rfl _ _ _) rfl ?_
    rw [HE.out]
    exact ⟨⟨_, rfl, .inl ⟨rfl, rfl⟩⟩, HB.out⟩
  · have b1 : ((q : Int) == 18446744073709551615) = false := by rw [beq_eq_false_iff_ne]; omega
    have hq1e : q1 = q + 1 := by have := Hq1.out; have := Hq.out; omega
    have hp2 := HP.out.trans (if_neg e1)
    rw [← hq1e] at hp2
    have HP2 := Lib.hid hp2
    clear HP e1 hq1e hp2
    go_wp2_with fail
    generalize w2.alloc _ = W at *
    generalize w2.heap.size = ga at *
    refine (HNX.out _).mono ?_
    rintro e w3 ⟨rfl, hb⟩
    have hF := (hb.block _ (block_lt HF.out)).trans HF.out
    have hA := (hb.block _ (block_lt HA.out)).trans HA.out
    have hB := HB.out.trans (hb.mono HB.out.size)
    clear hb HF HA HB c0 c1 c2 c3 c4 a0 a1 a2 a3 HNX
    generalize Dw.next (f.a) = nx at *
    obtain ⟨c0, c1, c2, c3, c4⟩ := cells5 hF
    obtain ⟨a0, a1, a2, a3⟩ := cells4 hA
    have HF := Lib.hid hF; have HA := Lib.hid hA; have HB := Lib.hid hB
    clear hF hA hB
    by_cases e2 : 0 < nx
    · have HE := Lib.hid (HP2.out.trans (if_pos e2))
      clear HP2
      have b2 : (0 : Int) < (nx : Int) := by omega
      go_wp2_with fail
      refine (HAP.out nx (by omega) _).mono ?_
      rintro e w4 ⟨⟨v, rfl, hv⟩, hb⟩
      have hB := HB.out.trans (hb.mono HB.out.size)
      clear hb HB HF HA c0 c1 c2 c3 c4 a0 a1 a2 a3
      go_wp2_with fail
      refine bodyPost_ret (results_tmp2 rfl _ _ _) rfl ?_
      rw [HE.out]
      exact ⟨⟨_, rfl, rpl_append hv⟩, hB⟩
    · have b2 : ¬ (0 : Int) < (nx : Int) := by omega
      have HP3 := Lib.hid (HP2.out.trans (if_neg e2))
      clear e2 HP2
      go_wp2_with fail
      refine (rother10_any _ 0 rfl _).mono ?_
      rintro e w4 ⟨rfl, hb⟩
      rw [show Dw.other 0 = 1 from rfl]
      have hF := (hb.block _ (block_lt HF.out)).trans HF.out
      have hA := (hb.block _ (block_lt HA.out)).trans HA.out
      have hB := HB.out.trans (hb.mono HB.out.size)
      clear hb HF HA HB c0 c1 c2 c3 c4 a0 a1 a2 a3
      obtain ⟨c0, c1, c2, c3, c4⟩ := cells5 hF
      obtain ⟨a0, a1, a2, a3⟩ := cells4 hA
      have HF := Lib.hid hF; have HA := Lib.hid hA; have HB := Lib.hid hB
      clear hF hA hB
      by_cases e3 : g = 18446744073709551615
      · have b3 : ((g : Int) == 18446744073709551615) = true := by rw [beq_iff_eq]; omega
        have HE := Lib.hid (HP3.out.trans (if_pos e3))
        clear e3 HP3
        go_wp2_with fail
        refine bodyPost_ret (results_tmp2 rfl _ _ _) rfl ?_
        rw [HE.out]
        exact ⟨⟨_, rfl, .inl ⟨rfl, rfl⟩⟩, HB.out⟩
      · have b3 : ((g : Int) == 18446744073709551615) = false := by rw [beq_eq_false_iff_ne]; omega
        have hg1e : g1 = g + 1 := by have := Hg1.out; have := Hg.out; omega
        have hp4 := HP3.out.trans (if_neg e3)
        rw [← hg1e, HWO.out] at hp4
        have HP4 := Lib.hid hp4
        clear e3 hg1e HP3 hp4 HWO
        generalize hfr : Dw.freshF f 1 g1 q1 d = fr at *
        have Hfr := Lib.hid hfr
        clear hfr
        go_wp2_with fail
        refine wp_pure (List.range 7) 7 (by kernel_rfl) (by kernel_rfl) rfl ?_
        rw [show List.range 7 = [0, 1, 2, 3, 4, 5, 6] from rfl]
        repeat' (first | (refine pl_nil ?_) | (refine pl_value (v := ?_) rfl rfl ?_ ?_; rotate_left 1; (focus (intro w' hk; have k3 := look hk c3; have k4 := look hk c4; go_simp; (first | done | with_reducible rfl | exact rfl))); (try simp only [Act.put, List.setIfInBounds_toArray, List.set_cons_zero, List.set_cons_succ])) | (refine pl_skip rfl rfl ?_; (try simp only [Act.put, List.setIfInBounds_toArray, List.set_cons_zero, List.set_cons_succ])))
        intro w5 hk5
        simp only [List.drop_succ_cons, List.drop_zero]
        have hF := (hk5.block _ (block_lt HF.out) id).trans HF.out
        have hA := (hk5.block _ (block_lt HA.out) id).trans HA.out
        have hB := HB.out.trans (hk5.whole.mono HB.out.size)
        clear hk5 HF HA HB c0 c1 c2 c3 c4 a0 a1 a2 a3
        obtain ⟨c0, c1, c2, c3, c4⟩ := cells5 hF
        obtain ⟨a0, a1, a2, a3⟩ := cells4 hA
        have HF := Lib.hid hF; have HA := Lib.hid hA; have HB := Lib.hid hB
        clear hF hA hB
        by_cases hwo : f.li ≤ f.e1
        · have HE := Lib.hid (HP4.out.trans (if_pos (decide_eq_true hwo)))
          clear HP4
          go_wp2_with fail
          refine bodyPost_ret (results_tmp2 rfl _ _ _) rfl ?_
          rw [HE.out]
          exact ⟨⟨_, rfl, .inl ⟨rfl, rfl⟩⟩, HB.out⟩
        · have HE := Lib.hid (HP4.out.trans (if_neg (by rw [decide_eq_false hwo]; decide)))
          clear HP4
          go_wp2_with fail
          refine (HFR.out _).mono ?_
          rintro e w6 ⟨⟨v, rfl, hv⟩, hb⟩
          have hB := HB.out.trans (hb.mono HB.out.size)
          clear hb HB HF HA c0 c1 c2 c3 c4 a0 a1 a2 a3
          go_wp2_with fail
          refine bodyPost_ret (results_tmp2 rfl _ _ _) rfl ?_
          rw [← Hfr.out] at hv
          rw [HE.out, ← Hfr.out]
          exact ⟨⟨_, rfl, rpl_fresh hv⟩, hB⟩

set_option maxRecDepth 100000 in
set_option maxHeartbeats 4000000 in
theorem rplanSB (f : Dw.Fl) (hf : Dw.FlOk f) (d : Nat) (hd : d < 18446744073709551616) (g q d0 : Nat) (hg : g < 18446744073709551616) (hq : q < 18446744073709551616) (hev : Dw.even f.a f.b = true) (r1 : Dw.readS f.a f.b = ⟨1, g, q, d0⟩) (r2 : Dw.readE f.a f.b = 0) (w : World) :
    Calls Tryz.prog 46 #[flV f, .int .u64 d] w fun e w' => (∃ v, e = .returned (.tuple #[v, .int .i64 (Dw.plan f d).2]) ∧ RPl w' v (Dw.plan f d).1) ∧ Below w.heap.size w w' := by
  have HP := Lib.hid (show Dw.plan f d = if q = 18446744073709551615 then ([], 11) else if 0 < Dw.next (f.b) then (Dw.appendOps 1 (Dw.next (f.b)) (q + 1) d, 0) else if g = 18446744073709551615 then ([], 11) else if Dw.wornB f 0 = true then ([], 4) else (Dw.freshF f 0 (g + 1) (q + 1) d, 0) from by
    unfold Dw.plan
    rw [if_neg (by rw [hev]; decide), if_neg (by rw [r2]; decide), r1]
    rfl)
  obtain ⟨q1, hq1⟩ : ∃ q1 : Nat, q1 = (q + 1) % 18446744073709551616 := ⟨_, rfl⟩
  obtain ⟨g1, hg1⟩ : ∃ g1 : Nat, g1 = (g + 1) % 18446744073709551616 := ⟨_, rfl⟩
  have hq1l : q1 < 18446744073709551616 := by omega
  have hg1l : g1 < 18446744073709551616 := by omega
  have hw1 : IntKind.u64.wrap ((q : Int) + 1) = (q1 : Int) := by rw [show IntKind.u64.wrap ((q : Int) + 1) = ((q : Int) + 1) % 18446744073709551616 from by simp [IntKind.wrap, IntKind.bits, IntKind.signed]]; omega
  have hw2 : ((q : Int) + 1) % 18446744073709551616 = (q1 : Int) := by omega
  have hw3 : IntKind.u64.wrap ((g : Int) + 1) = (g1 : Int) := by rw [show IntKind.u64.wrap ((g : Int) + 1) = ((g : Int) + 1) % 18446744073709551616 from by simp [IntKind.wrap, IntKind.bits, IntKind.signed]]; omega
  have hw4 : ((g : Int) + 1) % 18446744073709551616 = (g1 : Int) := by omega
  have Hq1 := Lib.hid hq1; have Hg1 := Lib.hid hg1; have Hq := Lib.hid hq; have Hg := Lib.hid hg; have Hq1l := Lib.hid hq1l; have Hg1l := Lib.hid hg1l
  have HEV := Lib.hid (fun w => reven10_any f w)
  rw [hev] at HEV
  have HRD := Lib.hid (fun w => rread_any f hf.a hf.b w)
  rw [r1, r2] at HRD
  have HNX := Lib.hid (fun w => rnext_any (f.b) (by first | exact hf.a | exact hf.b) w)
  have HAP := Lib.hid (fun s (hs : s ≤ 12) w => rappend11_any 1 s q1 d hs Hq1l.out hd w)
  have HFR := Lib.hid (fun w => rfreshP_any f hf 0 (by decide) g1 q1 d Hg1l.out Hq1l.out hd w)
  have hns := Dw.next_le (f.b)
  have HWO := Lib.hid (show Dw.wornB f 0 = decide (f.li ≤ f.e0) from rfl)
  clear hq1 hg1 hq hg hq1l hg1l hd hev r1 r2 hf
  have hB := (Below.refl w.heap.size w).alloc (Nat.le_refl _) (.cells (flashC f.a f.b f.e0 f.e1 f.li) 37)
  have hF := heap_alloc_new w (.cells (flashC f.a f.b f.e0 f.e1 f.li) 37)
  obtain ⟨c0, c1, c2, c3, c4⟩ := cells5 hF
  go_enter Tryz.func46, Tryz.ntmps46
  go_wp2_with fail
  refine (HEV.out _).mono ?_
  rintro e w1 ⟨rfl, hb⟩
  replace hF := (hb.block _ (block_lt hF)).trans hF
  replace hB := hB.trans (hb.mono hB.size)
  clear hb
  clear c0 c1 c2 c3 c4
  obtain ⟨c0, c1, c2, c3, c4⟩ := cells5 hF
  go_wp2_with fail
  refine (HRD.out _).mono ?_
  rintro e w2 ⟨rfl, hb⟩
  replace hF := (hb.block _ (block_lt hF)).trans hF
  replace hB := hB.trans (hb.mono hB.size)
  clear hb
  clear c0 c1 c2 c3 c4
  have hz2 := hB.size
  have hA := heap_alloc_new w2 (.cells #[.int .i64 1, .int .u64 g, .int .u64 q, .int .u64 d0] 34)
  replace hF := (heap_alloc_old w2 (.cells #[.int .i64 1, .int .u64 g, .int .u64 q, .int .u64 d0] 34) _ (block_lt hF)).trans hF
  replace hB := hB.alloc hB.size (.cells #[.int .i64 1, .int .u64 g, .int .u64 q, .int .u64 d0] 34)
  obtain ⟨c0, c1, c2, c3, c4⟩ := cells5 hF
  obtain ⟨a0, a1, a2, a3⟩ := cells4 hA
  have HF := Lib.hid hF; have HA := Lib.hid hA; have HB := Lib.hid hB
  clear hF hA hB
  by_cases e1 : q = 18446744073709551615
  · have HE := Lib.hid (show Dw.plan f d = ([], 11) from by rw [HP.out, if_pos e1])
    have b1 : ((q : Int) == 18446744073709551615) = true := by rw [beq_iff_eq]; omega
    clear e1 HP
    go_wp2_with fail
    refine bodyPost_ret (results_tmp2 rfl _ _ _) rfl ?_
    rw [HE.out]
    exact ⟨⟨_, rfl, .inl ⟨rfl, rfl⟩⟩, HB.out⟩
  · have b1 : ((q : Int) == 18446744073709551615) = false := by rw [beq_eq_false_iff_ne]; omega
    have hq1e : q1 = q + 1 := by have := Hq1.out; have := Hq.out; omega
    have hp2 := HP.out.trans (if_neg e1)
    rw [← hq1e] at hp2
    have HP2 := Lib.hid hp2
    clear HP e1 hq1e hp2
    go_wp2_with fail
    generalize w2.alloc _ = W at *
    generalize w2.heap.size = ga at *
    refine (HNX.out _).mono ?_
    rintro e w3 ⟨rfl, hb⟩
    have hF := (hb.block _ (block_lt HF.out)).trans HF.out
    have hA := (hb.block _ (block_lt HA.out)).trans HA.out
    have hB := HB.out.trans (hb.mono HB.out.size)
    clear hb HF HA HB c0 c1 c2 c3 c4 a0 a1 a2 a3 HNX
    generalize Dw.next (f.b) = nx at *
    obtain ⟨c0, c1, c2, c3, c4⟩ := cells5 hF
    obtain ⟨a0, a1, a2, a3⟩ := cells4 hA
    have HF := Lib.hid hF; have HA := Lib.hid hA; have HB := Lib.hid hB
    clear hF hA hB
    by_cases e2 : 0 < nx
    · have HE := Lib.hid (HP2.out.trans (if_pos e2))
      clear HP2
      have b2 : (0 : Int) < (nx : Int) := by omega
      go_wp2_with fail
      refine (HAP.out nx (by omega) _).mono ?_
      rintro e w4 ⟨⟨v, rfl, hv⟩, hb⟩
      have hB := HB.out.trans (hb.mono HB.out.size)
      clear hb HB HF HA c0 c1 c2 c3 c4 a0 a1 a2 a3
      go_wp2_with fail
      refine bodyPost_ret (results_tmp2 rfl _ _ _) rfl ?_
      rw [HE.out]
      exact ⟨⟨_, rfl, rpl_append hv⟩, hB⟩
    · have b2 : ¬ (0 : Int) < (nx : Int) := by omega
      have HP3 := Lib.hid (HP2.out.trans (if_neg e2))
      clear e2 HP2
      go_wp2_with fail
      refine (rother10_any _ 1 rfl _).mono ?_
      rintro e w4 ⟨rfl, hb⟩
      rw [show Dw.other 1 = 0 from rfl]
      have hF := (hb.block _ (block_lt HF.out)).trans HF.out
      have hA := (hb.block _ (block_lt HA.out)).trans HA.out
      have hB := HB.out.trans (hb.mono HB.out.size)
      clear hb HF HA HB c0 c1 c2 c3 c4 a0 a1 a2 a3
      obtain ⟨c0, c1, c2, c3, c4⟩ := cells5 hF
      obtain ⟨a0, a1, a2, a3⟩ := cells4 hA
      have HF := Lib.hid hF; have HA := Lib.hid hA; have HB := Lib.hid hB
      clear hF hA hB
      by_cases e3 : g = 18446744073709551615
      · have b3 : ((g : Int) == 18446744073709551615) = true := by rw [beq_iff_eq]; omega
        have HE := Lib.hid (HP3.out.trans (if_pos e3))
        clear e3 HP3
        go_wp2_with fail
        refine bodyPost_ret (results_tmp2 rfl _ _ _) rfl ?_
        rw [HE.out]
        exact ⟨⟨_, rfl, .inl ⟨rfl, rfl⟩⟩, HB.out⟩
      · have b3 : ((g : Int) == 18446744073709551615) = false := by rw [beq_eq_false_iff_ne]; omega
        have hg1e : g1 = g + 1 := by have := Hg1.out; have := Hg.out; omega
        have hp4 := HP3.out.trans (if_neg e3)
        rw [← hg1e, HWO.out] at hp4
        have HP4 := Lib.hid hp4
        clear e3 hg1e HP3 hp4 HWO
        generalize hfr : Dw.freshF f 0 g1 q1 d = fr at *
        have Hfr := Lib.hid hfr
        clear hfr
        go_wp2_with fail
        refine wp_pure (List.range 7) 7 (by kernel_rfl) (by kernel_rfl) rfl ?_
        rw [show List.range 7 = [0, 1, 2, 3, 4, 5, 6] from rfl]
        repeat' (first | (refine pl_nil ?_) | (refine pl_value (v := ?_) rfl rfl ?_ ?_; rotate_left 1; (focus (intro w' hk; have k2 := look hk c2; have k4 := look hk c4; go_simp; (first | done | with_reducible rfl | exact rfl))); (try simp only [Act.put, List.setIfInBounds_toArray, List.set_cons_zero, List.set_cons_succ])) | (refine pl_skip rfl rfl ?_; (try simp only [Act.put, List.setIfInBounds_toArray, List.set_cons_zero, List.set_cons_succ])))
        intro w5 hk5
        simp only [List.drop_succ_cons, List.drop_zero]
        have hF := (hk5.block _ (block_lt HF.out) id).trans HF.out
        have hA := (hk5.block _ (block_lt HA.out) id).trans HA.out
        have hB := HB.out.trans (hk5.whole.mono HB.out.size)
        clear hk5 HF HA HB c0 c1 c2 c3 c4 a0 a1 a2 a3
        obtain ⟨c0, c1, c2, c3, c4⟩ := cells5 hF
        obtain ⟨a0, a1, a2, a3⟩ := cells4 hA
        have HF := Lib.hid hF; have HA := Lib.hid hA; have HB := Lib.hid hB
        clear hF hA hB
        by_cases hwo : f.li ≤ f.e0
        · have HE := Lib.hid (HP4.out.trans (if_pos (decide_eq_true hwo)))
          clear HP4
          go_wp2_with fail
          refine bodyPost_ret (results_tmp2 rfl _ _ _) rfl ?_
          rw [HE.out]
          exact ⟨⟨_, rfl, .inl ⟨rfl, rfl⟩⟩, HB.out⟩
        · have HE := Lib.hid (HP4.out.trans (if_neg (by rw [decide_eq_false hwo]; decide)))
          clear HP4
          go_wp2_with fail
          refine (HFR.out _).mono ?_
          rintro e w6 ⟨⟨v, rfl, hv⟩, hb⟩
          have hB := HB.out.trans (hb.mono HB.out.size)
          clear hb HB HF HA c0 c1 c2 c3 c4 a0 a1 a2 a3
          go_wp2_with fail
          refine bodyPost_ret (results_tmp2 rfl _ _ _) rfl ?_
          rw [← Hfr.out] at hv
          rw [HE.out, ← Hfr.out]
          exact ⟨⟨_, rfl, rpl_fresh hv⟩, hB⟩

set_option maxRecDepth 100000 in
set_option maxHeartbeats 4000000 in
theorem rplan_any (f : Dw.Fl) (hf : Dw.FlOk f) (d : Nat) (hd : d < 18446744073709551616) (w : World) :
    Calls Tryz.prog 46 #[flV f, .int .u64 d] w fun e w' => (∃ v, e = .returned (.tuple #[v, .int .i64 (Dw.plan f d).2]) ∧ RPl w' v (Dw.plan f d).1) ∧ Below w.heap.size w w' := by
  have hB := (Below.refl w.heap.size w).alloc (Nat.le_refl _) (.cells (flashC f.a f.b f.e0 f.e1 f.li) 37)
  have hF := heap_alloc_new w (.cells (flashC f.a f.b f.e0 f.e1 f.li) 37)
  obtain ⟨c0, c1, c2, c3, c4⟩ := cells5 hF
  have HEV := Lib.hid (fun w => reven10_any f w)
  cases hev : Dw.even f.a f.b with
  | false =>
    have HE := Lib.hid (show Dw.plan f d = ([], 1) from by unfold Dw.plan; rw [if_pos hev])
    rw [hev] at HEV
    clear hev
    go_enter Tryz.func46, Tryz.ntmps46
    go_wp2_with fail
    refine (HEV.out _).mono ?_
    rintro e w1 ⟨rfl, hb⟩
    replace hF := (hb.block _ (block_lt hF)).trans hF
    replace hB := hB.trans (hb.mono hB.size)
    clear hb
    clear c0 c1 c2 c3 c4
    go_wp2_with fail
    refine bodyPost_ret (results_tmp2 rfl _ _ _) rfl ?_
    rw [HE.out]
    exact ⟨⟨_, rfl, .inl ⟨rfl, rfl⟩⟩, hB⟩
  | true =>
    rcases Dw.read_two f.a f.b with ⟨r1, r2, _⟩ | ⟨k, hk, g, q, d0, hg, hq, _, r1, r2⟩
    · have HP := Lib.hid (show Dw.plan f d = if f.e0 < f.li then (Dw.freshF f 0 1 1 d, 0) else if f.e1 < f.li then (Dw.freshF f 1 1 1 d, 0) else ([], 4) from by
        unfold Dw.plan
        rw [if_neg (by rw [hev]; decide), if_pos (by rw [r2]; decide)]
        unfold Dw.wornB
        by_cases h0 : f.e0 < f.li
        · rw [if_pos (decide_eq_false (by show ¬ f.li ≤ f.e0; omega)), if_pos h0]
        · rw [if_neg (by rw [decide_eq_true (show f.li ≤ f.er 0 from by show f.li ≤ f.e0; omega)]; decide), if_neg h0]
          by_cases h1 : f.e1 < f.li
          · rw [if_pos (decide_eq_false (by show ¬ f.li ≤ f.e1; omega)), if_pos h1]
          · rw [if_neg (by rw [decide_eq_true (show f.li ≤ f.er 1 from by show f.li ≤ f.e1; omega)]; decide), if_neg h1])
      rw [hev] at HEV
      have HRD := Lib.hid (fun w => rread_any f hf.a hf.b w)
      rw [r1, r2, show Dw.psZero = ⟨0, 0, 0, 0⟩ from rfl] at HRD
      have HFR := Lib.hid (fun k hk w => rfreshP_any f hf k hk 1 1 d (by decide) (by decide) hd w)
      clear hev r1 r2 hf hd
      go_enter Tryz.func46, Tryz.ntmps46
      go_wp2_with fail
      refine (HEV.out _).mono ?_
      rintro e w1 ⟨rfl, hb⟩
      replace hF := (hb.block _ (block_lt hF)).trans hF
      replace hB := hB.trans (hb.mono hB.size)
      clear hb
      clear c0 c1 c2 c3 c4
      obtain ⟨c0, c1, c2, c3, c4⟩ := cells5 hF
      go_wp2_with fail
      refine (HRD.out _).mono ?_
      rintro e w2 ⟨rfl, hb⟩
      replace hF := (hb.block _ (block_lt hF)).trans hF
      replace hB := hB.trans (hb.mono hB.size)
      clear hb
      clear c0 c1 c2 c3 c4
      have hA := heap_alloc_new w2 (.cells #[.int .i64 0, .int .u64 0, .int .u64 0, .int .u64 0] 34)
      replace hF := (heap_alloc_old w2 (.cells #[.int .i64 0, .int .u64 0, .int .u64 0, .int .u64 0] 34) _ (block_lt hF)).trans hF
      replace hB := hB.alloc hB.size (.cells #[.int .i64 0, .int .u64 0, .int .u64 0, .int .u64 0] 34)
      clear hA
      obtain ⟨c0, c1, c2, c3, c4⟩ := cells5 hF
      have HB := Lib.hid hB
      clear hF hB
      by_cases h0 : f.e0 < f.li
      · have HE := Lib.hid (HP.out.trans (if_pos h0))
        clear HP
        go_wp2_with fail
        refine (HFR.out 0 (by decide) _).mono ?_
        rintro e w6 ⟨⟨v, rfl, hv⟩, hb⟩
        have hB := HB.out.trans (hb.mono HB.out.size)
        clear hb HB c0 c1 c2 c3 c4
        go_wp2_with fail
        refine bodyPost_ret (results_tmp2 rfl _ _ _) rfl ?_
        rw [HE.out]
        exact ⟨⟨_, rfl, rpl_fresh hv⟩, hB⟩
      · by_cases h1 : f.e1 < f.li
        · have HE := Lib.hid (HP.out.trans ((if_neg h0).trans (if_pos h1)))
          clear HP
          go_wp2_with fail
          refine (HFR.out 1 (by decide) _).mono ?_
          rintro e w6 ⟨⟨v, rfl, hv⟩, hb⟩
          have hB := HB.out.trans (hb.mono HB.out.size)
          clear hb HB c0 c1 c2 c3 c4
          go_wp2_with fail
          refine bodyPost_ret (results_tmp2 rfl _ _ _) rfl ?_
          rw [HE.out]
          exact ⟨⟨_, rfl, rpl_fresh hv⟩, hB⟩
        · have HE := Lib.hid (HP.out.trans ((if_neg h0).trans (if_neg h1)))
          clear HP
          go_wp2_with fail
          refine bodyPost_ret (results_tmp2 rfl _ _ _) rfl ?_
          rw [HE.out]
          exact ⟨⟨_, rfl, .inl ⟨rfl, rfl⟩⟩, HB.out⟩
    · rcases (by omega : k = 0 ∨ k = 1) with rfl | rfl
      · exact rplanSA f hf d hd g q d0 hg hq hev r1 r2 w
      · exact rplanSB f hf d hd g q d0 hg hq hev r1 r2 w
end Go.Proofs.YtaniehjhmjecjaaGreatDoor
