/- The walk of PlanCuts (this text is printed by wip/gen/pcuts.py). -/
import Derived.Test.YtaniehjhmjecjaaGreatDoorPPDone
namespace Go.Proofs.YtaniehjhmjecjaaGreatDoor
open Go.RowKit Go.Shelf
attribute [local go_sem] Oper.semAt_some

set_option maxRecDepth 100000 in
set_option maxHeartbeats 4000000 in
theorem pcuts_any (f : Dw.Fl) (hr : Dw.FlRange f) (d : Nat) (hd : d < 18446744073709551616) (cut : Int) (m : List UInt8) (w : World) (hn : NoneAt w) :
    Calls Tryz.prog 4 #[flV f, .int .u64 d, .int .i64 cut, .string ⟨m.toArray⟩] w fun e w' => e = .returned (.bool true) ∧ Below w.heap.size w w' := by
  have hB := (Below.refl w.heap.size w).alloc (Nat.le_refl _) (.cells (flashC f.a f.b f.e0 f.e1 f.li) 25)
  have hF := heap_alloc_new w (.cells (flashC f.a f.b f.e0 f.e1 f.li) 25)
  have HD := Lib.hid hd; have HRN := Lib.hid hr
  clear hd hr
  obtain ⟨c0, c1, c2, c3, c4⟩ := cells5 hF
  go_enter Tryz.func4, Tryz.ntmps4
  go_wp2_with fail
  refine (big11_any f _).mono ?_
  rintro e w1 ⟨rfl, hb⟩
  replace hF := (hb.block _ (block_lt hF)).trans hF
  replace hB := hB.trans (hb.mono hB.size)
  clear hb
  clear c0 c1 c2 c3 c4
  cases hbig : Dw.big f.a f.b
  · by_cases hm : 500 < m.length
    · have hm' : (500 : Int) < (m.length : Int) := by omega
      have HF := Lib.hid hF; have HB := Lib.hid hB
      clear hF hB
      go_wp2_with fail
      refine (shown11_any _ (hn.next HB.out)).mono ?_
      rintro e w2 ⟨rfl, hb⟩
      have hB := HB.out.trans (hb.mono HB.out.size)
      clear hb HF HB
      go_wp2_with fail
      go_ret
      exact ⟨rfl, hB⟩
    · have hm' : ¬ (500 : Int) < (m.length : Int) := by omega
      have hok := Dw.ok_of HRN.out hbig
      have HOK := Lib.hid hok; have HM := Lib.hid hm
      clear hbig hok hm
      have HF := Lib.hid hF; have HB := Lib.hid hB
      clear hF hB
      go_wp2_with fail
      refine (shown11_any _ (hn.next HB.out)).mono ?_
      rintro e w2 ⟨rfl, hb⟩
      have hF := (hb.block _ (block_lt HF.out)).trans HF.out
      have hB := HB.out.trans (hb.mono HB.out.size)
      clear hb HF HB
      obtain ⟨c0, c1, c2, c3, c4⟩ := cells5 hF
      have HF := Lib.hid hF; have HB := Lib.hid hB
      clear hF hB
      go_wp2_with fail
      refine (plan_any f HOK.out d HD.out _ (hn.next HB.out)).mono ?_
      rintro e w3 ⟨⟨v1, rfl, own1⟩, hb⟩
      have hF := (hb.block _ (block_lt HF.out)).trans HF.out
      have hB := HB.out.trans (hb.mono HB.out.size)
      clear hb HF HB c0 c1 c2 c3 c4
      obtain ⟨sa, ca, rfl⟩ := own_len own1
      have HR0 := Lib.hid (fun w => rread_any f HOK.out.a HOK.out.b w)
      obtain ⟨s0, hs0⟩ : ∃ s0, Dw.readS f.a f.b = s0 := ⟨_, rfl⟩
      obtain ⟨re0, hre0⟩ : ∃ re0, Dw.readE f.a f.b = re0 := ⟨_, rfl⟩
      rw [hs0, hre0] at HR0
      obtain ⟨bk0, gn0, sq0, dt0⟩ := s0
      have HS0 := Lib.hid hs0; have HRE0 := Lib.hid hre0
      clear hs0 hre0
      obtain ⟨c0, c1, c2, c3, c4⟩ := cells5 hF
      have HF := Lib.hid hF; have HB := Lib.hid hB; have HO := Lib.hid own1
      clear hF hB own1
      go_wp2_with fail
      refine (its_any f _).mono ?_
      rintro e w4 ⟨rfl, hb⟩
      have hF := (hb.block _ (block_lt HF.out)).trans HF.out
      have hB := HB.out.trans (hb.mono HB.out.size)
      have hO := own_below HO.out (keepB hb)
      clear hb HF HB HO c0 c1 c2 c3 c4
      have HF := Lib.hid hF; have HB := Lib.hid hB; have HO := Lib.hid hO
      clear hF hB hO
      go_wp2_with fail
      refine (HR0.out _).mono ?_
      rintro e w5 ⟨rfl, hb⟩
      have hF := (hb.block _ (block_lt HF.out)).trans HF.out
      have hB := HB.out.trans (hb.mono HB.out.size)
      have hO := own_below HO.out (keepB hb)
      clear hb HF HB HO HR0
      have hS := heap_alloc_new w5 (.cells #[.int .i64 bk0, .int .u64 gn0, .int .u64 sq0, .int .u64 dt0] 34)
      have hF2 := (heap_alloc_old w5 (.cells #[.int .i64 bk0, .int .u64 gn0, .int .u64 sq0, .int .u64 dt0] 34) _ (block_lt hF)).trans hF
      have hO2 := own_below hO ((KeepBut.refl (fun _ => False) w5).alloc (.cells #[.int .i64 bk0, .int .u64 gn0, .int .u64 sq0, .int .u64 dt0] 34))
      have hB2 := hB.alloc hB.size (.cells #[.int .i64 bk0, .int .u64 gn0, .int .u64 sq0, .int .u64 dt0] 34)
      obtain ⟨c0, c1, c2, c3, c4⟩ := cells5 hF2
      have HF := Lib.hid hF2; have HB := Lib.hid hB2; have HO := Lib.hid hO2; have HS := Lib.hid hS
      clear hF hB hO hF2 hB2 hO2 hS
      by_cases her : (Dw.plan f d).2 = 0
      · obtain ⟨L, hL, hops, hpos, hmost⟩ := Dw.plan_ok HOK.out her
        have hcu := Dw.plan_cuts cut m HD.out her
        rcases hcu with h5 | h6 | ⟨h2, g0, gq, g1, gs⟩
        · rw [her, h5]
          clear her hL hops hpos hmost
          go_wp2_with fail
          go_ret
          exact ⟨rfl, HB.out⟩
        · rw [her, h6]
          clear her hL hops hpos hmost
          go_wp2_with fail
          go_ret
          exact ⟨rfl, HB.out⟩
        · obtain ⟨hok2, _⟩ := Dw.play_ok cut m _ _ 0 HOK.out hL hops
          have at1 := own_at HO.out hpos
          have HPL := Lib.hid (fun v w hv => rplay_any f HOK.out (Dw.plan f d).1 (by omega) hops v cut m (by have := HM.out; omega) w hv)
          have HOP := Lib.hid (fun v w hv => ops_any (Dw.plan f d).1 (by omega) v w hv)
          have HR1 := Lib.hid (fun w => rread_any (Dw.playL f (Dw.plan f d).1 0 cut m).1 hok2.a hok2.b w)
          rw [HRE0.out] at g0
          rw [HS0.out] at gq gs
          rw [g1] at HR1
          rw [her]
          rw [h2] at at1 ⊢
          clear hL hops hok2 her hpos hmost HO g1
          generalize (Dw.playL f (Dw.plan f d).1 0 cut m).2 = np at *
          generalize (Dw.playL f (Dw.plan f d).1 0 cut m).1 = g at *
          generalize (Dw.plan f d).1 = l at *
          generalize Dw.readS g.a g.b = s1 at *
          subst g0
          dsimp only at gq gs
          have HAT := Lib.hid at1; have GS := Lib.hid gs; have GQ := Lib.hid gq
          clear at1 gs gq h2 HS0 HRE0
          go_wp2_with fail
          generalize w5.alloc _ = W5 at *
          generalize w5.heap.size = gp at *
          refine (its_any f _).mono ?_
          rintro e w6 ⟨rfl, hb⟩
          have hB := HB.out.trans (hb.mono HB.out.size)
          have hAT := opsAt_keep HAT.out hb
          have hS := (hb.block _ (block_lt HS.out)).trans HS.out
          clear hb HF HB HAT HS c0 c1 c2 c3 c4
          have HB := Lib.hid hB; have HAT := Lib.hid hAT; have HS := Lib.hid hS
          clear hB hAT hS
          go_wp2_with fail
          refine (HOP.out _ _ HAT.out).mono ?_
          rintro e w7 ⟨⟨u, rfl, hu⟩, hb⟩
          have hB := HB.out.trans (hb.mono HB.out.size)
          have hS := (hb.block _ (block_lt HS.out)).trans HS.out
          obtain ⟨b7, cp7, cs7, t7, fr7, rfl, _, _⟩ := id hu
          clear hb HB HAT HS
          have HB := Lib.hid hB; have HU := Lib.hid hu; have HS := Lib.hid hS
          clear hB hu hS
          go_wp2_with fail
          refine (HPL.out _ _ HU.out).mono ?_
          rintro e w8 ⟨rfl, hb⟩
          have hB := HB.out.trans (hb.mono HB.out.size)
          have hS := (hb.block _ (block_lt HS.out)).trans HS.out
          clear hb HB HU HS
          have hG := heap_alloc_new w8 (.cells (flashC g.a g.b g.e0 g.e1 g.li) 37)
          have hS2 := (heap_alloc_old w8 (.cells (flashC g.a g.b g.e0 g.e1 g.li) 37) _ (block_lt hS)).trans hS
          have hB2 := hB.alloc hB.size (.cells (flashC g.a g.b g.e0 g.e1 g.li) 37)
          obtain ⟨c0, c1, c2, c3, c4⟩ := cells5 hG
          have HB := Lib.hid hB2; have HS := Lib.hid hS2
          clear hB hS hB2 hS2 hG
          go_wp2_with fail
          refine (HR1.out _).mono ?_
          rintro e w9 ⟨rfl, hb⟩
          have hB := HB.out.trans (hb.mono HB.out.size)
          have hS := (hb.block _ (block_lt HS.out)).trans HS.out
          clear hb HB HS c0 c1 c2 c3 c4 HR1 HPL HOP
          have hsw2 : ((sq0 : Int) + 1) % 18446744073709551616 = ((sq0 + 1 : Nat) : Int) := by
            have := GQ.out
            omega
          have hsw : IntKind.u64.wrap ((sq0 : Int) + 1) = ((sq0 + 1 : Nat) : Int) := by
            rw [show IntKind.u64.wrap ((sq0 : Int) + 1) = ((sq0 : Int) + 1) % 18446744073709551616 from by simp [IntKind.wrap, IntKind.bits, IntKind.signed]]
            exact hsw2
          rcases GS.out with rfl | rfl
          · clear hsw hsw2 GS GQ
            have hT := heap_alloc_new w9 (.cells #[.int .i64 bk0, .int .u64 gn0, .int .u64 sq0, .int .u64 dt0] 34)
            have hS2 := (heap_alloc_old w9 (.cells #[.int .i64 bk0, .int .u64 gn0, .int .u64 sq0, .int .u64 dt0] 34) _ (block_lt hS)).trans hS
            have hB2 := hB.alloc hB.size (.cells #[.int .i64 bk0, .int .u64 gn0, .int .u64 sq0, .int .u64 dt0] 34)
            obtain ⟨s0, s1, s2, s3⟩ := cells4 hS2
            obtain ⟨t0, t1, t2, t3⟩ := cells4 hT
            have HB := Lib.hid hB2
            clear hB hS hB2 hS2 hT
            go_wp2_with fail
            go_ret
            exact ⟨rfl, HB.out⟩
          · have hne : (((sq0 + 1 : Nat) : Int) == (sq0 : Int)) = false := by rw [beq_eq_false_iff_ne]; omega
            clear hsw2 GS GQ
            generalize sq0 + 1 = sq1 at *
            have hT := heap_alloc_new w9 (.cells #[.int .i64 bk0, .int .u64 gn0, .int .u64 sq1, .int .u64 d] 34)
            have hS2 := (heap_alloc_old w9 (.cells #[.int .i64 bk0, .int .u64 gn0, .int .u64 sq1, .int .u64 d] 34) _ (block_lt hS)).trans hS
            have hB2 := hB.alloc hB.size (.cells #[.int .i64 bk0, .int .u64 gn0, .int .u64 sq1, .int .u64 d] 34)
            obtain ⟨s0, s1, s2, s3⟩ := cells4 hS2
            obtain ⟨t0, t1, t2, t3⟩ := cells4 hT
            have HB := Lib.hid hB2
            clear hB hS hB2 hS2 hT
            go_wp2_with fail
            go_ret
            exact ⟨rfl, HB.out⟩
      · have hnil := Dw.plan_no her
        have hneb : ((Dw.plan f d).2 == 0) = false := by rw [beq_eq_false_iff_ne]; exact her
        rw [hnil]
        generalize (Dw.plan f d).2 = er at *
        clear hnil HO
        go_wp2_with fail
        go_ret
        exact ⟨rfl, HB.out⟩
  · skip
    have HF := Lib.hid hF; have HB := Lib.hid hB
    clear hF hB
    go_wp2_with fail
    refine (shown11_any _ (hn.next HB.out)).mono ?_
    rintro e w2 ⟨rfl, hb⟩
    have hB := HB.out.trans (hb.mono HB.out.size)
    clear hb HF HB
    go_wp2_with fail
    go_ret
    exact ⟨rfl, hB⟩
end Go.Proofs.YtaniehjhmjecjaaGreatDoor
