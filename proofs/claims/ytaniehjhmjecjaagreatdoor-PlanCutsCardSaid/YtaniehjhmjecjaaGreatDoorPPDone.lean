/- The walk of PlanDone. -/
import Derived.Test.YtaniehjhmjecjaaGreatDoorPPAlike
namespace Go.Proofs.YtaniehjhmjecjaaGreatDoor
open Go.RowKit Go.Shelf
attribute [local go_sem] Oper.semAt_some

namespace Dw
theorem readS_lt (a b : List UInt8) : (readS a b).gen < 18446744073709551616 ∧ (readS a b).seq < 18446744073709551616 ∧ (readS a b).data < 18446744073709551616 := by
  rcases read_two a b with ⟨r, _⟩ | ⟨k, _, g, q, d, h1, h2, h3, r, _⟩
  · rw [r]; exact ⟨by decide, by decide, by decide⟩
  · rw [r]; exact ⟨h1, h2, h3⟩
end Dw

set_option maxRecDepth 100000 in
set_option maxHeartbeats 4000000 in
theorem pdone_any (f : Dw.Fl) (hr : Dw.FlRange f) (d : Nat) (hd : d < 18446744073709551616) (w : World) (hn : NoneAt w) :
    Calls Tryz.prog 3 #[flV f, .int .u64 d] w fun e w' => e = .returned (.bool true) ∧ Below w.heap.size w w' := by
  have hB := (Below.refl w.heap.size w).alloc (Nat.le_refl _) (.cells (flashC f.a f.b f.e0 f.e1 f.li) 25)
  have hF := heap_alloc_new w (.cells (flashC f.a f.b f.e0 f.e1 f.li) 25)
  have HD := Lib.hid hd; have HRN := Lib.hid hr
  clear hd hr
  obtain ⟨c0, c1, c2, c3, c4⟩ := cells5 hF
  go_enter Tryz.func3, Tryz.ntmps3
  go_wp2_with fail
  refine (big11_any f _).mono ?_
  rintro e w1 ⟨rfl, hb⟩
  replace hF := (hb.block _ (block_lt hF)).trans hF
  replace hB := hB.trans (hb.mono hB.size)
  clear hb
  clear c0 c1 c2 c3 c4
  cases hbig : Dw.big f.a f.b
  · have hok := Dw.ok_of HRN.out hbig
    have HOK := Lib.hid hok
    clear hbig hok
    have HF := Lib.hid hF; have HB := Lib.hid hB
    clear hF hB
    go_wp2_with fail
    refine (shown11_any _ (hn.next HB.out)).mono ?_
    rintro e w2 ⟨rfl, hb⟩
    have hF := (hb.block _ (block_lt HF.out)).trans HF.out
    have hB := HB.out.trans (hb.mono HB.out.size)
    clear hb HF HB
    obtain ⟨c0, c1, c2, c3, c4⟩ := cells5 hF
    have HF := Lib.hid hF; have HB := Lib.hid hB
    clear hF hB
    go_wp2_with fail
    refine (plan_any f HOK.out d HD.out _ (hn.next HB.out)).mono ?_
    rintro e w3 ⟨⟨v1, rfl, own1⟩, hb⟩
    have hF := (hb.block _ (block_lt HF.out)).trans HF.out
    have hz2 := HB.out.size
    have hB := HB.out.trans (hb.mono HB.out.size)
    clear hb HF HB c0 c1 c2 c3 c4 hz2
    obtain ⟨sa, ca, rfl⟩ := own_len own1
    by_cases her : (Dw.plan f d).2 = 0
    · obtain ⟨L, hL, hops, hpos, hmost⟩ := Dw.plan_ok HOK.out her
      obtain ⟨hok2, _⟩ := Dw.play_ok (-1) [] _ _ 0 HOK.out hL hops
      obtain ⟨p1, p2, p3, p4⟩ := Dw.plan_done [] HD.out her
      have at1 := own_at own1 hpos
      have HPL := Lib.hid (fun v w hv => rplay_any f HOK.out (Dw.plan f d).1 (by omega) hops v (-1) [] (by decide) w hv)
      rw [p1] at HPL
      have HOP := Lib.hid (fun v w hv => ops_any (Dw.plan f d).1 (by omega) v w hv)
      have HR0 := Lib.hid (fun w => rread_any f HOK.out.a HOK.out.b w)
      have HR1 := Lib.hid (fun w => rread_any (Dw.playL f (Dw.plan f d).1 0 (-1) []).1 hok2.a hok2.b w)
      rw [her]
      clear hL hops hok2 p1 own1 her
      generalize (Dw.playL f (Dw.plan f d).1 0 (-1) []).1 = g at *
      generalize (Dw.plan f d).1 = l at *
      generalize hs0 : Dw.readS f.a f.b = s0 at *
      generalize Dw.readE f.a f.b = re0 at *
      generalize hs1 : Dw.readS g.a g.b = s1 at *
      generalize Dw.readE g.a g.b = re1 at *
      have hq0 : s0.seq < 18446744073709551616 := by rw [← hs0]; exact (Dw.readS_lt _ _).2.1
      have hq1 : s1.seq < 18446744073709551616 := by rw [← hs1]; exact (Dw.readS_lt _ _).2.1
      subst p2
      clear hs0 hs1
      obtain ⟨bk0, gn0, sq0, dt0⟩ := s0
      obtain ⟨bk1, gn1, sq1, dt1⟩ := s1
      dsimp only at p3 p4 hq0 hq1
      subst p3
      have P4 := Lib.hid p4; have HQ0 := Lib.hid hq0; have HQ1 := Lib.hid hq1
      clear p4 hq0 hq1
      obtain ⟨c0, c1, c2, c3, c4⟩ := cells5 hF
      have HF := Lib.hid hF; have HB := Lib.hid hB; have HAT := Lib.hid at1
      clear hF hB at1
      go_wp2_with fail
      refine (its_any f _).mono ?_
      rintro e w4 ⟨rfl, hb⟩
      have hF := (hb.block _ (block_lt HF.out)).trans HF.out
      have hB := HB.out.trans (hb.mono HB.out.size)
      have hAT := opsAt_keep HAT.out hb
      clear hb HF HB HAT c0 c1 c2 c3 c4
      have HF := Lib.hid hF; have HB := Lib.hid hB; have HAT := Lib.hid hAT
      clear hF hB hAT
      go_wp2_with fail
      refine (HR0.out _).mono ?_
      rintro e w5 ⟨rfl, hb⟩
      have hF := (hb.block _ (block_lt HF.out)).trans HF.out
      have hB := HB.out.trans (hb.mono HB.out.size)
      have hAT := opsAt_keep HAT.out hb
      clear hb HF HB HAT HR0
      have hS := heap_alloc_new w5 (.cells #[.int .i64 bk0, .int .u64 gn0, .int .u64 sq0, .int .u64 dt0] 34)
      have hF2 := (heap_alloc_old w5 (.cells #[.int .i64 bk0, .int .u64 gn0, .int .u64 sq0, .int .u64 dt0] 34) _ (block_lt hF)).trans hF
      have hAT2 := opsAt_keep hAT ((Below.refl w5.heap.size w5).alloc (Nat.le_refl _) (.cells #[.int .i64 bk0, .int .u64 gn0, .int .u64 sq0, .int .u64 dt0] 34))
      have hB2 := hB.alloc hB.size (.cells #[.int .i64 bk0, .int .u64 gn0, .int .u64 sq0, .int .u64 dt0] 34)
      obtain ⟨c0, c1, c2, c3, c4⟩ := cells5 hF2
      have HF := Lib.hid hF2; have HB := Lib.hid hB2; have HAT := Lib.hid hAT2; have HS := Lib.hid hS
      clear hF hB hAT hF2 hB2 hAT2 hS
      go_wp2_with fail
      generalize w5.alloc _ = W5 at *
      generalize w5.heap.size = gs at *
      refine (its_any f _).mono ?_
      rintro e w6 ⟨rfl, hb⟩
      have hB := HB.out.trans (hb.mono HB.out.size)
      have hAT := opsAt_keep HAT.out hb
      have hS := (hb.block _ (block_lt HS.out)).trans HS.out
      clear hb HF HB HAT HS c0 c1 c2 c3 c4
      have HB := Lib.hid hB; have HAT := Lib.hid hAT; have HS := Lib.hid hS
      clear hB hAT hS
      go_wp2_with fail
      refine (HOP.out _ _ HAT.out).mono ?_
      rintro e w7 ⟨⟨u, rfl, hu⟩, hb⟩
      have hB := HB.out.trans (hb.mono HB.out.size)
      have hS := (hb.block _ (block_lt HS.out)).trans HS.out
      obtain ⟨b7, cp7, cs7, t7, fr7, rfl, _, _⟩ := id hu
      clear hb HB HAT HS
      have HB := Lib.hid hB; have HU := Lib.hid hu; have HS := Lib.hid hS
      clear hB hu hS
      go_wp2_with fail
      refine (HPL.out _ _ HU.out).mono ?_
      rintro e w8 ⟨rfl, hb⟩
      have hB := HB.out.trans (hb.mono HB.out.size)
      have hS := (hb.block _ (block_lt HS.out)).trans HS.out
      clear hb HB HU HS
      have hG := heap_alloc_new w8 (.cells (flashC g.a g.b g.e0 g.e1 g.li) 37)
      have hS2 := (heap_alloc_old w8 (.cells (flashC g.a g.b g.e0 g.e1 g.li) 37) _ (block_lt hS)).trans hS
      have hB2 := hB.alloc hB.size (.cells (flashC g.a g.b g.e0 g.e1 g.li) 37)
      obtain ⟨c0, c1, c2, c3, c4⟩ := cells5 hG
      have HB := Lib.hid hB2; have HS := Lib.hid hS2
      clear hB hS hB2 hS2 hG
      go_wp2_with fail
      refine (HR1.out _).mono ?_
      rintro e w9 ⟨rfl, hb⟩
      have hB := HB.out.trans (hb.mono HB.out.size)
      have hS := (hb.block _ (block_lt HS.out)).trans HS.out
      clear hb HB HS c0 c1 c2 c3 c4
      have hT := heap_alloc_new w9 (.cells #[.int .i64 bk1, .int .u64 gn1, .int .u64 sq1, .int .u64 dt1] 34)
      have hS2 := (heap_alloc_old w9 (.cells #[.int .i64 bk1, .int .u64 gn1, .int .u64 sq1, .int .u64 dt1] 34) _ (block_lt hS)).trans hS
      have hB2 := hB.alloc hB.size (.cells #[.int .i64 bk1, .int .u64 gn1, .int .u64 sq1, .int .u64 dt1] 34)
      obtain ⟨s0, s1, s2, s3⟩ := cells4 hS2
      obtain ⟨t0, t1, t2, t3⟩ := cells4 hT
      have HB := Lib.hid hB2
      clear hB hS hB2 hS2 hT
      rcases P4.out with ⟨rfl, hsq⟩ | ⟨rfl, hsq⟩
      · have hsw2 : ((sq0 : Int) + 1) % 18446744073709551616 = (sq1 : Int) := by
          have := HQ0.out
          have := HQ1.out
          omega
        have hsw : IntKind.u64.wrap ((sq0 : Int) + 1) = (sq1 : Int) := by
          rw [show IntKind.u64.wrap ((sq0 : Int) + 1) = ((sq0 : Int) + 1) % 18446744073709551616 from by simp [IntKind.wrap, IntKind.bits, IntKind.signed]]
          exact hsw2
        clear hsq
        go_wp2_with fail
        go_ret
        exact ⟨rfl, HB.out⟩
      · subst hsq
        go_wp2_with fail
        go_ret
        exact ⟨rfl, HB.out⟩
    · have hnil := Dw.plan_no her
      have hneb : ((Dw.plan f d).2 == 0) = false := by rw [beq_eq_false_iff_ne]; exact her
      rw [hnil]
      generalize (Dw.plan f d).2 = er at *
      clear her hnil own1
      have HB := Lib.hid hB
      clear hB hF
      go_wp2_with fail
      go_ret
      exact ⟨rfl, HB.out⟩
  · have HF := Lib.hid hF; have HB := Lib.hid hB
    clear hF hB
    go_wp2_with fail
    refine (shown11_any _ (hn.next HB.out)).mono ?_
    rintro e w2 ⟨rfl, hb⟩
    have hB := HB.out.trans (hb.mono HB.out.size)
    clear hb HF HB
    go_wp2_with fail
    go_ret
    exact ⟨rfl, hB⟩
end Go.Proofs.YtaniehjhmjecjaaGreatDoor
