/- Layer 11: shown. -/
import Derived.Test.YtaniehjhmjecjaaGreatDoorPLaw11
import Derived.Test.YtaniehjhmjecjaaGreatDoorPRRead
import Derived.Test.YtaniehjhmjecjaaGreatDoorP20
namespace Go.Proofs.YtaniehjhmjecjaaGreatDoor
open Go.RowKit Go.Shelf
attribute [local go_sem] Oper.semAt_some

namespace Dw
def e1F : Fl := (playL f72 (plan f72 7).1 0 (-1) []).1
def e2F : Fl := (playL e1F (plan e1F 8).1 0 (-1) []).1
theorem ev11a : (plan f72 7).2 = 0 ∧ (plan f72 7).1.length = 5 := by decide +kernel
theorem ev11b : (playL f72 (plan f72 7).1 0 (-1) []).2 = 5 := by decide +kernel
theorem ev11c : (plan e1F 8).2 = 0 ∧ (plan e1F 8).1.length = 2 := by decide +kernel
theorem ev11d : (playL e1F (plan e1F 8).1 0 (-1) []).2 = 2 := by decide +kernel
theorem ev11e : readS e2F.a e2F.b = ⟨0, 1, 2, 8⟩ := by kernel_rfl
theorem ev11f : readE e2F.a e2F.b = 0 := by decide +kernel
end Dw

set_option maxRecDepth 100000 in
set_option maxHeartbeats 8000000 in
theorem shown11_walk (F G H : Dw.Fl) (l m : List Dw.Op) (hl : l.length = 5) (hm : m.length = 2) (w0 : World) (hn : NoneAt w0)
    (hnew : ∀ w, Calls Tryz.prog 28 #[.int .i64 72, .int .i64 5] w fun e w' => e = .returned (flV F) ∧ Below w.heap.size w w')
    (hp1 : ∀ w, NoneAt w → Calls Tryz.prog 11 #[flV F, .int .u64 7] w fun e w' => (∃ v, e = .returned (.tuple #[v, .int .i64 0]) ∧ OwnOps w.heap.size w' v l) ∧ Below w.heap.size w w')
    (hq1 : ∀ v w, OpsAt w v l → Calls Tryz.prog 31 #[flV F, v, .int .i64 (-1), .string ⟨#[]⟩] w fun e w' => e = .returned (.tuple #[flV G, .int .i64 5, .int .i64 0]) ∧ Below w.heap.size w w')
    (hp2 : ∀ w, NoneAt w → Calls Tryz.prog 11 #[flV G, .int .u64 8] w fun e w' => (∃ v, e = .returned (.tuple #[v, .int .i64 0]) ∧ OwnOps w.heap.size w' v m) ∧ Below w.heap.size w w')
    (hq2 : ∀ v w, OpsAt w v m → Calls Tryz.prog 31 #[flV G, v, .int .i64 (-1), .string ⟨#[]⟩] w fun e w' => e = .returned (.tuple #[flV H, .int .i64 2, .int .i64 0]) ∧ Below w.heap.size w w')
    (hr : ∀ w, Calls Tryz.prog 12 #[flV H] w fun e w' => e = .returned (.tuple #[.agg #[.int .i64 0, .int .u64 1, .int .u64 2, .int .u64 8], .int .i64 0]) ∧ Below w.heap.size w w') :
    Calls Tryz.prog 10 #[] w0 fun e w' => e = .returned (.bool true) ∧ Below w0.heap.size w0 w' := by
  have hB := Below.refl w0.heap.size w0
  have HNEW := Lib.hid hnew; have HP1 := Lib.hid hp1; have HQ1 := Lib.hid hq1; have HP2 := Lib.hid hp2; have HQ2 := Lib.hid hq2; have HR := Lib.hid hr; have HL := Lib.hid hl; have HM := Lib.hid hm
  clear hnew hp1 hq1 hp2 hq2 hr hl hm
  go_enter Tryz.func10, Tryz.ntmps10
  go_wp2_with fail
  refine (HNEW.out _).mono ?_
  rintro e w1 ⟨rfl, hb⟩
  replace hB := hB.trans (hb.mono hB.size)
  clear hb
  have hz0 : w0.heap.size ≤ w1.heap.size := hB.size
  have hF := heap_alloc_new w1 (.cells (flashC F.a F.b F.e0 F.e1 F.li) 25)
  replace hB := hB.alloc hB.size (.cells (flashC F.a F.b F.e0 F.e1 F.li) 25)
  obtain ⟨c0, c1, c2, c3, c4⟩ := cells5 hF
  have HF := Lib.hid hF; have HB := Lib.hid hB
  clear hF hB
  go_wp2_with fail
  generalize w1.alloc _ = W1 at *
  generalize w1.heap.size = f1 at *
  refine (HP1.out _ (hn.next HB.out)).mono ?_
  rintro e w2 ⟨⟨v1, rfl, own1⟩, hb⟩
  have hF := (hb.block _ (block_lt HF.out)).trans HF.out
  have hB := HB.out.trans (hb.mono HB.out.size)
  clear hb HF HB c0 c1 c2 c3 c4
  have at1 := own_at own1 (by rw [HL.out]; decide)
  clear own1
  obtain ⟨b1, cp1, cs1, t1, fr1, rfl, hV1, hV1c⟩ := id at1
  rw [HL.out]
  obtain ⟨c0, c1, c2, c3, c4⟩ := cells5 hF
  have HF := Lib.hid hF; have HB := Lib.hid hB; have HA := Lib.hid at1
  rw [HL.out] at HA
  clear hF hB at1 hV1 hV1c
  go_wp2_with fail
  refine (HQ1.out _ _ HA.out).mono ?_
  rintro e w3 ⟨rfl, hb⟩
  have hF := (hb.block _ (block_lt HF.out)).trans HF.out
  have hB := HB.out.trans (hb.mono HB.out.size)
  clear hb HF HB c0 c1 c2 c3 c4 HA
  have HF := Lib.hid hF
  have hF2 := setRow_heap w3 f1 _ (flashC G.a G.b G.e0 G.e1 G.li) _ _ hF
  have hB2 := below_setRow hB (by omega) (flashC G.a G.b G.e0 G.e1 G.li) (g := f1)
  obtain ⟨c0, c1, c2, c3, c4⟩ := cells5 hF2
  have HF2 := Lib.hid hF2; have HB2 := Lib.hid hB2
  clear hF hB hF2 hB2
  go_wp2_with (first | (refine wpList_store_block rfl 25 (.tmp 1) (.tmp 22) rfl rfl rfl HF.out (by kernel_rfl) rfl (by simp [Value.oneCell']) ?_))
  generalize World.setRow w3 _ _ = W3 at *
  clear HF
  refine (HP2.out _ (hn.next HB2.out)).mono ?_
  rintro e w4 ⟨⟨v2, rfl, own2⟩, hb⟩
  have hF := (hb.block _ (block_lt HF2.out)).trans HF2.out
  have hB := HB2.out.trans (hb.mono HB2.out.size)
  clear hb HF2 HB2 c0 c1 c2 c3 c4
  have at2 := own_at own2 (by rw [HM.out]; decide)
  clear own2
  obtain ⟨b2, cp2, cs2, t2, fr2, rfl, hV2, hV2c⟩ := id at2
  rw [HM.out]
  obtain ⟨c0, c1, c2, c3, c4⟩ := cells5 hF
  have HF := Lib.hid hF; have HB := Lib.hid hB; have HA := Lib.hid at2
  rw [HM.out] at HA
  clear hF hB at2 hV2 hV2c
  go_wp2_with fail
  refine (HQ2.out _ _ HA.out).mono ?_
  rintro e w5 ⟨rfl, hb⟩
  have hF := (hb.block _ (block_lt HF.out)).trans HF.out
  have hB := HB.out.trans (hb.mono HB.out.size)
  clear hb HF HB c0 c1 c2 c3 c4 HA
  have HF := Lib.hid hF
  have hF2 := setRow_heap w5 f1 _ (flashC H.a H.b H.e0 H.e1 H.li) _ _ hF
  have hB2 := below_setRow hB (by omega) (flashC H.a H.b H.e0 H.e1 H.li) (g := f1)
  obtain ⟨c0, c1, c2, c3, c4⟩ := cells5 hF2
  have HF2 := Lib.hid hF2; have HB2 := Lib.hid hB2
  clear hF hB hF2 hB2
  go_wp2_with (first | (refine wpList_store_block rfl 25 (.tmp 1) (.tmp 34) rfl rfl rfl HF.out (by kernel_rfl) rfl (by simp [Value.oneCell']) ?_))
  generalize World.setRow w5 _ _ = W5 at *
  clear HF c0 c1 c2 c3 c4
  refine (its_any H _).mono ?_
  rintro e w6 ⟨rfl, hb⟩
  have hB := HB2.out.trans (hb.mono HB2.out.size)
  clear hb HB2 HF2
  go_wp2_with fail
  refine (HR.out _).mono ?_
  rintro e w7 ⟨rfl, hb⟩
  replace hB := hB.trans (hb.mono hB.size)
  clear hb
  have hB8 := hB.alloc hB.size (.cells #[.int .i64 0, .int .u64 1, .int .u64 2, .int .u64 8] 34)
  have HB8 := Lib.hid hB8
  clear hB hB8
  go_wp2_with fail
  go_ret
  exact ⟨rfl, HB8.out⟩

set_option maxRecDepth 100000 in
theorem shown11_any (w : World) (hn : NoneAt w) :
    Calls Tryz.prog 10 #[] w fun e w' => e = .returned (.bool true) ∧ Below w.heap.size w w' := by
  obtain ⟨a1, a2⟩ := Dw.ev11a
  obtain ⟨c1, c2⟩ := Dw.ev11c
  have b1 := Dw.ev11b
  have d1 := Dw.ev11d
  obtain ⟨L1, l1, o1, p1, q1⟩ := Dw.plan_ok Dw.ok72 a1
  obtain ⟨ok1, _⟩ := Dw.play_ok (-1) [] _ _ 0 Dw.ok72 l1 o1
  change Dw.FlOk Dw.e1F at ok1
  obtain ⟨L2, l2, o2, p2, q2⟩ := Dw.plan_ok ok1 c1
  obtain ⟨ok2, _⟩ := Dw.play_ok (-1) [] _ _ 0 ok1 l2 o2
  change Dw.FlOk Dw.e2F at ok2
  refine shown11_walk Dw.f72 Dw.e1F Dw.e2F (Dw.plan Dw.f72 7).1 (Dw.plan Dw.e1F 8).1 a2 c2 w hn (fun w => new_any 72 5 (by decide) (by decide) w) ?_ ?_ ?_ ?_ ?_
  · intro w hN
    have := plan_any Dw.f72 Dw.ok72 7 (by decide) w hN
    rw [a1] at this
    exact this
  · intro v w hv
    have := play_any Dw.f72 Dw.ok72 _ (by omega) o1 v (-1) [] w hv
    rw [b1] at this
    exact this
  · intro w hN
    have := plan_any Dw.e1F ok1 8 (by decide) w hN
    rw [c1] at this
    exact this
  · intro v w hv
    have := play_any Dw.e1F ok1 _ (by omega) o2 v (-1) [] w hv
    rw [d1] at this
    exact this
  · intro w
    have := rread_any Dw.e2F ok2.a ok2.b w
    rw [Dw.ev11e, Dw.ev11f] at this
    exact this
end Go.Proofs.YtaniehjhmjecjaaGreatDoor
