/- Layer 10: shown. -/
import Derived.Test.YtmjbpdhkpdpdjaaDoorLaw10
namespace Go.Proofs.YtmjbpdhkpdpdjaaDoor
open Go.RowKit Go.Shelf
attribute [local go_sem] Oper.semAt_some

set_option maxRecDepth 100000 in
set_option maxHeartbeats 4000000 in
theorem shown10_any (w : World) (hn : NoneAt w) :
    Calls Tryd.prog 13 #[] w fun e w' => e = .returned (.bool true) ∧ Below w.heap.size w w' := by
  have hB := Below.refl w.heap.size w
  have l48 := Dw.ffs_length 48
  have lo := Dw.oneB_length
  go_enter Tryd.func13, Tryd.ntmps13
  go_wp2_with fail
  refine (new_any 48 9 (by decide) (by decide) _).mono ?_
  rintro e w1 ⟨rfl, hb⟩
  replace hB := hB.trans (hb.mono hB.size)
  clear hb
  have hz1 := hB.size
  have hF := heap_alloc_new w1 (.cells (flashC (Dw.ffs 48) (Dw.ffs 48) 0 0 9) 25)
  replace hB := hB.alloc hB.size (.cells (flashC (Dw.ffs 48) (Dw.ffs 48) 0 0 9) 25)
  have hN := hn.next hB
  go_wp2_with fail
  generalize w1.alloc _ = W1 at *
  generalize w1.heap.size = f at *
  refine (read_any (Dw.ffs 48) (Dw.ffs 48) (by omega) (by omega) 0 0 9 _ hN).mono ?_
  rintro e w2 ⟨rfl, hb⟩
  replace hF := (hb.block _ (block_lt hF)).trans hF
  replace hB := hB.trans (hb.mono hB.size)
  rw [Dw.ev0]
  generalize Dw.readS (Dw.ffs 48) (Dw.ffs 48) = s0
  obtain ⟨a0, a1, a2, a3⟩ := s0
  clear hb hN
  have h2 := heap_alloc_new w2 (.cells #[.int .i64 a0, .int .u64 a1, .int .u64 a2, .int .u64 a3] 35)
  replace hF := (heap_alloc_old w2 (.cells #[.int .i64 a0, .int .u64 a1, .int .u64 a2, .int .u64 a3] 35) _ (block_lt hF)).trans hF
  replace hB := hB.alloc hB.size (.cells #[.int .i64 a0, .int .u64 a1, .int .u64 a2, .int .u64 a3] 35)
  go_wp2_with fail
  generalize w2.alloc _ = W2 at *
  clear h2
  go_wp2_with fail
  refine (one_any 4 9 1 (by decide) (by decide) (by decide) _).mono ?_
  rintro e w3 ⟨rfl, hb⟩
  replace hF := (hb.block _ (block_lt hF)).trans hF
  replace hB := hB.trans (hb.mono hB.size)
  clear hb
  obtain ⟨c0, c1, c2, c3, c4⟩ := cells5 hF
  have f0 := frozen0 hF 0
  have hF3 : (World.setCell w3 ⟨f, 0, none⟩ (.string ⟨(Dw.oneB 4 9 1).toArray⟩)).heap[f]? = some (.cells (flashC (Dw.oneB 4 9 1) (Dw.ffs 48) 0 0 9) 25 (0, 0)) := heap_setCell_same w3 f 0 _ 25 (.string ⟨(Dw.oneB 4 9 1).toArray⟩) hF
  have hB3 := hB.setCell (p := ⟨f, 0, none⟩) hz1 (.string ⟨(Dw.oneB 4 9 1).toArray⟩)
  have hN3 := hn.next hB3
  have HF3 := Lib.hid hF3; have HB3 := Lib.hid hB3
  clear hF hB hF3 hB3
  go_wp2_with fail
  have hF := HF3.out; have hB := HB3.out
  generalize World.setCell w3 _ _ = W3 at *
  clear HF3 HB3 c0 c1 c2 c3 c4 f0
  refine (read_any (Dw.oneB 4 9 1) (Dw.ffs 48) (by rw [lo]; omega) (by omega) 0 0 9 _ hN3).mono ?_
  rintro e w4 ⟨rfl, hb⟩
  replace hF := (hb.block _ (block_lt hF)).trans hF
  replace hB := hB.trans (hb.mono hB.size)
  rw [Dw.ev1e, Dw.ev1]
  clear hb hN3
  have hz4 := hB.size
  have hfl := block_lt hF
  have hA := heap_alloc_new w4 (.cells #[.int .i64 0, .int .u64 4, .int .u64 9, .int .u64 1] 35)
  replace hF := (heap_alloc_old w4 (.cells #[.int .i64 0, .int .u64 4, .int .u64 9, .int .u64 1] 35) _ (block_lt hF)).trans hF
  replace hB := hB.alloc hB.size (.cells #[.int .i64 0, .int .u64 4, .int .u64 9, .int .u64 1] 35)
  go_wp2_with fail
  generalize w4.alloc _ = W4 at *
  generalize w4.heap.size = ga at *
  go_wp2_with fail
  refine (one_any 5 3 2 (by decide) (by decide) (by decide) _).mono ?_
  rintro e w5 ⟨rfl, hb⟩
  replace hF := (hb.block _ (block_lt hF)).trans hF
  replace hA := (hb.block _ (block_lt hA)).trans hA
  replace hB := hB.trans (hb.mono hB.size)
  clear hb
  obtain ⟨c0, c1, c2, c3, c4⟩ := cells5 hF
  have f1 := frozen0 hF 1
  have hF3 : (World.setCell w5 ⟨f, 1, none⟩ (.string ⟨(Dw.oneB 5 3 2).toArray⟩)).heap[f]? = some (.cells (flashC (Dw.oneB 4 9 1) (Dw.oneB 5 3 2) 0 0 9) 25 (0, 0)) := heap_setCell_same w5 f 1 _ 25 (.string ⟨(Dw.oneB 5 3 2).toArray⟩) hF
  have hA3 := (heap_setCell_other w5 ⟨f, 1, none⟩ ga (.string ⟨(Dw.oneB 5 3 2).toArray⟩) (by simp; omega)).trans hA
  have hB3 := hB.setCell (p := ⟨f, 1, none⟩) hz1 (.string ⟨(Dw.oneB 5 3 2).toArray⟩)
  have hN3 := hn.next hB3
  have HF3 := Lib.hid hF3; have HB3 := Lib.hid hB3; have HA3 := Lib.hid hA3
  clear hF hB hF3 hB3 hA hA3
  go_wp2_with fail
  have hF := HF3.out; have hB := HB3.out; have hA := HA3.out
  generalize World.setCell w5 _ _ = W5 at *
  clear HF3 HB3 HA3 c0 c1 c2 c3 c4 f1
  refine (read_any (Dw.oneB 4 9 1) (Dw.oneB 5 3 2) (by rw [lo]; omega) (by rw [lo]; omega) 0 0 9 _ hN3).mono ?_
  rintro e w6 ⟨rfl, hb⟩
  replace hF := (hb.block _ (block_lt hF)).trans hF
  replace hA := (hb.block _ (block_lt hA)).trans hA
  replace hB := hB.trans (hb.mono hB.size)
  rw [Dw.ev2e, Dw.ev2]
  clear hb hN3
  have hC := heap_alloc_new w6 (.cells #[.int .i64 1, .int .u64 5, .int .u64 3, .int .u64 2] 35)
  replace hF := (heap_alloc_old w6 (.cells #[.int .i64 1, .int .u64 5, .int .u64 3, .int .u64 2] 35) _ (block_lt hF)).trans hF
  replace hA := (heap_alloc_old w6 (.cells #[.int .i64 1, .int .u64 5, .int .u64 3, .int .u64 2] 35) _ (block_lt hA)).trans hA
  replace hB := hB.alloc hB.size (.cells #[.int .i64 1, .int .u64 5, .int .u64 3, .int .u64 2] 35)
  obtain ⟨a0', a1', a2', a3'⟩ := cells4 hA
  go_wp2_with fail
  generalize w6.alloc _ = W6 at *
  clear a0' a1' a2' a3' hA hC
  refine (other_any 0 0 rfl (by decide) _).mono ?_
  rintro e w7 ⟨rfl, hb⟩
  replace hF := (hb.block _ (block_lt hF)).trans hF
  replace hB := hB.trans (hb.mono hB.size)
  clear hb
  rw [show Dw.other 0 = 1 from rfl]
  go_wp2_with fail
  refine (other_any 7 7 rfl (by decide) _).mono ?_
  rintro e w8 ⟨rfl, hb⟩
  replace hF := (hb.block _ (block_lt hF)).trans hF
  replace hB := hB.trans (hb.mono hB.size)
  clear hb
  rw [show Dw.other 7 = 0 from rfl]
  obtain ⟨c0, c1, c2, c3, c4⟩ := cells5 hF
  have HF := Lib.hid hF
  clear hF
  go_wp2_with fail
  refine (even_any (Dw.oneB 4 9 1) (Dw.oneB 5 3 2) (by rw [lo]; omega) (by rw [lo]; omega) 0 0 9 _).mono ?_
  rintro e w9 ⟨rfl, hb⟩
  have hF := (hb.block _ (block_lt HF.out)).trans HF.out
  replace hB := hB.trans (hb.mono hB.size)
  clear hb HF c0 c1 c2 c3 c4
  rw [Dw.ev4]
  obtain ⟨c0, c1, c2, c3, c4⟩ := cells5 hF
  have hN9 := hn.next hB
  clear hF
  go_wp2_with fail
  refine (bank_any (Dw.oneB 4 9 1) (Dw.oneB 5 3 2) (by rw [lo]; omega) (by rw [lo]; omega) 0 0 9 _ hN9).mono ?_
  rintro e w10 ⟨rfl, hb⟩
  replace hB := hB.trans (hb.mono hB.size)
  rw [Dw.ev3]
  clear hb c0 c1 c2 c3 c4 hN9
  go_wp2_with fail
  go_ret
  exact ⟨rfl, hB⟩
end Go.Proofs.YtmjbpdhkpdpdjaaDoor
