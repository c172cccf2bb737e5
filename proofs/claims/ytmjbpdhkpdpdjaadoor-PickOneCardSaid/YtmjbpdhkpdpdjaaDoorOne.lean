/- The walk of PickOne (this text is printed by wip/gen/one.py). -/
import Derived.Test.YtmjbpdhkpdpdjaaDoorOther
import Derived.Test.YtmjbpdhkpdpdjaaDoorRound
namespace Go.Proofs.YtmjbpdhkpdpdjaaDoor
open Go.RowKit Go.Shelf
attribute [local go_sem] Oper.semAt_some

namespace Dw
theorem rd_one (g q d : Nat) (hg : g < 18446744073709551616) (hq : q < 18446744073709551616) (hd : d < 18446744073709551616) :
    (readS (oneB g q d) (ffs 48) = ⟨0, g, q, d⟩ ∧ readE (oneB g q d) (ffs 48) = 0) ∧ (readS (ffs 48) (oneB g q d) = ⟨1, g, q, d⟩ ∧ readE (ffs 48) (oneB g q d) = 0) := by
  obtain ⟨h1, h2, h3⟩ := oneB_all g q d hg hq hd
  have e : ∀ i, ofT (oneB g q d) i = ⟨i, g, q, d⟩ := fun i => by unfold ofT; rw [h2, h3]
  rw [← e 0, ← e 1]
  exact ⟨rd0 _ _ h1 (.inl ffs48_unsound), rd1 _ _ h1 (.inl ffs48_unsound)⟩
theorem rd_two (g h q d q' d' : Nat) (hg : g < 18446744073709551616) (hh : h < 18446744073709551616) (hq : q < 18446744073709551616) (hd : d < 18446744073709551616) (hq' : q' < 18446744073709551616) (hd' : d' < 18446744073709551616) :
    (h ≤ g → readS (oneB g q d) (oneB h q' d') = ⟨0, g, q, d⟩ ∧ readE (oneB g q d) (oneB h q' d') = 0) ∧ (g < h → readS (oneB g q d) (oneB h q' d') = ⟨1, h, q', d'⟩ ∧ readE (oneB g q d) (oneB h q' d') = 0) := by
  obtain ⟨h1, h2, h3⟩ := oneB_all g q d hg hq hd
  obtain ⟨k1, k2, k3⟩ := oneB_all h q' d' hh hq' hd'
  have e : ofT (oneB g q d) 0 = ⟨0, g, q, d⟩ := by unfold ofT; rw [h2, h3]
  have e' : ofT (oneB h q' d') 1 = ⟨1, h, q', d'⟩ := by unfold ofT; rw [k2, k3]
  rw [← e, ← e']
  exact ⟨fun hle => rd0 _ _ h1 (.inr (by rw [h2, k2]; exact hle)), fun hlt => rd1 _ _ k1 (.inr (by rw [h2, k2]; exact hlt))⟩
end Dw

set_option maxRecDepth 100000 in
set_option maxHeartbeats 8000000 in
theorem one_law0 (g h q d : Nat) (hg : g < 18446744073709551616) (hh : h < 18446744073709551616) (hq : q < 18446744073709551616) (hd : d < 18446744073709551616) (w : World) (hn : NoneAt w) :
    Calls Tryd.prog 5 #[.int .u64 g, .int .u64 h, .int .u64 q, .int .u64 d, .bool false] w fun e w' => e = .returned (.bool true) ∧ Below w.heap.size w w' := by
  have hB := Below.refl w.heap.size w
  have lf := Dw.ffs_length 48
  have lo := Dw.oneB_length
  obtain ⟨d1, hd1⟩ : ∃ d1 : Nat, d1 = (d + 1) % 18446744073709551616 := ⟨_, rfl⟩
  have hdl : d1 < 18446744073709551616 := by omega
  have hw1 : IntKind.u64.wrap ((d : Int) + 1) = (d1 : Int) := by rw [show IntKind.u64.wrap ((d : Int) + 1) = ((d : Int) + 1) % 18446744073709551616 from by simp [IntKind.wrap, IntKind.bits, IntKind.signed]]; omega
  have hw2 : ((d : Int) + 1) % 18446744073709551616 = (d1 : Int) := by omega
  have R1 := Lib.hid (Dw.rd_one g q d hg hq hd).1
  have R2 := Lib.hid (Dw.rd_two g h q d q d1 hg hh hq hd hq hdl)
  have HG := Lib.hid hg; have HH := Lib.hid hh; have HQ := Lib.hid hq; have HD := Lib.hid hd; have HD1 := Lib.hid hdl
  clear hg hh hq hd hdl hd1
  go_enter Tryd.func5, Tryd.ntmps5
  go_wp2_with fail
  refine (new_any 48 9 (by decide) (by decide) _).mono ?_
  rintro e w1 ⟨rfl, hb⟩
  replace hB := hB.trans (hb.mono hB.size)
  clear hb
  have hz1 := hB.size
  have hF := heap_alloc_new w1 (.cells (flashC (Dw.ffs 48) (Dw.ffs 48) 0 0 9) 25)
  replace hB := hB.alloc hB.size (.cells (flashC (Dw.ffs 48) (Dw.ffs 48) 0 0 9) 25)
  go_wp2_with fail
  generalize w1.alloc _ = W1 at *
  generalize w1.heap.size = f at *
  refine (one_any g q d HG.out HQ.out HD.out _).mono ?_
  rintro e w3 ⟨rfl, hb⟩
  replace hF := (hb.block _ (block_lt hF)).trans hF
  replace hB := hB.trans (hb.mono hB.size)
  clear hb
  obtain ⟨c0, c1, c2, c3, c4⟩ := cells5 hF
  have f0 := frozen0 hF 0
  have hF6 : (World.setCell w3 ⟨f, 0, none⟩ (.string ⟨(Dw.oneB g q d).toArray⟩)).heap[f]? = some (.cells (flashC (Dw.oneB g q d) (Dw.ffs 48) 0 0 9) 25 (0, 0)) := heap_setCell_same w3 f 0 _ 25 (.string ⟨(Dw.oneB g q d).toArray⟩) hF
  have hB6 := hB.setCell (p := ⟨f, 0, none⟩) hz1 (.string ⟨(Dw.oneB g q d).toArray⟩)
  have HF6 := Lib.hid hF6; have HB6 := Lib.hid hB6
  clear hF hB hF6 hB6
  go_wp2_with fail
  have hF := HF6.out; have hB := HB6.out
  generalize World.setCell w3 _ _ = W3 at *
  clear HF6 HB6 c0 c1 c2 c3 c4 f0
  refine (read_any (Dw.oneB g q d) (Dw.ffs 48) (by rw [lo]; omega) (by omega) 0 0 9 _ (hn.next hB)).mono ?_
  rintro e w4 ⟨rfl, hb⟩
  replace hF := (hb.block _ (block_lt hF)).trans hF
  replace hB := hB.trans (hb.mono hB.size)
  rw [R1.out.1, R1.out.2]
  clear hb
  have hz4 := hB.size
  have hfl := block_lt hF
  have hA := heap_alloc_new w4 (.cells #[.int .i64 0, .int .u64 g, .int .u64 q, .int .u64 d] 35)
  replace hF := (heap_alloc_old w4 (.cells #[.int .i64 0, .int .u64 g, .int .u64 q, .int .u64 d] 35) _ (block_lt hF)).trans hF
  replace hB := hB.alloc hB.size (.cells #[.int .i64 0, .int .u64 g, .int .u64 q, .int .u64 d] 35)
  go_wp2_with fail
  generalize w4.alloc _ = W4 at *
  generalize w4.heap.size = ga at *
  go_wp2_with fail
  refine (one_any h q d1 HH.out HQ.out HD1.out _).mono ?_
  rintro e w5 ⟨rfl, hb⟩
  replace hF := (hb.block _ (block_lt hF)).trans hF
  replace hA := (hb.block _ (block_lt hA)).trans hA
  replace hB := hB.trans (hb.mono hB.size)
  clear hb
  obtain ⟨c0, c1, c2, c3, c4⟩ := cells5 hF
  have f1 := frozen0 hF 1
  have hF6 : (World.setCell w5 ⟨f, 1, none⟩ (.string ⟨(Dw.oneB h q d1).toArray⟩)).heap[f]? = some (.cells (flashC (Dw.oneB g q d) (Dw.oneB h q d1) 0 0 9) 25 (0, 0)) := heap_setCell_same w5 f 1 _ 25 (.string ⟨(Dw.oneB h q d1).toArray⟩) hF
  have hA6 := (heap_setCell_other w5 ⟨f, 1, none⟩ ga (.string ⟨(Dw.oneB h q d1).toArray⟩) (by simp; omega)).trans hA
  have hB6 := hB.setCell (p := ⟨f, 1, none⟩) hz1 (.string ⟨(Dw.oneB h q d1).toArray⟩)
  have HF6 := Lib.hid hF6; have HB6 := Lib.hid hB6; have XhA6 := Lib.hid hA6
  clear hF hB hF6 hB6 hA hA6
  go_wp2_with fail
  have hF := HF6.out; have hB := HB6.out; have hA := XhA6.out
  generalize World.setCell w5 _ _ = W5 at *
  clear HF6 HB6 c0 c1 c2 c3 c4 f1 XhA6
  refine (read_any (Dw.oneB g q d) (Dw.oneB h q d1) (by rw [lo]; omega) (by rw [lo]; omega) 0 0 9 _ (hn.next hB)).mono ?_
  rintro e w6 ⟨rfl, hb⟩
  replace hF := (hb.block _ (block_lt hF)).trans hF
  replace hA := (hb.block _ (block_lt hA)).trans hA
  replace hB := hB.trans (hb.mono hB.size)
  clear hb
  rcases (by omega : h < g ∨ h = g ∨ g < h) with hlt | rfl | hlt
  · rw [(R2.out.1 (Nat.le_of_lt hlt)).1, (R2.out.1 (Nat.le_of_lt hlt)).2]
    have hl : (h : Int) < (g : Int) := by omega
    clear R1 R2
    have hC := heap_alloc_new w6 (.cells #[.int .i64 0, .int .u64 g, .int .u64 q, .int .u64 d] 35)
    replace hF := (heap_alloc_old w6 (.cells #[.int .i64 0, .int .u64 g, .int .u64 q, .int .u64 d] 35) _ (block_lt hF)).trans hF
    replace hA := (heap_alloc_old w6 (.cells #[.int .i64 0, .int .u64 g, .int .u64 q, .int .u64 d] 35) _ (block_lt hA)).trans hA
    replace hB := hB.alloc hB.size (.cells #[.int .i64 0, .int .u64 g, .int .u64 q, .int .u64 d] 35)
    obtain ⟨a0, a1, a2, a3⟩ := cells4 hA
    have hN := hn.next hB
    clear hA hC hF
    go_wp2_with fail
    refine (shown10_any _ hN).mono ?_
    rintro e w7 ⟨rfl, hb⟩
    replace hB := hB.trans (hb.mono hB.size)
    clear hb a0 a1 a2 a3
    go_wp2_with fail
    go_ret
    exact ⟨rfl, hB⟩
  · rw [(R2.out.1 (Nat.le_refl _)).1, (R2.out.1 (Nat.le_refl _)).2]
    clear R1 R2
    have hC := heap_alloc_new w6 (.cells #[.int .i64 0, .int .u64 h, .int .u64 q, .int .u64 d] 35)
    replace hF := (heap_alloc_old w6 (.cells #[.int .i64 0, .int .u64 h, .int .u64 q, .int .u64 d] 35) _ (block_lt hF)).trans hF
    replace hA := (heap_alloc_old w6 (.cells #[.int .i64 0, .int .u64 h, .int .u64 q, .int .u64 d] 35) _ (block_lt hA)).trans hA
    replace hB := hB.alloc hB.size (.cells #[.int .i64 0, .int .u64 h, .int .u64 q, .int .u64 d] 35)
    obtain ⟨a0, a1, a2, a3⟩ := cells4 hA
    have hN := hn.next hB
    clear hA hC hF
    go_wp2_with fail
    refine (shown10_any _ hN).mono ?_
    rintro e w7 ⟨rfl, hb⟩
    replace hB := hB.trans (hb.mono hB.size)
    clear hb a0 a1 a2 a3
    go_wp2_with fail
    go_ret
    exact ⟨rfl, hB⟩
  · rw [(R2.out.2 hlt).1, (R2.out.2 hlt).2]
    have hl : ¬ (h : Int) < (g : Int) := by omega
    have hne : ((h : Int) == (g : Int)) = false := by rw [beq_eq_false_iff_ne]; omega
    clear R1 R2
    have hC := heap_alloc_new w6 (.cells #[.int .i64 1, .int .u64 h, .int .u64 q, .int .u64 d1] 35)
    replace hF := (heap_alloc_old w6 (.cells #[.int .i64 1, .int .u64 h, .int .u64 q, .int .u64 d1] 35) _ (block_lt hF)).trans hF
    replace hA := (heap_alloc_old w6 (.cells #[.int .i64 1, .int .u64 h, .int .u64 q, .int .u64 d1] 35) _ (block_lt hA)).trans hA
    replace hB := hB.alloc hB.size (.cells #[.int .i64 1, .int .u64 h, .int .u64 q, .int .u64 d1] 35)
    obtain ⟨a0, a1, a2, a3⟩ := cells4 hA
    have hN := hn.next hB
    clear hA hC hF
    go_wp2_with fail
    refine (shown10_any _ hN).mono ?_
    rintro e w7 ⟨rfl, hb⟩
    replace hB := hB.trans (hb.mono hB.size)
    clear hb a0 a1 a2 a3
    go_wp2_with fail
    go_ret
    exact ⟨rfl, hB⟩

set_option maxRecDepth 100000 in
set_option maxHeartbeats 8000000 in
theorem one_law1 (g h q d : Nat) (hg : g < 18446744073709551616) (hh : h < 18446744073709551616) (hq : q < 18446744073709551616) (hd : d < 18446744073709551616) (w : World) (hn : NoneAt w) :
    Calls Tryd.prog 5 #[.int .u64 g, .int .u64 h, .int .u64 q, .int .u64 d, .bool true] w fun e w' => e = .returned (.bool true) ∧ Below w.heap.size w w' := by
  have hB := Below.refl w.heap.size w
  have lf := Dw.ffs_length 48
  have lo := Dw.oneB_length
  obtain ⟨d1, hd1⟩ : ∃ d1 : Nat, d1 = (d + 1) % 18446744073709551616 := ⟨_, rfl⟩
  have hdl : d1 < 18446744073709551616 := by omega
  have hw1 : IntKind.u64.wrap ((d : Int) + 1) = (d1 : Int) := by rw [show IntKind.u64.wrap ((d : Int) + 1) = ((d : Int) + 1) % 18446744073709551616 from by simp [IntKind.wrap, IntKind.bits, IntKind.signed]]; omega
  have hw2 : ((d : Int) + 1) % 18446744073709551616 = (d1 : Int) := by omega
  have R1 := Lib.hid (Dw.rd_one g q d hg hq hd).2
  have R2 := Lib.hid (Dw.rd_two h g q d1 q d hh hg hq hdl hq hd)
  have HG := Lib.hid hg; have HH := Lib.hid hh; have HQ := Lib.hid hq; have HD := Lib.hid hd; have HD1 := Lib.hid hdl
  clear hg hh hq hd hdl hd1
  go_enter Tryd.func5, Tryd.ntmps5
  go_wp2_with fail
  refine (new_any 48 9 (by decide) (by decide) _).mono ?_
  rintro e w1 ⟨rfl, hb⟩
  replace hB := hB.trans (hb.mono hB.size)
  clear hb
  have hz1 := hB.size
  have hF := heap_alloc_new w1 (.cells (flashC (Dw.ffs 48) (Dw.ffs 48) 0 0 9) 25)
  replace hB := hB.alloc hB.size (.cells (flashC (Dw.ffs 48) (Dw.ffs 48) 0 0 9) 25)
  go_wp2_with fail
  generalize w1.alloc _ = W1 at *
  generalize w1.heap.size = f at *
  refine (one_any g q d HG.out HQ.out HD.out _).mono ?_
  rintro e w3 ⟨rfl, hb⟩
  replace hF := (hb.block _ (block_lt hF)).trans hF
  replace hB := hB.trans (hb.mono hB.size)
  clear hb
  obtain ⟨c0, c1, c2, c3, c4⟩ := cells5 hF
  have f1 := frozen0 hF 1
  have hF6 : (World.setCell w3 ⟨f, 1, none⟩ (.string ⟨(Dw.oneB g q d).toArray⟩)).heap[f]? = some (.cells (flashC (Dw.ffs 48) (Dw.oneB g q d) 0 0 9) 25 (0, 0)) := heap_setCell_same w3 f 1 _ 25 (.string ⟨(Dw.oneB g q d).toArray⟩) hF
  have hB6 := hB.setCell (p := ⟨f, 1, none⟩) hz1 (.string ⟨(Dw.oneB g q d).toArray⟩)
  have HF6 := Lib.hid hF6; have HB6 := Lib.hid hB6
  clear hF hB hF6 hB6
  go_wp2_with fail
  have hF := HF6.out; have hB := HB6.out
  generalize World.setCell w3 _ _ = W3 at *
  clear HF6 HB6 c0 c1 c2 c3 c4 f1
  refine (read_any (Dw.ffs 48) (Dw.oneB g q d) (by omega) (by rw [lo]; omega) 0 0 9 _ (hn.next hB)).mono ?_
  rintro e w4 ⟨rfl, hb⟩
  replace hF := (hb.block _ (block_lt hF)).trans hF
  replace hB := hB.trans (hb.mono hB.size)
  rw [R1.out.1, R1.out.2]
  clear hb
  have hz4 := hB.size
  have hfl := block_lt hF
  have hA := heap_alloc_new w4 (.cells #[.int .i64 1, .int .u64 g, .int .u64 q, .int .u64 d] 35)
  replace hF := (heap_alloc_old w4 (.cells #[.int .i64 1, .int .u64 g, .int .u64 q, .int .u64 d] 35) _ (block_lt hF)).trans hF
  replace hB := hB.alloc hB.size (.cells #[.int .i64 1, .int .u64 g, .int .u64 q, .int .u64 d] 35)
  go_wp2_with fail
  generalize w4.alloc _ = W4 at *
  generalize w4.heap.size = ga at *
  go_wp2_with fail
  refine (one_any h q d1 HH.out HQ.out HD1.out _).mono ?_
  rintro e w5 ⟨rfl, hb⟩
  replace hF := (hb.block _ (block_lt hF)).trans hF
  replace hA := (hb.block _ (block_lt hA)).trans hA
  replace hB := hB.trans (hb.mono hB.size)
  clear hb
  obtain ⟨c0, c1, c2, c3, c4⟩ := cells5 hF
  have f0 := frozen0 hF 0
  have hF6 : (World.setCell w5 ⟨f, 0, none⟩ (.string ⟨(Dw.oneB h q d1).toArray⟩)).heap[f]? = some (.cells (flashC (Dw.oneB h q d1) (Dw.oneB g q d) 0 0 9) 25 (0, 0)) := heap_setCell_same w5 f 0 _ 25 (.string ⟨(Dw.oneB h q d1).toArray⟩) hF
  have hA6 := (heap_setCell_other w5 ⟨f, 0, none⟩ ga (.string ⟨(Dw.oneB h q d1).toArray⟩) (by simp; omega)).trans hA
  have hB6 := hB.setCell (p := ⟨f, 0, none⟩) hz1 (.string ⟨(Dw.oneB h q d1).toArray⟩)
  have HF6 := Lib.hid hF6; have HB6 := Lib.hid hB6; have XhA6 := Lib.hid hA6
  clear hF hB hF6 hB6 hA hA6
  go_wp2_with fail
  have hF := HF6.out; have hB := HB6.out; have hA := XhA6.out
  generalize World.setCell w5 _ _ = W5 at *
  clear HF6 HB6 c0 c1 c2 c3 c4 f0 XhA6
  refine (read_any (Dw.oneB h q d1) (Dw.oneB g q d) (by rw [lo]; omega) (by rw [lo]; omega) 0 0 9 _ (hn.next hB)).mono ?_
  rintro e w6 ⟨rfl, hb⟩
  replace hF := (hb.block _ (block_lt hF)).trans hF
  replace hA := (hb.block _ (block_lt hA)).trans hA
  replace hB := hB.trans (hb.mono hB.size)
  clear hb
  rcases (by omega : h < g ∨ h = g ∨ g < h) with hlt | rfl | hlt
  · rw [(R2.out.2 hlt).1, (R2.out.2 hlt).2]
    have hl : (h : Int) < (g : Int) := by omega
    clear R1 R2
    have hC := heap_alloc_new w6 (.cells #[.int .i64 1, .int .u64 g, .int .u64 q, .int .u64 d] 35)
    replace hF := (heap_alloc_old w6 (.cells #[.int .i64 1, .int .u64 g, .int .u64 q, .int .u64 d] 35) _ (block_lt hF)).trans hF
    replace hA := (heap_alloc_old w6 (.cells #[.int .i64 1, .int .u64 g, .int .u64 q, .int .u64 d] 35) _ (block_lt hA)).trans hA
    replace hB := hB.alloc hB.size (.cells #[.int .i64 1, .int .u64 g, .int .u64 q, .int .u64 d] 35)
    obtain ⟨a0, a1, a2, a3⟩ := cells4 hA
    have hN := hn.next hB
    clear hA hC hF
    go_wp2_with fail
    refine (shown10_any _ hN).mono ?_
    rintro e w7 ⟨rfl, hb⟩
    replace hB := hB.trans (hb.mono hB.size)
    clear hb a0 a1 a2 a3
    go_wp2_with fail
    go_ret
    exact ⟨rfl, hB⟩
  · rw [(R2.out.1 (Nat.le_refl _)).1, (R2.out.1 (Nat.le_refl _)).2]
    clear R1 R2
    have hC := heap_alloc_new w6 (.cells #[.int .i64 0, .int .u64 h, .int .u64 q, .int .u64 d1] 35)
    replace hF := (heap_alloc_old w6 (.cells #[.int .i64 0, .int .u64 h, .int .u64 q, .int .u64 d1] 35) _ (block_lt hF)).trans hF
    replace hA := (heap_alloc_old w6 (.cells #[.int .i64 0, .int .u64 h, .int .u64 q, .int .u64 d1] 35) _ (block_lt hA)).trans hA
    replace hB := hB.alloc hB.size (.cells #[.int .i64 0, .int .u64 h, .int .u64 q, .int .u64 d1] 35)
    obtain ⟨a0, a1, a2, a3⟩ := cells4 hA
    have hN := hn.next hB
    clear hA hC hF
    go_wp2_with fail
    refine (shown10_any _ hN).mono ?_
    rintro e w7 ⟨rfl, hb⟩
    replace hB := hB.trans (hb.mono hB.size)
    clear hb a0 a1 a2 a3
    go_wp2_with fail
    go_ret
    exact ⟨rfl, hB⟩
  · rw [(R2.out.1 (Nat.le_of_lt hlt)).1, (R2.out.1 (Nat.le_of_lt hlt)).2]
    have hl : ¬ (h : Int) < (g : Int) := by omega
    have hne : ((h : Int) == (g : Int)) = false := by rw [beq_eq_false_iff_ne]; omega
    clear R1 R2
    have hC := heap_alloc_new w6 (.cells #[.int .i64 0, .int .u64 h, .int .u64 q, .int .u64 d1] 35)
    replace hF := (heap_alloc_old w6 (.cells #[.int .i64 0, .int .u64 h, .int .u64 q, .int .u64 d1] 35) _ (block_lt hF)).trans hF
    replace hA := (heap_alloc_old w6 (.cells #[.int .i64 0, .int .u64 h, .int .u64 q, .int .u64 d1] 35) _ (block_lt hA)).trans hA
    replace hB := hB.alloc hB.size (.cells #[.int .i64 0, .int .u64 h, .int .u64 q, .int .u64 d1] 35)
    obtain ⟨a0, a1, a2, a3⟩ := cells4 hA
    have hN := hn.next hB
    clear hA hC hF
    go_wp2_with fail
    refine (shown10_any _ hN).mono ?_
    rintro e w7 ⟨rfl, hb⟩
    replace hB := hB.trans (hb.mono hB.size)
    clear hb a0 a1 a2 a3
    go_wp2_with fail
    go_ret
    exact ⟨rfl, hB⟩

theorem u64_range {x : Int} (h : (Lit.int .u64 x).wf = true) : 0 ≤ x ∧ x < 18446744073709551616 := by
  have h' : IntKind.u64.min ≤ x ∧ x ≤ IntKind.u64.max := by simpa [Lit.wf] using h
  rw [show IntKind.u64.min = 0 from by decide, show IntKind.u64.max = 18446744073709551615 from by decide] at h'
  omega
theorem one_law (g h q d : Int) (b : Bool) (hg : (Lit.int .u64 g).wf = true) (hh : (Lit.int .u64 h).wf = true) (hq : (Lit.int .u64 q).wf = true) (hd : (Lit.int .u64 d).wf = true) (w : World) (hn : NoneAt w) :
    Calls Tryd.prog 5 #[.int .u64 g, .int .u64 h, .int .u64 q, .int .u64 d, .bool b] w fun e w' => e = .returned (.bool true) ∧ Below w.heap.size w w' := by
  obtain ⟨g0, g1⟩ := u64_range hg
  obtain ⟨h0, h1⟩ := u64_range hh
  obtain ⟨q0, q1⟩ := u64_range hq
  obtain ⟨d0, d1⟩ := u64_range hd
  obtain ⟨g, rfl⟩ := Int.eq_ofNat_of_zero_le g0
  obtain ⟨h, rfl⟩ := Int.eq_ofNat_of_zero_le h0
  obtain ⟨q, rfl⟩ := Int.eq_ofNat_of_zero_le q0
  obtain ⟨d, rfl⟩ := Int.eq_ofNat_of_zero_le d0
  cases b
  · exact one_law0 g h q d (by omega) (by omega) (by omega) (by omega) w hn
  · exact one_law1 g h q d (by omega) (by omega) (by omega) (by omega) w hn
end Go.Proofs.YtmjbpdhkpdpdjaaDoor
