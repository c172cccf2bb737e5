/- The walk of PickWipes (this text is printed by wip/gen/wipes.py). -/
import Derived.Test.YtmjbpdhkpdpdjaaDoorGreater
import Derived.Test.YtmjbpdhkpdpdjaaDoorRd
namespace Go.Proofs.YtmjbpdhkpdpdjaaDoor
open Go.RowKit Go.Shelf
attribute [local go_sem] Oper.semAt_some


set_option maxRecDepth 100000 in
set_option maxHeartbeats 8000000 in
theorem wipes_any (a b : List UInt8) (e0 e1 li : Int) (w : World) (hn : NoneAt w) :
    Calls Tryd.prog 6 #[flashV a b e0 e1 li] w fun e w' => e = .returned (.bool true) ∧ Below w.heap.size w w' := by
  have hB := (Below.refl w.heap.size w).alloc (Nat.le_refl _) (.cells (flashC a b e0 e1 li) 25)
  have hF0 := heap_alloc_new w (.cells (flashC a b e0 e1 li) 25)
  obtain ⟨c0, c1, c2, c3, c4⟩ := cells5 hF0
  have HF := Lib.hid hF0
  clear hF0
  have hnl : ([] : List UInt8).length ≤ 400 := by simp
  go_enter Tryd.func6, Tryd.ntmps6
  go_wp2_with fail
  generalize w.alloc _ = W at *
  go_wp2_with fail
  refine (big_any a b e0 e1 li _).mono ?_
  rintro e w1 ⟨rfl, hb⟩
  have hF := (hb.block _ (block_lt HF.out)).trans HF.out
  replace hB := hB.trans (hb.mono hB.size)
  clear hb HF c0 c1 c2 c3 c4
  obtain ⟨c0, c1, c2, c3, c4⟩ := cells5 hF
  have HF := Lib.hid hF
  clear hF
  cases hbig : Dw.big a b
  · have ha : a.length ≤ 400 := by unfold Dw.big at hbig; simp at hbig; omega
    have hb4 : b.length ≤ 400 := by unfold Dw.big at hbig; simp at hbig; omega
    have hbc := bank_cases a b
    have Hbig := Lib.hid hbig
    clear hbig
    go_wp2_with fail
    refine (shown10_any _ (hn.next hB)).mono ?_
    rintro e w2 ⟨rfl, hb⟩
    have hF := (hb.block _ (block_lt HF.out)).trans HF.out
    replace hB := hB.trans (hb.mono hB.size)
    clear hb HF c0 c1 c2 c3 c4
    obtain ⟨c0, c1, c2, c3, c4⟩ := cells5 hF
    have HF := Lib.hid hF
    clear hF
    go_wp2_with fail
    refine (read_any a b ha hb4 e0 e1 li _ (hn.next hB)).mono ?_
    rintro e w3 ⟨rfl, hb⟩
    have hF := (hb.block _ (block_lt HF.out)).trans HF.out
    replace hB := hB.trans (hb.mono hB.size)
    clear hb HF c0 c1 c2 c3 c4
    obtain ⟨c0, c1, c2, c3, c4⟩ := cells5 hF
    have HF := Lib.hid hF
    clear hF
    have hz3 := hB.size
    rcases hbc with ⟨_, h2, h3⟩ | ⟨_, h2, h3⟩ | ⟨_, h2, h3, h4⟩ | ⟨_, h2, h3⟩ | ⟨_, h2, h3, h4⟩
    · obtain ⟨r1, r2⟩ := Dw.rdN a b h2 h3
      rw [r1, r2]
      clear r1 r2 h2 h3
      have hB2 := hB.alloc hB.size (.cells #[.int .i64 0, .int .u64 0, .int .u64 0, .int .u64 0] 35)
      go_wp2_with fail
      go_ret
      exact ⟨rfl, hB2⟩
    · obtain ⟨r1, r2⟩ := Dw.rd0 a b h2 (.inl h3)
      obtain ⟨r3, r4⟩ := Dw.rd0 a [] h2 (.inl Dw.sound_nil)
      obtain ⟨r5, r6⟩ := Dw.rdN [] b Dw.sound_nil h3
      rw [show Dw.ofT a 0 = ⟨0, Dw.genN a, (Dw.last a).1.seq, (Dw.last a).1.data⟩ from rfl] at r1 r3
      rw [r1, r2]
      have R34 := Lib.hid (And.intro r3 r4); have R56 := Lib.hid (And.intro r5 r6); have H3 := Lib.hid h3
      clear r1 r2 r3 r4 r5 r6 h2 h3
      generalize hga : Dw.genN a = ga at *
      generalize (Dw.last a).1.seq = qa at *
      generalize (Dw.last a).1.data = da at *
      clear hga
      have hF := HF.out
      have hA := heap_alloc_new w3 (.cells #[.int .i64 0, .int .u64 ga, .int .u64 qa, .int .u64 da] 35)
      replace hF := (heap_alloc_old w3 (.cells #[.int .i64 0, .int .u64 ga, .int .u64 qa, .int .u64 da] 35) _ (block_lt hF)).trans hF
      replace hB := hB.alloc hB.size (.cells #[.int .i64 0, .int .u64 ga, .int .u64 qa, .int .u64 da] 35)
      obtain ⟨V, hV⟩ : ∃ V, w3.alloc (.cells #[.int .i64 0, .int .u64 ga, .int .u64 qa, .int .u64 da] 35) = V := ⟨_, rfl⟩
      have hgf : w.heap.size < w3.heap.size := by have := block_lt HF.out; omega
      rw [hV] at hA hF hB
      have hsV : V.heap.size = w3.heap.size + 1 := by rw [← hV]; simp
      have hG := heap_alloc_new V (.cells (flashC a [] e0 e1 li) 25)
      replace hF := (heap_alloc_old V (.cells (flashC a [] e0 e1 li) 25) _ (block_lt hF)).trans hF
      replace hA := (heap_alloc_old V (.cells (flashC a [] e0 e1 li) 25) _ (block_lt hA)).trans hA
      replace hB := hB.alloc hB.size (.cells (flashC a [] e0 e1 li) 25)
      clear hG
      have hN := hn.next hB
      rw [← hV] at hF hA hB hN
      clear hsV hV HF
      go_wp2_with fail
      generalize World.alloc (World.alloc w3 _) _ = W4 at *
      clear V c0 c1 c2 c3 c4
      generalize w3.heap.size = ga3 at *
      go_wp2_with fail
      refine (read_any a [] ha hnl e0 e1 li _ hN).mono ?_
      rintro e w5 ⟨rfl, hb⟩
      replace hF := (hb.block _ (block_lt hF)).trans hF
      replace hA := (hb.block _ (block_lt hA)).trans hA
      replace hB := hB.trans (hb.mono hB.size)
      clear hb
      rw [R34.out.1, R34.out.2]
      have hg5 := block_lt hA
      have hC := heap_alloc_new w5 (.cells #[.int .i64 0, .int .u64 ga, .int .u64 qa, .int .u64 da] 35)
      replace hF := (heap_alloc_old w5 (.cells #[.int .i64 0, .int .u64 ga, .int .u64 qa, .int .u64 da] 35) _ (block_lt hF)).trans hF
      replace hA := (heap_alloc_old w5 (.cells #[.int .i64 0, .int .u64 ga, .int .u64 qa, .int .u64 da] 35) _ (block_lt hA)).trans hA
      replace hB := hB.alloc hB.size (.cells #[.int .i64 0, .int .u64 ga, .int .u64 qa, .int .u64 da] 35)
      obtain ⟨W5, hW5⟩ : ∃ W5, w5.alloc (.cells #[.int .i64 0, .int .u64 ga, .int .u64 qa, .int .u64 da] 35) = W5 := ⟨_, rfl⟩
      obtain ⟨c0, c1, c2, c3, c4⟩ := cells5 hF
      have f0 := frozen0 hF 0
      obtain ⟨a0, a1, a2, a3⟩ := cells4 hA
      have hF6 := heap_setCell_same _ w.heap.size 0 _ 25 (.string ⟨#[]⟩) hF
      have hA6 := (heap_setCell_other _ ⟨w.heap.size, 0, none⟩ ga3 (.string ⟨#[]⟩) (by simp; omega)).trans hA
      have hC6 := (heap_setCell_other _ ⟨w.heap.size, 0, none⟩ w5.heap.size (.string ⟨#[]⟩) (by simp; omega)).trans hC
      have hB6 := hB.setCell (p := ⟨w.heap.size, 0, none⟩) (Nat.le_refl _) (.string ⟨#[]⟩)
      have hN6 := hn.next hB6
      have HA := Lib.hid hA6; have HC := Lib.hid hC6; have HF := Lib.hid hF6; have HB := Lib.hid hB6
      clear hF hA hC hB hF6 hA6 hC6 hB6 hN
      clear hW5 W5
      go_wp2_with fail
      have hA := HA.out; have hC := HC.out; have hB := HB.out; have hF := HF.out
      generalize World.setCell _ _ _ = W6 at *
      clear HA HC HB HF c0 c1 c2 c3 c4 f0 a0 a1 a2 a3
      generalize w5.heap.size = gc at *
      change W6.heap[w.heap.size]? = some (.cells (flashC [] b e0 e1 li) _ _) at hF
      go_wp2_with fail
      refine (read_any [] b hnl hb4 e0 e1 li _ hN6).mono ?_
      rintro e w7 ⟨rfl, hb⟩
      replace hF := (hb.block _ (block_lt hF)).trans hF
      replace hA := (hb.block _ (block_lt hA)).trans hA
      replace hC := (hb.block _ (block_lt hC)).trans hC
      replace hB := hB.trans (hb.mono hB.size)
      clear hb
      rw [R56.out.1, R56.out.2]
      rw [show Dw.psZero = ⟨0, 0, 0, 0⟩ from rfl]
      have hD := heap_alloc_new w7 (.cells #[.int .i64 0, .int .u64 0, .int .u64 0, .int .u64 0] 35)
      replace hF := (heap_alloc_old w7 (.cells #[.int .i64 0, .int .u64 0, .int .u64 0, .int .u64 0] 35) _ (block_lt hF)).trans hF
      replace hA := (heap_alloc_old w7 (.cells #[.int .i64 0, .int .u64 0, .int .u64 0, .int .u64 0] 35) _ (block_lt hA)).trans hA
      replace hC := (heap_alloc_old w7 (.cells #[.int .i64 0, .int .u64 0, .int .u64 0, .int .u64 0] 35) _ (block_lt hC)).trans hC
      replace hB := hB.alloc hB.size (.cells #[.int .i64 0, .int .u64 0, .int .u64 0, .int .u64 0] 35)
      obtain ⟨c0, c1, c2, c3, c4⟩ := cells5 hF
      obtain ⟨a0, a1, a2, a3⟩ := cells4 hA
      have HA := Lib.hid hA; have HC := Lib.hid hC; have HD := Lib.hid hD
      clear hA hC hD hF
      go_wp2_with fail
      have hA := HA.out; have hC := HC.out; have hD := HD.out
      generalize World.alloc w7 _ = W7 at *
      generalize w7.heap.size = gd at *
      clear HA HC HD c0 c1 c2 c3 c4 a0 a1 a2 a3
      go_wp2_with fail
      refine (rsound_any b hb4 _).mono ?_
      rintro e w8 ⟨rfl, hb⟩
      replace hA := (hb.block _ (block_lt hA)).trans hA
      replace hC := (hb.block _ (block_lt hC)).trans hC
      replace hD := (hb.block _ (block_lt hD)).trans hD
      replace hB := hB.trans (hb.mono hB.size)
      clear hb
      rw [H3.out]
      obtain ⟨a0, a1, a2, a3⟩ := cells4 hA
      obtain ⟨g0, g1, g2, g3⟩ := cells4 hC
      obtain ⟨d0, d1, d2, d3⟩ := cells4 hD
      clear hA hC hD
      go_wp2_with fail
      go_ret
      exact ⟨rfl, hB⟩
    · obtain ⟨r1, r2⟩ := Dw.rd0 a b h2 (.inr h4)
      obtain ⟨r3, r4⟩ := Dw.rd0 a [] h2 (.inl Dw.sound_nil)
      obtain ⟨r5, r6⟩ := Dw.rd1 [] b h3 (.inl Dw.sound_nil)
      rw [show Dw.ofT a 0 = ⟨0, Dw.genN a, (Dw.last a).1.seq, (Dw.last a).1.data⟩ from rfl] at r1 r3
      rw [show Dw.ofT b 1 = ⟨1, Dw.genN b, (Dw.last b).1.seq, (Dw.last b).1.data⟩ from rfl] at r5
      rw [r1, r2]
      have R34 := Lib.hid (And.intro r3 r4); have R56 := Lib.hid (And.intro r5 r6); have H3 := Lib.hid h3
      have H4 : (Dw.genN b : Int) ≤ (Dw.genN a : Int) := by omega
      clear r1 r2 r3 r4 r5 r6 h2 h3
      generalize hga : Dw.genN a = ga at *
      generalize (Dw.last a).1.seq = qa at *
      generalize (Dw.last a).1.data = da at *
      clear hga
      generalize hgb : Dw.genN b = gb at *
      generalize (Dw.last b).1.seq = qb at *
      generalize (Dw.last b).1.data = db at *
      clear hgb
      have hF := HF.out
      have hA := heap_alloc_new w3 (.cells #[.int .i64 0, .int .u64 ga, .int .u64 qa, .int .u64 da] 35)
      replace hF := (heap_alloc_old w3 (.cells #[.int .i64 0, .int .u64 ga, .int .u64 qa, .int .u64 da] 35) _ (block_lt hF)).trans hF
      replace hB := hB.alloc hB.size (.cells #[.int .i64 0, .int .u64 ga, .int .u64 qa, .int .u64 da] 35)
      obtain ⟨V, hV⟩ : ∃ V, w3.alloc (.cells #[.int .i64 0, .int .u64 ga, .int .u64 qa, .int .u64 da] 35) = V := ⟨_, rfl⟩
      have hgf : w.heap.size < w3.heap.size := by have := block_lt HF.out; omega
      rw [hV] at hA hF hB
      have hsV : V.heap.size = w3.heap.size + 1 := by rw [← hV]; simp
      have hG := heap_alloc_new V (.cells (flashC a [] e0 e1 li) 25)
      replace hF := (heap_alloc_old V (.cells (flashC a [] e0 e1 li) 25) _ (block_lt hF)).trans hF
      replace hA := (heap_alloc_old V (.cells (flashC a [] e0 e1 li) 25) _ (block_lt hA)).trans hA
      replace hB := hB.alloc hB.size (.cells (flashC a [] e0 e1 li) 25)
      clear hG
      have hN := hn.next hB
      rw [← hV] at hF hA hB hN
      clear hsV hV HF
      go_wp2_with fail
      generalize World.alloc (World.alloc w3 _) _ = W4 at *
      clear V c0 c1 c2 c3 c4
      generalize w3.heap.size = ga3 at *
      go_wp2_with fail
      refine (read_any a [] ha hnl e0 e1 li _ hN).mono ?_
      rintro e w5 ⟨rfl, hb⟩
      replace hF := (hb.block _ (block_lt hF)).trans hF
      replace hA := (hb.block _ (block_lt hA)).trans hA
      replace hB := hB.trans (hb.mono hB.size)
      clear hb
      rw [R34.out.1, R34.out.2]
      have hg5 := block_lt hA
      have hC := heap_alloc_new w5 (.cells #[.int .i64 0, .int .u64 ga, .int .u64 qa, .int .u64 da] 35)
      replace hF := (heap_alloc_old w5 (.cells #[.int .i64 0, .int .u64 ga, .int .u64 qa, .int .u64 da] 35) _ (block_lt hF)).trans hF
      replace hA := (heap_alloc_old w5 (.cells #[.int .i64 0, .int .u64 ga, .int .u64 qa, .int .u64 da] 35) _ (block_lt hA)).trans hA
      replace hB := hB.alloc hB.size (.cells #[.int .i64 0, .int .u64 ga, .int .u64 qa, .int .u64 da] 35)
      obtain ⟨W5, hW5⟩ : ∃ W5, w5.alloc (.cells #[.int .i64 0, .int .u64 ga, .int .u64 qa, .int .u64 da] 35) = W5 := ⟨_, rfl⟩
      obtain ⟨c0, c1, c2, c3, c4⟩ := cells5 hF
      have f0 := frozen0 hF 0
      obtain ⟨a0, a1, a2, a3⟩ := cells4 hA
      have hF6 := heap_setCell_same _ w.heap.size 0 _ 25 (.string ⟨#[]⟩) hF
      have hA6 := (heap_setCell_other _ ⟨w.heap.size, 0, none⟩ ga3 (.string ⟨#[]⟩) (by simp; omega)).trans hA
      have hC6 := (heap_setCell_other _ ⟨w.heap.size, 0, none⟩ w5.heap.size (.string ⟨#[]⟩) (by simp; omega)).trans hC
      have hB6 := hB.setCell (p := ⟨w.heap.size, 0, none⟩) (Nat.le_refl _) (.string ⟨#[]⟩)
      have hN6 := hn.next hB6
      have HA := Lib.hid hA6; have HC := Lib.hid hC6; have HF := Lib.hid hF6; have HB := Lib.hid hB6
      clear hF hA hC hB hF6 hA6 hC6 hB6 hN
      clear hW5 W5
      go_wp2_with fail
      have hA := HA.out; have hC := HC.out; have hB := HB.out; have hF := HF.out
      generalize World.setCell _ _ _ = W6 at *
      clear HA HC HB HF c0 c1 c2 c3 c4 f0 a0 a1 a2 a3
      generalize w5.heap.size = gc at *
      change W6.heap[w.heap.size]? = some (.cells (flashC [] b e0 e1 li) _ _) at hF
      go_wp2_with fail
      refine (read_any [] b hnl hb4 e0 e1 li _ hN6).mono ?_
      rintro e w7 ⟨rfl, hb⟩
      replace hF := (hb.block _ (block_lt hF)).trans hF
      replace hA := (hb.block _ (block_lt hA)).trans hA
      replace hC := (hb.block _ (block_lt hC)).trans hC
      replace hB := hB.trans (hb.mono hB.size)
      clear hb
      rw [R56.out.1, R56.out.2]
      have hD := heap_alloc_new w7 (.cells #[.int .i64 1, .int .u64 gb, .int .u64 qb, .int .u64 db] 35)
      replace hF := (heap_alloc_old w7 (.cells #[.int .i64 1, .int .u64 gb, .int .u64 qb, .int .u64 db] 35) _ (block_lt hF)).trans hF
      replace hA := (heap_alloc_old w7 (.cells #[.int .i64 1, .int .u64 gb, .int .u64 qb, .int .u64 db] 35) _ (block_lt hA)).trans hA
      replace hC := (heap_alloc_old w7 (.cells #[.int .i64 1, .int .u64 gb, .int .u64 qb, .int .u64 db] 35) _ (block_lt hC)).trans hC
      replace hB := hB.alloc hB.size (.cells #[.int .i64 1, .int .u64 gb, .int .u64 qb, .int .u64 db] 35)
      obtain ⟨c0, c1, c2, c3, c4⟩ := cells5 hF
      obtain ⟨a0, a1, a2, a3⟩ := cells4 hA
      have HA := Lib.hid hA; have HC := Lib.hid hC; have HD := Lib.hid hD
      clear hA hC hD hF
      go_wp2_with fail
      have hA := HA.out; have hC := HC.out; have hD := HD.out
      generalize World.alloc w7 _ = W7 at *
      generalize w7.heap.size = gd at *
      clear HA HC HD c0 c1 c2 c3 c4 a0 a1 a2 a3
      go_wp2_with fail
      refine (rsound_any b hb4 _).mono ?_
      rintro e w8 ⟨rfl, hb⟩
      replace hA := (hb.block _ (block_lt hA)).trans hA
      replace hC := (hb.block _ (block_lt hC)).trans hC
      replace hD := (hb.block _ (block_lt hD)).trans hD
      replace hB := hB.trans (hb.mono hB.size)
      clear hb
      rw [H3.out]
      obtain ⟨a0, a1, a2, a3⟩ := cells4 hA
      obtain ⟨g0, g1, g2, g3⟩ := cells4 hC
      obtain ⟨d0, d1, d2, d3⟩ := cells4 hD
      clear hA hC hD
      go_wp2_with fail
      go_ret
      exact ⟨rfl, hB⟩
    · obtain ⟨r1, r2⟩ := Dw.rd1 a b h2 (.inl h3)
      obtain ⟨r3, r4⟩ := Dw.rd1 [] b h2 (.inl Dw.sound_nil)
      obtain ⟨r5, r6⟩ := Dw.rdN a [] h3 Dw.sound_nil
      rw [show Dw.ofT b 1 = ⟨1, Dw.genN b, (Dw.last b).1.seq, (Dw.last b).1.data⟩ from rfl] at r1 r3
      rw [r1, r2]
      have R34 := Lib.hid (And.intro r3 r4); have R56 := Lib.hid (And.intro r5 r6); have H3 := Lib.hid h3
      clear r1 r2 r3 r4 r5 r6 h2 h3
      generalize hga : Dw.genN b = ga at *
      generalize (Dw.last b).1.seq = qa at *
      generalize (Dw.last b).1.data = da at *
      clear hga
      have hF := HF.out
      have hA := heap_alloc_new w3 (.cells #[.int .i64 1, .int .u64 ga, .int .u64 qa, .int .u64 da] 35)
      replace hF := (heap_alloc_old w3 (.cells #[.int .i64 1, .int .u64 ga, .int .u64 qa, .int .u64 da] 35) _ (block_lt hF)).trans hF
      replace hB := hB.alloc hB.size (.cells #[.int .i64 1, .int .u64 ga, .int .u64 qa, .int .u64 da] 35)
      obtain ⟨V, hV⟩ : ∃ V, w3.alloc (.cells #[.int .i64 1, .int .u64 ga, .int .u64 qa, .int .u64 da] 35) = V := ⟨_, rfl⟩
      have hgf : w.heap.size < w3.heap.size := by have := block_lt HF.out; omega
      rw [hV] at hA hF hB
      have hsV : V.heap.size = w3.heap.size + 1 := by rw [← hV]; simp
      have hG := heap_alloc_new V (.cells (flashC [] b e0 e1 li) 25)
      replace hF := (heap_alloc_old V (.cells (flashC [] b e0 e1 li) 25) _ (block_lt hF)).trans hF
      replace hA := (heap_alloc_old V (.cells (flashC [] b e0 e1 li) 25) _ (block_lt hA)).trans hA
      replace hB := hB.alloc hB.size (.cells (flashC [] b e0 e1 li) 25)
      clear hG
      have hN := hn.next hB
      rw [← hV] at hF hA hB hN
      clear hsV hV HF
      go_wp2_with fail
      generalize World.alloc (World.alloc w3 _) _ = W4 at *
      clear V c0 c1 c2 c3 c4
      generalize w3.heap.size = ga3 at *
      go_wp2_with fail
      refine (read_any [] b hnl hb4 e0 e1 li _ hN).mono ?_
      rintro e w5 ⟨rfl, hb⟩
      replace hF := (hb.block _ (block_lt hF)).trans hF
      replace hA := (hb.block _ (block_lt hA)).trans hA
      replace hB := hB.trans (hb.mono hB.size)
      clear hb
      rw [R34.out.1, R34.out.2]
      have hg5 := block_lt hA
      have hC := heap_alloc_new w5 (.cells #[.int .i64 1, .int .u64 ga, .int .u64 qa, .int .u64 da] 35)
      replace hF := (heap_alloc_old w5 (.cells #[.int .i64 1, .int .u64 ga, .int .u64 qa, .int .u64 da] 35) _ (block_lt hF)).trans hF
      replace hA := (heap_alloc_old w5 (.cells #[.int .i64 1, .int .u64 ga, .int .u64 qa, .int .u64 da] 35) _ (block_lt hA)).trans hA
      replace hB := hB.alloc hB.size (.cells #[.int .i64 1, .int .u64 ga, .int .u64 qa, .int .u64 da] 35)
      obtain ⟨W5, hW5⟩ : ∃ W5, w5.alloc (.cells #[.int .i64 1, .int .u64 ga, .int .u64 qa, .int .u64 da] 35) = W5 := ⟨_, rfl⟩
      obtain ⟨c0, c1, c2, c3, c4⟩ := cells5 hF
      have f1 := frozen0 hF 1
      obtain ⟨a0, a1, a2, a3⟩ := cells4 hA
      have hF6 := heap_setCell_same _ w.heap.size 1 _ 25 (.string ⟨#[]⟩) hF
      have hA6 := (heap_setCell_other _ ⟨w.heap.size, 1, none⟩ ga3 (.string ⟨#[]⟩) (by simp; omega)).trans hA
      have hC6 := (heap_setCell_other _ ⟨w.heap.size, 1, none⟩ w5.heap.size (.string ⟨#[]⟩) (by simp; omega)).trans hC
      have hB6 := hB.setCell (p := ⟨w.heap.size, 1, none⟩) (Nat.le_refl _) (.string ⟨#[]⟩)
      have hN6 := hn.next hB6
      have HA := Lib.hid hA6; have HC := Lib.hid hC6; have HF := Lib.hid hF6; have HB := Lib.hid hB6
      clear hF hA hC hB hF6 hA6 hC6 hB6 hN
      clear hW5 W5
      go_wp2_with fail
      have hA := HA.out; have hC := HC.out; have hB := HB.out; have hF := HF.out
      generalize World.setCell _ _ _ = W6 at *
      clear HA HC HB HF c0 c1 c2 c3 c4 f1 a0 a1 a2 a3
      generalize w5.heap.size = gc at *
      change W6.heap[w.heap.size]? = some (.cells (flashC a [] e0 e1 li) _ _) at hF
      go_wp2_with fail
      refine (read_any a [] ha hnl e0 e1 li _ hN6).mono ?_
      rintro e w7 ⟨rfl, hb⟩
      replace hF := (hb.block _ (block_lt hF)).trans hF
      replace hA := (hb.block _ (block_lt hA)).trans hA
      replace hC := (hb.block _ (block_lt hC)).trans hC
      replace hB := hB.trans (hb.mono hB.size)
      clear hb
      rw [R56.out.1, R56.out.2]
      rw [show Dw.psZero = ⟨0, 0, 0, 0⟩ from rfl]
      have hD := heap_alloc_new w7 (.cells #[.int .i64 0, .int .u64 0, .int .u64 0, .int .u64 0] 35)
      replace hF := (heap_alloc_old w7 (.cells #[.int .i64 0, .int .u64 0, .int .u64 0, .int .u64 0] 35) _ (block_lt hF)).trans hF
      replace hA := (heap_alloc_old w7 (.cells #[.int .i64 0, .int .u64 0, .int .u64 0, .int .u64 0] 35) _ (block_lt hA)).trans hA
      replace hC := (heap_alloc_old w7 (.cells #[.int .i64 0, .int .u64 0, .int .u64 0, .int .u64 0] 35) _ (block_lt hC)).trans hC
      replace hB := hB.alloc hB.size (.cells #[.int .i64 0, .int .u64 0, .int .u64 0, .int .u64 0] 35)
      obtain ⟨c0, c1, c2, c3, c4⟩ := cells5 hF
      obtain ⟨a0, a1, a2, a3⟩ := cells4 hA
      have HA := Lib.hid hA; have HC := Lib.hid hC; have HD := Lib.hid hD
      clear hA hC hD hF
      go_wp2_with fail
      have hA := HA.out; have hC := HC.out; have hD := HD.out
      generalize World.alloc w7 _ = W7 at *
      generalize w7.heap.size = gd at *
      clear HA HC HD c0 c1 c2 c3 c4 a0 a1 a2 a3
      go_wp2_with fail
      refine (rsound_any a ha _).mono ?_
      rintro e w8 ⟨rfl, hb⟩
      replace hA := (hb.block _ (block_lt hA)).trans hA
      replace hC := (hb.block _ (block_lt hC)).trans hC
      replace hD := (hb.block _ (block_lt hD)).trans hD
      replace hB := hB.trans (hb.mono hB.size)
      clear hb
      rw [H3.out]
      obtain ⟨a0, a1, a2, a3⟩ := cells4 hA
      obtain ⟨g0, g1, g2, g3⟩ := cells4 hC
      obtain ⟨d0, d1, d2, d3⟩ := cells4 hD
      clear hA hC hD
      go_wp2_with fail
      go_ret
      exact ⟨rfl, hB⟩
    · obtain ⟨r1, r2⟩ := Dw.rd1 a b h2 (.inr h4)
      obtain ⟨r3, r4⟩ := Dw.rd1 [] b h2 (.inl Dw.sound_nil)
      obtain ⟨r5, r6⟩ := Dw.rd0 a [] h3 (.inl Dw.sound_nil)
      rw [show Dw.ofT b 1 = ⟨1, Dw.genN b, (Dw.last b).1.seq, (Dw.last b).1.data⟩ from rfl] at r1 r3
      rw [show Dw.ofT a 0 = ⟨0, Dw.genN a, (Dw.last a).1.seq, (Dw.last a).1.data⟩ from rfl] at r5
      rw [r1, r2]
      have R34 := Lib.hid (And.intro r3 r4); have R56 := Lib.hid (And.intro r5 r6); have H3 := Lib.hid h3
      have H4 : (Dw.genN a : Int) ≤ (Dw.genN b : Int) := by omega
      clear r1 r2 r3 r4 r5 r6 h2 h3
      generalize hga : Dw.genN b = ga at *
      generalize (Dw.last b).1.seq = qa at *
      generalize (Dw.last b).1.data = da at *
      clear hga
      generalize hgb : Dw.genN a = gb at *
      generalize (Dw.last a).1.seq = qb at *
      generalize (Dw.last a).1.data = db at *
      clear hgb
      have hF := HF.out
      have hA := heap_alloc_new w3 (.cells #[.int .i64 1, .int .u64 ga, .int .u64 qa, .int .u64 da] 35)
      replace hF := (heap_alloc_old w3 (.cells #[.int .i64 1, .int .u64 ga, .int .u64 qa, .int .u64 da] 35) _ (block_lt hF)).trans hF
      replace hB := hB.alloc hB.size (.cells #[.int .i64 1, .int .u64 ga, .int .u64 qa, .int .u64 da] 35)
      obtain ⟨V, hV⟩ : ∃ V, w3.alloc (.cells #[.int .i64 1, .int .u64 ga, .int .u64 qa, .int .u64 da] 35) = V := ⟨_, rfl⟩
      have hgf : w.heap.size < w3.heap.size := by have := block_lt HF.out; omega
      rw [hV] at hA hF hB
      have hsV : V.heap.size = w3.heap.size + 1 := by rw [← hV]; simp
      have hG := heap_alloc_new V (.cells (flashC [] b e0 e1 li) 25)
      replace hF := (heap_alloc_old V (.cells (flashC [] b e0 e1 li) 25) _ (block_lt hF)).trans hF
      replace hA := (heap_alloc_old V (.cells (flashC [] b e0 e1 li) 25) _ (block_lt hA)).trans hA
      replace hB := hB.alloc hB.size (.cells (flashC [] b e0 e1 li) 25)
      clear hG
      have hN := hn.next hB
      rw [← hV] at hF hA hB hN
      clear hsV hV HF
      go_wp2_with fail
      generalize World.alloc (World.alloc w3 _) _ = W4 at *
      clear V c0 c1 c2 c3 c4
      generalize w3.heap.size = ga3 at *
      go_wp2_with fail
      refine (read_any [] b hnl hb4 e0 e1 li _ hN).mono ?_
      rintro e w5 ⟨rfl, hb⟩
      replace hF := (hb.block _ (block_lt hF)).trans hF
      replace hA := (hb.block _ (block_lt hA)).trans hA
      replace hB := hB.trans (hb.mono hB.size)
      clear hb
      rw [R34.out.1, R34.out.2]
      have hg5 := block_lt hA
      have hC := heap_alloc_new w5 (.cells #[.int .i64 1, .int .u64 ga, .int .u64 qa, .int .u64 da] 35)
      replace hF := (heap_alloc_old w5 (.cells #[.int .i64 1, .int .u64 ga, .int .u64 qa, .int .u64 da] 35) _ (block_lt hF)).trans hF
      replace hA := (heap_alloc_old w5 (.cells #[.int .i64 1, .int .u64 ga, .int .u64 qa, .int .u64 da] 35) _ (block_lt hA)).trans hA
      replace hB := hB.alloc hB.size (.cells #[.int .i64 1, .int .u64 ga, .int .u64 qa, .int .u64 da] 35)
      obtain ⟨W5, hW5⟩ : ∃ W5, w5.alloc (.cells #[.int .i64 1, .int .u64 ga, .int .u64 qa, .int .u64 da] 35) = W5 := ⟨_, rfl⟩
      obtain ⟨c0, c1, c2, c3, c4⟩ := cells5 hF
      have f1 := frozen0 hF 1
      obtain ⟨a0, a1, a2, a3⟩ := cells4 hA
      have hF6 := heap_setCell_same _ w.heap.size 1 _ 25 (.string ⟨#[]⟩) hF
      have hA6 := (heap_setCell_other _ ⟨w.heap.size, 1, none⟩ ga3 (.string ⟨#[]⟩) (by simp; omega)).trans hA
      have hC6 := (heap_setCell_other _ ⟨w.heap.size, 1, none⟩ w5.heap.size (.string ⟨#[]⟩) (by simp; omega)).trans hC
      have hB6 := hB.setCell (p := ⟨w.heap.size, 1, none⟩) (Nat.le_refl _) (.string ⟨#[]⟩)
      have hN6 := hn.next hB6
      have HA := Lib.hid hA6; have HC := Lib.hid hC6; have HF := Lib.hid hF6; have HB := Lib.hid hB6
      clear hF hA hC hB hF6 hA6 hC6 hB6 hN
      clear hW5 W5
      go_wp2_with fail
      have hA := HA.out; have hC := HC.out; have hB := HB.out; have hF := HF.out
      generalize World.setCell _ _ _ = W6 at *
      clear HA HC HB HF c0 c1 c2 c3 c4 f1 a0 a1 a2 a3
      generalize w5.heap.size = gc at *
      change W6.heap[w.heap.size]? = some (.cells (flashC a [] e0 e1 li) _ _) at hF
      go_wp2_with fail
      refine (read_any a [] ha hnl e0 e1 li _ hN6).mono ?_
      rintro e w7 ⟨rfl, hb⟩
      replace hF := (hb.block _ (block_lt hF)).trans hF
      replace hA := (hb.block _ (block_lt hA)).trans hA
      replace hC := (hb.block _ (block_lt hC)).trans hC
      replace hB := hB.trans (hb.mono hB.size)
      clear hb
      rw [R56.out.1, R56.out.2]
      have hD := heap_alloc_new w7 (.cells #[.int .i64 0, .int .u64 gb, .int .u64 qb, .int .u64 db] 35)
      replace hF := (heap_alloc_old w7 (.cells #[.int .i64 0, .int .u64 gb, .int .u64 qb, .int .u64 db] 35) _ (block_lt hF)).trans hF
      replace hA := (heap_alloc_old w7 (.cells #[.int .i64 0, .int .u64 gb, .int .u64 qb, .int .u64 db] 35) _ (block_lt hA)).trans hA
      replace hC := (heap_alloc_old w7 (.cells #[.int .i64 0, .int .u64 gb, .int .u64 qb, .int .u64 db] 35) _ (block_lt hC)).trans hC
      replace hB := hB.alloc hB.size (.cells #[.int .i64 0, .int .u64 gb, .int .u64 qb, .int .u64 db] 35)
      obtain ⟨c0, c1, c2, c3, c4⟩ := cells5 hF
      obtain ⟨a0, a1, a2, a3⟩ := cells4 hA
      have HA := Lib.hid hA; have HC := Lib.hid hC; have HD := Lib.hid hD
      clear hA hC hD hF
      go_wp2_with fail
      have hA := HA.out; have hC := HC.out; have hD := HD.out
      generalize World.alloc w7 _ = W7 at *
      generalize w7.heap.size = gd at *
      clear HA HC HD c0 c1 c2 c3 c4 a0 a1 a2 a3
      go_wp2_with fail
      refine (rsound_any a ha _).mono ?_
      rintro e w8 ⟨rfl, hb⟩
      replace hA := (hb.block _ (block_lt hA)).trans hA
      replace hC := (hb.block _ (block_lt hC)).trans hC
      replace hD := (hb.block _ (block_lt hD)).trans hD
      replace hB := hB.trans (hb.mono hB.size)
      clear hb
      rw [H3.out]
      obtain ⟨a0, a1, a2, a3⟩ := cells4 hA
      obtain ⟨g0, g1, g2, g3⟩ := cells4 hC
      obtain ⟨d0, d1, d2, d3⟩ := cells4 hD
      clear hA hC hD
      go_wp2_with fail
      go_ret
      exact ⟨rfl, hB⟩
  · have Hbig := Lib.hid hbig
    clear hbig
    go_wp2_with fail
    refine (shown10_any _ (hn.next hB)).mono ?_
    rintro e w2 ⟨rfl, hb⟩
    have hF := (hb.block _ (block_lt HF.out)).trans HF.out
    replace hB := hB.trans (hb.mono hB.size)
    clear hb HF c0 c1 c2 c3 c4
    obtain ⟨c0, c1, c2, c3, c4⟩ := cells5 hF
    have HF := Lib.hid hF
    clear hF
    go_wp2_with fail
    go_ret
    exact ⟨rfl, hB⟩
end Go.Proofs.YtmjbpdhkpdpdjaaDoor
