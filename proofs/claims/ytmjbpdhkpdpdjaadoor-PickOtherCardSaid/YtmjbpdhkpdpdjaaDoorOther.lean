/- The walk of PickOther (this text is printed by wip/gen/other.py). -/
import Derived.Test.YtmjbpdhkpdpdjaaDoorWipes
namespace Go.Proofs.YtmjbpdhkpdpdjaaDoor
open Go.RowKit Go.Shelf
attribute [local go_sem] Oper.semAt_some

namespace Dw
theorem read_cases (a b : List UInt8) : ((best a b).bank = -1 ∧ readS a b = psZero ∧ readE a b = 10) ∨ (sound a = true ∧ readS a b = ofT a 0 ∧ readE a b = 0) ∨ (sound b = true ∧ readS a b = ofT b 1 ∧ readE a b = 0) := by
  rcases bank_cases a b with ⟨h1, h2, h3⟩ | ⟨_, h2, h3⟩ | ⟨_, h2, h3, h4⟩ | ⟨_, h2, h3⟩ | ⟨_, h2, h3, h4⟩
  · exact .inl ⟨h1, rdN a b h2 h3⟩
  · exact .inr (.inl ⟨h2, rd0 a b h2 (.inl h3)⟩)
  · exact .inr (.inl ⟨h2, rd0 a b h2 (.inr h4)⟩)
  · exact .inr (.inr ⟨h2, rd1 a b h2 (.inl h3)⟩)
  · exact .inr (.inr ⟨h2, rd1 a b h2 (.inr h4)⟩)
end Dw

set_option maxRecDepth 100000 in
set_option maxHeartbeats 8000000 in
theorem other_law (a b s : List UInt8) (e0 e1 li : Int) (w : World) (hn : NoneAt w) :
    Calls Tryd.prog 4 #[flashV a b e0 e1 li, .string ⟨s.toArray⟩] w fun e w' => e = .returned (.bool true) ∧ Below w.heap.size w w' := by
  have hB := (Below.refl w.heap.size w).alloc (Nat.le_refl _) (.cells (flashC a b e0 e1 li) 25)
  have hF0 := heap_alloc_new w (.cells (flashC a b e0 e1 li) 25)
  obtain ⟨c0, c1, c2, c3, c4⟩ := cells5 hF0
  have HF := Lib.hid hF0
  clear hF0
  go_enter Tryd.func4, Tryd.ntmps4
  go_wp2_with fail
  generalize w.alloc _ = W at *
  go_wp2_with fail
  refine (big_any a b e0 e1 li _).mono ?_
  rintro e w1 ⟨rfl, hb⟩
  have hF := (hb.block _ (block_lt HF.out)).trans HF.out
  replace hB := hB.trans (hb.mono hB.size)
  clear hb HF c0 c1 c2 c3 c4
  obtain ⟨c0, c1, c2, c3, c4⟩ := cells5 hF
  have HF := Lib.hid hF
  clear hF
  by_cases hall : Dw.big a b = false ∧ s.length ≤ 400
  · obtain ⟨hbig, hs⟩ := hall
    have ha : a.length ≤ 400 := by unfold Dw.big at hbig; simp at hbig; omega
    have hb4 : b.length ≤ 400 := by unfold Dw.big at hbig; simp at hbig; omega
    have hbc := Dw.read_cases a b
    rw [hbig]
    have Hbig := Lib.hid hbig
    clear hbig
    have hs' : ¬ (400 : Int) < (s.length : Int) := by omega
    go_wp2_with fail
    refine (shown10_any _ (hn.next hB)).mono ?_
    rintro e w2 ⟨rfl, hb⟩
    have hF := (hb.block _ (block_lt HF.out)).trans HF.out
    replace hB := hB.trans (hb.mono hB.size)
    clear hb HF c0 c1 c2 c3 c4
    obtain ⟨c0, c1, c2, c3, c4⟩ := cells5 hF
    have HF := Lib.hid hF
    clear hF
    go_wp2_with fail
    refine (read_any a b ha hb4 e0 e1 li _ (hn.next hB)).mono ?_
    rintro e w3 ⟨rfl, hb⟩
    have hF := (hb.block _ (block_lt HF.out)).trans HF.out
    replace hB := hB.trans (hb.mono hB.size)
    clear hb HF c0 c1 c2 c3 c4
    obtain ⟨c0, c1, c2, c3, c4⟩ := cells5 hF
    have HF := Lib.hid hF
    clear hF
    have hz3 := hB.size
    rcases hbc with ⟨h1, r1, r2⟩ | ⟨h2, r1, r2⟩ | ⟨h2, r1, r2⟩ <;> rw [r1, r2] <;> clear r1 r2
    · have hF := HF.out
      rw [show Dw.psZero = ⟨0, 0, 0, 0⟩ from rfl]
      have hA := heap_alloc_new w3 (.cells #[.int .i64 0, .int .u64 0, .int .u64 0, .int .u64 0] 35)
      replace hF := (heap_alloc_old w3 (.cells #[.int .i64 0, .int .u64 0, .int .u64 0, .int .u64 0] 35) _ (block_lt hF)).trans hF
      replace hB := hB.alloc hB.size (.cells #[.int .i64 0, .int .u64 0, .int .u64 0, .int .u64 0] 35)
      have hN := hn.next hB
      have H1 := Lib.hid h1
      clear HF h1 hA c0 c1 c2 c3 c4
      obtain ⟨c0, c1, c2, c3, c4⟩ := cells5 hF
      clear hF
      go_wp2_with fail
      refine (bank_any a b ha hb4 e0 e1 li _ hN).mono ?_
      rintro e w4 ⟨rfl, hb⟩
      rw [H1.out]
      replace hB := hB.trans (hb.mono hB.size)
      clear hb
      go_wp2_with fail
      go_ret
      exact ⟨rfl, hB⟩
    · have hT : Dw.ofT a 0 = ⟨0, Dw.genN a, (Dw.last a).1.seq, (Dw.last a).1.data⟩ := rfl
      have hr1 : Dw.sound s = false → Dw.readS a s = Dw.ofT a 0 ∧ Dw.readE a s = 0 := fun h => Dw.rd0 a s h2 (.inl h)
      have hr2 : Dw.genN s < Dw.genN a → Dw.readS a s = Dw.ofT a 0 ∧ Dw.readE a s = 0 := fun hlt => Dw.rd0 a s h2 (.inr (Nat.le_of_lt hlt))
      rw [hT] at hr1 hr2 ⊢
      clear hT h2
      have HR1 := Lib.hid hr1; have HR2 := Lib.hid hr2
      clear hr1 hr2
      generalize hga : Dw.genN a = ga at *
      generalize (Dw.last a).1.seq = qa at *
      generalize (Dw.last a).1.data = da at *
      clear hga
      have hF := HF.out
      have hfl := block_lt hF
      have f1 := frozen0 hF 1
      obtain ⟨U, hU⟩ : ∃ U, World.setCell w3 ⟨w.heap.size, 1, none⟩ (.string ⟨s.toArray⟩) = U := ⟨_, rfl⟩
      have hUs : U.heap.size = w3.heap.size := by rw [← hU]; simp [World.setCell]
      have hF6 : U.heap[w.heap.size]? = some (.cells (flashC a s e0 e1 li) 25 (0, 0)) := by rw [← hU]; exact heap_setCell_same w3 w.heap.size 1 _ 25 (.string ⟨s.toArray⟩) hF
      have hB6 : Below w.heap.size w U := by rw [← hU]; exact hB.setCell (p := ⟨w.heap.size, 1, none⟩) (Nat.le_refl _) (.string ⟨s.toArray⟩)
      have hF7 := (heap_alloc_old U (.cells #[.int .i64 0, .int .u64 ga, .int .u64 qa, .int .u64 da] 35) _ (block_lt hF6)).trans hF6
      have hA7 : (U.alloc (.cells #[.int .i64 0, .int .u64 ga, .int .u64 qa, .int .u64 da] 35)).heap[w3.heap.size]? = some (.cells #[.int .i64 0, .int .u64 ga, .int .u64 qa, .int .u64 da] 35) := by rw [← hUs]; exact heap_alloc_new U (.cells #[.int .i64 0, .int .u64 ga, .int .u64 qa, .int .u64 da] 35)
      have hB7 := hB6.alloc hB6.size (.cells #[.int .i64 0, .int .u64 ga, .int .u64 qa, .int .u64 da] 35)
      rw [← hU] at hF7 hA7 hB7
      clear hF6 hB6 hUs hU hB U HF
      obtain ⟨c0, c1, c2, c3, c4⟩ := cells5 hF
      have HA := Lib.hid hA7; have HF6 := Lib.hid hF7; have HB := Lib.hid hB7
      clear hA7 hF7 hB7 hF
      go_wp2_with fail
      have hA := HA.out; have hF := HF6.out; have hB := HB.out
      generalize World.alloc (World.setCell _ _ _) _ = W6 at *
      generalize w3.heap.size = g3 at *
      clear HA HF6 HB c0 c1 c2 c3 c4 f1
      go_wp2_with fail
      refine (rgen_any s hs _).mono ?_
      rintro e w7 ⟨rfl, hb⟩
      replace hF := (hb.block _ (block_lt hF)).trans hF
      replace hA := (hb.block _ (block_lt hA)).trans hA
      replace hB := hB.trans (hb.mono hB.size)
      clear hb
      generalize Dw.genE s = gse at *
      generalize Dw.genN s = gsn at *
      go_wp2_with fail
      refine (rsound_any s hs _).mono ?_
      rintro e w8 ⟨rfl, hb⟩
      replace hF := (hb.block _ (block_lt hF)).trans hF
      replace hA := (hb.block _ (block_lt hA)).trans hA
      replace hB := hB.trans (hb.mono hB.size)
      clear hb
      obtain ⟨a0, a1, a2, a3⟩ := cells4 hA
      by_cases hend : Dw.sound s = true ∧ ga ≤ gsn
      · obtain ⟨h1, h2⟩ := hend
        have h2i : (ga : Int) ≤ (gsn : Int) := by omega
        rw [h1]
        have H1 := Lib.hid h1
        clear h1 hF hA
        go_wp2_with fail
        go_ret
        exact ⟨rfl, hB⟩
      · have hR : Dw.readS a s = ⟨0, ga, qa, da⟩ ∧ Dw.readE a s = 0 := by
          cases h : Dw.sound s
          · exact HR1.out h
          · exact HR2.out (by have : ¬ ga ≤ gsn := fun h2 => hend ⟨h, h2⟩; omega)
        have hN := hn.next hB
        obtain ⟨c0, c1, c2, c3, c4⟩ := cells5 hF
        have HR := Lib.hid hR; have HF := Lib.hid hF; have HA := Lib.hid hA
        clear hR hF hA
        cases h : Dw.sound s
        · have H := Lib.hid h
          clear h hend
          go_wp2_with fail
          refine (read_any a s ha hs e0 e1 li _ hN).mono ?_
          rintro e w9 ⟨rfl, hb⟩
          rw [HR.out.1, HR.out.2]
          have hA := (hb.block _ (block_lt HA.out)).trans HA.out
          replace hB := hB.trans (hb.mono hB.size)
          clear hb c0 c1 c2 c3 c4 a0 a1 a2 a3
          have hC := heap_alloc_new w9 (.cells #[.int .i64 0, .int .u64 ga, .int .u64 qa, .int .u64 da] 35)
          replace hA := (heap_alloc_old w9 (.cells #[.int .i64 0, .int .u64 ga, .int .u64 qa, .int .u64 da] 35) _ (block_lt hA)).trans hA
          replace hB := hB.alloc hB.size (.cells #[.int .i64 0, .int .u64 ga, .int .u64 qa, .int .u64 da] 35)
          obtain ⟨a0, a1, a2, a3⟩ := cells4 hA
          clear hA hC
          go_wp2_with fail
          go_ret
          exact ⟨rfl, hB⟩
        · have H := Lib.hid h
          have hlt : ¬ (ga : Int) ≤ (gsn : Int) := by
            have : ¬ ga ≤ gsn := fun h2 => hend ⟨h, h2⟩
            omega
          clear h hend
          go_wp2_with fail
          refine (read_any a s ha hs e0 e1 li _ hN).mono ?_
          rintro e w9 ⟨rfl, hb⟩
          rw [HR.out.1, HR.out.2]
          have hA := (hb.block _ (block_lt HA.out)).trans HA.out
          replace hB := hB.trans (hb.mono hB.size)
          clear hb c0 c1 c2 c3 c4 a0 a1 a2 a3
          have hC := heap_alloc_new w9 (.cells #[.int .i64 0, .int .u64 ga, .int .u64 qa, .int .u64 da] 35)
          replace hA := (heap_alloc_old w9 (.cells #[.int .i64 0, .int .u64 ga, .int .u64 qa, .int .u64 da] 35) _ (block_lt hA)).trans hA
          replace hB := hB.alloc hB.size (.cells #[.int .i64 0, .int .u64 ga, .int .u64 qa, .int .u64 da] 35)
          obtain ⟨a0, a1, a2, a3⟩ := cells4 hA
          clear hA hC
          go_wp2_with fail
          go_ret
          exact ⟨rfl, hB⟩
    · have hT : Dw.ofT b 1 = ⟨1, Dw.genN b, (Dw.last b).1.seq, (Dw.last b).1.data⟩ := rfl
      have hr1 : Dw.sound s = false → Dw.readS s b = Dw.ofT b 1 ∧ Dw.readE s b = 0 := fun h => Dw.rd1 s b h2 (.inl h)
      have hr2 : Dw.genN s < Dw.genN b → Dw.readS s b = Dw.ofT b 1 ∧ Dw.readE s b = 0 := fun hlt => Dw.rd1 s b h2 (.inr hlt)
      rw [hT] at hr1 hr2 ⊢
      clear hT h2
      have HR1 := Lib.hid hr1; have HR2 := Lib.hid hr2
      clear hr1 hr2
      generalize hga : Dw.genN b = ga at *
      generalize (Dw.last b).1.seq = qa at *
      generalize (Dw.last b).1.data = da at *
      clear hga
      have hF := HF.out
      have hfl := block_lt hF
      have f0 := frozen0 hF 0
      obtain ⟨U, hU⟩ : ∃ U, World.setCell w3 ⟨w.heap.size, 0, none⟩ (.string ⟨s.toArray⟩) = U := ⟨_, rfl⟩
      have hUs : U.heap.size = w3.heap.size := by rw [← hU]; simp [World.setCell]
      have hF6 : U.heap[w.heap.size]? = some (.cells (flashC s b e0 e1 li) 25 (0, 0)) := by rw [← hU]; exact heap_setCell_same w3 w.heap.size 0 _ 25 (.string ⟨s.toArray⟩) hF
      have hB6 : Below w.heap.size w U := by rw [← hU]; exact hB.setCell (p := ⟨w.heap.size, 0, none⟩) (Nat.le_refl _) (.string ⟨s.toArray⟩)
      have hF7 := (heap_alloc_old U (.cells #[.int .i64 1, .int .u64 ga, .int .u64 qa, .int .u64 da] 35) _ (block_lt hF6)).trans hF6
      have hA7 : (U.alloc (.cells #[.int .i64 1, .int .u64 ga, .int .u64 qa, .int .u64 da] 35)).heap[w3.heap.size]? = some (.cells #[.int .i64 1, .int .u64 ga, .int .u64 qa, .int .u64 da] 35) := by rw [← hUs]; exact heap_alloc_new U (.cells #[.int .i64 1, .int .u64 ga, .int .u64 qa, .int .u64 da] 35)
      have hB7 := hB6.alloc hB6.size (.cells #[.int .i64 1, .int .u64 ga, .int .u64 qa, .int .u64 da] 35)
      rw [← hU] at hF7 hA7 hB7
      clear hF6 hB6 hUs hU hB U HF
      obtain ⟨c0, c1, c2, c3, c4⟩ := cells5 hF
      have HA := Lib.hid hA7; have HF6 := Lib.hid hF7; have HB := Lib.hid hB7
      clear hA7 hF7 hB7 hF
      go_wp2_with fail
      have hA := HA.out; have hF := HF6.out; have hB := HB.out
      generalize World.alloc (World.setCell _ _ _) _ = W6 at *
      generalize w3.heap.size = g3 at *
      clear HA HF6 HB c0 c1 c2 c3 c4 f0
      go_wp2_with fail
      refine (rgen_any s hs _).mono ?_
      rintro e w7 ⟨rfl, hb⟩
      replace hF := (hb.block _ (block_lt hF)).trans hF
      replace hA := (hb.block _ (block_lt hA)).trans hA
      replace hB := hB.trans (hb.mono hB.size)
      clear hb
      generalize Dw.genE s = gse at *
      generalize Dw.genN s = gsn at *
      go_wp2_with fail
      refine (rsound_any s hs _).mono ?_
      rintro e w8 ⟨rfl, hb⟩
      replace hF := (hb.block _ (block_lt hF)).trans hF
      replace hA := (hb.block _ (block_lt hA)).trans hA
      replace hB := hB.trans (hb.mono hB.size)
      clear hb
      obtain ⟨a0, a1, a2, a3⟩ := cells4 hA
      by_cases hend : Dw.sound s = true ∧ ga ≤ gsn
      · obtain ⟨h1, h2⟩ := hend
        have h2i : (ga : Int) ≤ (gsn : Int) := by omega
        rw [h1]
        have H1 := Lib.hid h1
        clear h1 hF hA
        go_wp2_with fail
        go_ret
        exact ⟨rfl, hB⟩
      · have hR : Dw.readS s b = ⟨1, ga, qa, da⟩ ∧ Dw.readE s b = 0 := by
          cases h : Dw.sound s
          · exact HR1.out h
          · exact HR2.out (by have : ¬ ga ≤ gsn := fun h2 => hend ⟨h, h2⟩; omega)
        have hN := hn.next hB
        obtain ⟨c0, c1, c2, c3, c4⟩ := cells5 hF
        have HR := Lib.hid hR; have HF := Lib.hid hF; have HA := Lib.hid hA
        clear hR hF hA
        cases h : Dw.sound s
        · have H := Lib.hid h
          clear h hend
          go_wp2_with fail
          refine (read_any s b hs hb4 e0 e1 li _ hN).mono ?_
          rintro e w9 ⟨rfl, hb⟩
          rw [HR.out.1, HR.out.2]
          have hA := (hb.block _ (block_lt HA.out)).trans HA.out
          replace hB := hB.trans (hb.mono hB.size)
          clear hb c0 c1 c2 c3 c4 a0 a1 a2 a3
          have hC := heap_alloc_new w9 (.cells #[.int .i64 1, .int .u64 ga, .int .u64 qa, .int .u64 da] 35)
          replace hA := (heap_alloc_old w9 (.cells #[.int .i64 1, .int .u64 ga, .int .u64 qa, .int .u64 da] 35) _ (block_lt hA)).trans hA
          replace hB := hB.alloc hB.size (.cells #[.int .i64 1, .int .u64 ga, .int .u64 qa, .int .u64 da] 35)
          obtain ⟨a0, a1, a2, a3⟩ := cells4 hA
          clear hA hC
          go_wp2_with fail
          go_ret
          exact ⟨rfl, hB⟩
        · have H := Lib.hid h
          have hlt : ¬ (ga : Int) ≤ (gsn : Int) := by
            have : ¬ ga ≤ gsn := fun h2 => hend ⟨h, h2⟩
            omega
          clear h hend
          go_wp2_with fail
          refine (read_any s b hs hb4 e0 e1 li _ hN).mono ?_
          rintro e w9 ⟨rfl, hb⟩
          rw [HR.out.1, HR.out.2]
          have hA := (hb.block _ (block_lt HA.out)).trans HA.out
          replace hB := hB.trans (hb.mono hB.size)
          clear hb c0 c1 c2 c3 c4 a0 a1 a2 a3
          have hC := heap_alloc_new w9 (.cells #[.int .i64 1, .int .u64 ga, .int .u64 qa, .int .u64 da] 35)
          replace hA := (heap_alloc_old w9 (.cells #[.int .i64 1, .int .u64 ga, .int .u64 qa, .int .u64 da] 35) _ (block_lt hA)).trans hA
          replace hB := hB.alloc hB.size (.cells #[.int .i64 1, .int .u64 ga, .int .u64 qa, .int .u64 da] 35)
          obtain ⟨a0, a1, a2, a3⟩ := cells4 hA
          clear hA hC
          go_wp2_with fail
          go_ret
          exact ⟨rfl, hB⟩
  · by_cases hbig : Dw.big a b = true
    · rw [hbig]
      have Hbig := Lib.hid hbig
      clear hbig hall
      go_wp2_with fail
      refine (shown10_any _ (hn.next hB)).mono ?_
      rintro e w2 ⟨rfl, hb⟩
      have hF := (hb.block _ (block_lt HF.out)).trans HF.out
      replace hB := hB.trans (hb.mono hB.size)
      clear hb HF c0 c1 c2 c3 c4
      obtain ⟨c0, c1, c2, c3, c4⟩ := cells5 hF
      have HF := Lib.hid hF
      clear hF
      go_wp2_with fail
      go_ret
      exact ⟨rfl, hB⟩
    · have hbig' : Dw.big a b = false := by simpa using hbig
      have hs : (400 : Int) < (s.length : Int) := by
        have : ¬ s.length ≤ 400 := fun h => hall ⟨hbig', h⟩
        omega
      rw [hbig']
      have Hbig := Lib.hid hbig'
      clear hbig' hbig hall
      go_wp2_with fail
      refine (shown10_any _ (hn.next hB)).mono ?_
      rintro e w2 ⟨rfl, hb⟩
      have hF := (hb.block _ (block_lt HF.out)).trans HF.out
      replace hB := hB.trans (hb.mono hB.size)
      clear hb HF c0 c1 c2 c3 c4
      obtain ⟨c0, c1, c2, c3, c4⟩ := cells5 hF
      have HF := Lib.hid hF
      clear hF
      go_wp2_with fail
      go_ret
      exact ⟨rfl, hB⟩
end Go.Proofs.YtmjbpdhkpdpdjaaDoor
