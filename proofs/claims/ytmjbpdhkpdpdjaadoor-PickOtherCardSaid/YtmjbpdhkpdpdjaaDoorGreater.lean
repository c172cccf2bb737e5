/- The walk of PickGreater. -/
import Derived.Test.YtmjbpdhkpdpdjaaDoorShown10
namespace Go.Proofs.YtmjbpdhkpdpdjaaDoor
open Go.RowKit Go.Shelf
attribute [local go_sem] Oper.semAt_some

theorem bank_cases (a b : List UInt8) : ((Dw.best a b).bank = -1 ∧ Dw.sound a = false ∧ Dw.sound b = false) ∨ ((Dw.best a b).bank = 0 ∧ Dw.sound a = true ∧ Dw.sound b = false) ∨ ((Dw.best a b).bank = 0 ∧ Dw.sound a = true ∧ Dw.sound b = true ∧ Dw.genN b ≤ Dw.genN a) ∨
    ((Dw.best a b).bank = 1 ∧ Dw.sound b = true ∧ Dw.sound a = false) ∨ ((Dw.best a b).bank = 1 ∧ Dw.sound b = true ∧ Dw.sound a = true ∧ Dw.genN a < Dw.genN b) := by
  unfold Dw.best Dw.ofS
  cases ha : Dw.sound a <;> cases hb : Dw.sound b <;> simp [Dw.psNone]
  by_cases h : Dw.genN a < Dw.genN b
  · rw [if_pos h]; exact .inr ⟨rfl, h⟩
  · rw [if_neg h]; exact .inl ⟨rfl, by omega⟩

set_option maxRecDepth 100000 in
set_option maxHeartbeats 4000000 in
theorem greater_any (a b : List UInt8) (e0 e1 li : Int) (w : World) (hn : NoneAt w) :
    Calls Tryd.prog 3 #[flashV a b e0 e1 li] w fun e w' => e = .returned (.bool true) ∧ Below w.heap.size w w' := by
  have hB := (Below.refl w.heap.size w).alloc (Nat.le_refl _) (.cells (flashC a b e0 e1 li) 25)
  have hF0 := heap_alloc_new w (.cells (flashC a b e0 e1 li) 25)
  obtain ⟨c0, c1, c2, c3, c4⟩ := cells5 hF0
  have HF := Lib.hid hF0
  clear hF0
  go_enter Tryd.func3, Tryd.ntmps3
  go_wp2_with fail
  generalize w.alloc _ = W at *
  go_wp2_with fail
  refine (big_any a b e0 e1 li _).mono ?_
  rintro e w1 ⟨rfl, hb⟩
  have hF := (hb.block _ (block_lt HF.out)).trans HF.out
  replace hB := hB.trans (hb.mono hB.size)
  clear hb HF c0 c1 c2 c3 c4
  obtain ⟨c0, c1, c2, c3, c4⟩ := cells5 hF
  have HF := Lib.hid hF
  clear hF
  cases hbig : Dw.big a b
  · have ha : a.length ≤ 400 := by unfold Dw.big at hbig; simp at hbig; omega
    have hb4 : b.length ≤ 400 := by unfold Dw.big at hbig; simp at hbig; omega
    have hbc := bank_cases a b
    have Hbig := Lib.hid hbig
    clear hbig
    go_wp2_with fail
    refine (shown10_any _ (hn.next hB)).mono ?_
    rintro e w2 ⟨rfl, hb⟩
    have hF := (hb.block _ (block_lt HF.out)).trans HF.out
    replace hB := hB.trans (hb.mono hB.size)
    clear hb HF c0 c1 c2 c3 c4
    obtain ⟨c0, c1, c2, c3, c4⟩ := cells5 hF
    have HF := Lib.hid hF
    clear hF
    go_wp2_with fail
    refine (bank_any a b ha hb4 e0 e1 li _ (hn.next hB)).mono ?_
    rintro e w3 ⟨rfl, hb⟩
    have hF := (hb.block _ (block_lt HF.out)).trans HF.out
    replace hB := hB.trans (hb.mono hB.size)
    clear hb HF c0 c1 c2 c3 c4
    obtain ⟨c0, c1, c2, c3, c4⟩ := cells5 hF
    have HF := Lib.hid hF
    clear hF
    rcases hbc with ⟨h1, h2, h3⟩ | ⟨h1, h2, h3⟩ | ⟨h1, h2, h3, h4⟩ | ⟨h1, h2, h3⟩ | ⟨h1, h2, h3, h4⟩ <;> rw [h1] <;> clear h1
    · have H2 := Lib.hid h2; have H3 := Lib.hid h3
      clear h2 h3
      go_wp2_with fail
      refine (rsound_any a ha _).mono ?_
      rintro e w4 ⟨rfl, hb⟩
      have hF := (hb.block _ (block_lt HF.out)).trans HF.out
      replace hB := hB.trans (hb.mono hB.size)
      clear hb HF c0 c1 c2 c3 c4
      obtain ⟨c0, c1, c2, c3, c4⟩ := cells5 hF
      have HF := Lib.hid hF
      clear hF
      rw [H2.out]
      go_wp2_with fail
      refine (rsound_any b hb4 _).mono ?_
      rintro e w5 ⟨rfl, hb⟩
      have hF := (hb.block _ (block_lt HF.out)).trans HF.out
      replace hB := hB.trans (hb.mono hB.size)
      clear hb HF c0 c1 c2 c3 c4
      obtain ⟨c0, c1, c2, c3, c4⟩ := cells5 hF
      have HF := Lib.hid hF
      clear hF
      rw [H3.out]
      go_wp2_with fail
      go_ret
      exact ⟨rfl, hB⟩
    · have H2 := Lib.hid h2; have H3 := Lib.hid h3
      clear h2 h3
      go_wp2_with fail
      refine (rsound_any a ha _).mono ?_
      rintro e w4 ⟨rfl, hb⟩
      have hF := (hb.block _ (block_lt HF.out)).trans HF.out
      replace hB := hB.trans (hb.mono hB.size)
      clear hb HF c0 c1 c2 c3 c4
      obtain ⟨c0, c1, c2, c3, c4⟩ := cells5 hF
      have HF := Lib.hid hF
      clear hF
      rw [H2.out]
      go_wp2_with fail
      refine (rgen_any a ha _).mono ?_
      rintro e w5 ⟨rfl, hb⟩
      have hF := (hb.block _ (block_lt HF.out)).trans HF.out
      replace hB := hB.trans (hb.mono hB.size)
      clear hb HF c0 c1 c2 c3 c4
      obtain ⟨c0, c1, c2, c3, c4⟩ := cells5 hF
      have HF := Lib.hid hF
      clear hF
      generalize Dw.genN a = ga at *
      generalize Dw.genE a = ge at *
      go_wp2_with fail
      refine (rgen_any b hb4 _).mono ?_
      rintro e w6 ⟨rfl, hb⟩
      have hF := (hb.block _ (block_lt HF.out)).trans HF.out
      replace hB := hB.trans (hb.mono hB.size)
      clear hb HF c0 c1 c2 c3 c4
      obtain ⟨c0, c1, c2, c3, c4⟩ := cells5 hF
      have HF := Lib.hid hF
      clear hF
      generalize Dw.genN b = gb at *
      generalize Dw.genE b = gf at *
      go_wp2_with fail
      refine (rsound_any b hb4 _).mono ?_
      rintro e w7 ⟨rfl, hb⟩
      have hF := (hb.block _ (block_lt HF.out)).trans HF.out
      replace hB := hB.trans (hb.mono hB.size)
      clear hb HF c0 c1 c2 c3 c4
      obtain ⟨c0, c1, c2, c3, c4⟩ := cells5 hF
      have HF := Lib.hid hF
      clear hF
      rw [H3.out]
      go_wp2_with fail
      go_ret
      exact ⟨rfl, hB⟩
    · have H2 := Lib.hid h2; have H3 := Lib.hid h3
      clear h2 h3
      go_wp2_with fail
      refine (rsound_any a ha _).mono ?_
      rintro e w4 ⟨rfl, hb⟩
      have hF := (hb.block _ (block_lt HF.out)).trans HF.out
      replace hB := hB.trans (hb.mono hB.size)
      clear hb HF c0 c1 c2 c3 c4
      obtain ⟨c0, c1, c2, c3, c4⟩ := cells5 hF
      have HF := Lib.hid hF
      clear hF
      rw [H2.out]
      go_wp2_with fail
      refine (rgen_any a ha _).mono ?_
      rintro e w5 ⟨rfl, hb⟩
      have hF := (hb.block _ (block_lt HF.out)).trans HF.out
      replace hB := hB.trans (hb.mono hB.size)
      clear hb HF c0 c1 c2 c3 c4
      obtain ⟨c0, c1, c2, c3, c4⟩ := cells5 hF
      have HF := Lib.hid hF
      clear hF
      generalize Dw.genN a = ga at *
      generalize Dw.genE a = ge at *
      go_wp2_with fail
      refine (rgen_any b hb4 _).mono ?_
      rintro e w6 ⟨rfl, hb⟩
      have hF := (hb.block _ (block_lt HF.out)).trans HF.out
      replace hB := hB.trans (hb.mono hB.size)
      clear hb HF c0 c1 c2 c3 c4
      obtain ⟨c0, c1, c2, c3, c4⟩ := cells5 hF
      have HF := Lib.hid hF
      clear hF
      generalize Dw.genN b = gb at *
      generalize Dw.genE b = gf at *
      go_wp2_with fail
      refine (rsound_any b hb4 _).mono ?_
      rintro e w7 ⟨rfl, hb⟩
      have hF := (hb.block _ (block_lt HF.out)).trans HF.out
      replace hB := hB.trans (hb.mono hB.size)
      clear hb HF c0 c1 c2 c3 c4
      obtain ⟨c0, c1, c2, c3, c4⟩ := cells5 hF
      have HF := Lib.hid hF
      clear hF
      rw [H3.out]
      by_cases hlt : gb < ga
      · have hlt' : (gb : Int) < (ga : Int) := by omega
        go_wp2_with fail
        go_ret
        exact ⟨rfl, hB⟩
      · obtain rfl : gb = ga := by omega
        go_wp2_with fail
        go_ret
        exact ⟨rfl, hB⟩
    · have H2 := Lib.hid h2; have H3 := Lib.hid h3
      clear h2 h3
      go_wp2_with fail
      refine (rsound_any b hb4 _).mono ?_
      rintro e w4 ⟨rfl, hb⟩
      have hF := (hb.block _ (block_lt HF.out)).trans HF.out
      replace hB := hB.trans (hb.mono hB.size)
      clear hb HF c0 c1 c2 c3 c4
      obtain ⟨c0, c1, c2, c3, c4⟩ := cells5 hF
      have HF := Lib.hid hF
      clear hF
      rw [H2.out]
      go_wp2_with fail
      refine (rgen_any b hb4 _).mono ?_
      rintro e w5 ⟨rfl, hb⟩
      have hF := (hb.block _ (block_lt HF.out)).trans HF.out
      replace hB := hB.trans (hb.mono hB.size)
      clear hb HF c0 c1 c2 c3 c4
      obtain ⟨c0, c1, c2, c3, c4⟩ := cells5 hF
      have HF := Lib.hid hF
      clear hF
      generalize Dw.genN b = ga at *
      generalize Dw.genE b = ge at *
      go_wp2_with fail
      refine (rgen_any a ha _).mono ?_
      rintro e w6 ⟨rfl, hb⟩
      have hF := (hb.block _ (block_lt HF.out)).trans HF.out
      replace hB := hB.trans (hb.mono hB.size)
      clear hb HF c0 c1 c2 c3 c4
      obtain ⟨c0, c1, c2, c3, c4⟩ := cells5 hF
      have HF := Lib.hid hF
      clear hF
      generalize Dw.genN a = gb at *
      generalize Dw.genE a = gf at *
      go_wp2_with fail
      refine (rsound_any a ha _).mono ?_
      rintro e w7 ⟨rfl, hb⟩
      have hF := (hb.block _ (block_lt HF.out)).trans HF.out
      replace hB := hB.trans (hb.mono hB.size)
      clear hb HF c0 c1 c2 c3 c4
      obtain ⟨c0, c1, c2, c3, c4⟩ := cells5 hF
      have HF := Lib.hid hF
      clear hF
      rw [H3.out]
      go_wp2_with fail
      go_ret
      exact ⟨rfl, hB⟩
    · have H2 := Lib.hid h2; have H3 := Lib.hid h3
      clear h2 h3
      go_wp2_with fail
      refine (rsound_any b hb4 _).mono ?_
      rintro e w4 ⟨rfl, hb⟩
      have hF := (hb.block _ (block_lt HF.out)).trans HF.out
      replace hB := hB.trans (hb.mono hB.size)
      clear hb HF c0 c1 c2 c3 c4
      obtain ⟨c0, c1, c2, c3, c4⟩ := cells5 hF
      have HF := Lib.hid hF
      clear hF
      rw [H2.out]
      go_wp2_with fail
      refine (rgen_any b hb4 _).mono ?_
      rintro e w5 ⟨rfl, hb⟩
      have hF := (hb.block _ (block_lt HF.out)).trans HF.out
      replace hB := hB.trans (hb.mono hB.size)
      clear hb HF c0 c1 c2 c3 c4
      obtain ⟨c0, c1, c2, c3, c4⟩ := cells5 hF
      have HF := Lib.hid hF
      clear hF
      generalize Dw.genN b = ga at *
      generalize Dw.genE b = ge at *
      go_wp2_with fail
      refine (rgen_any a ha _).mono ?_
      rintro e w6 ⟨rfl, hb⟩
      have hF := (hb.block _ (block_lt HF.out)).trans HF.out
      replace hB := hB.trans (hb.mono hB.size)
      clear hb HF c0 c1 c2 c3 c4
      obtain ⟨c0, c1, c2, c3, c4⟩ := cells5 hF
      have HF := Lib.hid hF
      clear hF
      generalize Dw.genN a = gb at *
      generalize Dw.genE a = gf at *
      go_wp2_with fail
      refine (rsound_any a ha _).mono ?_
      rintro e w7 ⟨rfl, hb⟩
      have hF := (hb.block _ (block_lt HF.out)).trans HF.out
      replace hB := hB.trans (hb.mono hB.size)
      clear hb HF c0 c1 c2 c3 c4
      obtain ⟨c0, c1, c2, c3, c4⟩ := cells5 hF
      have HF := Lib.hid hF
      clear hF
      rw [H3.out]
      have hlt' : (gb : Int) < (ga : Int) := by omega
      go_wp2_with fail
      go_ret
      exact ⟨rfl, hB⟩
  · have Hbig := Lib.hid hbig
    clear hbig
    go_wp2_with fail
    refine (shown10_any _ (hn.next hB)).mono ?_
    rintro e w2 ⟨rfl, hb⟩
    have hF := (hb.block _ (block_lt HF.out)).trans HF.out
    replace hB := hB.trans (hb.mono hB.size)
    clear hb HF c0 c1 c2 c3 c4
    obtain ⟨c0, c1, c2, c3, c4⟩ := cells5 hF
    have HF := Lib.hid hF
    clear hF
    go_wp2_with fail
    go_ret
    exact ⟨rfl, hB⟩
end Go.Proofs.YtmjbpdhkpdpdjaaDoor
