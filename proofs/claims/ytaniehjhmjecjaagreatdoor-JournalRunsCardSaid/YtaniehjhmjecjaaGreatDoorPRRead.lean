/- Layer 10: the reference's Bank, Read, Other, Even. -/
import Derived.Test.YtaniehjhmjecjaaGreatDoorP17
import Derived.Test.YtaniehjhmjecjaaGreatDoorPPlainAny
namespace Go.Proofs.YtaniehjhmjecjaaGreatDoor
open Go.RowKit Go.Shelf
attribute [local go_sem] Oper.semAt_some

set_option maxRecDepth 100000 in
set_option maxHeartbeats 2000000 in
theorem rbank_walk (f : Dw.Fl) (sa sb : Bool) (ga gb : Nat) (ea eb : Int) (r : Int) (hr : r = (if sa = true ∧ sb = true ∧ ga < gb then 1 else if sa = true then 0 else if sb = true then 1 else -1)) (w : World)
    (h1 : ∀ w, Calls Tryz.prog 60 #[.string ⟨f.a.toArray⟩] w fun e w' => e = .returned (.bool sa) ∧ Below w.heap.size w w')
    (h2 : ∀ w, Calls Tryz.prog 60 #[.string ⟨f.b.toArray⟩] w fun e w' => e = .returned (.bool sb) ∧ Below w.heap.size w w')
    (h3 : ∀ w, Calls Tryz.prog 41 #[.string ⟨f.a.toArray⟩] w fun e w' => e = .returned (.tuple #[.int .u64 (ga : Int), .int .i64 ea]) ∧ Below w.heap.size w w')
    (h4 : ∀ w, Calls Tryz.prog 41 #[.string ⟨f.b.toArray⟩] w fun e w' => e = .returned (.tuple #[.int .u64 (gb : Int), .int .i64 eb]) ∧ Below w.heap.size w w') :
    Calls Tryz.prog 40 #[flV f] w fun e w' => e = .returned (.int .i64 r) ∧ Below w.heap.size w w' := by
  have H1 := Lib.hid h1; have H2 := Lib.hid h2; have H3 := Lib.hid h3; have H4 := Lib.hid h4; have HR := Lib.hid hr
  clear h1 h2 h3 h4 hr
  have hB := (Below.refl w.heap.size w).alloc (Nat.le_refl _) (.cells (flashC f.a f.b f.e0 f.e1 f.li) 37)
  have hF := heap_alloc_new w (.cells (flashC f.a f.b f.e0 f.e1 f.li) 37)
  obtain ⟨c0, c1, c2, c3, c4⟩ := cells5 hF
  go_enter Tryz.func40, Tryz.ntmps40
  go_wp2_with fail
  refine (H1.out _).mono ?_
  rintro e w1 ⟨rfl, hb⟩
  replace hF := (hb.block _ (block_lt hF)).trans hF
  replace hB := hB.trans (hb.mono hB.size)
  clear hb
  clear c0 c1 c2 c3 c4
  obtain ⟨c0, c1, c2, c3, c4⟩ := cells5 hF
  go_wp2_with fail
  refine (H2.out _).mono ?_
  rintro e w2 ⟨rfl, hb⟩
  replace hF := (hb.block _ (block_lt hF)).trans hF
  replace hB := hB.trans (hb.mono hB.size)
  clear hb
  clear c0 c1 c2 c3 c4
  obtain ⟨c0, c1, c2, c3, c4⟩ := cells5 hF
  go_wp2_with fail
  refine (H3.out _).mono ?_
  rintro e w3 ⟨rfl, hb⟩
  replace hF := (hb.block _ (block_lt hF)).trans hF
  replace hB := hB.trans (hb.mono hB.size)
  clear hb
  clear c0 c1 c2 c3 c4
  obtain ⟨c0, c1, c2, c3, c4⟩ := cells5 hF
  go_wp2_with fail
  refine (H4.out _).mono ?_
  rintro e w4 ⟨rfl, hb⟩
  replace hF := (hb.block _ (block_lt hF)).trans hF
  replace hB := hB.trans (hb.mono hB.size)
  clear hb
  clear c0 c1 c2 c3 c4 hF
  by_cases hg : ga < gb
  · have hg' : (ga : Int) < (gb : Int) := by omega
    cases sa <;> cases sb <;> (go_wp2_with fail; go_ret; exact ⟨by rw [HR.out]; simp [hg], hB⟩)
  · have hg' : ¬ (ga : Int) < (gb : Int) := by omega
    cases sa <;> cases sb <;> (go_wp2_with fail; go_ret; exact ⟨by rw [HR.out]; simp [hg], hB⟩)
theorem rbank10_any (f : Dw.Fl) (ha : f.a.length ≤ 400) (hb : f.b.length ≤ 400) (w : World) :
    Calls Tryz.prog 40 #[flV f] w fun e w' => e = .returned (.int .i64 (Dw.best f.a f.b).bank) ∧ Below w.heap.size w w' := by
  refine (rbank_walk f _ _ _ _ _ _ _ rfl w (fun w => rsound_any f.a ha w) (fun w => rsound_any f.b hb w) (fun w => rgen_any f.a ha w) (fun w => rgen_any f.b hb w)).mono ?_
  rintro e w1 ⟨rfl, hb1⟩
  refine ⟨ret_int ?_, hb1⟩
  rcases Dw.bank_five f.a f.b with ⟨h1, h2, h3⟩ | ⟨h1, h2, h3⟩ | ⟨h1, h2, h3, h4⟩ | ⟨h1, h2, h3⟩ | ⟨h1, h2, h3, h4⟩ <;> rw [h1, h2, h3]
  · simp
  · simp
  · rw [if_neg (by omega), if_pos rfl]
  · simp
  · rw [if_pos ⟨rfl, rfl, h4⟩]

set_option maxRecDepth 100000 in
set_option maxHeartbeats 2000000 in
theorem rreadA (f : Dw.Fl) (g q d k : Nat) (ea el : Int) (w : World)
    (h1 : ∀ w, Calls Tryz.prog 40 #[flV f] w fun e w' => e = .returned (.int .i64 0) ∧ Below w.heap.size w w')
    (h2 : ∀ w, Calls Tryz.prog 41 #[.string ⟨(f.a).toArray⟩] w fun e w' => e = .returned (.tuple #[.int .u64 (g : Int), .int .i64 ea]) ∧ Below w.heap.size w w')
    (h3 : ∀ w, Calls Tryz.prog 42 #[.string ⟨(f.a).toArray⟩] w fun e w' => e = .returned (.tuple #[.agg #[.int .i64 k, .int .u64 q, .int .u64 d], .int .i64 el]) ∧ Below w.heap.size w w') :
    Calls Tryz.prog 12 #[flV f] w fun e w' => e = .returned (.tuple #[.agg #[.int .i64 0, .int .u64 g, .int .u64 q, .int .u64 d], .int .i64 0]) ∧ Below w.heap.size w w' := by
  have H1 := Lib.hid h1; have H2 := Lib.hid h2; have H3 := Lib.hid h3
  clear h1 h2 h3
  have hB := ((Below.refl w.heap.size w).alloc (Nat.le_refl _) (.cells (flashC f.a f.b f.e0 f.e1 f.li) 37)).alloc (by simp) (.cells #[.int .i64 0, .int .u64 0, .int .u64 0, .int .u64 0] 34)
  have hF := heap_alloc2_old w (.cells (flashC f.a f.b f.e0 f.e1 f.li) 37) (.cells #[.int .i64 0, .int .u64 0, .int .u64 0, .int .u64 0] 34)
  have hS := heap_alloc2_new w (.cells (flashC f.a f.b f.e0 f.e1 f.li) 37) (.cells #[.int .i64 0, .int .u64 0, .int .u64 0, .int .u64 0] 34)
  obtain ⟨c0, c1, c2, c3, c4⟩ := cells5 hF
  go_enter Tryz.func12, Tryz.ntmps12
  go_wp2_with fail
  refine (H1.out _).mono ?_
  rintro e w1 ⟨rfl, hb⟩
  replace hF := (hb.block _ (block_lt hF)).trans hF
  replace hS := (hb.block _ (block_lt hS)).trans hS
  replace hB := hB.trans (hb.mono hB.size)
  clear hb
  clear c0 c1 c2 c3 c4
  obtain ⟨c0, c1, c2, c3, c4⟩ := cells5 hF
  go_wp2_with fail
  refine (H2.out _).mono ?_
  rintro e w2 ⟨rfl, hb⟩
  replace hF := (hb.block _ (block_lt hF)).trans hF
  replace hS := (hb.block _ (block_lt hS)).trans hS
  replace hB := hB.trans (hb.mono hB.size)
  clear hb
  clear c0 c1 c2 c3 c4
  obtain ⟨c0, c1, c2, c3, c4⟩ := cells5 hF
  go_wp2_with fail
  refine (H3.out _).mono ?_
  rintro e w3 ⟨rfl, hb⟩
  replace hF := (hb.block _ (block_lt hF)).trans hF
  replace hS := (hb.block _ (block_lt hS)).trans hS
  replace hB := hB.trans (hb.mono hB.size)
  clear hb
  clear c0 c1 c2 c3 c4 hF
  have hS2 := (heap_alloc_old w3 (.cells #[.int .i64 k, .int .u64 q, .int .u64 d] 88) _ (block_lt hS)).trans hS
  have hB2 := hB.alloc hB.size (.cells #[.int .i64 k, .int .u64 q, .int .u64 d] 88)
  have HS := Lib.hid hS2; have HB := Lib.hid hB2
  clear hS hS2 hB hB2
  go_wp2_with (first | (refine wpList_store_block rfl 34 (.tmp 2) (.tmp 36) rfl rfl rfl HS.out (by kernel_rfl) rfl (by simp [Value.oneCell']) ?_))
  refine bodyPost_ret (results_cell_tmp rfl _ _ _ _ _ _ _ (by rfl) (setRow_heap _ _ _ _ _ _ HS.out) Tryz.underlying34 rfl (by kernel_rfl)) rfl ⟨?_, below_setRow HB.out (by omega) _⟩
  rfl

set_option maxRecDepth 100000 in
set_option maxHeartbeats 2000000 in
theorem rreadB (f : Dw.Fl) (g q d k : Nat) (ea el : Int) (w : World)
    (h1 : ∀ w, Calls Tryz.prog 40 #[flV f] w fun e w' => e = .returned (.int .i64 1) ∧ Below w.heap.size w w')
    (h2 : ∀ w, Calls Tryz.prog 41 #[.string ⟨(f.b).toArray⟩] w fun e w' => e = .returned (.tuple #[.int .u64 (g : Int), .int .i64 ea]) ∧ Below w.heap.size w w')
    (h3 : ∀ w, Calls Tryz.prog 42 #[.string ⟨(f.b).toArray⟩] w fun e w' => e = .returned (.tuple #[.agg #[.int .i64 k, .int .u64 q, .int .u64 d], .int .i64 el]) ∧ Below w.heap.size w w') :
    Calls Tryz.prog 12 #[flV f] w fun e w' => e = .returned (.tuple #[.agg #[.int .i64 1, .int .u64 g, .int .u64 q, .int .u64 d], .int .i64 0]) ∧ Below w.heap.size w w' := by
  have H1 := Lib.hid h1; have H2 := Lib.hid h2; have H3 := Lib.hid h3
  clear h1 h2 h3
  have hB := ((Below.refl w.heap.size w).alloc (Nat.le_refl _) (.cells (flashC f.a f.b f.e0 f.e1 f.li) 37)).alloc (by simp) (.cells #[.int .i64 0, .int .u64 0, .int .u64 0, .int .u64 0] 34)
  have hF := heap_alloc2_old w (.cells (flashC f.a f.b f.e0 f.e1 f.li) 37) (.cells #[.int .i64 0, .int .u64 0, .int .u64 0, .int .u64 0] 34)
  have hS := heap_alloc2_new w (.cells (flashC f.a f.b f.e0 f.e1 f.li) 37) (.cells #[.int .i64 0, .int .u64 0, .int .u64 0, .int .u64 0] 34)
  obtain ⟨c0, c1, c2, c3, c4⟩ := cells5 hF
  go_enter Tryz.func12, Tryz.ntmps12
  go_wp2_with fail
  refine (H1.out _).mono ?_
  rintro e w1 ⟨rfl, hb⟩
  replace hF := (hb.block _ (block_lt hF)).trans hF
  replace hS := (hb.block _ (block_lt hS)).trans hS
  replace hB := hB.trans (hb.mono hB.size)
  clear hb
  clear c0 c1 c2 c3 c4
  obtain ⟨c0, c1, c2, c3, c4⟩ := cells5 hF
  go_wp2_with fail
  refine (H2.out _).mono ?_
  rintro e w2 ⟨rfl, hb⟩
  replace hF := (hb.block _ (block_lt hF)).trans hF
  replace hS := (hb.block _ (block_lt hS)).trans hS
  replace hB := hB.trans (hb.mono hB.size)
  clear hb
  clear c0 c1 c2 c3 c4
  obtain ⟨c0, c1, c2, c3, c4⟩ := cells5 hF
  go_wp2_with fail
  refine (H3.out _).mono ?_
  rintro e w3 ⟨rfl, hb⟩
  replace hF := (hb.block _ (block_lt hF)).trans hF
  replace hS := (hb.block _ (block_lt hS)).trans hS
  replace hB := hB.trans (hb.mono hB.size)
  clear hb
  clear c0 c1 c2 c3 c4 hF
  have hS2 := (heap_alloc_old w3 (.cells #[.int .i64 k, .int .u64 q, .int .u64 d] 88) _ (block_lt hS)).trans hS
  have hB2 := hB.alloc hB.size (.cells #[.int .i64 k, .int .u64 q, .int .u64 d] 88)
  have HS := Lib.hid hS2; have HB := Lib.hid hB2
  clear hS hS2 hB hB2
  go_wp2_with (first | (refine wpList_store_block rfl 34 (.tmp 2) (.tmp 36) rfl rfl rfl HS.out (by kernel_rfl) rfl (by simp [Value.oneCell']) ?_))
  refine bodyPost_ret (results_cell_tmp rfl _ _ _ _ _ _ _ (by rfl) (setRow_heap _ _ _ _ _ _ HS.out) Tryz.underlying34 rfl (by kernel_rfl)) rfl ⟨?_, below_setRow HB.out (by omega) _⟩
  rfl

set_option maxRecDepth 100000 in
set_option maxHeartbeats 2000000 in
theorem rreadN (f : Dw.Fl) (w : World)
    (h1 : ∀ w, Calls Tryz.prog 40 #[flV f] w fun e w' => e = .returned (.int .i64 (-1)) ∧ Below w.heap.size w w') :
    Calls Tryz.prog 12 #[flV f] w fun e w' => e = .returned (.tuple #[.agg #[.int .i64 0, .int .u64 0, .int .u64 0, .int .u64 0], .int .i64 10]) ∧ Below w.heap.size w w' := by
  have H1 := Lib.hid h1
  clear h1
  have hB := ((Below.refl w.heap.size w).alloc (Nat.le_refl _) (.cells (flashC f.a f.b f.e0 f.e1 f.li) 37)).alloc (by simp) (.cells #[.int .i64 0, .int .u64 0, .int .u64 0, .int .u64 0] 34)
  have hF := heap_alloc2_old w (.cells (flashC f.a f.b f.e0 f.e1 f.li) 37) (.cells #[.int .i64 0, .int .u64 0, .int .u64 0, .int .u64 0] 34)
  have hS := heap_alloc2_new w (.cells (flashC f.a f.b f.e0 f.e1 f.li) 37) (.cells #[.int .i64 0, .int .u64 0, .int .u64 0, .int .u64 0] 34)
  obtain ⟨c0, c1, c2, c3, c4⟩ := cells5 hF
  go_enter Tryz.func12, Tryz.ntmps12
  go_wp2_with fail
  refine (H1.out _).mono ?_
  rintro e w1 ⟨rfl, hb⟩
  replace hF := (hb.block _ (block_lt hF)).trans hF
  replace hS := (hb.block _ (block_lt hS)).trans hS
  replace hB := hB.trans (hb.mono hB.size)
  clear hb
  clear c0 c1 c2 c3 c4 hF
  have HS := Lib.hid hS; have HB := Lib.hid hB
  clear hS hB
  go_wp2_with (first | (refine wpList_store_block rfl 34 (.tmp 2) (.tmp 13) rfl rfl rfl HS.out (by kernel_rfl) rfl (by simp [Value.oneCell']) ?_))
  refine bodyPost_ret (results_cell_tmp rfl _ _ _ _ _ _ _ (by rfl) (setRow_heap _ _ _ _ _ _ HS.out) Tryz.underlying34 rfl (by kernel_rfl)) rfl ⟨?_, below_setRow HB.out (by omega) _⟩
  rfl
theorem rread_any (f : Dw.Fl) (ha : f.a.length ≤ 400) (hb : f.b.length ≤ 400) (w : World) :
    Calls Tryz.prog 12 #[flV f] w fun e w' => e = .returned (.tuple #[psV (Dw.readS f.a f.b), .int .i64 (Dw.readE f.a f.b)]) ∧ Below w.heap.size w w' := by
  have hbk := fun w => rbank10_any f ha hb w
  rcases Dw.bank_five f.a f.b with ⟨h1, h2, h3⟩ | ⟨h1, h2, h3⟩ | ⟨h1, h2, h3, h4⟩ | ⟨h1, h2, h3⟩ | ⟨h1, h2, h3, h4⟩ <;> rw [h1] at hbk
  · obtain ⟨r1, r2⟩ := Dw.rdN f.a f.b h2 h3
    rw [r1, r2]
    exact rreadN f w hbk
  · obtain ⟨r1, r2⟩ := Dw.rd0 f.a f.b h2 (.inl h3)
    rw [r1, r2]
    exact rreadA f _ _ _ _ _ _ w hbk (fun w => rgen_any f.a ha w) (fun w => rlast_any f.a ha w)
  · obtain ⟨r1, r2⟩ := Dw.rd0 f.a f.b h2 (.inr h4)
    rw [r1, r2]
    exact rreadA f _ _ _ _ _ _ w hbk (fun w => rgen_any f.a ha w) (fun w => rlast_any f.a ha w)
  · obtain ⟨r1, r2⟩ := Dw.rd1 f.a f.b h2 (.inl h3)
    rw [r1, r2]
    exact rreadB f _ _ _ _ _ _ w hbk (fun w => rgen_any f.b hb w) (fun w => rlast_any f.b hb w)
  · obtain ⟨r1, r2⟩ := Dw.rd1 f.a f.b h2 (.inr h4)
    rw [r1, r2]
    exact rreadB f _ _ _ _ _ _ w hbk (fun w => rgen_any f.b hb w) (fun w => rlast_any f.b hb w)

set_option maxRecDepth 100000 in
theorem rother10_any (N : Int) (n : Nat) (hN : N = (n : Int)) (w : World) :
    Calls Tryz.prog 71 #[.int .i64 N] w fun e w' => e = .returned (.int .i64 (Dw.other n : Nat)) ∧ Below w.heap.size w w' := by
  subst hN
  by_cases h : n = 0
  · subst h
    go_enter Tryz.func71, Tryz.ntmps71
    go_wp2_with fail
    go_ret
    exact ⟨rfl, Below.refl _ _⟩
  · have h1 : ((n : Int) == 0) = false := by rw [beq_eq_false_iff_ne]; omega
    have H := Lib.hid (show Dw.other n = 0 from by unfold Dw.other; rw [if_neg h])
    clear h
    go_enter Tryz.func71, Tryz.ntmps71
    go_wp2_with fail
    go_ret
    exact ⟨by rw [H.out]; rfl, Below.refl _ _⟩
theorem slots_inj {m n : Nat} (h : 0 < Dw.slots m) : Dw.slots m = Dw.slots n ↔ m = n := by
  refine ⟨fun e => ?_, fun e => by rw [e]⟩
  obtain ⟨e1, _⟩ := Dw.slots_pos h
  obtain ⟨e2, _⟩ := Dw.slots_pos (show 0 < Dw.slots n by omega)
  omega
set_option maxRecDepth 100000 in
set_option maxHeartbeats 2000000 in
theorem reven10_any (f : Dw.Fl) (w : World) :
    Calls Tryz.prog 67 #[flV f] w fun e w' => e = .returned (.bool (Dw.even f.a f.b)) ∧ Below w.heap.size w w' := by
  have HS := Lib.hid (@slots_inj f.a.length f.b.length)
  have HE := Lib.hid (show Dw.even f.a f.b = decide (0 < Dw.slots f.a.length ∧ Dw.slots f.a.length = Dw.slots f.b.length) from rfl)
  have HR := Lib.hid (fun w => rslots_any f.a.length w)
  have hle := Dw.slots_le f.a.length
  have hB := (Below.refl w.heap.size w).alloc (Nat.le_refl _) (.cells (flashC f.a f.b f.e0 f.e1 f.li) 37)
  have hF := heap_alloc_new w (.cells (flashC f.a f.b f.e0 f.e1 f.li) 37)
  obtain ⟨c0, c1, c2, c3, c4⟩ := cells5 hF
  generalize Dw.slots f.a.length = n at *
  go_enter Tryz.func67, Tryz.ntmps67
  go_wp2_with fail
  refine (HR.out _).mono ?_
  rintro e w1 ⟨rfl, hb⟩
  replace hF := (hb.block _ (block_lt hF)).trans hF
  replace hB := hB.trans (hb.mono hB.size)
  clear hb
  clear c0 c1 c2 c3 c4
  obtain ⟨c0, c1, c2, c3, c4⟩ := cells5 hF
  by_cases h : 0 < n
  · have h' : (0 : Int) < (n : Int) := by omega
    have HS2 := Lib.hid (HS.out h)
    clear HS
    by_cases he : f.a.length = f.b.length
    · have hb : ((f.a.length : Int) == (f.b.length : Int)) = true := by rw [beq_iff_eq]; omega
      have HE2 := Lib.hid (And.intro h he)
      clear h he
      go_wp2_with fail
      go_ret
      exact ⟨by rw [HE.out, ← HS2.out.mpr HE2.out.2]; simp [HE2.out.1], hB⟩
    · have hb : ((f.a.length : Int) == (f.b.length : Int)) = false := by rw [beq_eq_false_iff_ne]; omega
      have HE2 := Lib.hid (And.intro h he)
      clear h he
      go_wp2_with fail
      go_ret
      exact ⟨by rw [HE.out]; simp [HS2.out, HE2.out.2], hB⟩
  · have h' : ¬ (0 : Int) < (n : Int) := by omega
    have HN := Lib.hid h
    clear h
    go_wp2_with fail
    go_ret
    exact ⟨by rw [HE.out]; simp [HN.out], hB⟩
end Go.Proofs.YtaniehjhmjecjaaGreatDoor
