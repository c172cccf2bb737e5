/- What the statement's proof stands on, part 13: Erase. -/
import Derived.Test.YtaniehjhmjecjaaGreatDoorP12

/- Layer 3: Erase. -/
namespace Go.Proofs.YtaniehjhmjecjaaGreatDoor
open Go.RowKit Go.Shelf
attribute [local go_sem] Oper.semAt_some

set_option maxHeartbeats 1000000 in
theorem eraseA (f : Dw.Fl) (hl : (f.a).length ≤ 400) (hw : IntKind.i64.wrap (f.e0 + 1) = f.e0 + 1) (hlt : f.e0 < f.li) (at_ : Nat) (data : List UInt8) (w : World) :
    Calls Tryz.prog 79 #[flV f, .int .i64 0] w fun e w' => e = .returned (.tuple #[flV (Dw.doOp f ⟨2, 0, at_, data⟩), .int .i64 0]) ∧ Below w.heap.size w w' := by
  obtain ⟨V, hV⟩ : ∃ V, ((w.alloc (.cells (flashC f.a f.b f.e0 f.e1 f.li) 25)).alloc (.cells (flashC [] [] 0 0 0) 25)).alloc (.cells #[.int .i64 0] 30) = V := ⟨_, rfl⟩
  obtain ⟨vz, vB, b0, b1, b2⟩ := alloc3 w _ _ _ V hV
  have HO := Lib.hid (show flV (Dw.doOp f ⟨2, 0, at_, data⟩) = flashV (Dw.ffs f.a.length) f.b (f.e0 + 1) f.e1 f.li from rfl)
  obtain ⟨c0, c1, c2, c3, c4⟩ := cells5 b0
  have hge : ¬ f.li ≤ f.e0 := by omega
  go_enter_defers Tryz.func79, Tryz.ntmps79
  go_wp2_with (refine wpList_store_block rfl 25 (.tmp 4) (.tmp 6) rfl rfl rfl b1 (by kernel_rfl) rfl (by simp [Value.oneCell']) ?_; have d0 := (setRow_other V (w.heap.size + 1) w.heap.size (flashC f.a f.b f.e0 f.e1 f.li) (by omega)).trans b0; have d2 := (setRow_other V (w.heap.size + 1) (w.heap.size + 2) (flashC f.a f.b f.e0 f.e1 f.li) (by omega)).trans b2; have d1 := setRow_heap V (w.heap.size + 1) _ (flashC f.a f.b f.e0 f.e1 f.li) _ _ b1; have hB := below_setRow vB (show w.heap.size ≤ w.heap.size + 1 by omega) (flashC f.a f.b f.e0 f.e1 f.li); generalize World.setRow V _ _ = W1 at *; clear c0 c1 c2 c3 c4 hV vz vB b0 b1 b2; obtain ⟨c0, c1, c2, c3, c4⟩ := cells5 d0)
  refine (cutA f 0 0 (Nat.zero_le _) (by omega) _).mono ?_
  rintro e w1 ⟨rfl, hb⟩
  replace d0 := (hb.block _ (block_lt d0)).trans d0
  replace d1 := (hb.block _ (block_lt d1)).trans d1
  replace d2 := (hb.block _ (block_lt d2)).trans d2
  replace hB := hB.trans (hb.mono hB.size)
  clear hb c0 c1 c2 c3 c4
  obtain ⟨c0, c1, c2, c3, c4⟩ := cells5 d0
  go_wp2_with fail
  refine wp_pure (List.range 7) 7 (by kernel_rfl) (by kernel_rfl) rfl ?_
  rw [show List.range 7 = [0, 1, 2, 3, 4, 5, 6] from rfl]
  repeat' (first | (refine pl_nil ?_) | (refine pl_value (v := ?_) rfl rfl ?_ ?_; rotate_left 1; (focus (intro w' hk; have k2 := look hk c2; have k4 := look hk c4; go_simp; (first | done | with_reducible rfl | exact rfl))); (try simp only [Act.put, List.setIfInBounds_toArray, List.set_cons_zero, List.set_cons_succ])) | (refine pl_skip rfl rfl ?_; (try simp only [Act.put, List.setIfInBounds_toArray, List.set_cons_zero, List.set_cons_succ])))
  intro w2 hk2
  simp only [List.drop_succ_cons, List.drop_zero]
  replace d0 := (hk2.block _ (block_lt d0) id).trans d0
  replace d1 := (hk2.block _ (block_lt d1) id).trans d1
  replace d2 := (hk2.block _ (block_lt d2) id).trans d2
  replace hB := hB.trans (hk2.whole.mono hB.size)
  clear hk2 c0 c1 c2 c3 c4
  obtain ⟨c0, c1, c2, c3, c4⟩ := cells5 d0
  go_wp2_with fail
  refine (repeat_ff (f.a).length (by omega) _).mono ?_
  rintro e w3 ⟨rfl, hb⟩
  replace d1 := (hb.block _ (block_lt d1)).trans d1
  replace d2 := (hb.block _ (block_lt d2)).trans d2
  replace hB := hB.trans (hb.mono hB.size)
  clear hb c0 c1 c2 c3 c4 d0
  obtain ⟨c0, c1, c2, c3, c4⟩ := cells5 d1
  have f0 := frozen0 d1
  have f1 := f0 0
  have f2 := f0 2
  clear f0
  go_wp2_with fail
  have p1 := heap_setCell_same w3 (w.heap.size + 1) 0 _ 25 (.string ⟨(Dw.ffs (f.a).length).toArray⟩) d1
  have q1 := heap_setCell_same _ (w.heap.size + 1) 2 _ 25 (.int .i64 (f.e0 + 1)) p1
  change _ = some (Obj.cells (flashC (Dw.ffs f.a.length) f.b (f.e0 + 1) f.e1 f.li) _ _) at q1
  have p2 := (heap_setCell_other w3 ⟨w.heap.size + 1, 0, none⟩ (w.heap.size + 2) (.string ⟨(Dw.ffs (f.a).length).toArray⟩) (by simp)).trans d2
  have q2 := (heap_setCell_other _ ⟨w.heap.size + 1, 2, none⟩ (w.heap.size + 2) (.int .i64 (f.e0 + 1)) (by simp)).trans p2
  have hB3 := (hB.setCell (p := ⟨w.heap.size + 1, 0, none⟩) (by simp) (.string ⟨(Dw.ffs (f.a).length).toArray⟩)).setCell (p := ⟨w.heap.size + 1, 2, none⟩) (by simp) (.int .i64 (f.e0 + 1))
  clear p1 p2
  generalize World.setCell (World.setCell w3 _ _) _ _ = W3 at *
  clear c0 c1 c2 c3 c4 f1 f2 d1 d2 hB
  obtain ⟨c0, c1, c2, c3, c4⟩ := cells5 q1
  have c5 := cells1 q2
  refine RS.wp_pure [0, 1, 2, 3] 4 (by kernel_rfl) (by kernel_rfl) rfl ?_
  (refine RS.pl_value (v := ?_) rfl rfl ?_ ?_; rotate_left 1; (focus (intro w' hk; have k0 := look hk c0; have k1 := look hk c1; have k2 := look hk c2; have k3 := look hk c3; have k4 := look hk c4; have k5 := look hk c5; go_simp; (first | done | with_reducible rfl | exact rfl))); (try simp only [Act.put, List.setIfInBounds_toArray, List.set_cons_zero, List.set_cons_succ]))
  (refine RS.pl_value (v := ?_) rfl rfl ?_ ?_; rotate_left 1; (focus (intro w' hk; have k0 := look hk c0; have k1 := look hk c1; have k2 := look hk c2; have k3 := look hk c3; have k4 := look hk c4; have k5 := look hk c5; go_simp; (first | done | with_reducible rfl | exact rfl))); (try simp only [Act.put, List.setIfInBounds_toArray, List.set_cons_zero, List.set_cons_succ]))
  refine RS.pl_same rfl rfl (fun w' hk => RS.same_block 25 (.tmp 4) (.tmp 34) rfl rfl rfl ((hk.block _ (block_lt q1) id).trans q1) (by kernel_rfl) (by simp [Value.oneCell'])) ?_
  refine RS.pl_same rfl rfl (fun w' hk => ⟨w'.setCell ⟨w.heap.size + 2, 0, none⟩ (.int .i64 0), ?_, RS.keep_setCell ((hk.block _ (block_lt q2) id).trans q2)⟩) ?_
  · have k5 := look hk c5
    have g5 := frozen0 ((hk.block _ (block_lt q2) id).trans q2) 0
    go_simp
  refine RS.pl_nil ?_
  intro w4 hk4
  simp only [List.drop_succ_cons, List.drop_zero]
  have r1 := (hk4.block _ (block_lt q1) id).trans q1
  have r2 := (hk4.block _ (block_lt q2) id).trans q2
  have hB4 := hB3.trans (hk4.whole.mono hB3.size)
  clear c0 c1 c2 c3 c4 c5 q1 q2 hB3
  simp only [Act.put]
  go_wp2_with fail
  refine leaves_cons (f := 110) (args := #[.pointer (some ⟨w.heap.size + 2, 0, none⟩)]) (by simp) (by simp [go_sem]) ?_
  refine (caught_idle _ _).mono ?_
  rintro e u' w'' ⟨rfl, rfl, rfl⟩
  refine ⟨.tuple #[flashV (Dw.ffs f.a.length) f.b (f.e0 + 1) f.e1 f.li, .int .i64 0], ?_, ?_⟩
  · obtain ⟨c0, c1, c2, c3, c4⟩ := cells5 r1
    have k5 := cells1 r2
    simp [results, Tryz.results79, asAddr, go_sem, c0, c1, c2, c3, c4, k5]
  · exact ⟨by rw [HO.out], hB4⟩

set_option maxHeartbeats 1000000 in
theorem eraseB (f : Dw.Fl) (hl : (f.b).length ≤ 400) (hw : IntKind.i64.wrap (f.e1 + 1) = f.e1 + 1) (hlt : f.e1 < f.li) (at_ : Nat) (data : List UInt8) (w : World) :
    Calls Tryz.prog 79 #[flV f, .int .i64 1] w fun e w' => e = .returned (.tuple #[flV (Dw.doOp f ⟨2, 1, at_, data⟩), .int .i64 0]) ∧ Below w.heap.size w w' := by
  obtain ⟨V, hV⟩ : ∃ V, ((w.alloc (.cells (flashC f.a f.b f.e0 f.e1 f.li) 25)).alloc (.cells (flashC [] [] 0 0 0) 25)).alloc (.cells #[.int .i64 0] 30) = V := ⟨_, rfl⟩
  obtain ⟨vz, vB, b0, b1, b2⟩ := alloc3 w _ _ _ V hV
  have HO := Lib.hid (show flV (Dw.doOp f ⟨2, 1, at_, data⟩) = flashV f.a (Dw.ffs f.b.length) f.e0 (f.e1 + 1) f.li from rfl)
  obtain ⟨c0, c1, c2, c3, c4⟩ := cells5 b0
  have hge : ¬ f.li ≤ f.e1 := by omega
  go_enter_defers Tryz.func79, Tryz.ntmps79
  go_wp2_with (refine wpList_store_block rfl 25 (.tmp 4) (.tmp 6) rfl rfl rfl b1 (by kernel_rfl) rfl (by simp [Value.oneCell']) ?_; have d0 := (setRow_other V (w.heap.size + 1) w.heap.size (flashC f.a f.b f.e0 f.e1 f.li) (by omega)).trans b0; have d2 := (setRow_other V (w.heap.size + 1) (w.heap.size + 2) (flashC f.a f.b f.e0 f.e1 f.li) (by omega)).trans b2; have d1 := setRow_heap V (w.heap.size + 1) _ (flashC f.a f.b f.e0 f.e1 f.li) _ _ b1; have hB := below_setRow vB (show w.heap.size ≤ w.heap.size + 1 by omega) (flashC f.a f.b f.e0 f.e1 f.li); generalize World.setRow V _ _ = W1 at *; clear c0 c1 c2 c3 c4 hV vz vB b0 b1 b2; obtain ⟨c0, c1, c2, c3, c4⟩ := cells5 d0)
  refine (cutB f 0 0 (Nat.zero_le _) (by omega) _).mono ?_
  rintro e w1 ⟨rfl, hb⟩
  replace d0 := (hb.block _ (block_lt d0)).trans d0
  replace d1 := (hb.block _ (block_lt d1)).trans d1
  replace d2 := (hb.block _ (block_lt d2)).trans d2
  replace hB := hB.trans (hb.mono hB.size)
  clear hb c0 c1 c2 c3 c4
  obtain ⟨c0, c1, c2, c3, c4⟩ := cells5 d0
  go_wp2_with fail
  refine wp_pure (List.range 7) 7 (by kernel_rfl) (by kernel_rfl) rfl ?_
  rw [show List.range 7 = [0, 1, 2, 3, 4, 5, 6] from rfl]
  repeat' (first | (refine pl_nil ?_) | (refine pl_value (v := ?_) rfl rfl ?_ ?_; rotate_left 1; (focus (intro w' hk; have k3 := look hk c3; have k4 := look hk c4; go_simp; (first | done | with_reducible rfl | exact rfl))); (try simp only [Act.put, List.setIfInBounds_toArray, List.set_cons_zero, List.set_cons_succ])) | (refine pl_skip rfl rfl ?_; (try simp only [Act.put, List.setIfInBounds_toArray, List.set_cons_zero, List.set_cons_succ])))
  intro w2 hk2
  simp only [List.drop_succ_cons, List.drop_zero]
  replace d0 := (hk2.block _ (block_lt d0) id).trans d0
  replace d1 := (hk2.block _ (block_lt d1) id).trans d1
  replace d2 := (hk2.block _ (block_lt d2) id).trans d2
  replace hB := hB.trans (hk2.whole.mono hB.size)
  clear hk2 c0 c1 c2 c3 c4
  obtain ⟨c0, c1, c2, c3, c4⟩ := cells5 d0
  go_wp2_with fail
  refine (repeat_ff (f.b).length (by omega) _).mono ?_
  rintro e w3 ⟨rfl, hb⟩
  replace d1 := (hb.block _ (block_lt d1)).trans d1
  replace d2 := (hb.block _ (block_lt d2)).trans d2
  replace hB := hB.trans (hb.mono hB.size)
  clear hb c0 c1 c2 c3 c4 d0
  obtain ⟨c0, c1, c2, c3, c4⟩ := cells5 d1
  have f0 := frozen0 d1
  have f1 := f0 1
  have f2 := f0 3
  clear f0
  go_wp2_with fail
  have p1 := heap_setCell_same w3 (w.heap.size + 1) 1 _ 25 (.string ⟨(Dw.ffs (f.b).length).toArray⟩) d1
  have q1 := heap_setCell_same _ (w.heap.size + 1) 3 _ 25 (.int .i64 (f.e1 + 1)) p1
  change _ = some (Obj.cells (flashC f.a (Dw.ffs f.b.length) f.e0 (f.e1 + 1) f.li) _ _) at q1
  have p2 := (heap_setCell_other w3 ⟨w.heap.size + 1, 1, none⟩ (w.heap.size + 2) (.string ⟨(Dw.ffs (f.b).length).toArray⟩) (by simp)).trans d2
  have q2 := (heap_setCell_other _ ⟨w.heap.size + 1, 3, none⟩ (w.heap.size + 2) (.int .i64 (f.e1 + 1)) (by simp)).trans p2
  have hB3 := (hB.setCell (p := ⟨w.heap.size + 1, 1, none⟩) (by simp) (.string ⟨(Dw.ffs (f.b).length).toArray⟩)).setCell (p := ⟨w.heap.size + 1, 3, none⟩) (by simp) (.int .i64 (f.e1 + 1))
  clear p1 p2
  generalize World.setCell (World.setCell w3 _ _) _ _ = W3 at *
  clear c0 c1 c2 c3 c4 f1 f2 d1 d2 hB
  obtain ⟨c0, c1, c2, c3, c4⟩ := cells5 q1
  have c5 := cells1 q2
  refine RS.wp_pure [0, 1, 2, 3] 4 (by kernel_rfl) (by kernel_rfl) rfl ?_
  (refine RS.pl_value (v := ?_) rfl rfl ?_ ?_; rotate_left 1; (focus (intro w' hk; have k0 := look hk c0; have k1 := look hk c1; have k2 := look hk c2; have k3 := look hk c3; have k4 := look hk c4; have k5 := look hk c5; go_simp; (first | done | with_reducible rfl | exact rfl))); (try simp only [Act.put, List.setIfInBounds_toArray, List.set_cons_zero, List.set_cons_succ]))
  (refine RS.pl_value (v := ?_) rfl rfl ?_ ?_; rotate_left 1; (focus (intro w' hk; have k0 := look hk c0; have k1 := look hk c1; have k2 := look hk c2; have k3 := look hk c3; have k4 := look hk c4; have k5 := look hk c5; go_simp; (first | done | with_reducible rfl | exact rfl))); (try simp only [Act.put, List.setIfInBounds_toArray, List.set_cons_zero, List.set_cons_succ]))
  refine RS.pl_same rfl rfl (fun w' hk => RS.same_block 25 (.tmp 4) (.tmp 34) rfl rfl rfl ((hk.block _ (block_lt q1) id).trans q1) (by kernel_rfl) (by simp [Value.oneCell'])) ?_
  refine RS.pl_same rfl rfl (fun w' hk => ⟨w'.setCell ⟨w.heap.size + 2, 0, none⟩ (.int .i64 0), ?_, RS.keep_setCell ((hk.block _ (block_lt q2) id).trans q2)⟩) ?_
  · have k5 := look hk c5
    have g5 := frozen0 ((hk.block _ (block_lt q2) id).trans q2) 0
    go_simp
  refine RS.pl_nil ?_
  intro w4 hk4
  simp only [List.drop_succ_cons, List.drop_zero]
  have r1 := (hk4.block _ (block_lt q1) id).trans q1
  have r2 := (hk4.block _ (block_lt q2) id).trans q2
  have hB4 := hB3.trans (hk4.whole.mono hB3.size)
  clear c0 c1 c2 c3 c4 c5 q1 q2 hB3
  simp only [Act.put]
  go_wp2_with fail
  refine leaves_cons (f := 110) (args := #[.pointer (some ⟨w.heap.size + 2, 0, none⟩)]) (by simp) (by simp [go_sem]) ?_
  refine (caught_idle _ _).mono ?_
  rintro e u' w'' ⟨rfl, rfl, rfl⟩
  refine ⟨.tuple #[flashV f.a (Dw.ffs f.b.length) f.e0 (f.e1 + 1) f.li, .int .i64 0], ?_, ?_⟩
  · obtain ⟨c0, c1, c2, c3, c4⟩ := cells5 r1
    have k5 := cells1 r2
    simp [results, Tryz.results79, asAddr, go_sem, c0, c1, c2, c3, c4, k5]
  · exact ⟨by rw [HO.out], hB4⟩

end Go.Proofs.YtaniehjhmjecjaaGreatDoor
