/- Layer 3: the reference's reads, Program, Erase. -/
import Derived.Test.YtaniehjhmjecjaaGreatDoorPRClear
import Derived.Test.YtaniehjhmjecjaaGreatDoorP14
namespace Go.Proofs.YtaniehjhmjecjaaGreatDoor
open Go.RowKit Go.Shelf
attribute [local go_sem] Oper.semAt_some

theorem allFF_ffs (n : Nat) : allFF n = ⟨(Dw.ffs n).toArray⟩ := rfl
set_option maxRecDepth 100000 in
set_option maxHeartbeats 1000000 in
theorem rreadsA (f : Dw.Fl) (at_ n : Nat) (h : at_ + n ≤ (f.a).length) (hl : (f.a).length ≤ 400) (w : World) :
    Calls Tryz.prog 97 #[flV f, .int .i64 0, .int .i64 at_, .int .i64 n] w fun e w' => e = .returned (.int .i64 0) ∧ Below w.heap.size w w' := by
  have hB := (Below.refl w.heap.size w).alloc (Nat.le_refl _) (.cells (flashC f.a f.b f.e0 f.e1 f.li) 37)
  have hF := heap_alloc_new w (.cells (flashC f.a f.b f.e0 f.e1 f.li) 37)
  obtain ⟨c0, c1, c2, c3, c4⟩ := cells5 hF
  have i1 : ¬ (at_ : Int) < 0 := by omega
  have i2 : ¬ (n : Int) < 0 := by omega
  have i3 : ¬ ((f.a).length : Int) < (at_ : Int) := by omega
  have i4 : IntKind.i64.wrap (((f.a).length : Int) - (at_ : Int)) = ((f.a).length : Int) - (at_ : Int) := IntWalk.i64_in _ (by omega)
  have i5 : ¬ ((f.a).length : Int) - (at_ : Int) < (n : Int) := by omega
  go_enter Tryz.func97, Tryz.ntmps97
  go_wp2_with fail
  go_ret
  exact ⟨rfl, hB⟩

set_option maxRecDepth 100000 in
set_option maxHeartbeats 2000000 in
theorem rprogramA (f : Dw.Fl) (at_ : Nat) (data : List UInt8) (h : at_ + data.length ≤ (f.a).length) (hl : (f.a).length ≤ 400) (he : at_ % 2 = 0) (hd : data.length % 2 = 0) (w : World) :
    Calls Tryz.prog 65 #[flV f, .int .i64 0, .int .i64 at_, .string ⟨data.toArray⟩] w fun e w' => e = .returned (.tuple #[flV (Dw.doOp f ⟨1, 0, at_, data⟩), .int .i64 0]) ∧ Below w.heap.size w w' := by
  have HO := Lib.hid (show flV (Dw.doOp f ⟨1, 0, at_, data⟩) = flV ((f.put 0 (Dw.over (f.a) at_ (Dw.andB (Dw.sub (f.a) at_ data.length) data))).wearN 0 0) from rfl)
  obtain ⟨V, hV⟩ : ∃ V, (w.alloc (.cells (flashC f.a f.b f.e0 f.e1 f.li) 37)).alloc (.cells (flashC [] [] 0 0 0) 37) = V := ⟨_, rfl⟩
  have b0 := hV ▸ heap_alloc2_old w (.cells (flashC f.a f.b f.e0 f.e1 f.li) 37) (.cells (flashC [] [] 0 0 0) 37)
  have b1 := hV ▸ heap_alloc2_new w (.cells (flashC f.a f.b f.e0 f.e1 f.li) 37) (.cells (flashC [] [] 0 0 0) 37)
  have hB : Below w.heap.size w V := hV ▸ ((Below.refl w.heap.size w).alloc (Nat.le_refl _) _).alloc (by simp) _
  obtain ⟨c0, c1, c2, c3, c4⟩ := cells5 b0
  have HR := Lib.hid (fun w => rreadsA f at_ data.length h hl w)
  have i0 : Int.tmod (at_ : Int) 2 = 0 := by rw [show Int.tmod (at_ : Int) 2 = ((at_ % 2 : Nat) : Int) from rfl, he]; rfl
  have i1 : Int.tmod (data.length : Int) 2 = 0 := by rw [show Int.tmod (data.length : Int) 2 = ((data.length % 2 : Nat) : Int) from rfl, hd]; rfl
  have i2 : (at_ : Int) % 2 = 0 := by omega
  have i3 : (data.length : Int) % 2 = 0 := by omega
  go_enter Tryz.func65, Tryz.ntmps65
  go_wp2_with fail
  refine (HR.out _).mono ?_
  rintro e w1 ⟨rfl, hb⟩
  replace b0 := (hb.block _ (block_lt b0)).trans b0
  replace b1 := (hb.block _ (block_lt b1)).trans b1
  replace hB := hB.trans (hb.mono hB.size)
  clear hb c0 c1 c2 c3 c4 hV
  obtain ⟨c0, c1, c2, c3, c4⟩ := cells5 b0
  have f1 := frozen0 b0 0
  have i6 : IntKind.i64.wrap ((at_ : Int) + (data.length : Int)) = (at_ : Int) + (data.length : Int) := IntWalk.i64_in _ (by omega)
  go_wp2_with fail
  have i7 : (at_ : Int) + (data.length : Int) ≤ ((f.a).length : Int) := by omega
  have i8 : ((at_ : Int) + (data.length : Int)).toNat = at_ + data.length := by omega
  have i9 : (0 : Int) ≤ (at_ : Int) + (data.length : Int) := by omega
  have i10 : (at_ : Int) ≤ ((f.a).length : Int) := by omega
  have i11 : (at_ : Int) ≤ (at_ : Int) + (data.length : Int) := by omega
  have x1 : (⟨(f.a).toArray⟩ : ByteArray).extract 0 at_ = ⟨((f.a).take at_).toArray⟩ := by rw [bs_extract, List.drop_zero]
  have x2 : (⟨(f.a).toArray⟩ : ByteArray).extract at_ (at_ + data.length) = ⟨(Dw.sub (f.a) at_ data.length).toArray⟩ := by rw [bs_extract, List.drop_take, Nat.add_sub_cancel_left]; rfl
  have x3 : (⟨(f.a).toArray⟩ : ByteArray).extract (at_ + data.length) (f.a).length = ⟨((f.a).drop (at_ + data.length)).toArray⟩ := by rw [bs_extract, List.take_length]
  have lA : ((f.a).take at_).length ≤ 400 := by rw [List.length_take]; omega
  have lZ : ((f.a).drop (at_ + data.length)).length ≤ 400 := by rw [List.length_drop]; omega
  have lS : (Dw.sub (f.a) at_ data.length).length ≤ 400 := by rw [Dw.sub_length _ _ _ h]; omega
  have lM : (Dw.andB (Dw.sub (f.a) at_ data.length) data).length ≤ 400 := by rw [Dw.andB_length]; exact lS
  have lMd : (Dw.andB (Dw.sub (f.a) at_ data.length) data).length = data.length := by rw [Dw.andB_length, Dw.sub_length _ _ _ h]
  have HAND := Lib.hid (fun w => rand_any (Dw.sub (f.a) at_ data.length) data lS (by omega) w)
  have hov : Dw.over (f.a) at_ (Dw.andB (Dw.sub (f.a) at_ data.length) data) = (f.a).take at_ ++ (Dw.andB (Dw.sub (f.a) at_ data.length) data ++ (f.a).drop (at_ + data.length)) := by unfold Dw.over; rw [lMd]
  rw [hov] at HO
  generalize (f.a).take at_ = A at *
  generalize (f.a).drop (at_ + data.length) = Z at *
  generalize Dw.andB (Dw.sub (f.a) at_ data.length) data = M at *
  generalize Dw.sub (f.a) at_ data.length = S at *
  clear lMd hov lS
  have j1 : ¬ 9223372036854775807 < A.length + M.length := by omega
  have j2 : ¬ 9223372036854775807 < A.length + M.length + Z.length := by omega
  refine wp_pure (List.range 17) 17 (by kernel_rfl) (by kernel_rfl) rfl ?_
  rw [show List.range 17 = [0, 1, 2, 3, 4, 5, 6, 7, 8, 9, 10, 11, 12, 13, 14, 15, 16] from rfl]
  repeat' (first | (refine pl_nil ?_) | (refine pl_value (v := ?_) rfl rfl ?_ ?_; rotate_left 1; (focus (intro w' hk; go_simp; (first | done | with_reducible rfl | exact rfl))); (try simp only [Act.put, List.setIfInBounds_toArray, List.set_cons_zero, List.set_cons_succ])) | (refine pl_call (v := ?_) (f := ?_) (args := ?_) rfl rfl ?_ ?_ ?_; rotate_left 3; (focus (intro w' hk; go_simp; (first | done | (constructor <;> with_reducible rfl) | with_reducible rfl))); (focus (intro w' hk; exact HAND.out w')); (try simp only [Act.put, List.setIfInBounds_toArray, List.set_cons_zero, List.set_cons_succ])) | (refine pl_skip rfl rfl ?_; (try simp only [Act.put, List.setIfInBounds_toArray, List.set_cons_zero, List.set_cons_succ])))
  intro w2 hk2
  simp only [List.drop_succ_cons, List.drop_zero]
  replace b0 := (hk2.block _ (block_lt b0) id).trans b0
  replace b1 := (hk2.block _ (block_lt b1) id).trans b1
  replace hB := hB.trans (hk2.whole.mono hB.size)
  clear hk2 c0 c1 c2 c3 c4 f1 x1 x2 x3
  have f1 := frozen0 b0 0
  obtain ⟨c0, c1, c2, c3, c4⟩ := cells5 b0
  have q0 := heap_setCell_same w2 w.heap.size 0 _ 37 (.string (⟨A.toArray⟩ ++ ⟨M.toArray⟩ ++ ⟨Z.toArray⟩)) b0
  change _ = some (Obj.cells #[.string (⟨A.toArray⟩ ++ ⟨M.toArray⟩ ++ ⟨Z.toArray⟩), .string ⟨f.b.toArray⟩, .int .i64 f.e0, .int .i64 f.e1, .int .i64 f.li] _ _) at q0
  have q1 := (heap_setCell_other w2 ⟨w.heap.size, 0, none⟩ (w.heap.size + 1) (.string (⟨A.toArray⟩ ++ ⟨M.toArray⟩ ++ ⟨Z.toArray⟩)) (by simp)).trans b1
  have hB3 := hB.setCell (p := ⟨w.heap.size, 0, none⟩) (by simp) (.string (⟨A.toArray⟩ ++ ⟨M.toArray⟩ ++ ⟨Z.toArray⟩))
  have Q0 := Lib.hid q0; have Q1 := Lib.hid q1; have HB3 := Lib.hid hB3
  clear q0 q1 hB3 b0 b1 hB
  go_wp2_with (first | (refine wpList_load_block rfl 37 (.tmp 4) rfl rfl Q0.out Tryz.underlying37 rfl (by kernel_rfl) ?_) | (refine wpList_store_block rfl 37 (.tmp 8) (.tmp 58) rfl rfl rfl Q1.out (by kernel_rfl) rfl (by simp [Value.oneCell']) ?_))
  refine bodyPost_ret (results_cell_tmp rfl _ _ _ _ _ _ _ (by rfl) (setRow_heap _ _ _ _ _ _ Q1.out) Tryz.underlying37 rfl (by kernel_rfl)) rfl ⟨?_, below_setRow HB3.out (by omega) _⟩
  rw [HO.out]; simp [Dw.Fl.put, Dw.Fl.wearN, bs_append]

set_option maxRecDepth 100000 in
set_option maxHeartbeats 1000000 in
theorem rreadsB (f : Dw.Fl) (at_ n : Nat) (h : at_ + n ≤ (f.b).length) (hl : (f.b).length ≤ 400) (w : World) :
    Calls Tryz.prog 97 #[flV f, .int .i64 1, .int .i64 at_, .int .i64 n] w fun e w' => e = .returned (.int .i64 0) ∧ Below w.heap.size w w' := by
  have hB := (Below.refl w.heap.size w).alloc (Nat.le_refl _) (.cells (flashC f.a f.b f.e0 f.e1 f.li) 37)
  have hF := heap_alloc_new w (.cells (flashC f.a f.b f.e0 f.e1 f.li) 37)
  obtain ⟨c0, c1, c2, c3, c4⟩ := cells5 hF
  have i1 : ¬ (at_ : Int) < 0 := by omega
  have i2 : ¬ (n : Int) < 0 := by omega
  have i3 : ¬ ((f.b).length : Int) < (at_ : Int) := by omega
  have i4 : IntKind.i64.wrap (((f.b).length : Int) - (at_ : Int)) = ((f.b).length : Int) - (at_ : Int) := IntWalk.i64_in _ (by omega)
  have i5 : ¬ ((f.b).length : Int) - (at_ : Int) < (n : Int) := by omega
  go_enter Tryz.func97, Tryz.ntmps97
  go_wp2_with fail
  go_ret
  exact ⟨rfl, hB⟩

set_option maxRecDepth 100000 in
set_option maxHeartbeats 2000000 in
theorem rprogramB (f : Dw.Fl) (at_ : Nat) (data : List UInt8) (h : at_ + data.length ≤ (f.b).length) (hl : (f.b).length ≤ 400) (he : at_ % 2 = 0) (hd : data.length % 2 = 0) (w : World) :
    Calls Tryz.prog 65 #[flV f, .int .i64 1, .int .i64 at_, .string ⟨data.toArray⟩] w fun e w' => e = .returned (.tuple #[flV (Dw.doOp f ⟨1, 1, at_, data⟩), .int .i64 0]) ∧ Below w.heap.size w w' := by
  have HO := Lib.hid (show flV (Dw.doOp f ⟨1, 1, at_, data⟩) = flV ((f.put 1 (Dw.over (f.b) at_ (Dw.andB (Dw.sub (f.b) at_ data.length) data))).wearN 1 0) from rfl)
  obtain ⟨V, hV⟩ : ∃ V, (w.alloc (.cells (flashC f.a f.b f.e0 f.e1 f.li) 37)).alloc (.cells (flashC [] [] 0 0 0) 37) = V := ⟨_, rfl⟩
  have b0 := hV ▸ heap_alloc2_old w (.cells (flashC f.a f.b f.e0 f.e1 f.li) 37) (.cells (flashC [] [] 0 0 0) 37)
  have b1 := hV ▸ heap_alloc2_new w (.cells (flashC f.a f.b f.e0 f.e1 f.li) 37) (.cells (flashC [] [] 0 0 0) 37)
  have hB : Below w.heap.size w V := hV ▸ ((Below.refl w.heap.size w).alloc (Nat.le_refl _) _).alloc (by simp) _
  obtain ⟨c0, c1, c2, c3, c4⟩ := cells5 b0
  have HR := Lib.hid (fun w => rreadsB f at_ data.length h hl w)
  have i0 : Int.tmod (at_ : Int) 2 = 0 := by rw [show Int.tmod (at_ : Int) 2 = ((at_ % 2 : Nat) : Int) from rfl, he]; rfl
  have i1 : Int.tmod (data.length : Int) 2 = 0 := by rw [show Int.tmod (data.length : Int) 2 = ((data.length % 2 : Nat) : Int) from rfl, hd]; rfl
  have i2 : (at_ : Int) % 2 = 0 := by omega
  have i3 : (data.length : Int) % 2 = 0 := by omega
  go_enter Tryz.func65, Tryz.ntmps65
  go_wp2_with fail
  refine (HR.out _).mono ?_
  rintro e w1 ⟨rfl, hb⟩
  replace b0 := (hb.block _ (block_lt b0)).trans b0
  replace b1 := (hb.block _ (block_lt b1)).trans b1
  replace hB := hB.trans (hb.mono hB.size)
  clear hb c0 c1 c2 c3 c4 hV
  obtain ⟨c0, c1, c2, c3, c4⟩ := cells5 b0
  have f1 := frozen0 b0 1
  have i6 : IntKind.i64.wrap ((at_ : Int) + (data.length : Int)) = (at_ : Int) + (data.length : Int) := IntWalk.i64_in _ (by omega)
  go_wp2_with fail
  have i7 : (at_ : Int) + (data.length : Int) ≤ ((f.b).length : Int) := by omega
  have i8 : ((at_ : Int) + (data.length : Int)).toNat = at_ + data.length := by omega
  have i9 : (0 : Int) ≤ (at_ : Int) + (data.length : Int) := by omega
  have i10 : (at_ : Int) ≤ ((f.b).length : Int) := by omega
  have i11 : (at_ : Int) ≤ (at_ : Int) + (data.length : Int) := by omega
  have x1 : (⟨(f.b).toArray⟩ : ByteArray).extract 0 at_ = ⟨((f.b).take at_).toArray⟩ := by rw [bs_extract, List.drop_zero]
  have x2 : (⟨(f.b).toArray⟩ : ByteArray).extract at_ (at_ + data.length) = ⟨(Dw.sub (f.b) at_ data.length).toArray⟩ := by rw [bs_extract, List.drop_take, Nat.add_sub_cancel_left]; rfl
  have x3 : (⟨(f.b).toArray⟩ : ByteArray).extract (at_ + data.length) (f.b).length = ⟨((f.b).drop (at_ + data.length)).toArray⟩ := by rw [bs_extract, List.take_length]
  have lA : ((f.b).take at_).length ≤ 400 := by rw [List.length_take]; omega
  have lZ : ((f.b).drop (at_ + data.length)).length ≤ 400 := by rw [List.length_drop]; omega
  have lS : (Dw.sub (f.b) at_ data.length).length ≤ 400 := by rw [Dw.sub_length _ _ _ h]; omega
  have lM : (Dw.andB (Dw.sub (f.b) at_ data.length) data).length ≤ 400 := by rw [Dw.andB_length]; exact lS
  have lMd : (Dw.andB (Dw.sub (f.b) at_ data.length) data).length = data.length := by rw [Dw.andB_length, Dw.sub_length _ _ _ h]
  have HAND := Lib.hid (fun w => rand_any (Dw.sub (f.b) at_ data.length) data lS (by omega) w)
  have hov : Dw.over (f.b) at_ (Dw.andB (Dw.sub (f.b) at_ data.length) data) = (f.b).take at_ ++ (Dw.andB (Dw.sub (f.b) at_ data.length) data ++ (f.b).drop (at_ + data.length)) := by unfold Dw.over; rw [lMd]
  rw [hov] at HO
  generalize (f.b).take at_ = A at *
  generalize (f.b).drop (at_ + data.length) = Z at *
  generalize Dw.andB (Dw.sub (f.b) at_ data.length) data = M at *
  generalize Dw.sub (f.b) at_ data.length = S at *
  clear lMd hov lS
  have j1 : ¬ 9223372036854775807 < A.length + M.length := by omega
  have j2 : ¬ 9223372036854775807 < A.length + M.length + Z.length := by omega
  refine wp_pure (List.range 17) 17 (by kernel_rfl) (by kernel_rfl) rfl ?_
  rw [show List.range 17 = [0, 1, 2, 3, 4, 5, 6, 7, 8, 9, 10, 11, 12, 13, 14, 15, 16] from rfl]
  repeat' (first | (refine pl_nil ?_) | (refine pl_value (v := ?_) rfl rfl ?_ ?_; rotate_left 1; (focus (intro w' hk; go_simp; (first | done | with_reducible rfl | exact rfl))); (try simp only [Act.put, List.setIfInBounds_toArray, List.set_cons_zero, List.set_cons_succ])) | (refine pl_call (v := ?_) (f := ?_) (args := ?_) rfl rfl ?_ ?_ ?_; rotate_left 3; (focus (intro w' hk; go_simp; (first | done | (constructor <;> with_reducible rfl) | with_reducible rfl))); (focus (intro w' hk; exact HAND.out w')); (try simp only [Act.put, List.setIfInBounds_toArray, List.set_cons_zero, List.set_cons_succ])) | (refine pl_skip rfl rfl ?_; (try simp only [Act.put, List.setIfInBounds_toArray, List.set_cons_zero, List.set_cons_succ])))
  intro w2 hk2
  simp only [List.drop_succ_cons, List.drop_zero]
  replace b0 := (hk2.block _ (block_lt b0) id).trans b0
  replace b1 := (hk2.block _ (block_lt b1) id).trans b1
  replace hB := hB.trans (hk2.whole.mono hB.size)
  clear hk2 c0 c1 c2 c3 c4 f1 x1 x2 x3
  have f1 := frozen0 b0 1
  obtain ⟨c0, c1, c2, c3, c4⟩ := cells5 b0
  have q0 := heap_setCell_same w2 w.heap.size 1 _ 37 (.string (⟨A.toArray⟩ ++ ⟨M.toArray⟩ ++ ⟨Z.toArray⟩)) b0
  change _ = some (Obj.cells #[.string ⟨f.a.toArray⟩, .string (⟨A.toArray⟩ ++ ⟨M.toArray⟩ ++ ⟨Z.toArray⟩), .int .i64 f.e0, .int .i64 f.e1, .int .i64 f.li] _ _) at q0
  have q1 := (heap_setCell_other w2 ⟨w.heap.size, 1, none⟩ (w.heap.size + 1) (.string (⟨A.toArray⟩ ++ ⟨M.toArray⟩ ++ ⟨Z.toArray⟩)) (by simp)).trans b1
  have hB3 := hB.setCell (p := ⟨w.heap.size, 1, none⟩) (by simp) (.string (⟨A.toArray⟩ ++ ⟨M.toArray⟩ ++ ⟨Z.toArray⟩))
  have Q0 := Lib.hid q0; have Q1 := Lib.hid q1; have HB3 := Lib.hid hB3
  clear q0 q1 hB3 b0 b1 hB
  go_wp2_with (first | (refine wpList_load_block rfl 37 (.tmp 4) rfl rfl Q0.out Tryz.underlying37 rfl (by kernel_rfl) ?_) | (refine wpList_store_block rfl 37 (.tmp 8) (.tmp 58) rfl rfl rfl Q1.out (by kernel_rfl) rfl (by simp [Value.oneCell']) ?_))
  refine bodyPost_ret (results_cell_tmp rfl _ _ _ _ _ _ _ (by rfl) (setRow_heap _ _ _ _ _ _ Q1.out) Tryz.underlying37 rfl (by kernel_rfl)) rfl ⟨?_, below_setRow HB3.out (by omega) _⟩
  rw [HO.out]; simp [Dw.Fl.put, Dw.Fl.wearN, bs_append]

set_option maxRecDepth 100000 in
set_option maxHeartbeats 2000000 in
theorem reraseA (f : Dw.Fl) (hl : (f.a).length ≤ 400) (hw : IntKind.i64.wrap (f.e0 + 1) = f.e0 + 1) (hlt : f.e0 < f.li) (at_ : Nat) (data : List UInt8) (w : World) :
    Calls Tryz.prog 66 #[flV f, .int .i64 0] w fun e w' => e = .returned (.tuple #[flV (Dw.doOp f ⟨2, 0, at_, data⟩), .int .i64 0]) ∧ Below w.heap.size w w' := by
  have HO := Lib.hid (show flV (Dw.doOp f ⟨2, 0, at_, data⟩) = flashV (Dw.ffs f.a.length) f.b (f.e0 + 1) f.e1 f.li from rfl)
  obtain ⟨V, hV⟩ : ∃ V, (w.alloc (.cells (flashC f.a f.b f.e0 f.e1 f.li) 37)).alloc (.cells (flashC [] [] 0 0 0) 37) = V := ⟨_, rfl⟩
  have b0 := hV ▸ heap_alloc2_old w (.cells (flashC f.a f.b f.e0 f.e1 f.li) 37) (.cells (flashC [] [] 0 0 0) 37)
  have b1 := hV ▸ heap_alloc2_new w (.cells (flashC f.a f.b f.e0 f.e1 f.li) 37) (.cells (flashC [] [] 0 0 0) 37)
  have hB : Below w.heap.size w V := hV ▸ ((Below.refl w.heap.size w).alloc (Nat.le_refl _) _).alloc (by simp) _
  obtain ⟨c0, c1, c2, c3, c4⟩ := cells5 b0
  have hge : ¬ f.li ≤ f.e0 := by omega
  go_enter Tryz.func66, Tryz.ntmps66
  go_wp2_with fail
  refine wp_pure (List.range 7) 7 (by kernel_rfl) (by kernel_rfl) rfl ?_
  rw [show List.range 7 = [0, 1, 2, 3, 4, 5, 6] from rfl]
  repeat' (first | (refine pl_nil ?_) | (refine pl_value (v := ?_) rfl rfl ?_ ?_; rotate_left 1; (focus (intro w' hk; have k2 := look hk c2; have k4 := look hk c4; go_simp; (first | done | with_reducible rfl | exact rfl))); (try simp only [Act.put, List.setIfInBounds_toArray, List.set_cons_zero, List.set_cons_succ])) | (refine pl_skip rfl rfl ?_; (try simp only [Act.put, List.setIfInBounds_toArray, List.set_cons_zero, List.set_cons_succ])))
  intro w2 hk2
  simp only [List.drop_succ_cons, List.drop_zero]
  replace b0 := (hk2.block _ (block_lt b0) id).trans b0
  replace b1 := (hk2.block _ (block_lt b1) id).trans b1
  replace hB := hB.trans (hk2.whole.mono hB.size)
  clear hk2 c0 c1 c2 c3 c4 hV
  obtain ⟨c0, c1, c2, c3, c4⟩ := cells5 b0
  go_wp2_with fail
  refine (rblankN_any (f.a).length (by omega) _).mono ?_
  rintro e w3 ⟨rfl, hb⟩
  replace b0 := (hb.block _ (block_lt b0)).trans b0
  replace b1 := (hb.block _ (block_lt b1)).trans b1
  replace hB := hB.trans (hb.mono hB.size)
  clear hb c0 c1 c2 c3 c4
  rw [allFF_ffs]
  obtain ⟨c0, c1, c2, c3, c4⟩ := cells5 b0
  have f0 := frozen0 b0
  have f1 := f0 0
  have f2 := f0 2
  clear f0
  have p1 := heap_setCell_same w3 w.heap.size 0 _ 37 (.string ⟨(Dw.ffs (f.a).length).toArray⟩) b0
  have q1 := heap_setCell_same _ w.heap.size 2 _ 37 (.int .i64 (f.e0 + 1)) p1
  change _ = some (Obj.cells (flashC (Dw.ffs f.a.length) f.b (f.e0 + 1) f.e1 f.li) _ _) at q1
  have p2 := (heap_setCell_other w3 ⟨w.heap.size, 0, none⟩ (w.heap.size + 1) (.string ⟨(Dw.ffs (f.a).length).toArray⟩) (by simp)).trans b1
  have q2 := (heap_setCell_other _ ⟨w.heap.size, 2, none⟩ (w.heap.size + 1) (.int .i64 (f.e0 + 1)) (by simp)).trans p2
  have hB3 := (hB.setCell (p := ⟨w.heap.size, 0, none⟩) (by simp) (.string ⟨(Dw.ffs (f.a).length).toArray⟩)).setCell (p := ⟨w.heap.size, 2, none⟩) (by simp) (.int .i64 (f.e0 + 1))
  have Q1 := Lib.hid q1; have Q2 := Lib.hid q2; have HB3 := Lib.hid hB3
  clear p1 p2 q2 hB3 b0 b1 hB q1
  go_wp2_with (first | (refine wpList_load_block rfl 37 (.tmp 2) rfl rfl Q1.out Tryz.underlying37 rfl (by kernel_rfl) ?_) | (refine wpList_store_block rfl 37 (.tmp 4) (.tmp 37) rfl rfl rfl Q2.out (by kernel_rfl) rfl (by simp [Value.oneCell']) ?_))
  refine bodyPost_ret (results_cell_tmp rfl _ _ _ _ _ _ _ (by rfl) (setRow_heap _ _ _ _ _ _ Q2.out) Tryz.underlying37 rfl (by kernel_rfl)) rfl ⟨?_, below_setRow HB3.out (by omega) _⟩
  rw [HO.out]; rfl

set_option maxRecDepth 100000 in
set_option maxHeartbeats 2000000 in
theorem reraseB (f : Dw.Fl) (hl : (f.b).length ≤ 400) (hw : IntKind.i64.wrap (f.e1 + 1) = f.e1 + 1) (hlt : f.e1 < f.li) (at_ : Nat) (data : List UInt8) (w : World) :
    Calls Tryz.prog 66 #[flV f, .int .i64 1] w fun e w' => e = .returned (.tuple #[flV (Dw.doOp f ⟨2, 1, at_, data⟩), .int .i64 0]) ∧ Below w.heap.size w w' := by
  have HO := Lib.hid (show flV (Dw.doOp f ⟨2, 1, at_, data⟩) = flashV f.a (Dw.ffs f.b.length) f.e0 (f.e1 + 1) f.li from rfl)
  obtain ⟨V, hV⟩ : ∃ V, (w.alloc (.cells (flashC f.a f.b f.e0 f.e1 f.li) 37)).alloc (.cells (flashC [] [] 0 0 0) 37) = V := ⟨_, rfl⟩
  have b0 := hV ▸ heap_alloc2_old w (.cells (flashC f.a f.b f.e0 f.e1 f.li) 37) (.cells (flashC [] [] 0 0 0) 37)
  have b1 := hV ▸ heap_alloc2_new w (.cells (flashC f.a f.b f.e0 f.e1 f.li) 37) (.cells (flashC [] [] 0 0 0) 37)
  have hB : Below w.heap.size w V := hV ▸ ((Below.refl w.heap.size w).alloc (Nat.le_refl _) _).alloc (by simp) _
  obtain ⟨c0, c1, c2, c3, c4⟩ := cells5 b0
  have hge : ¬ f.li ≤ f.e1 := by omega
  go_enter Tryz.func66, Tryz.ntmps66
  go_wp2_with fail
  refine wp_pure (List.range 7) 7 (by kernel_rfl) (by kernel_rfl) rfl ?_
  rw [show List.range 7 = [0, 1, 2, 3, 4, 5, 6] from rfl]
  repeat' (first | (refine pl_nil ?_) | (refine pl_value (v := ?_) rfl rfl ?_ ?_; rotate_left 1; (focus (intro w' hk; have k3 := look hk c3; have k4 := look hk c4; go_simp; (first | done | with_reducible rfl | exact rfl))); (try simp only [Act.put, List.setIfInBounds_toArray, List.set_cons_zero, List.set_cons_succ])) | (refine pl_skip rfl rfl ?_; (try simp only [Act.put, List.setIfInBounds_toArray, List.set_cons_zero, List.set_cons_succ])))
  intro w2 hk2
  simp only [List.drop_succ_cons, List.drop_zero]
  replace b0 := (hk2.block _ (block_lt b0) id).trans b0
  replace b1 := (hk2.block _ (block_lt b1) id).trans b1
  replace hB := hB.trans (hk2.whole.mono hB.size)
  clear hk2 c0 c1 c2 c3 c4 hV
  obtain ⟨c0, c1, c2, c3, c4⟩ := cells5 b0
  go_wp2_with fail
  refine (rblankN_any (f.b).length (by omega) _).mono ?_
  rintro e w3 ⟨rfl, hb⟩
  replace b0 := (hb.block _ (block_lt b0)).trans b0
  replace b1 := (hb.block _ (block_lt b1)).trans b1
  replace hB := hB.trans (hb.mono hB.size)
  clear hb c0 c1 c2 c3 c4
  rw [allFF_ffs]
  obtain ⟨c0, c1, c2, c3, c4⟩ := cells5 b0
  have f0 := frozen0 b0
  have f1 := f0 1
  have f2 := f0 3
  clear f0
  have p1 := heap_setCell_same w3 w.heap.size 1 _ 37 (.string ⟨(Dw.ffs (f.b).length).toArray⟩) b0
  have q1 := heap_setCell_same _ w.heap.size 3 _ 37 (.int .i64 (f.e1 + 1)) p1
  change _ = some (Obj.cells (flashC f.a (Dw.ffs f.b.length) f.e0 (f.e1 + 1) f.li) _ _) at q1
  have p2 := (heap_setCell_other w3 ⟨w.heap.size, 1, none⟩ (w.heap.size + 1) (.string ⟨(Dw.ffs (f.b).length).toArray⟩) (by simp)).trans b1
  have q2 := (heap_setCell_other _ ⟨w.heap.size, 3, none⟩ (w.heap.size + 1) (.int .i64 (f.e1 + 1)) (by simp)).trans p2
  have hB3 := (hB.setCell (p := ⟨w.heap.size, 1, none⟩) (by simp) (.string ⟨(Dw.ffs (f.b).length).toArray⟩)).setCell (p := ⟨w.heap.size, 3, none⟩) (by simp) (.int .i64 (f.e1 + 1))
  have Q1 := Lib.hid q1; have Q2 := Lib.hid q2; have HB3 := Lib.hid hB3
  clear p1 p2 q2 hB3 b0 b1 hB q1
  go_wp2_with (first | (refine wpList_load_block rfl 37 (.tmp 2) rfl rfl Q1.out Tryz.underlying37 rfl (by kernel_rfl) ?_) | (refine wpList_store_block rfl 37 (.tmp 4) (.tmp 37) rfl rfl rfl Q2.out (by kernel_rfl) rfl (by simp [Value.oneCell']) ?_))
  refine bodyPost_ret (results_cell_tmp rfl _ _ _ _ _ _ _ (by rfl) (setRow_heap _ _ _ _ _ _ Q2.out) Tryz.underlying37 rfl (by kernel_rfl)) rfl ⟨?_, below_setRow HB3.out (by omega) _⟩
  rw [HO.out]; rfl

end Go.Proofs.YtaniehjhmjecjaaGreatDoor
