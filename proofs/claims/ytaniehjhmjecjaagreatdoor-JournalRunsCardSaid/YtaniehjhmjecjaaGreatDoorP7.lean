/- What the statement's proof stands on, part 7: RDecode. -/
import Derived.Test.YtaniehjhmjecjaaGreatDoorP6

/- Layer 7: the reference's Decode. -/
namespace Go.Proofs.YtaniehjhmjecjaaGreatDoor
open Go.RowKit Go.Shelf
attribute [local go_sem] Oper.semAt_some

set_option maxRecDepth 100000 in
set_option maxHeartbeats 2000000 in
theorem rdecode_full (x0 x1 : UInt8) (q d c m : List UInt8) (hq : q.length = 8) (hd : d.length = 8) (hc : c.length = 4) (hm : m.length = 2) (l : List UInt8) (hl : l = [x0] ++ ([x1] ++ (q ++ (d ++ (c ++ m))))) (hbl : Dw.blankB l = false) (w : World) :
    Calls Tryz.prog 94 #[.string ⟨l.toArray⟩] w fun e w' => e = .returned (.tuple #[recV (Dw.decodeR l), .int .i64 (Dw.decodeE l)]) ∧ Below w.heap.size w w' := by
  have hlen : l.length = 24 := by subst hl; simp; omega
  have Hl := Lib.hid hl
  clear hl
  obtain ⟨⟨hHq, hHd, hHc⟩, hHm⟩ := Dw.parts x0 x1 q d c m hq hd hc
  rw [← Hl.out] at hHq hHd hHc hHm
  have l0 : l.getD 0 0 = x0 := by rw [Hl.out]; rfl
  have l1 : l.getD 1 0 = x1 := by rw [Hl.out]; rfl
  have HE0 := Lib.hid (show Dw.decodeE l = (if x0 ≠ 165 then 6 else if c ≠ Dw.put 4 (Dw.rev4 (Dw.sum (l.take 18))) then 7 else if x1.toNat < 1 ∨ 3 < x1.toNat then 8 else if m ≠ [90, 60] then 9 else 0) from by
    unfold Dw.decodeE
    rw [if_neg (by simp [hlen]), if_neg (by simp [hbl]), l0, l1, hHc, hHm])
  have HR := Lib.hid (show Dw.recOf l = ⟨x1.toNat, Dw.get q, Dw.get d⟩ from by unfold Dw.recOf; rw [hHq, hHd, l1])
  have HZ := Lib.hid (show Dw.decodeE l ≠ 0 → Dw.decodeR l = Dw.zeroRec from fun h => by unfold Dw.decodeR; rw [if_neg h])
  have hb0 : (⟨l.toArray⟩ : ByteArray)[0]'(by simp [ByteArray.size, hlen]) = x0 := by
    show l.toArray[0]'(by simp [hlen]) = x0
    simp only [List.getElem_toArray]
    simp [Hl.out]
  have hb1 : (⟨l.toArray⟩ : ByteArray)[1]'(by simp [ByteArray.size, hlen]) = x1 := by
    show l.toArray[1]'(by simp [hlen]) = x1
    simp only [List.getElem_toArray]
    simp [Hl.out]
  have e1 : (⟨l.toArray⟩ : ByteArray).extract 18 22 = ⟨c.toArray⟩ := by rw [bs_extract, List.drop_take, hHc]
  have e2 : (⟨l.toArray⟩ : ByteArray).extract 0 18 = ⟨(l.take 18).toArray⟩ := bs_extract l 0 18
  have e3 : (⟨l.toArray⟩ : ByteArray).extract 22 24 = ⟨m.toArray⟩ := by rw [bs_extract, List.take_of_length_le (by omega), hHm]
  have e4 : (⟨l.toArray⟩ : ByteArray).extract 2 10 = ⟨q.toArray⟩ := by rw [bs_extract, List.drop_take, hHq]
  have e5 : (⟨l.toArray⟩ : ByteArray).extract 10 18 = ⟨d.toArray⟩ := by rw [bs_extract, List.drop_take, hHd]
  clear l0 l1
  have hB0 := (Below.refl w.heap.size w).alloc (Nat.le_refl _) (.cells #[.int .i64 0, .int .u64 0, .int .u64 0] 88)
  have hC0 := heap_alloc_new w (.cells #[.int .i64 0, .int .u64 0, .int .u64 0] 88)
  go_enter Tryz.func94, Tryz.ntmps94
  go_wp2_with fail
  refine (rblank_any _ (by simp [ByteArray.size, hlen]) _).mono ?_
  rintro e w1 ⟨rfl, hb1'⟩
  have hC1 := (hb1'.block w.heap.size (by simp)).trans hC0
  have hB1 := hB0.trans (hb1'.mono hB0.size)
  rw [show Dw.blankB (⟨l.toArray⟩ : ByteArray).data.toList = false from hbl]
  clear hB0 hC0 hb1'
  by_cases h0 : x0 = 165
  · subst h0
    go_wp2_with fail
    have hl18 : (⟨(l.take 18).toArray⟩ : ByteArray).size ≤ 100000 := by simp [ByteArray.size, hlen]
    refine wp_pure (List.range 8) 8 (by kernel_rfl) (by kernel_rfl) rfl ?_
    rw [show List.range 8 = [0, 1, 2, 3, 4, 5, 6, 7] from rfl]
    repeat' (first | (refine pl_nil ?_) | (refine pl_value (v := ?_) rfl rfl ?_ ?_; rotate_left 1; (focus (intro w' hk; go_simp; (first | done | with_reducible rfl | exact rfl))); (try simp only [Act.put, List.setIfInBounds_toArray, List.set_cons_zero, List.set_cons_succ])) | (refine pl_call (v := ?_) (f := ?_) (args := ?_) rfl rfl ?_ ?_ ?_; rotate_left 3; (focus (intro w' hk; go_simp; (first | done | (constructor <;> with_reducible rfl) | with_reducible rfl))); (focus (intro w' hk; first | exact rsum_any ⟨(l.take 18).toArray⟩ hl18 w' | exact rlow_any _ (Dw.sum_lt _) w')); (try simp only [Act.put, List.setIfInBounds_toArray, List.set_cons_zero, List.set_cons_succ])) | (refine pl_skip rfl rfl ?_; (try simp only [Act.put, List.setIfInBounds_toArray, List.set_cons_zero, List.set_cons_succ])))
    intro w2 hk2
    have hC2 := (hk2.block _ (block_lt hC1) id).trans hC1
    have hB2 := hB1.trans (hk2.whole.mono hB1.size)
    clear hk2 hC1 hB1
    simp only [List.drop_succ_cons, List.drop_zero]
    by_cases h1 : c = Dw.put 4 (Dw.rev4 (Dw.sum (l.take 18)))
    · have h1' : (!(c == Dw.put 4 (Dw.rev4 (Dw.sum (l.take 18))))) = false := by simpa using h1
      rw [h1']
      clear h1'
      have HE1 := Lib.hid (show Dw.decodeE l = (if x1.toNat < 1 ∨ 3 < x1.toNat then 8 else if m ≠ [90, 60] then 9 else 0) from by rw [HE0.out, if_neg (by simp), if_neg (by simpa using h1)])
      have hl1 : 1 < l.length := by omega
      clear h1 HE0
      by_cases k1 : x1.toNat < 1
      · have k1' : (x1.toNat : Int) < 1 := by omega
        have HE := Lib.hid (show Dw.decodeE l = 8 from by rw [HE1.out, if_pos (.inl k1)])
        clear k1
        go_wp2_with (first | (refine wpList_load_block rfl 88 _ rfl rfl hC2 Tryz.underlying88 rfl (by kernel_rfl) ?_) | (refine wpList_store_block rfl 88 _ _ rfl rfl rfl hC2 (by kernel_rfl) rfl (by simp [Value.oneCell']) ?_))
        refine bodyPost_ret (results_cell_tmp rfl _ _ _ _ _ _ _ (by rfl) (setRow_heap _ _ _ _ _ _ hC2) Tryz.underlying88 rfl (by kernel_rfl)) rfl ⟨?_, below_setRow hB2 (Nat.le_refl _) _⟩
        rw [HE.out, HZ.out (by rw [HE.out]; decide)]; rfl
      · by_cases k3 : 3 < x1.toNat
        · have k1' : ¬ (x1.toNat : Int) < 1 := by omega
          have k3' : 3 < (x1.toNat : Int) := by omega
          have HE := Lib.hid (show Dw.decodeE l = 8 from by rw [HE1.out, if_pos (.inr k3)])
          clear k1 k3
          go_wp2_with (first | (refine wpList_load_block rfl 88 _ rfl rfl hC2 Tryz.underlying88 rfl (by kernel_rfl) ?_) | (refine wpList_store_block rfl 88 _ _ rfl rfl rfl hC2 (by kernel_rfl) rfl (by simp [Value.oneCell']) ?_))
          refine bodyPost_ret (results_cell_tmp rfl _ _ _ _ _ _ _ (by rfl) (setRow_heap _ _ _ _ _ _ hC2) Tryz.underlying88 rfl (by kernel_rfl)) rfl ⟨?_, below_setRow hB2 (Nat.le_refl _) _⟩
          rw [HE.out, HZ.out (by rw [HE.out]; decide)]; rfl
        · have k1' : ¬ (x1.toNat : Int) < 1 := by omega
          have k3' : ¬ 3 < (x1.toNat : Int) := by omega
          have HE2 := Lib.hid (show Dw.decodeE l = (if m ≠ [90, 60] then 9 else 0) from by rw [HE1.out, if_neg (fun h => h.elim k1 k3)])
          clear k1 k3 HE1
          go_wp2_with fail
          refine wp_pure (List.range 5) 5 (by kernel_rfl) (by kernel_rfl) rfl ?_
          rw [show List.range 5 = [0, 1, 2, 3, 4] from rfl]
          repeat' (first | (refine pl_nil ?_) | (refine pl_value (v := ?_) rfl rfl ?_ ?_; rotate_left 1; (focus (intro w' hk; go_simp; (first | done | with_reducible rfl | exact rfl))); (try simp only [Act.put, List.setIfInBounds_toArray, List.set_cons_zero, List.set_cons_succ])) | (refine pl_call (v := ?_) (f := ?_) (args := ?_) rfl rfl ?_ ?_ ?_; rotate_left 3; (focus (intro w' hk; go_simp; (first | done | (constructor <;> with_reducible rfl) | with_reducible rfl))); (focus (intro w' hk; exact rmark_any w')); (try simp only [Act.put, List.setIfInBounds_toArray, List.set_cons_zero, List.set_cons_succ])) | (refine pl_skip rfl rfl ?_; (try simp only [Act.put, List.setIfInBounds_toArray, List.set_cons_zero, List.set_cons_succ])))
          intro w3 hk3
          have hC3 := (hk3.block _ (block_lt hC2) id).trans hC2
          have hB3 := hB2.trans (hk3.whole.mono hB2.size)
          clear hk3 hC2 hB2
          simp only [List.drop_succ_cons, List.drop_zero]
          by_cases k9 : m = [90, 60]
          · have HE := Lib.hid (show Dw.decodeE l = 0 from by rw [HE2.out, if_neg (fun h => h k9)])
            rw [show (!(m == [90, 60])) = false from by simp [k9]]
            have hs8q : (⟨q.toArray⟩ : ByteArray).size ≤ 8 := by simp [ByteArray.size, hq]
            have hs8d : (⟨d.toArray⟩ : ByteArray).size ≤ 8 := by simp [ByteArray.size, hd]
            clear HE2 k9
            go_wp2_with fail
            refine wp_pure (List.range 10) 10 (by kernel_rfl) (by kernel_rfl) rfl ?_
            rw [show List.range 10 = [0, 1, 2, 3, 4, 5, 6, 7, 8, 9] from rfl]
            iterate 5 ((refine pl_value (v := ?_) rfl rfl ?_ ?_; rotate_left 1; (focus (intro w' hk; go_simp; (first | done | with_reducible rfl | exact rfl))); (try simp only [Act.put, List.setIfInBounds_toArray, List.set_cons_zero, List.set_cons_succ])))
            (refine pl_call (v := ?_) (f := ?_) (args := ?_) rfl rfl ?_ ?_ ?_; rotate_left 3; (focus (intro w' hk; go_simp; (first | done | (constructor <;> with_reducible rfl) | with_reducible rfl))); (focus (intro w' hk; exact rget_any ⟨q.toArray⟩ hs8q w')); (try simp only [Act.put, List.setIfInBounds_toArray, List.set_cons_zero, List.set_cons_succ]))
            iterate 2 ((refine pl_value (v := ?_) rfl rfl ?_ ?_; rotate_left 1; (focus (intro w' hk; go_simp; (first | done | with_reducible rfl | exact rfl))); (try simp only [Act.put, List.setIfInBounds_toArray, List.set_cons_zero, List.set_cons_succ])))
            (refine pl_call (v := ?_) (f := ?_) (args := ?_) rfl rfl ?_ ?_ ?_; rotate_left 3; (focus (intro w' hk; go_simp; (first | done | (constructor <;> with_reducible rfl) | with_reducible rfl))); (focus (intro w' hk; exact rget_any ⟨d.toArray⟩ hs8d w')); (try simp only [Act.put, List.setIfInBounds_toArray, List.set_cons_zero, List.set_cons_succ]))
            (refine pl_value (v := ?_) rfl rfl ?_ ?_; rotate_left 1; (focus (intro w' hk; go_simp; (first | done | with_reducible rfl | exact rfl))); (try simp only [Act.put, List.setIfInBounds_toArray, List.set_cons_zero, List.set_cons_succ]))
            refine pl_nil ?_
            intro w4 hk4
            have hC4 := (hk4.block _ (block_lt hC3) id).trans hC3
            have hB4 := hB3.trans (hk4.whole.mono hB3.size)
            clear hk4 hC3 hB3
            simp only [List.drop_succ_cons, List.drop_zero]
            go_wp2_with (first | (refine wpList_load_block rfl 88 _ rfl rfl hC4 Tryz.underlying88 rfl (by kernel_rfl) ?_) | (refine wpList_store_block rfl 88 _ _ rfl rfl rfl hC4 (by kernel_rfl) rfl (by simp [Value.oneCell']) ?_))
            refine bodyPost_ret (results_cell_tmp rfl _ _ _ _ _ _ _ (by rfl) (setRow_heap _ _ _ _ _ _ hC4) Tryz.underlying88 rfl (by kernel_rfl)) rfl ⟨?_, below_setRow hB4 (Nat.le_refl _) _⟩
            rw [HE.out, show Dw.decodeR l = ⟨x1.toNat, Dw.get q, Dw.get d⟩ from by unfold Dw.decodeR; rw [if_pos HE.out, HR.out]]; rfl
          · have HE := Lib.hid (show Dw.decodeE l = 9 from by rw [HE2.out, if_pos k9])
            rw [show (!(m == [90, 60])) = true from by simp [k9]]
            clear k9 HE2
            go_wp2_with (first | (refine wpList_load_block rfl 88 _ rfl rfl hC3 Tryz.underlying88 rfl (by kernel_rfl) ?_) | (refine wpList_store_block rfl 88 _ _ rfl rfl rfl hC3 (by kernel_rfl) rfl (by simp [Value.oneCell']) ?_))
            refine bodyPost_ret (results_cell_tmp rfl _ _ _ _ _ _ _ (by rfl) (setRow_heap _ _ _ _ _ _ hC3) Tryz.underlying88 rfl (by kernel_rfl)) rfl ⟨?_, below_setRow hB3 (Nat.le_refl _) _⟩
            rw [HE.out, HZ.out (by rw [HE.out]; decide)]; rfl
    · have h1' : (!(c == Dw.put 4 (Dw.rev4 (Dw.sum (l.take 18))))) = true := by simpa using h1
      rw [h1']
      clear h1'
      have HE := Lib.hid (show Dw.decodeE l = 7 from by rw [HE0.out, if_neg (by simp), if_pos h1])
      clear h1
      go_wp2_with (first | (refine wpList_load_block rfl 88 _ rfl rfl hC2 Tryz.underlying88 rfl (by kernel_rfl) ?_) | (refine wpList_store_block rfl 88 _ _ rfl rfl rfl hC2 (by kernel_rfl) rfl (by simp [Value.oneCell']) ?_))
      refine bodyPost_ret (results_cell_tmp rfl _ _ _ _ _ _ _ (by rfl) (setRow_heap _ _ _ _ _ _ hC2) Tryz.underlying88 rfl (by kernel_rfl)) rfl ⟨?_, below_setRow hB2 (Nat.le_refl _) _⟩
      rw [HE.out, HZ.out (by rw [HE.out]; decide)]; rfl
  · have hx : ((x0.toNat : Int) != 165) = true := by
      rw [bne_iff_ne]; intro e; exact h0 (UInt8.toNat_inj.1 (by simpa using (Int.ofNat.inj e)))
    have HE := Lib.hid (show Dw.decodeE l = 6 from by rw [HE0.out, if_pos h0])
    go_wp2_with (first | (refine wpList_load_block rfl 88 _ rfl rfl hC1 Tryz.underlying88 rfl (by kernel_rfl) ?_) | (refine wpList_store_block rfl 88 _ _ rfl rfl rfl hC1 (by kernel_rfl) rfl (by simp [Value.oneCell']) ?_))
    refine bodyPost_ret (results_cell_tmp rfl _ _ _ _ _ _ _ (by rfl) (setRow_heap _ _ _ _ _ _ hC1) Tryz.underlying88 rfl (by kernel_rfl)) rfl ⟨?_, below_setRow hB1 (Nat.le_refl _) _⟩
    rw [HE.out, HZ.out (by rw [HE.out]; decide)]; rfl

set_option maxHeartbeats 1000000 in
theorem rdecode_any (l : List UInt8) (w : World) :
    Calls Tryz.prog 94 #[.string ⟨l.toArray⟩] w fun e w' => e = .returned (.tuple #[recV (Dw.decodeR l), .int .i64 (Dw.decodeE l)]) ∧ Below w.heap.size w w' := by
  have hB0 := (Below.refl w.heap.size w).alloc (Nat.le_refl _) (.cells #[.int .i64 0, .int .u64 0, .int .u64 0] 88)
  have hC0 := heap_alloc_new w (.cells #[.int .i64 0, .int .u64 0, .int .u64 0] 88)
  by_cases h24 : l.length = 24
  · cases hbl : Dw.blankB l
    · obtain ⟨x0, x1, q, d, c, m, hq, hd, hc, hm, hl⟩ := Dw.splits l h24
      exact rdecode_full x0 x1 q d c m hq hd hc hm l hl hbl w
    · have HE := Lib.hid (show Dw.decodeE l = 5 from by unfold Dw.decodeE; rw [if_neg (by simp [h24]), if_pos hbl])
      have Hbl := Lib.hid hbl
      clear hbl
      go_enter Tryz.func94, Tryz.ntmps94
      go_wp2_with fail
      refine (rblank_any _ (by simp [ByteArray.size, h24]) _).mono ?_
      rintro e w1 ⟨rfl, hb1⟩
      have hC1 := (hb1.block w.heap.size (by simp)).trans hC0
      have hB1 := hB0.trans (hb1.mono hB0.size)
      rw [show Dw.blankB (⟨l.toArray⟩ : ByteArray).data.toList = true from Hbl.out]
      go_wp2_with (first | (refine wpList_load_block rfl 88 _ rfl rfl hC1 Tryz.underlying88 rfl (by kernel_rfl) ?_) | (refine wpList_store_block rfl 88 _ _ rfl rfl rfl hC1 (by kernel_rfl) rfl (by simp [Value.oneCell']) ?_))
      refine bodyPost_ret (results_cell_tmp rfl _ _ _ _ _ _ _ (by rfl) (setRow_heap _ _ _ _ _ _ hC1) Tryz.underlying88 rfl (by kernel_rfl)) rfl ⟨?_, below_setRow hB1 (Nat.le_refl _) _⟩
      rw [HE.out, show Dw.decodeR l = Dw.zeroRec from by unfold Dw.decodeR; rw [HE.out]; rfl]; rfl
  · have HE := Lib.hid (show Dw.decodeE l = 1 from by unfold Dw.decodeE; rw [if_pos (by simp [h24])])
    have hne : ¬ (l.length : Int) = 24 := by omega
    go_enter Tryz.func94, Tryz.ntmps94
    go_wp2_with (first | (refine wpList_load_block rfl 88 _ rfl rfl hC0 Tryz.underlying88 rfl (by kernel_rfl) ?_) | (refine wpList_store_block rfl 88 _ _ rfl rfl rfl hC0 (by kernel_rfl) rfl (by simp [Value.oneCell']) ?_))
    refine bodyPost_ret (results_cell_tmp rfl _ _ _ _ _ _ _ (by rfl) (setRow_heap _ _ _ _ _ _ hC0) Tryz.underlying88 rfl (by kernel_rfl)) rfl ⟨?_, below_setRow hB0 (Nat.le_refl _) _⟩
    rw [HE.out, show Dw.decodeR l = Dw.zeroRec from by unfold Dw.decodeR; rw [HE.out]; rfl]; rfl
end Go.Proofs.YtaniehjhmjecjaaGreatDoor
