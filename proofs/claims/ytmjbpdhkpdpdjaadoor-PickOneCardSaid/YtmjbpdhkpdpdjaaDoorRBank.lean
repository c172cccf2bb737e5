/- Layer 8: the reference's Slot, Record, State, Generation. -/
import Derived.Test.YtmjbpdhkpdpdjaaDoorState
namespace Go.Proofs.YtmjbpdhkpdpdjaaDoor
open Go.RowKit Go.Shelf
attribute [local go_sem] Oper.semAt_some

set_option maxHeartbeats 1000000 in
theorem rslot_any (s : List UInt8) (_hs : s.length ≤ 400) (I : Int) (i : Nat) (hI : I = (i : Int)) (hi : i ≤ 100) (w : World) :
    Calls Tryd.prog 46 #[.string ⟨s.toArray⟩, .int .i64 I] w fun e w' => e = .returned (.string ⟨(Dw.slot s i).toArray⟩) ∧ Below w.heap.size w w' := by
  subst hI
  have hle := Dw.slots_le s.length
  by_cases h : 0 < Dw.slots s.length ∧ i ≤ Dw.slots s.length
  · obtain ⟨hp, hi2⟩ := h
    have hsp := Dw.slots_pos hp
    have HS := Lib.hid (show Dw.slot s i = Dw.place s i from by unfold Dw.slot; rw [if_pos ⟨hp, hi2⟩])
    have b1 : (0 : Int) ≤ 24 * (i : Int) := by omega
    have b2 : 24 * (i : Int) + 24 ≤ (s.length : Int) := by omega
    have b3 : (24 * (i : Int)).toNat = 24 * i := by omega
    have b4 : (24 * (i : Int) + 24).toNat = 24 * i + 24 := by omega
    have b5 : ((Dw.slots s.length : Nat) : Int) ≠ 0 := by omega
    have b6 : ¬ ((Dw.slots s.length : Nat) : Int) < (i : Int) := by omega
    have b7 : ¬ (s.length : Int) < 24 * (i : Int) + 24 := by omega
    have b8 : (((Dw.slots s.length : Nat) : Int) == 0) = false := by rw [beq_eq_false_iff_ne]; exact b5
    have e1 : (⟨s.toArray⟩ : ByteArray).extract (24 * i) (24 * i + 24) = ⟨(Dw.place s i).toArray⟩ := by rw [bs_extract, List.drop_take]; unfold Dw.place; rw [show 24 * i + 24 - 24 * i = 24 from by omega]
    clear hsp hp hi2
    go_enter Tryd.func46, Tryd.ntmps46
    go_wp2_with fail
    refine (rslots_any s.length _).mono ?_
    rintro e w1 ⟨rfl, hb1⟩
    go_wp2_with fail
    go_ret
    exact ⟨by rw [HS.out]; rfl, hb1⟩
  · have HS := Lib.hid (show Dw.slot s i = [] from by unfold Dw.slot; rw [if_neg h])
    by_cases h0 : Dw.slots s.length = 0
    · go_enter Tryd.func46, Tryd.ntmps46
      go_wp2_with fail
      refine (rslots_any s.length _).mono ?_
      rintro e w1 ⟨rfl, hb1⟩
      go_wp2_with fail
      go_ret
      exact ⟨by rw [HS.out]; rfl, hb1⟩
    · have b8 : (((Dw.slots s.length : Nat) : Int) == 0) = false := by rw [beq_eq_false_iff_ne]; omega
      have b6 : ((Dw.slots s.length : Nat) : Int) < (i : Int) := by omega
      have b0 : ¬ ((i : Int) < 0) := by omega
      go_enter Tryd.func46, Tryd.ntmps46
      go_wp2_with fail
      refine (rslots_any s.length _).mono ?_
      rintro e w1 ⟨rfl, hb1⟩
      go_wp2_with fail
      go_ret
      exact ⟨by rw [HS.out]; rfl, hb1⟩

theorem rbrecord_any (s : List UInt8) (hs : s.length ≤ 400) (I : Int) (i : Nat) (hI : I = (i : Int)) (hi : i ≤ 100) (w : World) :
    Calls Tryd.prog 33 #[.string ⟨s.toArray⟩, .int .i64 I] w fun e w' => e = .returned (.tuple #[recV (Dw.decodeR (Dw.slot s i)), .int .i64 (Dw.decodeE (Dw.slot s i))]) ∧ Below w.heap.size w w' := by
  subst hI
  have hB0 := (Below.refl w.heap.size w).alloc (Nat.le_refl _) (.cells #[.int .i64 0, .int .u64 0, .int .u64 0] 63)
  have hC0 := heap_alloc_new w (.cells #[.int .i64 0, .int .u64 0, .int .u64 0] 63)
  go_enter Tryd.func33, Tryd.ntmps33
  go_wp2_with fail
  refine (rslot_any s hs _ i rfl hi _).mono ?_
  rintro e w1 ⟨rfl, hb1⟩
  have hC1 := (hb1.block w.heap.size (by simp)).trans hC0
  have hB1 := hB0.trans (hb1.mono hB0.size)
  clear hB0 hC0 hb1
  go_wp2_with fail
  refine (rdecode_any _ _).mono ?_
  rintro e w2 ⟨rfl, hb2⟩
  have hC2 := (hb2.block w.heap.size (block_lt hC1)).trans hC1
  have hB2 := hB1.trans (hb2.mono hB1.size)
  clear hB1 hC1 hb2
  generalize hr : Dw.decodeR (Dw.slot s i) = r at *
  have Hr := Lib.hid hr; clear hr
  obtain ⟨k, q, d⟩ := r
  go_wp2_with (first | (refine wpList_load_block rfl 63 _ rfl rfl hC2 Tryd.underlying63 rfl (by kernel_rfl) ?_) | (refine wpList_store_block rfl 63 _ _ rfl rfl rfl hC2 (by kernel_rfl) rfl (by simp [Value.oneCell']) ?_))
  refine bodyPost_ret (results_cell_tmp rfl _ _ _ _ _ _ _ (by rfl) (setRow_heap _ _ _ _ _ _ hC2) Tryd.underlying63 rfl (by kernel_rfl)) rfl ⟨?_, below_setRow hB2 (Nat.le_refl _) _⟩
  rw [Hr.out]; rfl

set_option maxHeartbeats 1000000 in
theorem rstate_any (s : List UInt8) (hs : s.length ≤ 400) (I : Int) (i : Nat) (hI : I = (i : Int)) (hi : i ≤ 100) (w : World) :
    Calls Tryd.prog 32 #[.string ⟨s.toArray⟩, .int .i64 I] w fun e w' => e = .returned (.int .i64 ((Dw.state s i : Nat) : Int)) ∧ Below w.heap.size w w' := by
  subst hI
  have hcs : _ := stateOf_cases i (Dw.slot s i)
  change (_ ∧ Dw.state s i = _) ∨ (_ ∧ _ ∧ Dw.state s i = _) ∨ (_ ∧ _ ∧ _ ∧ Dw.state s i = _) ∨ (_ ∧ _ ∧ _ ∧ Dw.state s i = _) ∨ (_ ∧ _ ∧ _ ∧ Dw.state s i = _) ∨ (_ ∧ _ ∧ _ ∧ Dw.state s i = _) at hcs
  go_enter Tryd.func32, Tryd.ntmps32
  go_wp2_with fail
  refine (rbrecord_any s hs _ i rfl hi _).mono ?_
  rintro e w1 ⟨rfl, hb1⟩
  generalize Dw.decodeE (Dw.slot s i) = er at *
  generalize Dw.decodeR (Dw.slot s i) = r at *
  obtain ⟨k, q, d⟩ := r
  have hB := hb1.alloc hb1.size (.cells #[.int .i64 k, .int .u64 q, .int .u64 d] 63)
  rcases hcs with ⟨rfl, hst⟩ | ⟨h5, h0, hst⟩ | ⟨rfl, rfl, hk, hst⟩ | ⟨rfl, rfl, hk, hst⟩ | ⟨rfl, hi, hk, hst⟩ | ⟨rfl, hi, hk, hst⟩ <;> (have Hst := Lib.hid hst; clear hst)
  · go_wp2_with fail
    go_ret
    exact ⟨by rw [Hst.out]; rfl, hB⟩
  · have b5 : (er == 5) = false := by simpa using h5
    have b0 : (er == 0) = false := by simpa using h0
    go_wp2_with fail
    go_ret
    exact ⟨by rw [Hst.out]; rfl, hB⟩
  · change k = 1 at hk
    subst hk
    go_wp2_with fail
    go_ret
    exact ⟨by rw [Hst.out]; rfl, hB⟩
  · change k ≠ 1 at hk
    have bk : ((k : Int) == 1) = false := by rw [beq_eq_false_iff_ne]; omega
    go_wp2_with fail
    go_ret
    exact ⟨by rw [Hst.out]; rfl, hB⟩
  · change k = 1 at hk
    subst hk
    have bi : ((i : Int) == 0) = false := by rw [beq_eq_false_iff_ne]; omega
    go_wp2_with fail
    go_ret
    exact ⟨by rw [Hst.out]; rfl, hB⟩
  · change k ≠ 1 at hk
    have bi : ((i : Int) == 0) = false := by rw [beq_eq_false_iff_ne]; omega
    have bk : ((k : Int) == 1) = false := by rw [beq_eq_false_iff_ne]; omega
    go_wp2_with fail
    go_ret
    exact ⟨by rw [Hst.out]; rfl, hB⟩

set_option maxHeartbeats 1000000 in
theorem rgen_any (s : List UInt8) (hs : s.length ≤ 400) (w : World) :
    Calls Tryd.prog 16 #[.string ⟨s.toArray⟩] w fun e w' => e = .returned (.tuple #[.int .u64 ((Dw.genN s : Nat) : Int), .int .i64 (Dw.genE s)]) ∧ Below w.heap.size w w' := by
  by_cases h2 : Dw.state s 0 = 2
  · have HN := Lib.hid (show Dw.genN s = (Dw.decodeR (Dw.slot s 0)).seq from by unfold Dw.genN; rw [if_pos h2])
    have HE := Lib.hid (show Dw.genE s = 0 from by unfold Dw.genE; rw [if_pos h2])
    have H2 := Lib.hid h2; clear h2
    go_enter Tryd.func16, Tryd.ntmps16
    go_wp2_with fail
    refine (rstate_any s hs _ 0 rfl (by omega) _).mono ?_
    rintro e w1 ⟨rfl, hb1⟩
    rw [H2.out]
    go_wp2_with fail
    refine (rbrecord_any s hs _ 0 rfl (by omega) _).mono ?_
    rintro e w2 ⟨rfl, hb2⟩
    generalize Dw.decodeE (Dw.slot s 0) = er at *
    generalize hr : Dw.decodeR (Dw.slot s 0) = r at *
    have Hr := Lib.hid hr; clear hr
    obtain ⟨k, q, d⟩ := r
    go_wp2_with fail
    go_ret2
    refine ⟨?_, (hb1.trans (hb2.mono hb1.size)).alloc (Nat.le_trans hb1.size hb2.size) _⟩
    rw [HN.out, HE.out]; rfl
  · have HN := Lib.hid (show Dw.genN s = 0 from by unfold Dw.genN; rw [if_neg h2])
    have HE := Lib.hid (show Dw.genE s = 10 from by unfold Dw.genE; rw [if_neg h2])
    go_enter Tryd.func16, Tryd.ntmps16
    go_wp2_with fail
    refine (rstate_any s hs _ 0 rfl (by omega) _).mono ?_
    rintro e w1 ⟨rfl, hb1⟩
    generalize Dw.state s 0 = st at *
    have b2 : ((st : Int) != 2) = true := by rw [bne_iff_ne]; omega
    go_wp2_with fail
    go_ret2
    exact ⟨by rw [HN.out, HE.out]; rfl, hb1⟩
end Go.Proofs.YtmjbpdhkpdpdjaaDoor
