/- Layer 9: the reference's Last and Sound. -/
import Derived.Test.YtmjbpdhkpdpdjaaDoorScan
import Derived.Test.YtmjbpdhkpdpdjaaDoorRBank
namespace Go.Proofs.YtmjbpdhkpdpdjaaDoor
open Go.RowKit Go.Shelf
attribute [local go_sem] Oper.semAt_some

namespace Dw
def sound (s : List UInt8) : Bool := decide (genE s = 0 ∧ (last s).2 = 0)
theorem lastN_e (s : List UInt8) (k : Nat) : (lastN s k).2 = 0 ∨ (lastN s k).2 = 10 := by
  induction k with
  | zero => exact .inr rfl
  | succ k ih =>
    rw [lastN_succ]
    unfold lastStep
    split
    · exact .inl rfl
    · exact ih
theorem last_e (s : List UInt8) : (last s).2 = 0 ∨ (last s).2 = 10 := lastN_e s _
theorem genE_e (s : List UInt8) : genE s = 0 ∨ genE s = 10 := by unfold genE; split <;> simp
end Dw

set_option maxRecDepth 100000 in
set_option maxHeartbeats 2000000 in
theorem rlast_any (s : List UInt8) (hs : s.length ≤ 400) (w : World) :
    Calls Tryd.prog 31 #[.string ⟨s.toArray⟩] w fun e w' => e = .returned (.tuple #[recV (Dw.last s).1, .int .i64 (Dw.last s).2]) ∧ Below w.heap.size w w' := by
  have hle := Dw.slots_le s.length
  have HL := Lib.hid (show Dw.last s = Dw.lastN s (Dw.slots s.length) from rfl)
  go_enter Tryd.func31, Tryd.ntmps31
  go_wp2_with fail
  obtain ⟨W, hW⟩ : ∃ W, (w.alloc (.cells #[.int .i64 0, .int .u64 0, .int .u64 0] 63)).alloc (.cells #[.int .i64 0, .int .u64 0, .int .u64 0] 63) = W := ⟨_, rfl⟩
  have hA := hW ▸ heap_alloc2_old w (.cells #[.int .i64 0, .int .u64 0, .int .u64 0] 63) (.cells #[.int .i64 0, .int .u64 0, .int .u64 0] 63)
  have hC := hW ▸ heap_alloc2_new w (.cells #[.int .i64 0, .int .u64 0, .int .u64 0] 63) (.cells #[.int .i64 0, .int .u64 0, .int .u64 0] 63)
  have hB : Below w.heap.size w W := hW ▸ ((Below.refl w.heap.size w).alloc (Nat.le_refl _) _).alloc (by simp) _
  rw [hW]
  clear hW
  go_loopw [5, 6] (fun e i wr => ∃ k : Nat, k ≤ Dw.slots s.length ∧ i = .int .i64 ((k + 1 : Nat) : Int) ∧ e = .int .i64 (Dw.lastN s k).2 ∧ wr.heap[w.heap.size]? = some (.cells #[.int .i64 0, .int .u64 0, .int .u64 0] 63 (0, 0)) ∧ wr.heap[w.heap.size + 1]? = some (.cells #[.int .i64 (Dw.lastN s k).1.kind, .int .u64 (Dw.lastN s k).1.seq, .int .u64 (Dw.lastN s k).1.data] 63 (0, 0)) ∧ Below w.heap.size w wr) (fun _ i _ => Dw.slots s.length + 1 - (intOf i).toNat)
  case atStart => exact ⟨0, Nat.zero_le _, rfl, rfl, hA, hC, hB⟩
  case round =>
    clear hA hC hB
    obtain ⟨k, hk, rfl, rfl, hA, hC, hB⟩ := hrel
    have hlC := block_lt hC
    have hszB := hB.size
    generalize hn : Dw.slots s.length = n at *
    have Hn := Lib.hid hn; clear hn
    by_cases hlt : k < n
    · have Hstep := Lib.hid (Dw.lastN_succ s k)
      generalize hb : Dw.lastN s k = b at *
      have Hb := Lib.hid hb; clear hb
      obtain ⟨⟨bk, bq, bd⟩, be⟩ := b
      go_wp2_with fail
      refine (rslots_any s.length _).mono ?_
      rintro e w1 ⟨rfl, hb1⟩
      rw [Hn.out]
      have hA1 := (hb1.block _ (by omega)).trans hA
      have hC1 := (hb1.block _ hlC).trans hC
      have hB1 := hB.trans (hb1.mono hB.size)
      clear hA hC hB hb1
      have hle' : (k : Int) + 1 ≤ (n : Int) := by omega
      have hlA1 := block_lt hA1
      have hlC1 := block_lt hC1
      have hA1' := Lib.hid hA1; have hC1' := Lib.hid hC1
      clear hA1 hC1
      go_wp2_with fail
      refine (rbrecord_any s hs _ (k + 1) (by omega) (by omega) _).mono ?_
      rintro e w2 ⟨rfl, hb2⟩
      have hA2 := (hb2.block _ hlA1).trans hA1'.out
      have hC2 := (hb2.block _ hlC1).trans hC1'.out
      have hB2 := hB1.trans (hb2.mono hB1.size)
      have hsz2 := hb2.size
      clear hb2 hB1 hA1' hC1'
      generalize Dw.decodeE (Dw.slot s (k + 1)) = er at *
      generalize hr : Dw.decodeR (Dw.slot s (k + 1)) = r at *
      have Hr := Lib.hid hr; clear hr
      obtain ⟨rk, rq, rd⟩ := r
      have hA3 := (heap_alloc_old w2 (.cells #[.int .i64 rk, .int .u64 rq, .int .u64 rd] 63) _ (block_lt hA2)).trans hA2
      have hC3 := (heap_alloc_old w2 (.cells #[.int .i64 rk, .int .u64 rq, .int .u64 rd] 63) _ (block_lt hC2)).trans hC2
      have hR3 := heap_alloc_new w2 (.cells #[.int .i64 rk, .int .u64 rq, .int .u64 rd] 63)
      have hB3 := hB2.alloc hB2.size (.cells #[.int .i64 rk, .int .u64 rq, .int .u64 rd] 63)
      have HA3 := Lib.hid hA3; have HC3 := Lib.hid hC3; have HR3 := Lib.hid hR3; have HB3 := Lib.hid hB3
      clear hA3 hC3 hR3 hA2 hC2 hB2 hB3
      go_wp2_with fail
      refine (rstate_any s hs _ (k + 1) (by omega) (by omega) _).mono ?_
      rintro e w4 ⟨rfl, hb4⟩
      have hA4 := (hb4.block _ (block_lt HA3.out)).trans HA3.out
      have hC4 := (hb4.block _ (block_lt HC3.out)).trans HC3.out
      have hR4 := (hb4.block _ (block_lt HR3.out)).trans HR3.out
      have hB4 := HB3.out.trans (hb4.mono HB3.out.size)
      have hgC : w2.heap.size ≠ w.heap.size + 1 := by omega
      have hgA : w2.heap.size ≠ w.heap.size := by omega
      clear HA3 HC3 HR3 HB3 hb4 hsz2
      generalize w2.heap.size = g at *
      clear w2
      generalize hst : Dw.state s (k + 1) = st at *
      have Hst := Lib.hid hst; clear hst
      obtain ⟨cA, cB, cC⟩ := cells3 hC4
      obtain ⟨rA, rB, rC⟩ := cells3 hR4
      have hA' : w4.heap[w.heap.size]? = _ ∧ (w4.setRow (w.heap.size + 1) #[.int .i64 rk, .int .u64 rq, .int .u64 rd]).heap[w.heap.size]? = _ := ⟨hA4, (setRow_other w4 (w.heap.size + 1) w.heap.size _ (by omega)).trans hA4⟩
      have HA := Lib.hid hA'
      have HC := Lib.hid (show w4.heap[w.heap.size + 1]? = _ ∧ (w4.setRow (w.heap.size + 1) #[.int .i64 rk, .int .u64 rq, .int .u64 rd]).heap[w.heap.size + 1]? = _ from ⟨hC4, setRow_heap _ _ _ _ _ _ hC4⟩)
      have HB := Lib.hid (show Below w.heap.size w w4 ∧ Below w.heap.size w (w4.setRow (w.heap.size + 1) #[.int .i64 rk, .int .u64 rq, .int .u64 rd]) from ⟨hB4, below_setRow hB4 (by omega) _⟩)
      clear hA4 hA' hB4
      by_cases h2 : st = 2
      · subst h2
        by_cases h0 : be = 0
        · subst h0
          by_cases hq : bq ≤ rq
          · have hq' : (bq : Int) ≤ (rq : Int) := by omega
            have e : Dw.lastN s (k + 1) = (⟨rk, rq, rd⟩, 0) := by
              rw [Hstep.out]; unfold Dw.lastStep; rw [Hr.out, if_pos ⟨Hst.out, .inr hq⟩]
            have E := Lib.hid e
            clear e hq
            go_wp2_with (first | (refine wpList_load_block rfl 63 _ rfl rfl hR4 Tryd.underlying63 rfl (by kernel_rfl) ?_) | (refine wpList_store_block rfl 63 _ _ rfl rfl rfl hR4 (by kernel_rfl) rfl (by simp [Value.oneCell']) ?_) | (refine wpList_load_block rfl 63 _ rfl rfl hC4 Tryd.underlying63 rfl (by kernel_rfl) ?_) | (refine wpList_store_block rfl 63 _ _ rfl rfl rfl hC4 (by kernel_rfl) rfl (by simp [Value.oneCell']) ?_))
            go_roundw
            case rel => exact ⟨k + 1, by omega, by go_num, by rw [E.out], HA.out.2, by rw [E.out]; exact HC.out.2, HB.out.2⟩
            case measure => simp [intOf]; omega
          · have hq' : ¬ (bq : Int) ≤ (rq : Int) := by omega
            have e : Dw.lastN s (k + 1) = (⟨bk, bq, bd⟩, 0) := by
              rw [Hstep.out]; unfold Dw.lastStep; rw [Hr.out, if_neg]
              rintro ⟨_, h | h⟩
              · exact h rfl
              · exact hq h
            have E := Lib.hid e
            clear e hq
            go_wp2_with fail
            go_roundw
            case rel => exact ⟨k + 1, by omega, by go_num, by rw [E.out], HA.out.1, by rw [E.out]; exact HC.out.1, HB.out.1⟩
            case measure => simp [intOf]; omega
        · have h0' : (be != 0) = true := by simpa using h0
          have e : Dw.lastN s (k + 1) = (⟨rk, rq, rd⟩, 0) := by
            rw [Hstep.out]; unfold Dw.lastStep; rw [Hr.out, if_pos ⟨Hst.out, .inl h0⟩]
          have E := Lib.hid e
          clear e h0
          go_wp2_with (first | (refine wpList_load_block rfl 63 _ rfl rfl hR4 Tryd.underlying63 rfl (by kernel_rfl) ?_) | (refine wpList_store_block rfl 63 _ _ rfl rfl rfl hR4 (by kernel_rfl) rfl (by simp [Value.oneCell']) ?_) | (refine wpList_load_block rfl 63 _ rfl rfl hC4 Tryd.underlying63 rfl (by kernel_rfl) ?_) | (refine wpList_store_block rfl 63 _ _ rfl rfl rfl hC4 (by kernel_rfl) rfl (by simp [Value.oneCell']) ?_))
          go_roundw
          case rel => exact ⟨k + 1, by omega, by go_num, by rw [E.out], HA.out.2, by rw [E.out]; exact HC.out.2, HB.out.2⟩
          case measure => simp [intOf]; omega
      · have h2' : ((st : Int) == 2) = false := by rw [beq_eq_false_iff_ne]; omega
        have e : Dw.lastN s (k + 1) = (⟨bk, bq, bd⟩, be) := by
          rw [Hstep.out]; unfold Dw.lastStep; rw [if_neg (fun h => h2 (Hst.out ▸ h.1))]
        have E := Lib.hid e
        clear e h2
        go_wp2_with fail
        go_roundw
        case rel => exact ⟨k + 1, by omega, by go_num, by rw [E.out], HA.out.1, by rw [E.out]; exact HC.out.1, HB.out.1⟩
        case measure => simp [intOf]; omega
    · obtain rfl : k = n := by omega
      go_wp2_with fail
      refine (rslots_any s.length _).mono ?_
      rintro e w1 ⟨rfl, hb1⟩
      rw [Hn.out]
      have hA1 := (hb1.block _ (by omega)).trans hA
      have hC1 := (hb1.block _ hlC).trans hC
      have hB1 := hB.trans (hb1.mono hB.size)
      generalize hb : Dw.lastN s k = b at *
      have Hb := Lib.hid hb; clear hb
      obtain ⟨⟨bk, bq, bd⟩, be⟩ := b
      go_wp2_with (first | (refine wpList_load_block rfl 63 _ rfl rfl hC1 Tryd.underlying63 rfl (by kernel_rfl) ?_) | (refine wpList_store_block rfl 63 _ _ rfl rfl rfl hC1 (by kernel_rfl) rfl (by simp [Value.oneCell']) ?_) | (refine wpList_load_block rfl 63 _ rfl rfl hA1 Tryd.underlying63 rfl (by kernel_rfl) ?_) | (refine wpList_store_block rfl 63 _ _ rfl rfl rfl hA1 (by kernel_rfl) rfl (by simp [Value.oneCell']) ?_))
      refine bodyPost_ret (results_cell_tmp rfl _ _ _ _ _ _ _ (by rfl) (setRow_heap _ _ _ _ _ _ hA1) Tryd.underlying63 rfl (by kernel_rfl)) rfl ⟨?_, below_setRow hB1 (Nat.le_refl _) _⟩
      rw [HL.out]; rfl
end Go.Proofs.YtmjbpdhkpdpdjaaDoor
