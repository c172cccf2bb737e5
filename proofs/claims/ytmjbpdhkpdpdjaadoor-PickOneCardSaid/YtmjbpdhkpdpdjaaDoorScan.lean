/- Layer 9: scan.Last. -/
import Derived.Test.YtmjbpdhkpdpdjaaDoorStates
import Derived.WalkMore
namespace Go.Proofs.YtmjbpdhkpdpdjaaDoor
open Go.RowKit Go.Shelf
attribute [local go_sem] Oper.semAt_some

namespace Dw
def lastStep (s : List UInt8) (b : Rec × Int) (i : Nat) : Rec × Int := if state s i = 2 ∧ (b.2 ≠ 0 ∨ b.1.seq ≤ (decodeR (slot s i)).seq) then (decodeR (slot s i), 0) else b
def lastN (s : List UInt8) (k : Nat) : Rec × Int := (List.range k).foldl (fun b i => lastStep s b (i + 1)) (zeroRec, 10)
def last (s : List UInt8) : Rec × Int := lastN s (slots s.length)
theorem lastN_succ (s : List UInt8) (k : Nat) : lastN s (k + 1) = lastStep s (lastN s k) (k + 1) := by unfold lastN; rw [List.range_succ, List.foldl_append]; rfl
theorem states_at (s : List UInt8) (k : Nat) (h : k < (states s).length) : (states s)[k] = state s (k + 1) := by simp [states]
end Dw

theorem KeepBut.setRow {X : Nat → Prop} {a w : World} (h : KeepBut X a w) {g : Nat} (hg : X g) (c : Array Value) : KeepBut X a (w.setRow g c) :=
  h.trans ⟨rfl, rfl, rfl, by simp [World.setRow], fun k _ hk => setRow_other w g k _ (fun e => hk (e ▸ hg))⟩

set_option maxRecDepth 100000 in
set_option maxHeartbeats 2000000 in
theorem last_any (s : List UInt8) (hs : s.length ≤ 400) (w : World) :
    Calls Tryd.prog 63 #[.string ⟨s.toArray⟩] w fun e w' => e = .returned (.tuple #[recV (Dw.last s).1, .int .i64 (Dw.last s).2]) ∧ Below w.heap.size w w' := by
  have hB0 := (Below.refl w.heap.size w).alloc (Nat.le_refl _) (.cells #[.int .i64 0, .int .u64 0, .int .u64 0] 70)
  have hC0 := heap_alloc_new w (.cells #[.int .i64 0, .int .u64 0, .int .u64 0] 70)
  have hle := Dw.slots_le s.length
  go_enter Tryd.func63, Tryd.ntmps63
  go_wp2_with fail
  go_step3
  go_wp2_with fail
  go_step3
  go_wp2_with fail
  refine (states_any s hs _).mono ?_
  rintro e w1 ⟨⟨v, rfl, hv⟩, hb1⟩
  have hC1 := (hb1.block w.heap.size (by simp)).trans hC0
  have hB1 := hB0.trans (hb1.mono hB0.size)
  clear hB0 hC0 hb1
  have hs1 := block_lt hC1
  have HB1 := Lib.hid hB1
  clear hB1
  rcases hv with ⟨rfl, hnil⟩ | ⟨g, cap, rfl, hcap, hgB, hg, hcs⟩
  · have hn : Dw.slots s.length = 0 := by rw [← Dw.states_length, hnil]; rfl
    have HL := Lib.hid (show Dw.last s = (Dw.zeroRec, 10) from by unfold Dw.last; rw [hn]; rfl)
    clear hn hnil
    go_wp2_with fail
    go_loopw [3, 11] (fun e i wr => e = .int .i64 10 ∧ i = .int .i64 0 ∧ wr = w1) (fun _ _ _ => 0)
    case atStart => exact ⟨rfl, rfl, rfl⟩
    case round =>
      obtain ⟨rfl, rfl, rfl⟩ := hrel
      go_wp2_with (first | (refine wpList_load_block rfl 70 _ rfl rfl hC1 Tryd.underlying70 rfl (by kernel_rfl) ?_) | (refine wpList_store_block rfl 70 _ _ rfl rfl rfl hC1 (by kernel_rfl) rfl (by simp [Value.oneCell']) ?_))
      (try rw [Exit.noGoto_ret])
      refine bodyPost_ret (results_cell_tmp rfl _ _ _ _ _ _ _ (by rfl) (setRow_heap _ _ _ _ _ _ hC1) Tryd.underlying70 rfl (by kernel_rfl)) rfl ⟨?_, below_setRow HB1.out (Nat.le_refl _) _⟩
      rw [HL.out]; rfl
  · have hn := Dw.states_length s
    have hlen : (Dw.states s).length ≤ 12 := by omega
    have hcs' : ∀ j, j < (Dw.states s).length → w1.cell? ⟨g, j, none⟩ = some (.int .i64 (Dw.state s (j + 1) : Nat)) := fun j hj => by rw [hcs j hj, Dw.states_at]
    have HL := Lib.hid (show Dw.last s = Dw.lastN s (Dw.states s).length from by rw [hn]; rfl)
    have hgs : g ≠ w.heap.size := by simp at hgB; omega
    have Hcs := Lib.hid hcs'
    clear hcs hn hcs'
    generalize (Dw.states s).length = n at *
    go_wp2_with fail
    go_loopw [3, 11] (fun e i wr => ∃ k : Nat, k ≤ n ∧ i = .int .i64 k ∧ e = .int .i64 (Dw.lastN s k).2 ∧ wr.heap[w.heap.size]? = some (.cells #[.int .i64 (Dw.lastN s k).1.kind, .int .u64 (Dw.lastN s k).1.seq, .int .u64 (Dw.lastN s k).1.data] 70 (0, 0)) ∧ KeepBut (fun k => k = w.heap.size) w1 wr) (fun _ i _ => n - (intOf i).toNat)
    case atStart => exact ⟨0, Nat.zero_le _, rfl, rfl, hC1, KeepBut.refl _ _⟩
    case round =>
      obtain ⟨k, hk, rfl, rfl, hC, hK⟩ := hrel
      have hgk := hK.size
      by_cases hlt : k < n
      · have hcell : wr.cell? ⟨g, k, none⟩ = some (.int .i64 (Dw.state s (k + 1) : Nat)) := (hK.cell (p := ⟨g, k, none⟩) hg hgs).trans (Hcs.out k hlt)
        have Hstep := Lib.hid (Dw.lastN_succ s k)
        have hwr : w.heap.size < wr.heap.size := block_lt hC
        generalize hb : Dw.lastN s k = b at *
        have Hb := Lib.hid hb; clear hb
        obtain ⟨⟨bk, bq, bd⟩, be⟩ := b
        by_cases hst : Dw.state s (k + 1) = 2
        · have Hst := Lib.hid hst
          rw [hst] at hcell
          clear hst
          have HC := Lib.hid hC; clear hC
          go_wp2_with fail
          refine (brecord_any s hs _ (k + 1) (by omega) _).mono ?_
          rintro e w2 ⟨rfl, hb2⟩
          have hC2 := (hb2.block _ hwr).trans HC.out
          have hK2 := hK.trans (KeepBut.of_below' hb2)
          have hsz2 := hb2.size
          generalize Dw.decodeE (Dw.slot s (k + 1)) = er at *
          generalize hr : Dw.decodeR (Dw.slot s (k + 1)) = r at *
          have Hr := Lib.hid hr; clear hr
          obtain ⟨rk, rq, rd⟩ := r
          have hC3 := (heap_alloc_old w2 (.cells #[.int .i64 rk, .int .u64 rq, .int .u64 rd] 70) _ (block_lt hC2)).trans hC2
          have hK3 := hK2.alloc (.cells #[.int .i64 rk, .int .u64 rq, .int .u64 rd] 70)
          obtain ⟨cA, cB, cC⟩ := cells3 hC2
          have hlt2 := block_lt hC2
          have hsz3 : w.heap.size < w2.heap.size := hlt2
          clear hb2 hcell
          by_cases h0 : be = 0 ∧ rq < bq
          · obtain ⟨h0, hq⟩ := h0
            have hq' : (rq : Int) < (bq : Int) := by omega
            subst h0
            have HC3 := Lib.hid hC3; have HC2 := Lib.hid hC2; clear hC3 hC2
            go_wp2_with fail
            go_roundw
            case rel =>
              have e : Dw.lastN s (k + 1) = (⟨bk, bq, bd⟩, 0) := by
                rw [Hstep.out]; unfold Dw.lastStep; rw [Hr.out, if_neg]
                rintro ⟨_, h | h⟩
                · exact h rfl
                · simp at h; omega
              exact ⟨k + 1, by omega, by go_num, by rw [e], by rw [e]; exact HC3.out, hK3⟩
            case measure => simp [intOf]; omega
          · have e : Dw.lastN s (k + 1) = (⟨rk, rq, rd⟩, 0) := by
              rw [Hstep.out]; unfold Dw.lastStep; rw [Hr.out, if_pos]
              refine ⟨Hst.out, ?_⟩
              by_cases hbe : be = 0
              · exact .inr (by simp; omega)
              · exact .inl hbe
            have E := Lib.hid e
            clear e
            have fin : (((w2.alloc (.cells #[.int .i64 rk, .int .u64 rq, .int .u64 rd] 70))).setRow w.heap.size #[.int .i64 rk, .int .u64 rq, .int .u64 rd]).heap[w.heap.size]? = some (.cells #[.int .i64 rk, .int .u64 rq, .int .u64 rd] 70 (0, 0)) := setRow_heap _ _ _ _ _ _ hC3
            have finK : KeepBut (fun k => k = w.heap.size) w1 (((w2.alloc (.cells #[.int .i64 rk, .int .u64 rq, .int .u64 rd] 70))).setRow w.heap.size #[.int .i64 rk, .int .u64 rq, .int .u64 rd]) := hK3.setRow rfl _
            have hR3 := heap_alloc_new w2 (.cells #[.int .i64 rk, .int .u64 rq, .int .u64 rd] 70)
            have HF := Lib.hid fin; have HK := Lib.hid finK; clear fin finK hC2
            by_cases hbe : be = 0
            · have hq : ¬ rq < bq := fun h => h0 ⟨hbe, h⟩
              have hq' : ¬ (rq : Int) < (bq : Int) := by omega
              subst hbe
              clear hq h0
              go_wp2_with (first | (refine wpList_load_block rfl 70 _ rfl rfl hR3 Tryd.underlying70 rfl (by kernel_rfl) ?_) | (refine wpList_store_block rfl 70 _ _ rfl rfl rfl hR3 (by kernel_rfl) rfl (by simp [Value.oneCell']) ?_) | (refine wpList_load_block rfl 70 _ rfl rfl hC3 Tryd.underlying70 rfl (by kernel_rfl) ?_) | (refine wpList_store_block rfl 70 _ _ rfl rfl rfl hC3 (by kernel_rfl) rfl (by simp [Value.oneCell']) ?_))
              go_roundw
              case rel => exact ⟨k + 1, by omega, by go_num, by rw [E.out], by rw [E.out]; exact HF.out, HK.out⟩
              case measure => simp [intOf]; omega
            · have hbe' : (be == 0) = false := by simpa using hbe
              clear hbe h0
              go_wp2_with (first | (refine wpList_load_block rfl 70 _ rfl rfl hR3 Tryd.underlying70 rfl (by kernel_rfl) ?_) | (refine wpList_store_block rfl 70 _ _ rfl rfl rfl hR3 (by kernel_rfl) rfl (by simp [Value.oneCell']) ?_) | (refine wpList_load_block rfl 70 _ rfl rfl hC3 Tryd.underlying70 rfl (by kernel_rfl) ?_) | (refine wpList_store_block rfl 70 _ _ rfl rfl rfl hC3 (by kernel_rfl) rfl (by simp [Value.oneCell']) ?_))
              go_roundw
              case rel => exact ⟨k + 1, by omega, by go_num, by rw [E.out], by rw [E.out]; exact HF.out, HK.out⟩
              case measure => simp [intOf]; omega
        · have hst' : (((Dw.state s (k + 1) : Nat) : Int) != 2) = true := by rw [bne_iff_ne]; omega
          have Hst := Lib.hid hst; clear hst
          have HC := Lib.hid hC; clear hC
          go_wp2_with fail
          go_roundw
          case rel =>
            have e : Dw.lastN s (k + 1) = (⟨bk, bq, bd⟩, be) := by rw [Hstep.out]; unfold Dw.lastStep; rw [if_neg (fun h => Hst.out h.1)]
            exact ⟨k + 1, by omega, by go_num, by rw [e], by rw [e]; exact HC.out, hK⟩
          case measure => simp [intOf]; omega
      · obtain rfl : k = n := by omega
        have hCk := hC
        generalize hb : Dw.lastN s k = b at *
        have Hb := Lib.hid hb; clear hb
        obtain ⟨⟨bk, bq, bd⟩, be⟩ := b
        have HbB := Lib.hid (HB1.out.trans (hK.below (by omega) (by omega)))
        go_wp2_with (first | (refine wpList_load_block rfl 70 _ rfl rfl hCk Tryd.underlying70 rfl (by kernel_rfl) ?_) | (refine wpList_store_block rfl 70 _ _ rfl rfl rfl hCk (by kernel_rfl) rfl (by simp [Value.oneCell']) ?_))
        (try rw [Exit.noGoto_ret])
        refine bodyPost_ret (results_cell_tmp rfl _ _ _ _ _ _ _ (by rfl) (setRow_heap _ _ _ _ _ _ hCk) Tryd.underlying70 rfl (by kernel_rfl)) rfl ⟨?_, below_setRow HbB.out (Nat.le_refl _) _⟩
        rw [HL.out]; rfl
end Go.Proofs.YtmjbpdhkpdpdjaaDoor
