/- Layer 8: bank.State, Record, Generation. -/
import Derived.Test.YtmjbpdhkpdpdjaaDoorSlot
namespace Go.Proofs.YtmjbpdhkpdpdjaaDoor
open Go.RowKit Go.Shelf
attribute [local go_sem] Oper.semAt_some

namespace Dw
def stateOf (i : Nat) (p : List UInt8) : Nat := if decodeE p = 5 then 0 else if decodeE p = 0 ∧ ((decodeR p).kind = 1 ↔ i = 0) then 2 else 1
def state (s : List UInt8) (i : Nat) : Nat := stateOf i (slot s i)
def genE (s : List UInt8) : Int := if state s 0 = 2 then 0 else 10
def genN (s : List UInt8) : Nat := if state s 0 = 2 then (decodeR (slot s 0)).seq else 0
end Dw

theorem stateOf_cases (i : Nat) (p : List UInt8) : (Dw.decodeE p = 5 ∧ Dw.stateOf i p = 0) ∨ (Dw.decodeE p ≠ 5 ∧ Dw.decodeE p ≠ 0 ∧ Dw.stateOf i p = 1) ∨
    (Dw.decodeE p = 0 ∧ i = 0 ∧ (Dw.decodeR p).kind = 1 ∧ Dw.stateOf i p = 2) ∨ (Dw.decodeE p = 0 ∧ i = 0 ∧ (Dw.decodeR p).kind ≠ 1 ∧ Dw.stateOf i p = 1) ∨
    (Dw.decodeE p = 0 ∧ i ≠ 0 ∧ (Dw.decodeR p).kind = 1 ∧ Dw.stateOf i p = 1) ∨ (Dw.decodeE p = 0 ∧ i ≠ 0 ∧ (Dw.decodeR p).kind ≠ 1 ∧ Dw.stateOf i p = 2) := by
  unfold Dw.stateOf
  by_cases h5 : Dw.decodeE p = 5
  · exact .inl ⟨h5, by rw [if_pos h5]⟩
  · by_cases h0 : Dw.decodeE p = 0
    · by_cases hi : i = 0 <;> by_cases hk : (Dw.decodeR p).kind = 1 <;> simp [h0, hi, hk]
    · exact .inr (.inl ⟨h5, h0, by rw [if_neg h5, if_neg (fun h => h0 h.1)]⟩)

set_option maxHeartbeats 1000000 in
theorem stateOf_any (I : Int) (i : Nat) (hI : I = (i : Int)) (p : List UInt8) (w : World) :
    Calls Tryd.prog 95 #[.int .i64 I, .string ⟨p.toArray⟩] w fun e w' => e = .returned (.int .i64 ((Dw.stateOf i p : Nat) : Int)) ∧ Below w.heap.size w w' := by
  subst hI
  have hcs := stateOf_cases i p
  go_enter Tryd.func95, Tryd.ntmps95
  go_wp2_with fail
  refine (decode_any p _).mono ?_
  rintro e w1 ⟨rfl, hb1⟩
  generalize Dw.decodeE p = er at *
  generalize Dw.decodeR p = r at *
  obtain ⟨k, q, d⟩ := r
  have hB := hb1.alloc hb1.size (.cells #[.int .i64 k, .int .u64 q, .int .u64 d] 70)
  rcases hcs with ⟨rfl, hst⟩ | ⟨h5, h0, hst⟩ | ⟨rfl, rfl, hk, hst⟩ | ⟨rfl, rfl, hk, hst⟩ | ⟨rfl, hi, hk, hst⟩ | ⟨rfl, hi, hk, hst⟩ <;> (have Hst := Lib.hid hst; clear hst)
  · go_wp2_with fail
    go_ret
    exact ⟨by rw [Hst.out]; rfl, hB⟩
  · have b5 : (er == 5) = false := by simpa using h5
    have b0 : (er != 0) = true := by simpa using h0
    go_wp2_with fail
    go_ret
    exact ⟨by rw [Hst.out]; rfl, hB⟩
  · change k = 1 at hk
    subst hk
    go_wp2_with fail
    go_ret
    exact ⟨by rw [Hst.out]; rfl, hB⟩
  · change k ≠ 1 at hk
    have bk : ((k : Int) != 1) = true := by rw [bne_iff_ne]; omega
    go_wp2_with fail
    go_ret
    exact ⟨by rw [Hst.out]; rfl, hB⟩
  · change k = 1 at hk
    subst hk
    have bi : ((i : Int) == 0) = false := by rw [beq_eq_false_iff_ne]; omega
    have bi2 : ((i : Int) != 0) = true := by rw [bne_iff_ne]; omega
    go_wp2_with fail
    go_ret
    exact ⟨by rw [Hst.out]; rfl, hB⟩
  · change k ≠ 1 at hk
    have bi : ((i : Int) == 0) = false := by rw [beq_eq_false_iff_ne]; omega
    have bi2 : ((i : Int) != 0) = true := by rw [bne_iff_ne]; omega
    have bk : ((k : Int) == 1) = false := by rw [beq_eq_false_iff_ne]; omega
    go_wp2_with fail
    go_ret
    exact ⟨by rw [Hst.out]; rfl, hB⟩

theorem state_any (s : List UInt8) (hs : s.length ≤ 400) (I : Int) (i : Nat) (hI : I = (i : Int)) (w : World) :
    Calls Tryd.prog 80 #[.string ⟨s.toArray⟩, .int .i64 I] w fun e w' => e = .returned (.int .i64 ((Dw.state s i : Nat) : Int)) ∧ Below w.heap.size w w' := by
  subst hI
  go_enter Tryd.func80, Tryd.ntmps80
  go_wp2_with fail
  refine (slot_any s hs _ i rfl _).mono ?_
  rintro e w1 ⟨rfl, hb1⟩
  go_wp2_with fail
  refine (stateOf_any _ i rfl _ _).mono ?_
  rintro e w2 ⟨rfl, hb2⟩
  go_wp2_with fail
  go_ret
  exact ⟨rfl, hb1.trans (hb2.mono hb1.size)⟩

theorem brecord_any (s : List UInt8) (hs : s.length ≤ 400) (I : Int) (i : Nat) (hI : I = (i : Int)) (w : World) :
    Calls Tryd.prog 87 #[.string ⟨s.toArray⟩, .int .i64 I] w fun e w' => e = .returned (.tuple #[recV (Dw.decodeR (Dw.slot s i)), .int .i64 (Dw.decodeE (Dw.slot s i))]) ∧ Below w.heap.size w w' := by
  subst hI
  have hB0 := (Below.refl w.heap.size w).alloc (Nat.le_refl _) (.cells #[.int .i64 0, .int .u64 0, .int .u64 0] 70)
  have hC0 := heap_alloc_new w (.cells #[.int .i64 0, .int .u64 0, .int .u64 0] 70)
  go_enter Tryd.func87, Tryd.ntmps87
  go_wp2_with fail
  refine (slot_any s hs _ i rfl _).mono ?_
  rintro e w1 ⟨rfl, hb1⟩
  have hC1 := (hb1.block w.heap.size (by simp)).trans hC0
  have hB1 := hB0.trans (hb1.mono hB0.size)
  clear hB0 hC0 hb1
  go_wp2_with fail
  refine (decode_any _ _).mono ?_
  rintro e w2 ⟨rfl, hb2⟩
  have hC2 := (hb2.block w.heap.size (block_lt hC1)).trans hC1
  have hB2 := hB1.trans (hb2.mono hB1.size)
  clear hB1 hC1 hb2
  generalize hr : Dw.decodeR (Dw.slot s i) = r at *
  have Hr := Lib.hid hr; clear hr
  obtain ⟨k, q, d⟩ := r
  go_wp2_with (first | (refine wpList_load_block rfl 70 _ rfl rfl hC2 Tryd.underlying70 rfl (by kernel_rfl) ?_) | (refine wpList_store_block rfl 70 _ _ rfl rfl rfl hC2 (by kernel_rfl) rfl (by simp [Value.oneCell']) ?_))
  refine bodyPost_ret (results_cell_tmp rfl _ _ _ _ _ _ _ (by rfl) (setRow_heap _ _ _ _ _ _ hC2) Tryd.underlying70 rfl (by kernel_rfl)) rfl ⟨?_, below_setRow hB2 (Nat.le_refl _) _⟩
  rw [Hr.out]; rfl

set_option maxHeartbeats 1000000 in
theorem gen_any (s : List UInt8) (hs : s.length ≤ 400) (w : World) :
    Calls Tryd.prog 62 #[.string ⟨s.toArray⟩] w fun e w' => e = .returned (.tuple #[.int .u64 ((Dw.genN s : Nat) : Int), .int .i64 (Dw.genE s)]) ∧ Below w.heap.size w w' := by
  by_cases h2 : Dw.state s 0 = 2
  · have HN := Lib.hid (show Dw.genN s = (Dw.decodeR (Dw.slot s 0)).seq from by unfold Dw.genN; rw [if_pos h2])
    have HE := Lib.hid (show Dw.genE s = 0 from by unfold Dw.genE; rw [if_pos h2])
    have HD := Lib.hid (show Dw.decodeE (Dw.slot s 0) = 0 from by
      have := stateOf_cases 0 (Dw.slot s 0)
      change Dw.stateOf 0 (Dw.slot s 0) = 2 at h2
      omega)
    have H2 := Lib.hid h2; clear h2
    go_enter Tryd.func62, Tryd.ntmps62
    go_wp2_with fail
    refine (state_any s hs _ 0 rfl _).mono ?_
    rintro e w1 ⟨rfl, hb1⟩
    rw [H2.out]
    go_wp2_with fail
    refine (brecord_any s hs _ 0 rfl _).mono ?_
    rintro e w2 ⟨rfl, hb2⟩
    rw [HD.out]
    generalize hr : Dw.decodeR (Dw.slot s 0) = r at *
    have Hr := Lib.hid hr; clear hr
    obtain ⟨k, q, d⟩ := r
    go_wp2_with fail
    go_ret2
    refine ⟨?_, (hb1.trans (hb2.mono hb1.size)).alloc (Nat.le_trans hb1.size hb2.size) _⟩
    rw [HN.out, HE.out]; rfl
  · have HN := Lib.hid (show Dw.genN s = 0 from by unfold Dw.genN; rw [if_neg h2])
    have HE := Lib.hid (show Dw.genE s = 10 from by unfold Dw.genE; rw [if_neg h2])
    go_enter Tryd.func62, Tryd.ntmps62
    go_wp2_with fail
    refine (state_any s hs _ 0 rfl _).mono ?_
    rintro e w1 ⟨rfl, hb1⟩
    generalize Dw.state s 0 = st at *
    have b2 : ((st : Int) != 2) = true := by rw [bne_iff_ne]; omega
    go_wp2_with fail
    go_ret2
    exact ⟨by rw [HN.out, HE.out]; rfl, hb1⟩
end Go.Proofs.YtmjbpdhkpdpdjaaDoor
