/- Layer 7: record.Body and Encode. -/
import Derived.Test.YtmjbpdhkpdpdjaaDoorLow
import Derived.Lib.AppendStr
namespace Go.Proofs.YtmjbpdhkpdpdjaaDoor
open Go.RowKit Go.Shelf
attribute [local go_sem] Oper.semAt_some

theorem putSize (m n : Nat) : (⟨(Dw.put m n).toArray⟩ : ByteArray).size = m := by simp [ByteArray.size, Dw.put_length]

namespace Dw
def head (k q d : Nat) : List UInt8 := 165 :: UInt8.ofNat k :: (put 8 q ++ put 8 d)
/-- The body of a record. -/
def body (k q d : Nat) : List UInt8 := head k q d ++ put 4 (rev4 (sum (head k q d)))
def encode (k q d : Nat) : List UInt8 := body k q d ++ [90, 60]
theorem head_length (k q d : Nat) : (head k q d).length = 18 := by simp [head, put_length]
theorem rev4_lt (n : Nat) (h : n < 4294967296) : rev4 n < 4294967296 := by unfold rev4; omega
end Dw

theorem cells_head (k q d : Nat) (hk : k < 256) : [Value.int .u8 165, .int .u8 (k : Int)] ++ Lib.strCells ⟨(Dw.put 8 q).toArray⟩ ++ Lib.strCells ⟨(Dw.put 8 d).toArray⟩ = (Dw.head k q d).map fun b => Value.int .u8 (b.toNat : Int) := by
  simp only [Dw.head, Lib.strCells, List.map_cons, List.map_append, List.cons_append, List.nil_append]
  rw [show (UInt8.ofNat k).toNat = k from by simpa using hk]
  rfl

set_option maxRecDepth 100000 in
set_option maxHeartbeats 1000000 in
theorem body_any (K : Int) (k q d : Nat) (hK : K = (k : Int)) (hk : k < 256) (hq : q < 18446744073709551616) (hd : d < 18446744073709551616) (w : World) :
    Calls Tryd.prog 53 #[.agg #[.int .i64 K, .int .u64 q, .int .u64 d]] w fun e w' => e = .returned (.string ⟨(Dw.body k q d).toArray⟩) ∧ Below w.heap.size w w' := by
  subst hK
  obtain ⟨i0, hi, hz0, hz1, hz2⟩ := info_parts infoB
  have hA := ((Below.refl w.heap.size w).alloc (Nat.le_refl _) (.cells #[.int .i64 k, .int .u64 q, .int .u64 d] 70)).alloc (by simp) (.cells #[.int .u8 165, .int .u8 (k : Int)] 5)
  have hB0 := heap_alloc2_old w (.cells #[.int .i64 k, .int .u64 q, .int .u64 d] 70) (.cells #[.int .u8 165, .int .u8 (k : Int)] 5)
  have hC0 := heap_alloc_new (w.alloc (.cells #[.int .i64 k, .int .u64 q, .int .u64 d] 70)) (.cells #[.int .u8 165, .int .u8 (k : Int)] 5)
  have hkb : IntKind.u8.wrap (k : Int) = (k : Int) := by rw [IntKind.wrap_u8']; omega
  have Hh := Lib.hid (cells_head k q d hk)
  have Hbody := Lib.hid (show Dw.body k q d = Dw.head k q d ++ Dw.put 4 (Dw.rev4 (Dw.sum (Dw.head k q d))) from rfl)
  have Hhl := Dw.head_length k q d
  have hsl : Dw.sum (Dw.head k q d) < 4294967296 := Dw.sum_lt _
  have hrl := Dw.rev4_lt _ hsl
  go_enter Tryd.func53, Tryd.ntmps53
  go_wp2_with fail
  refine (put_any _ 8 hq (by decide) _).mono ?_
  rintro e w1 ⟨rfl, hb1⟩
  rw [World.size_alloc] at hC0
  have hB1 := (hb1.block w.heap.size (by simp; omega)).trans hB0
  have hC1 := (hb1.block (w.heap.size + 1) (by simp)).trans hC0
  have hW := hA.trans (hb1.mono hA.size)
  have hown : w1.ownsRow (w.heap.size + 1) 5 1 (.slice (some ⟨w.heap.size + 1, 0, none⟩) 2 2) 2 [.int .u8 165, .int .u8 (k : Int)] :=
    ⟨rfl, .inr ⟨w.heap.size + 1, 2, _, rfl, Nat.le_refl _, hC1, Nat.le_refl _, by unfold maxLen; omega, rfl, rfl⟩⟩
  have hs1 : w.heap.size + 1 < w1.heap.size := (Array.getElem?_eq_some_iff.1 hC1).1
  have hL1 : 2 + (⟨(Dw.put 8 q).toArray⟩ : ByteArray).size ≤ maxLen := by rw [putSize]; decide
  have hL2 : 2 + (⟨(Dw.put 8 q).toArray⟩ : ByteArray).size ≤ 140737488355328 := by rw [putSize]; decide
  clear hA hB0 hC0 hb1
  go_wp2_with (at_builtin; go_loud (refine Lib.wpList_append_own_string _ (by rfl) _ _ 92 9 (by rfl) (w.heap.size + 1) 5 i0 Tryd.underlying92 Tryd.underlying9 hi hz0 hz1 hz2 _ 2 _ (by rfl) hown ⟨(Dw.put 8 q).toArray⟩ (by rfl) hL1 hL2 (Nat.le_of_lt hs1) ?_); intro v2 w2 hown2 hgrow2 _; have hB2 := (hgrow2.block w.heap.size (by omega) (by simp [Value.ownBlock])).trans hB1; have q2 := cell_of_row _ _ 2 _ _ _ hB2; simp only [List.getElem?_toArray, List.getElem?_cons_succ, List.getElem?_cons_zero] at q2; clear hB1 hC1)
  refine (put_any _ 8 hd (by decide) _).mono ?_
  rintro e w3 ⟨rfl, hb3⟩
  have hW2 := hW.grown hgrow2 (by omega) (fun k hk => by simp [Value.ownBlock] at hk; omega)
  have hW3 := hW2.trans (hb3.mono hW2.size)
  have hown3 := hown2.kept (w' := w3) (row := none) ⟨hb3.os, hb3.tape, hb3.output, hb3.size, fun k hk _ => hb3.block k hk⟩ (by rcases h : v2.ownBlock with _ | x <;> simp)
  have hs3 : w.heap.size + 1 ≤ w3.heap.size := Nat.le_trans (Nat.le_of_lt hs1) (Nat.le_trans hgrow2.size hb3.size)
  rw [putSize] at hown3
  clear hown2 hown q2 hB2 hb3 hgrow2 hW hW2 hs1 hL1 hL2
  have hL1 : 10 + (⟨(Dw.put 8 d).toArray⟩ : ByteArray).size ≤ maxLen := by rw [putSize]; decide
  have hL2 : 10 + (⟨(Dw.put 8 d).toArray⟩ : ByteArray).size ≤ 140737488355328 := by rw [putSize]; decide
  go_wp2_with (at_builtin; go_loud (refine Lib.wpList_append_own_string _ (by rfl) _ _ 92 9 (by rfl) (w.heap.size + 1) 5 i0 Tryd.underlying92 Tryd.underlying9 hi hz0 hz1 hz2 _ 10 _ (by rfl) hown3 ⟨(Dw.put 8 d).toArray⟩ (by rfl) hL1 hL2 hs3 ?_); intro v4 w4 hown4 hgrow4 _; have hW4 := hW3.grown hgrow4 (by omega) (fun k hk => by have := hown3.lt k hk; omega); clear hgrow4 hown3)
  rw [putSize, Hh.out] at hown4
  obtain ⟨hln, hr⟩ := hown4
  rcases hr with ⟨_, h0⟩ | ⟨g, cap, cur, rfl, hbg, hg, hnc, hcm, hcs, htake⟩
  · exact absurd h0 (by decide)
  have hcell : ∀ j, j < 18 → w4.cell? ⟨g, j, none⟩ = (Dw.head k q d)[j]?.map fun b => Value.int .u8 (b.toNat : Int) := fun j hj => by
    rw [cell_of_row _ _ j _ _ _ hg]
    have := congrArg (fun l : List Value => l[j]?) htake
    simp only [List.getElem?_map] at this
    rw [← this, List.getElem?_take_of_lt (by omega)]
    simp
  have kc : ∀ w', Keep w4 w' → (convert 92 9 (.slice (some ⟨g, 0, none⟩) 18 cap)).run Tryd.prog w' = .ok (.string ⟨(Dw.head k q d).toArray⟩) w' := fun w' hk' => by
    have := run_convert_bytes_back (P := Tryd.prog) w' 92 9 5 ⟨g, 0, none⟩ cap (Dw.head k q d) Tryd.underlying92 Tryd.underlying5 Tryd.underlying9 (fun j hj => by
      rw [addr_add]
      have e1 := hcell j (by rw [Hhl] at hj; exact hj)
      have hj' : j < (Dw.head k q d).length := hj
      rw [List.getElem?_eq_getElem hj'] at e1
      have hlt : g < w4.heap.size := (Array.getElem?_eq_some_iff.1 hg).1
      exact (hk'.cell (p := ⟨g, j, none⟩) hlt id).trans e1)
    rwa [Hhl] at this
  clear hcell hg htake hln hcs
  generalize hh : Dw.head k q d = h at *
  have hhs : (⟨h.toArray⟩ : ByteArray).size ≤ 100000 := by simp [ByteArray.size, Hhl]
  have Hhl' := Lib.hid Hhl
  clear Hhl
  refine wp_pure (List.range 10) 10 (by kernel_rfl) (by kernel_rfl) rfl ?_
  rw [show List.range 10 = [0, 1, 2, 3, 4, 5, 6, 7, 8, 9] from rfl]
  have hu : IntKind.u64.wrap ((Dw.rev4 (Dw.sum h) : Nat) : Int) = ((Dw.rev4 (Dw.sum h) : Nat) : Int) := u64_id (by omega) (by omega)
  have Hhl := Hhl'.out
  have hpl := Dw.put_length 4 (Dw.rev4 (Dw.sum h))
  repeat' (first | (refine pl_nil ?_) | (refine pl_value (v := ?_) rfl rfl ?_ ?_; rotate_left 1; (focus (intro w' hk; have kc' := kc w' hk; go_simp; (first | done | with_reducible rfl | exact rfl))); (try simp only [Act.put, List.setIfInBounds_toArray, List.set_cons_zero, List.set_cons_succ])) | (refine pl_call (v := ?_) (f := ?_) (args := ?_) rfl rfl ?_ ?_ ?_; rotate_left 3; (focus (intro w' hk; have kc' := kc w' hk; go_simp; (first | done | (constructor <;> with_reducible rfl) | with_reducible rfl))); (focus (intro w' hk; first | exact sum_any ⟨h.toArray⟩ hhs w' | exact rev_any _ hsl w' | exact put_any _ 4 (Nat.lt_trans hrl (by decide)) (by decide) w')); (try simp only [Act.put, List.setIfInBounds_toArray, List.set_cons_zero, List.set_cons_succ])) | (refine pl_skip rfl rfl ?_; (try simp only [Act.put, List.setIfInBounds_toArray, List.set_cons_zero, List.set_cons_succ])))
  intro w5 hk5
  simp only [List.drop_succ_cons, List.drop_zero]
  go_wp2_with fail
  go_ret
  refine ⟨?_, hW4.trans (hk5.whole.mono hW4.size)⟩
  rw [Hbody.out]
  exact ret_str (bs_append _ _)

theorem body_length (k q d : Nat) : (Dw.body k q d).length = 22 := by simp [Dw.body, Dw.head_length, Dw.put_length]

set_option maxRecDepth 100000 in
set_option maxHeartbeats 1000000 in
theorem encode_any (K : Int) (k q d : Nat) (hK : K = (k : Int)) (hk : k < 256) (hq : q < 18446744073709551616) (hd : d < 18446744073709551616) (w : World) :
    Calls Tryd.prog 35 #[.agg #[.int .i64 K, .int .u64 q, .int .u64 d]] w fun e w' => e = .returned (.string ⟨(Dw.encode k q d).toArray⟩) ∧ Below w.heap.size w w' := by
  subst hK
  have hl := body_length k q d
  have hE := Lib.hid (show Dw.encode k q d = Dw.body k q d ++ [90, 60] from rfl)
  have hB := (Below.refl w.heap.size w).alloc (Nat.le_refl _) (.cells #[.int .i64 k, .int .u64 q, .int .u64 d] 70)
  go_enter Tryd.func35, Tryd.ntmps35
  go_wp2_with (refine wpList_load_block rfl 70 (.tmp 1) rfl rfl (heap_alloc_new w _) Tryd.underlying70 rfl (by kernel_rfl) ?_)
  refine (body_any _ k q d rfl hk hq hd _).mono ?_
  rintro e w1 ⟨rfl, hb1⟩
  go_wp2_with fail
  go_ret
  exact ⟨by rw [hE.out]; exact ret_str (bs_append _ _), hB.trans (hb1.mono hB.size)⟩

theorem mark_any (w : World) : Calls Tryd.prog 99 #[] w fun e w' => e = .returned (.string ⟨#[90, 60]⟩) ∧ Below w.heap.size w w' := by
  go_enter Tryd.func99, Tryd.ntmps99
  go_wp2_with fail
  go_ret
  exact ⟨rfl, Below.refl _ _⟩
end Go.Proofs.YtmjbpdhkpdpdjaaDoor
