/- Layer 10: pick.Bank, Read, Other, Even. -/
import Derived.Test.YtmjbpdhkpdpdjaaDoorPick
namespace Go.Proofs.YtmjbpdhkpdpdjaaDoor
open Go.RowKit Go.Shelf
attribute [local go_sem] Oper.semAt_some

namespace Dw
def psZero : PS := ⟨0, 0, 0, 0⟩
def readS (a b : List UInt8) : PS := if (best a b).bank = -1 then psZero else best a b
def readE (a b : List UInt8) : Int := if (best a b).bank = -1 then 10 else 0
theorem ofS_none (s : List UInt8) (i : Int) (h : (ofS s i).bank = -1) (hi : i ≠ -1) : ofS s i = psNone := by
  unfold ofS at *
  split
  · rename_i hs; rw [if_pos hs] at h; exact absurd h hi
  · rfl
theorem best_none (a b : List UInt8) (h : (best a b).bank = -1) : best a b = psNone := by
  unfold best at *
  split
  · rename_i h1; rw [if_pos h1] at h; exact ofS_none _ _ h (by decide)
  · rename_i h1; rw [if_neg h1] at h
    split
    · rename_i h2; rw [if_pos h2] at h; exact ofS_none _ _ h (by decide)
    · rename_i h2; rw [if_neg h2] at h; exact ofS_none _ _ h (by decide)
theorem best_bank (a b : List UInt8) : (best a b).bank = -1 ∨ (best a b).bank = 0 ∨ (best a b).bank = 1 := by
  have h : ∀ s i, (ofS s i).bank = -1 ∨ (ofS s i).bank = i := fun s i => by unfold ofS; split <;> simp [psNone]
  unfold best
  have h0 := h a 0
  have h1 := h b 1
  split
  · omega
  · split <;> omega
end Dw
abbrev flashV (a b : List UInt8) (e0 e1 li : Int) : Value := .agg #[.string ⟨a.toArray⟩, .string ⟨b.toArray⟩, .int .i64 e0, .int .i64 e1, .int .i64 li]
abbrev flashC (a b : List UInt8) (e0 e1 li : Int) : Array Value := #[.string ⟨a.toArray⟩, .string ⟨b.toArray⟩, .int .i64 e0, .int .i64 e1, .int .i64 li]

set_option maxRecDepth 100000 in
set_option maxHeartbeats 1000000 in
theorem bank_any (a b : List UInt8) (ha : a.length ≤ 400) (hb : b.length ≤ 400) (e0 e1 li : Int) (w : World) (hn : NoneAt w) :
    Calls Tryd.prog 14 #[flashV a b e0 e1 li] w fun e w' => e = .returned (.int .i64 (Dw.best a b).bank) ∧ Below w.heap.size w w' := by
  have hB := (Below.refl w.heap.size w).alloc (Nat.le_refl _) (.cells (flashC a b e0 e1 li) 25)
  have hN := hn.next hB
  have hF := heap_alloc_new w (.cells (flashC a b e0 e1 li) 25)
  go_enter Tryd.func14, Tryd.ntmps14
  go_wp2_with (first | (refine wpList_load_block rfl 25 _ rfl rfl hF Tryd.underlying25 rfl (by kernel_rfl) ?_) | (refine wpList_store_block rfl 25 _ _ rfl rfl rfl hF (by kernel_rfl) rfl (by simp [Value.oneCell']) ?_))
  refine (best_any a b ha hb e0 e1 li _ hN).mono ?_
  rintro e w1 ⟨rfl, hb1⟩
  generalize hbe : Dw.best a b = be at *
  have Hbe := Lib.hid hbe; clear hbe
  have hf : (Instr.field 35 (psV be) 0).run Tryd.prog w1 = .ok (.int .i64 be.bank) w1 := by kernel_rfl
  go_wp2_with fail
  go_ret
  exact ⟨by rw [Hbe.out]; rfl, hB.trans (hb1.mono hB.size)⟩

set_option maxRecDepth 100000 in
set_option maxHeartbeats 1000000 in
theorem read_any (a b : List UInt8) (ha : a.length ≤ 400) (hb : b.length ≤ 400) (e0 e1 li : Int) (w : World) (hn : NoneAt w) :
    Calls Tryd.prog 17 #[flashV a b e0 e1 li] w fun e w' => e = .returned (.tuple #[psV (Dw.readS a b), .int .i64 (Dw.readE a b)]) ∧ Below w.heap.size w w' := by
  go_enter Tryd.func17, Tryd.ntmps17
  go_wp2_with fail
  have hC0 := heap_alloc2_new w (.cells (flashC a b e0 e1 li) 25) (.cells #[.int .i64 0, .int .u64 0, .int .u64 0, .int .u64 0] 35)
  have hB0 := ((Below.refl w.heap.size w).alloc (Nat.le_refl _) (.cells (flashC a b e0 e1 li) 25)).alloc (by simp) (.cells #[.int .i64 0, .int .u64 0, .int .u64 0, .int .u64 0] 35)
  refine (best_any a b ha hb e0 e1 li _ (hn.next hB0)).mono ?_
  rintro e w1 ⟨rfl, hb1⟩
  have hC1 := (hb1.block _ (by simp)).trans hC0
  have hB1 := hB0.trans (hb1.mono hB0.size)
  have hR := Lib.hid (show Dw.readS a b = (if (Dw.best a b).bank = -1 then Dw.psZero else Dw.best a b) ∧ Dw.readE a b = (if (Dw.best a b).bank = -1 then 10 else 0) from ⟨rfl, rfl⟩)
  have hbn := Dw.best_none a b
  have hN1 := hn.next hB1
  clear hC0 hB0 hb1
  generalize hbe : Dw.best a b = be at *
  have Hbe := Lib.hid hbe; clear hbe
  obtain ⟨bb, bg, bq, bd⟩ := be
  have hB2 := hB1.alloc hB1.size (.cells #[.int .i64 bb, .int .u64 bg, .int .u64 bq, .int .u64 bd] 35)
  have hC2 := (heap_alloc_old w1 (.cells #[.int .i64 bb, .int .u64 bg, .int .u64 bq, .int .u64 bd] 35) _ (block_lt hC1)).trans hC1
  obtain ⟨n0, n1, n2, n3⟩ := hn.next hB2
  have HB2 := Lib.hid hB2
  have hs1 := block_lt hC1
  clear hC1 hB1 hB2 hN1
  by_cases hbb : bb = -1
  · subst hbb
    have h2 := hbn rfl
    clear hbn
    cases h2
    simp only [cast0] at *
    go_wp2_with (first | (refine wpList_load_block rfl 35 _ rfl rfl hC2 Tryd.underlying35 rfl (by kernel_rfl) ?_) | (refine wpList_store_block rfl 35 _ _ rfl rfl rfl hC2 (by kernel_rfl) rfl (by simp [Value.oneCell']) ?_))
    refine bodyPost_ret (results_cell_tmp rfl _ _ _ _ _ _ _ (by rfl) (setRow_heap _ _ _ _ _ _ hC2) Tryd.underlying35 rfl (by kernel_rfl)) rfl ⟨?_, below_setRow HB2.out (by omega) _⟩
    rw [hR.out.1, hR.out.2]; rfl
  · have hbb' : (bb == -1) = false := by simpa using hbb
    have HR := Lib.hid (show Dw.readS a b = ⟨bb, bg, bq, bd⟩ ∧ Dw.readE a b = 0 from by rw [hR.out.1, hR.out.2, if_neg hbb, if_neg hbb]; exact ⟨rfl, rfl⟩)
    clear hbb hbn hR
    go_wp2_with (first | (refine wpList_load_block rfl 35 _ rfl rfl hC2 Tryd.underlying35 rfl (by kernel_rfl) ?_) | (refine wpList_store_block rfl 35 _ _ rfl rfl rfl hC2 (by kernel_rfl) rfl (by simp [Value.oneCell']) ?_))
    refine bodyPost_ret (results_cell_tmp rfl _ _ _ _ _ _ _ (by rfl) (setRow_heap _ _ _ _ _ _ hC2) Tryd.underlying35 rfl (by kernel_rfl)) rfl ⟨?_, below_setRow HB2.out (by omega) _⟩
    rw [HR.out.1, HR.out.2]; rfl

def Dw.other (n : Nat) : Nat := if n = 0 then 1 else 0
set_option maxRecDepth 100000 in
theorem other_any (N : Int) (n : Nat) (hN : N = (n : Int)) (hn : n < 1000) (w : World) :
    Calls Tryd.prog 28 #[.int .i64 N] w fun e w' => e = .returned (.int .i64 (Dw.other n : Nat)) ∧ Below w.heap.size w w' := by
  subst hN
  have hw : IntKind.u64.wrap (n : Int) = (n : Int) := u64_id (by omega) (by omega)
  have i0 : (Instr.index 23 (.agg #[.int .i64 1, .int .i64 0]) (.int .u64 0)).run Tryd.prog w = .ok (.int .i64 1) w := by kernel_rfl
  have i1 : (Instr.index 23 (.agg #[.int .i64 1, .int .i64 0]) (.int .u64 1)).run Tryd.prog w = .ok (.int .i64 0) w := by kernel_rfl
  by_cases h : n = 0
  · subst h
    go_enter Tryd.func28, Tryd.ntmps28
    go_wp2_with fail
    go_ret
    exact ⟨rfl, Below.refl _ _⟩
  · have h1 : ¬ (n : Int) < 1 := by omega
    have H := Lib.hid (show Dw.other n = 0 from by unfold Dw.other; rw [if_neg h])
    go_enter Tryd.func28, Tryd.ntmps28
    go_wp2_with fail
    go_ret
    exact ⟨by rw [H.out]; rfl, Below.refl _ _⟩

def Dw.even (a b : List UInt8) : Bool := decide (0 < Dw.slots a.length ∧ Dw.slots a.length = Dw.slots b.length)
set_option maxRecDepth 100000 in
set_option maxHeartbeats 1000000 in
theorem even_any (a b : List UInt8) (ha : a.length ≤ 400) (hb : b.length ≤ 400) (e0 e1 li : Int) (w : World) :
    Calls Tryd.prog 29 #[flashV a b e0 e1 li] w fun e w' => e = .returned (.bool (Dw.even a b)) ∧ Below w.heap.size w w' := by
  have hB := (Below.refl w.heap.size w).alloc (Nat.le_refl _) (.cells (flashC a b e0 e1 li) 25)
  have hF := heap_alloc_new w (.cells (flashC a b e0 e1 li) 25)
  have HE := Lib.hid (show Dw.even a b = decide (0 < Dw.slots a.length ∧ Dw.slots a.length = Dw.slots b.length) from rfl)
  obtain ⟨f0, f1, _⟩ := cells5 hF
  go_enter Tryd.func29, Tryd.ntmps29
  go_wp2_with fail
  generalize w.alloc _ = W at *
  refine wp_letterD (List.range 11) 11 12 (some 3) (NewBlock W #[.int .i64 0, .int .i64 0] 23) rfl rfl (by kernel_rfl) (by kernel_rfl) rfl (fun v A B h hk => h.keep hk) ?_
  rw [show List.range 11 = [0, 1, 2, 3, 4, 5, 6, 7, 8, 9, 10] from rfl]
  (refine pl_value (v := ?_) rfl rfl ?_ ?_; rotate_left 1; (focus (intro w' hk; have k0 := look hk f0; have k1 := look hk f1; go_simp; (first | done | with_reducible rfl | exact rfl))); (try simp only [Act.put, List.setIfInBounds_toArray, List.set_cons_zero, List.set_cons_succ]))
  (refine pl_value (v := ?_) rfl rfl ?_ ?_; rotate_left 1; (focus (intro w' hk; have k0 := look hk f0; have k1 := look hk f1; go_simp; (first | done | with_reducible rfl | exact rfl))); (try simp only [Act.put, List.setIfInBounds_toArray, List.set_cons_zero, List.set_cons_succ]))
  (refine pl_value (v := ?_) rfl rfl ?_ ?_; rotate_left 1; (focus (intro w' hk; have k0 := look hk f0; have k1 := look hk f1; go_simp; (first | done | with_reducible rfl | exact rfl))); (try simp only [Act.put, List.setIfInBounds_toArray, List.set_cons_zero, List.set_cons_succ]))
  (refine pl_value (v := ?_) rfl rfl ?_ ?_; rotate_left 1; (focus (intro w' hk; have k0 := look hk f0; have k1 := look hk f1; go_simp; (first | done | with_reducible rfl | exact rfl))); (try simp only [Act.put, List.setIfInBounds_toArray, List.set_cons_zero, List.set_cons_succ]))
  (refine pl_call (v := ?_) (f := ?_) (args := ?_) rfl rfl ?_ ?_ ?_; rotate_left 3; (focus (intro w' hk; have k0 := look hk f0; have k1 := look hk f1; go_simp; (first | done | (constructor <;> with_reducible rfl) | with_reducible rfl))); (focus (intro w' hk; exact slots_any a.length (by omega) w')); (try simp only [Act.put, List.setIfInBounds_toArray, List.set_cons_zero, List.set_cons_succ]))
  (refine pl_value (v := ?_) rfl rfl ?_ ?_; rotate_left 1; (focus (intro w' hk; have k0 := look hk f0; have k1 := look hk f1; go_simp; (first | done | with_reducible rfl | exact rfl))); (try simp only [Act.put, List.setIfInBounds_toArray, List.set_cons_zero, List.set_cons_succ]))
  (refine pl_value (v := ?_) rfl rfl ?_ ?_; rotate_left 1; (focus (intro w' hk; have k0 := look hk f0; have k1 := look hk f1; go_simp; (first | done | with_reducible rfl | exact rfl))); (try simp only [Act.put, List.setIfInBounds_toArray, List.set_cons_zero, List.set_cons_succ]))
  (refine pl_value (v := ?_) rfl rfl ?_ ?_; rotate_left 1; (focus (intro w' hk; have k0 := look hk f0; have k1 := look hk f1; go_simp; (first | done | with_reducible rfl | exact rfl))); (try simp only [Act.put, List.setIfInBounds_toArray, List.set_cons_zero, List.set_cons_succ]))
  (refine pl_value (v := ?_) rfl rfl ?_ ?_; rotate_left 1; (focus (intro w' hk; have k0 := look hk f0; have k1 := look hk f1; go_simp; (first | done | with_reducible rfl | exact rfl))); (try simp only [Act.put, List.setIfInBounds_toArray, List.set_cons_zero, List.set_cons_succ]))
  (refine pl_call (v := ?_) (f := ?_) (args := ?_) rfl rfl ?_ ?_ ?_; rotate_left 3; (focus (intro w' hk; have k0 := look hk f0; have k1 := look hk f1; go_simp; (first | done | (constructor <;> with_reducible rfl) | with_reducible rfl))); (focus (intro w' hk; exact slots_any b.length (by omega) w')); (try simp only [Act.put, List.setIfInBounds_toArray, List.set_cons_zero, List.set_cons_succ]))
  (refine pl_value (v := ?_) rfl rfl ?_ ?_; rotate_left 1; (focus (intro w' hk; have k0 := look hk f0; have k1 := look hk f1; go_simp; (first | done | with_reducible rfl | exact rfl))); (try simp only [Act.put, List.setIfInBounds_toArray, List.set_cons_zero, List.set_cons_succ]))
  refine pl_nil ?_
  refine ⟨rfl, sure_new (fun w' _ => by go_simp), ?_⟩
  rintro v W2 hk2 ⟨g, rfl, hg, hgc⟩
  simp only [List.drop_succ_cons, List.drop_zero, List.setIfInBounds_toArray, List.set_cons_zero, List.set_cons_succ]
  have hB2 := hB.trans (hk2.whole.mono hB.size)
  have hgB : w.heap.size ≤ g := Nat.le_trans hB.size hg
  have hR := setRow_heap W2 g _ #[.int .i64 (Dw.slots a.length : Nat), .int .i64 (Dw.slots b.length : Nat)] _ _ hgc
  obtain ⟨q0, q1⟩ := cells2 hR
  have hB3 := Lib.hid (below_setRow hB2 hgB #[.int .i64 (Dw.slots a.length : Nat), .int .i64 (Dw.slots b.length : Nat)])
  clear hB2 hB hF f0 f1 hR
  refine wpList_store_block rfl 23 _ _ rfl rfl rfl hgc (by kernel_rfl) rfl (by simp [Value.oneCell']) ?_
  generalize World.setRow W2 g _ = W3 at *
  clear hgc hk2 hg
  generalize Dw.slots a.length = x at *
  generalize Dw.slots b.length = y at *
  by_cases h0 : 0 < x
  · have h0' : (0 : Int) < (x : Int) := by omega
    go_wp2_with fail
    go_ret
    refine ⟨?_, hB3.out⟩
    rw [HE.out]
    refine ret_bool ?_
    show ((x : Int) == (y : Int)) = _
    rw [beq_nat]; simp [h0]
  · have h0' : ¬ (0 : Int) < (x : Int) := by omega
    go_wp2_with fail
    go_ret
    exact ⟨by rw [HE.out]; simp [h0], hB3.out⟩
end Go.Proofs.YtmjbpdhkpdpdjaaDoor
