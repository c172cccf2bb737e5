/- Layers 3 and 10: flash.New; what the laws of layer 10 call. -/
import Derived.Test.YtmjbpdhkpdpdjaaDoorRead
import Derived.Test.YtmjbpdhkpdpdjaaDoorShelf
namespace Go.Proofs.YtmjbpdhkpdpdjaaDoor
open Go.RowKit Go.Shelf
attribute [local go_sem] Oper.semAt_some

namespace Dw
def ffs (n : Nat) : List UInt8 := List.replicate n 255
theorem ffs_length (n : Nat) : (ffs n).length = n := by simp [ffs]
theorem repeatL_ff (n : Nat) : Lib.repeatL [255] n = ffs n := by
  induction n with
  | zero => rfl
  | succ n ih => rw [Lib.repeatL, ih]; rfl
end Dw

set_option maxRecDepth 100000 in
theorem repeat_ff (n : Nat) (hn : n ≤ 100000) (w : World) :
    Calls Tryd.prog 34 #[.string ⟨#[255]⟩, .int .i64 n] w fun e w' => e = .returned (.string ⟨(Dw.ffs n).toArray⟩) ∧ Below w.heap.size w w' := by
  rcases (by omega : n = 0 ∨ n = 1 ∨ 2 ≤ n) with rfl | rfl | h
  · refine (Tryd.strings_Repeat_zero _ _).mono ?_
    rintro e w' ⟨rfl, rfl⟩
    exact ⟨rfl, Below.refl _ _⟩
  · refine (Tryd.strings_Repeat_one _ _).mono ?_
    rintro e w' ⟨rfl, rfl⟩
    exact ⟨rfl, Below.refl _ _⟩
  · refine (Tryd.strings_Repeat_main ⟨#[255]⟩ n w h (by omega) (by rw [show (⟨#[255]⟩ : ByteArray).size = 1 from rfl]; omega) (by decide)).mono ?_
    rintro e w' ⟨rfl, hb⟩
    exact ⟨by rw [show (⟨#[255]⟩ : ByteArray).data.toList = [255] from rfl, Dw.repeatL_ff], hb⟩

set_option maxRecDepth 100000 in
set_option maxHeartbeats 1000000 in
theorem new_any (n l : Nat) (hn : n ≤ 400) (hl : l ≤ 1000) (w : World) :
    Calls Tryd.prog 18 #[.int .i64 n, .int .i64 l] w fun e w' => e = .returned (flashV (Dw.ffs n) (Dw.ffs n) 0 0 l) ∧ Below w.heap.size w w' := by
  have hB0 := (Below.refl w.heap.size w).alloc (Nat.le_refl _) (.cells (flashC [] [] 0 0 0) 25)
  have hC0 := heap_alloc_new w (.cells (flashC [] [] 0 0 0) 25)
  have n1 : ¬ (n : Int) < 0 := by omega
  have n2 : ¬ (400 : Int) < (n : Int) := by omega
  have n3 : ¬ (l : Int) < 0 := by omega
  have n4 : ¬ (1000 : Int) < (l : Int) := by omega
  go_enter Tryd.func18, Tryd.ntmps18
  go_wp2_with fail
  refine (repeat_ff n (by omega) _).mono ?_
  rintro e w1 ⟨rfl, hb1⟩
  have hC1 := (hb1.block w.heap.size (by simp)).trans hC0
  have hB1 := hB0.trans (hb1.mono hB0.size)
  clear hC0 hB0 hb1
  go_wp2_with (first | (refine wpList_load_block rfl 25 _ rfl rfl hC1 Tryd.underlying25 rfl (by kernel_rfl) ?_) | (refine wpList_store_block rfl 25 _ _ rfl rfl rfl hC1 (by kernel_rfl) rfl (by simp [Value.oneCell']) ?_))
  refine bodyPost_ret (results_cell_row rfl _ _ _ _ _ _ _ (by rfl) (setRow_heap _ _ _ _ _ _ hC1) Tryd.underlying25 rfl (by kernel_rfl)) rfl ⟨rfl, below_setRow hB1 (Nat.le_refl _) _⟩
end Go.Proofs.YtmjbpdhkpdpdjaaDoor
