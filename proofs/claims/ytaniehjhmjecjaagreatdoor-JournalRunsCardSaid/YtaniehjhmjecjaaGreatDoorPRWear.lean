/- Layer 12: Wear of any flash, and the reference's; what is big. -/
import Derived.Test.YtaniehjhmjecjaaGreatDoorPRPut12
import Derived.Test.YtaniehjhmjecjaaGreatDoorP19
import Derived.Test.YtaniehjhmjecjaaGreatDoorP20
namespace Go.Proofs.YtaniehjhmjecjaaGreatDoor
open Go.RowKit Go.Shelf
attribute [local go_sem] Oper.semAt_some

namespace Dw
/-- The numbers of a flash that came in, both ends. -/
def FlRange2 (f : Fl) : Prop := (f.li ≤ 9223372036854775807 ∧ -9223372036854775808 ≤ f.e0 ∧ -9223372036854775808 ≤ f.e1) ∧ f.e0 ≤ 9223372036854775807 ∧ f.e1 ≤ 9223372036854775807
theorem big_mask {f : Fl} {ss : List Stp} (h : big12 f ss = false) : ∀ s ∈ ss, s.mask.length ≤ 400 := by
  intro s hs
  have hl := (not_big h).2.2
  obtain ⟨k, hk⟩ := List.getElem?_of_mem hs
  have hkl := (List.getElem?_eq_some_iff.1 hk).1
  by_cases hc : 400 < s.mask.length
  · rw [big_of hk (by omega) hc] at h; cases h
  · omega
end Dw
set_option maxRecDepth 100000 in
theorem wearW_any (f : Dw.Fl) (hr : Dw.FlRange2 f) (w : World) :
    Calls Tryz.prog 20 #[flV f] w fun e w' => e = .returned (.int .i64 (IntKind.i64.wrap (f.e0 + f.e1))) ∧ Below w.heap.size w w' := by
  have b0 := heap_alloc_new w (.cells (flashC f.a f.b f.e0 f.e1 f.li) 25)
  have vB := (Below.refl w.heap.size w).alloc (Nat.le_refl _) (.cells (flashC f.a f.b f.e0 f.e1 f.li) 25)
  obtain ⟨c0, c1, c2, c3, c4⟩ := cells5 b0
  obtain ⟨⟨_, h0, h1⟩, h2, h3⟩ := hr
  obtain ⟨a, b, e0, e1, li⟩ := f
  dsimp only at *
  clear b0
  have hw0 : IntKind.i64.wrap (0 + e0) = e0 := by rw [Int.zero_add]; exact IntWalk.i64_in _ (by omega)
  have hw0' : IntKind.i64.wrap e0 = e0 := IntWalk.i64_in _ (by omega)
  obtain ⟨S, hw1⟩ : ∃ S, IntKind.i64.wrap (e0 + e1) = S := ⟨_, rfl⟩
  rw [hw1]
  have i0 : ∀ w, (Instr.index 23 (.agg #[.int .i64 e0, .int .i64 e1]) (.int .i64 0)).run Tryz.prog w = .ok (.int .i64 e0) w := fun _ => by kernel_rfl
  have i1 : ∀ w, (Instr.index 23 (.agg #[.int .i64 e0, .int .i64 e1]) (.int .i64 1)).run Tryz.prog w = .ok (.int .i64 e1) w := fun _ => by kernel_rfl
  go_enter Tryz.func20, Tryz.ntmps20
  go_wp2_with fail
  generalize w.alloc _ = W at *
  go_loopw [2, 7] (fun s i wr => (i = .int .i64 0 ∧ s = .int .i64 0 ∨ i = .int .i64 1 ∧ s = .int .i64 e0 ∨ i = .int .i64 2 ∧ s = .int .i64 S) ∧ wr = W) (fun _ i _ => 2 - (intOf i).toNat)
  case atStart => exact ⟨.inl ⟨rfl, rfl⟩, rfl⟩
  case round =>
    obtain ⟨⟨rfl, rfl⟩ | ⟨rfl, rfl⟩ | ⟨rfl, rfl⟩, rfl⟩ := hrel
    · go_wp2_with fail
      go_roundw
      case rel => exact ⟨.inr (.inl ⟨rfl, rfl⟩), trivial⟩
      case measure => simp [intOf]
    · go_wp2_with fail
      go_roundw
      case rel => exact ⟨.inr (.inr ⟨rfl, rfl⟩), trivial⟩
      case measure => simp [intOf]
    · go_wp2_with fail
      go_ret
      exact ⟨rfl, vB⟩
set_option maxRecDepth 100000 in
theorem rwear_any (f : Dw.Fl) (w : World) :
    Calls Tryz.prog 21 #[flV f] w fun e w' => e = .returned (.int .i64 (IntKind.i64.wrap (f.e0 + f.e1))) ∧ Below w.heap.size w w' := by
  have b0 := heap_alloc_new w (.cells (flashC f.a f.b f.e0 f.e1 f.li) 37)
  have vB := (Below.refl w.heap.size w).alloc (Nat.le_refl _) (.cells (flashC f.a f.b f.e0 f.e1 f.li) 37)
  obtain ⟨c0, c1, c2, c3, c4⟩ := cells5 b0
  obtain ⟨S, hw1⟩ : ∃ S, IntKind.i64.wrap (f.e0 + f.e1) = S := ⟨_, rfl⟩
  rw [hw1]
  go_enter Tryz.func21, Tryz.ntmps21
  go_wp2_with fail
  go_ret
  exact ⟨rfl, vB⟩
end Go.Proofs.YtaniehjhmjecjaaGreatDoor
