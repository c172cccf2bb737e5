/- What the statement's proof stands on, part 21: RegionS, RClear, RPut, RPut3, RSt, Res, RSt2. -/
import Derived.Test.YtnaokijcggbfdaaGreatDoorBg18
import Derived.Orders
import Derived.Test.YtnaokijcggbfdaaGreatDoorBg16
import Derived.Laws.IdiomStrings
import Derived.Test.YtnaokijcggbfdaaGreatDoorBg20
import Derived.Test.YtnaokijcggbfdaaGreatDoorBg15
set_option linter.unusedSimpArgs false
set_option linter.unusedVariables false
set_option maxRecDepth 100000
set_option maxHeartbeats 4000000
namespace Go.Proofs.YtnaokijcggbfdaaGreatDoor.RS
open Go.RowKit
theorem keep_setRow {w : World} {b : Nat} {c : Array Value} {t : TypeId} (h : w.heap[b]? = some (.cells c t (0, 0))) : Keep w (w.setRow b c) :=
  ⟨rfl, rfl, rfl, by simp [World.setRow], fun k _ _ => by
    by_cases e : k = b
    · subst e; exact (setRow_heap w k _ c _ _ h).trans h.symm
    · exact setRow_other w b k c e⟩
theorem keep_setCell {w : World} {b : Nat} {v : Value} {t : TypeId} (h : w.heap[b]? = some (.cells #[v] t (0, 0))) : Keep w (w.setCell ⟨b, 0, none⟩ v) :=
  ⟨rfl, rfl, rfl, by simp [World.setCell], fun k _ _ => by
    by_cases e : k = b
    · subst e; exact (heap_setCell_same w k 0 _ t v h).trans h.symm
    · exact heap_setCell_other w ⟨b, 0, none⟩ k v e⟩
section
variable {P : Program} {l : List Oper} {o : Oper} {k : Nat} {ks : List Nat} {w : World} {N : Act → Prop} {a : Act}
theorem pl_same (ho : l[k]? = some o) (hw : Region.wanted o (yielded l.toArray a.tmps) = true)
    (hv : ∀ w', Keep w w' → ∃ w'', (execOp a.eval o).run P w' = .ok .skip w'' ∧ Keep w' w'') (h : PureList P l.toArray w N ks (a.put o.dst undef)) : PureList P l.toArray w N (k :: ks) a :=
  ⟨o, undef, by simpa using ho, .inl ⟨hw, fun w' hk => .inr (.inr ⟨rfl, hv w' hk⟩)⟩, h⟩
theorem same_block {w' : World} (t : TypeId) (p x : Operand) (hop : o.op = .store t p x) {b : Nat} {c : Array Value} {t' : TypeId} (hp : a.eval p = .pointer (some ⟨b, 0, none⟩)) (hx : a.eval x = .agg c)
    (hb : w'.heap[b]? = some (.cells c t' (0, 0))) (hi : (P.info? t).map (·.size) = some c.size) (h1 : c.all (·.oneCell') = true) :
    ∃ w'', (execOp a.eval o).run P w' = .ok .skip w'' ∧ Keep w' w'' := by
  refine ⟨w'.setRow b c, ?_, keep_setRow hb⟩
  have hl := run_storeVar_row (P := P) w' b t' t c c hb hi rfl h1
  simp [execOp, hop, hp, hx, Instr.storeAt, Instr.sureAddr, hl, Result.andThen]
end
end Go.Proofs.YtnaokijcggbfdaaGreatDoor.RS
namespace Go.Proofs.YtnaokijcggbfdaaGreatDoor
open Go.RowKit Go.Shelf
attribute [local go_sem] Oper.semAt_some
namespace Dw
end Dw
end Go.Proofs.YtnaokijcggbfdaaGreatDoor
namespace Go.Proofs.YtnaokijcggbfdaaGreatDoor
open Go.RowKit Go.Shelf
attribute [local go_sem] Oper.semAt_some
theorem rlegal_any (s : Dw.St) (w : World) :
    Calls Tryz.prog 37 #[stV s] w fun e w' => e = .returned (.bool (Dw.legal s)) ∧ Below w.heap.size w w' := by
  have hB0 := (Below.refl w.heap.size w).alloc (Nat.le_refl _) (.cells (stC s) 42)
  have hC0 := han w (.cells (stC s) 42)
  obtain ⟨mo, ar, ho, la, lo, iso⟩ := s
  obtain ⟨c0, c1, c2, c3, c4, c5⟩ := cells6 hC0
  have HB := Lib.hid hB0
  clear hC0 hB0
  cases ho
  · have HLE := Lib.hid (show ∀ la, Dw.legal ⟨mo, ar, false, la, lo, iso⟩ = decide ((0 ≤ mo ∧ mo ≤ 5 ∧ 0 ≤ iso ∧ iso ≤ 15) ∧ (-737280 ≤ la ∧ la ≤ 737280 ∧ -1474560 ≤ lo ∧ lo ≤ 1474560) ∧ (la = 0 ∧ lo = 0)) from fun la => by
      rw [Bool.eq_iff_iff, Dw.legal_iff, decide_eq_true_eq]; simp)
    go_enter Tryz.func37, Tryz.ntmps37
    go_wp2_with fail
    all_goals
      go_ret
      refine ⟨?_, (Below.refl w.heap.size w).alloc (Nat.le_refl _) _⟩
      rw [HLE.out]
      first | exact ret_bool (decide_eq_true (by omega)).symm | exact ret_bool (decide_eq_false (by omega)).symm | exact ret_bool (show (lo == 0) = _ from by rw [Bool.eq_iff_iff]; simp; omega)
  · have HLE := Lib.hid (show Dw.legal ⟨mo, ar, true, la, lo, iso⟩ = decide ((0 ≤ mo ∧ mo ≤ 5 ∧ 0 ≤ iso ∧ iso ≤ 15) ∧ (-737280 ≤ la ∧ la ≤ 737280 ∧ -1474560 ≤ lo ∧ lo ≤ 1474560)) from by
      rw [Bool.eq_iff_iff, Dw.legal_iff, decide_eq_true_eq]; simp)
    go_enter Tryz.func37, Tryz.ntmps37
    go_wp2_with fail
    all_goals
      go_ret
      refine ⟨?_, (Below.refl w.heap.size w).alloc (Nat.le_refl _) _⟩
      rw [HLE.out]
      first | exact ret_bool (decide_eq_true (by omega)).symm | exact ret_bool (decide_eq_false (by omega)).symm
theorem rmode_any (m : Int) (w : World) :
    Calls Tryz.prog 114 #[.int .i64 m] w fun e w' => e = .returned (.bool (decide (0 ≤ m ∧ m ≤ 5))) ∧ Below w.heap.size w w' := by
  by_cases h1 : 0 ≤ m
  · by_cases h2 : m ≤ 5
    · rw [decide_eq_true ⟨h1, h2⟩]
      go_enter Tryz.func114, Tryz.ntmps114
      go_wp2_with fail
      go_ret
      exact ⟨rfl, Below.refl _ _⟩
    · rw [decide_eq_false (fun h => h2 h.2)]
      go_enter Tryz.func114, Tryz.ntmps114
      go_wp2_with fail
      go_ret
      exact ⟨rfl, Below.refl _ _⟩
  · rw [decide_eq_false (fun h => h1 h.1)]
    go_enter Tryz.func114, Tryz.ntmps114
    go_wp2_with fail
    go_ret
    exact ⟨rfl, Below.refl _ _⟩
theorem rneeds_any (m : Int) (w : World) :
    Calls Tryz.prog 47 #[.int .i64 m] w fun e w' => e = .returned (.int .i64 (Dw.needsI m)) ∧ Below w.heap.size w w' := by
  have hn : ∀ m, Dw.needsI m = if m = 1 ∨ m = 5 then 1 else if m = 2 ∨ m = 4 then 2 else if m = 3 then 3 else 0 := fun _ => rfl
  have HN := Lib.hid hn
  clear hn
  go_enter Tryz.func47, Tryz.ntmps47
  go_wp2_with fail
  all_goals
    go_ret
    refine ⟨?_, Below.refl _ _⟩
    rw [HN.out]
    first | rfl | exact ret_int (by simp_all) | exact ret_int (by split <;> omega)
theorem rhome_any (m : Int) (w : World) :
    Calls Tryz.prog 78 #[.int .i64 m] w fun e w' => e = .returned (.bool (Dw.homeB m)) ∧ Below w.heap.size w w' := by
  by_cases h1 : m = 3
  · subst h1
    go_enter Tryz.func78, Tryz.ntmps78
    go_wp2_with fail
    go_ret
    exact ⟨rfl, Below.refl _ _⟩
  · by_cases h2 : m = 4
    · subst h2
      go_enter Tryz.func78, Tryz.ntmps78
      go_wp2_with fail
      go_ret
      exact ⟨rfl, Below.refl _ _⟩
    · have HN := Lib.hid (show Dw.homeB m = false from by unfold Dw.homeB; rw [decide_eq_false h1, decide_eq_false h2]; rfl)
      have h3 : (m == 3) = false := by simpa using h1
      have h4 : (m == 4) = false := by simpa using h2
      go_enter Tryz.func78, Tryz.ntmps78
      go_wp2_with fail
      go_ret
      exact ⟨by rw [HN.out]; rfl, Below.refl _ _⟩
theorem and1 (k : Int) (h : 0 ≤ k ∧ k ≤ 15) : bits .and .i64 k 1 = k % 2 := by
  rcases ones_cases k h with rfl | rfl | rfl | rfl | rfl | rfl | rfl | rfl | rfl | rfl | rfl | rfl | rfl | rfl | rfl | rfl <;> decide +kernel
def soundUp (k : Int) : Nat → Int
  | 0 => 0
  | 1 => (if k % 2 = 0 then 1 else 0)
  | 2 => (if k % 2 = 0 then 1 else 0) + (if k / 2 % 2 = 0 then 1 else 0)
  | 3 => (if k % 2 = 0 then 1 else 0) + (if k / 2 % 2 = 0 then 1 else 0) + (if k / 4 % 2 = 0 then 1 else 0)
  | _ => Dw.soundN k
theorem sup_all : ∀ (k : Fin 16) (j : Fin 4), (((k.val : Nat) : Int) / 2 ^ j.val % 2 = 0 → wrap64 (soundUp ((k.val : Nat) : Int) j.val + 1) = soundUp ((k.val : Nat) : Int) (j.val + 1)) ∧ (((k.val : Nat) : Int) / 2 ^ j.val % 2 ≠ 0 → soundUp ((k.val : Nat) : Int) j.val = soundUp ((k.val : Nat) : Int) (j.val + 1)) := by decide +kernel
theorem sup_hit (k : Int) (h : 0 ≤ k ∧ k ≤ 15) (j : Nat) (hj : j < 4) (hz : k / 2 ^ j % 2 = 0) : wrap64 (soundUp k j + 1) = soundUp k (j + 1) := by
  have := (sup_all ⟨k.toNat, by omega⟩ ⟨j, hj⟩).1
  rw [show ((k.toNat : Nat) : Int) = k from by omega] at this
  exact this hz
theorem sup_miss (k : Int) (h : 0 ≤ k ∧ k ≤ 15) (j : Nat) (hj : j < 4) (hz : ¬ k / 2 ^ j % 2 = 0) : soundUp k j = soundUp k (j + 1) := by
  have := (sup_all ⟨k.toNat, by omega⟩ ⟨j, hj⟩).2
  rw [show ((k.toNat : Nat) : Int) = k from by omega] at this
  exact this hz
theorem rsens_any (s : Dw.St) (h : 0 ≤ s.iso ∧ s.iso ≤ 15) (w : World) :
    Calls Tryz.prog 45 #[stV s] w fun e w' => e = .returned (.int .i64 (Dw.soundN s.iso)) ∧ Below w.heap.size w w' := by
  obtain ⟨mo, ar, ho, la, lo, k⟩ := s
  have hB0 := (Below.refl w.heap.size w).alloc (Nat.le_refl _) (.cells (stC ⟨mo, ar, ho, la, lo, k⟩) 42)
  have hC0 := han w (.cells (stC ⟨mo, ar, ho, la, lo, k⟩) 42)
  obtain ⟨c0, c1, c2, c3, c4, c5⟩ := cells6 hC0
  have h' : 0 ≤ k ∧ k ≤ 15 := h
  have HH := Lib.hid h'
  clear h h' hC0
  go_enter Tryz.func45, Tryz.ntmps45
  go_wp2_with fail
  generalize w.alloc _ = W at *
  go_loopw [3, 4] (fun n i wr => ∃ j : Nat, j ≤ 4 ∧ i = .int .i64 j ∧ n = .int .i64 (soundUp k j) ∧ wr = W) (fun _ i _ => 4 - (intOf i).toNat)
  case atStart => exact ⟨0, Nat.zero_le _, rfl, rfl, rfl⟩
  case round =>
    obtain ⟨j, hj, rfl, rfl, rfl⟩ := hrel
    have h' := HH.out
    rcases (by omega : j = 0 ∨ j = 1 ∨ j = 2 ∨ j = 3 ∨ j = 4) with rfl | rfl | rfl | rfl | rfl
    · have hb1 : bits .and .i64 (k) 1 = k % 2 := and1 _ (by omega)
      by_cases hz : k % 2 = 0
      · rw [hz] at hb1
        go_wp2_with fail
        exact ⟨⟨1, by decide, rfl, int_val (sup_hit k HH.out 0 (by decide) (by show k / 1 % 2 = 0; omega)), trivial⟩, by simp [intOf]⟩
      · have hz1 : k % 2 = 1 := by omega
        rw [hz1] at hb1
        go_wp2_with fail
        exact ⟨⟨1, by decide, rfl, int_val (sup_miss k HH.out 0 (by decide) (by show ¬ k / 1 % 2 = 0; omega)), trivial⟩, by simp [intOf]⟩
    · have hb1 : bits .and .i64 (k / 2) 1 = k / 2 % 2 := and1 _ (by omega)
      by_cases hz : k / 2 % 2 = 0
      · rw [hz] at hb1
        go_wp2_with fail
        exact ⟨⟨2, by decide, rfl, int_val (sup_hit k HH.out 1 (by decide) (by show k / 2 % 2 = 0; omega)), trivial⟩, by simp [intOf]⟩
      · have hz1 : k / 2 % 2 = 1 := by omega
        rw [hz1] at hb1
        go_wp2_with fail
        exact ⟨⟨2, by decide, rfl, int_val (sup_miss k HH.out 1 (by decide) (by show ¬ k / 2 % 2 = 0; omega)), trivial⟩, by simp [intOf]⟩
    · have hb1 : bits .and .i64 (k / 4) 1 = k / 4 % 2 := and1 _ (by omega)
      by_cases hz : k / 4 % 2 = 0
      · rw [hz] at hb1
        go_wp2_with fail
        exact ⟨⟨3, by decide, rfl, int_val (sup_hit k HH.out 2 (by decide) (by show k / 4 % 2 = 0; omega)), trivial⟩, by simp [intOf]⟩
      · have hz1 : k / 4 % 2 = 1 := by omega
        rw [hz1] at hb1
        go_wp2_with fail
        exact ⟨⟨3, by decide, rfl, int_val (sup_miss k HH.out 2 (by decide) (by show ¬ k / 4 % 2 = 0; omega)), trivial⟩, by simp [intOf]⟩
    · have hb1 : bits .and .i64 (k / 8) 1 = k / 8 % 2 := and1 _ (by omega)
      by_cases hz : k / 8 % 2 = 0
      · rw [hz] at hb1
        go_wp2_with fail
        exact ⟨⟨4, by decide, rfl, int_val (sup_hit k HH.out 3 (by decide) (by show k / 8 % 2 = 0; omega)), trivial⟩, by simp [intOf]⟩
      · have hz1 : k / 8 % 2 = 1 := by omega
        rw [hz1] at hb1
        go_wp2_with fail
        exact ⟨⟨4, by decide, rfl, int_val (sup_miss k HH.out 3 (by decide) (by show ¬ k / 8 % 2 = 0; omega)), trivial⟩, by simp [intOf]⟩
    · go_wp2_with fail
      go_ret
      exact ⟨rfl, hB0⟩
end Go.Proofs.YtnaokijcggbfdaaGreatDoor
