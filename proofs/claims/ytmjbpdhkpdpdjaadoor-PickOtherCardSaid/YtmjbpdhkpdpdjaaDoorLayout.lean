/- Layer 5: the walks of layout, and of its reference. -/
import Derived.Test.YtmjbpdhkpdpdjaaDoorBase
namespace Go.Proofs.YtmjbpdhkpdpdjaaDoor
open Go.RowKit Go.Shelf
attribute [local go_sem] Oper.semAt_some

namespace Dw
def size (n : Int) : Int := if 1 ≤ n ∧ n ≤ 12 then 24 * n + 24 else 0
def slots (m : Nat) : Nat := if m % 24 = 0 ∧ 48 ≤ m ∧ m ≤ 312 then m / 24 - 1 else 0
def at_ (n : Int) : Int := if 0 ≤ n ∧ n ≤ 12 then 24 * n else -1
def mark (n : Int) : Int := if 0 ≤ n ∧ n ≤ 12 then 24 * n + 22 else -1
theorem slots_pos {m : Nat} (h : 0 < slots m) : m = 24 * slots m + 24 ∧ slots m ≤ 12 := by
  unfold slots at *; split at h
  · rename_i h1; rw [if_pos h1]; omega
  · omega
theorem slots_le (m : Nat) : slots m ≤ 12 := by unfold slots; split <;> omega
theorem slots_of {k : Nat} (h1 : 1 ≤ k) (h2 : k ≤ 12) : slots (24 * k + 24) = k := by unfold slots; rw [if_pos (by omega)]; omega
theorem slots_size (m k : Nat) (hk : 1 ≤ k) (hk2 : k ≤ 12) : size k = m ↔ slots m = k := by
  unfold size slots; rw [if_pos (by omega)]
  constructor
  · intro h; rw [if_pos (by omega)]; omega
  · intro h; split at h <;> omega
end Dw

theorem between_any (n a b : Int) (w : World) :
    Calls Tryd.prog 86 #[.int .i64 n, .int .i64 a, .int .i64 b] w fun e w' => e = .returned (.bool (decide (a ≤ n ∧ n ≤ b))) ∧ Below w.heap.size w w' := by
  go_enter Tryd.func86, Tryd.ntmps86
  go_wp2
  all_goals
    go_ret
    refine ⟨ret_bool ?_, Below.refl _ _⟩
    symm
    simp
    try omega

theorem lsize_any (n : Int) (w : World) :
    Calls Tryd.prog 61 #[.int .i64 n] w fun e w' => e = .returned (.int .i64 (Dw.size n)) ∧ Below w.heap.size w w' := by
  by_cases h : 1 ≤ n ∧ n ≤ 12
  · have hs := Lib.hid (show Dw.size n = (n + 1) * 24 from by unfold Dw.size; rw [if_pos h]; omega)
    go_enter Tryd.func61, Tryd.ntmps61
    go_wp2_with fail
    refine (between_any _ _ _ _).mono ?_
    rintro e w1 ⟨rfl, hb1⟩
    rw [decide_eq_true h]
    go_wp2_with fail
    go_ret
    exact ⟨by rw [hs.out]; rfl, hb1⟩
  · have hs := Lib.hid (show Dw.size n = 0 from by unfold Dw.size; rw [if_neg h])
    go_enter Tryd.func61, Tryd.ntmps61
    go_wp2_with fail
    refine (between_any _ _ _ _).mono ?_
    rintro e w1 ⟨rfl, hb1⟩
    rw [decide_eq_false h]
    go_wp2_with fail
    go_ret
    exact ⟨by rw [hs.out]; rfl, hb1⟩

theorem at_any (n : Int) (w : World) :
    Calls Tryd.prog 97 #[.int .i64 n] w fun e w' => e = .returned (.int .i64 (Dw.at_ n)) ∧ Below w.heap.size w w' := by
  by_cases h : 0 ≤ n ∧ n ≤ 12
  · have hs := Lib.hid (show Dw.at_ n = n * 24 from by unfold Dw.at_; rw [if_pos h]; omega)
    go_enter Tryd.func97, Tryd.ntmps97
    go_wp2_with fail
    refine (between_any _ _ _ _).mono ?_
    rintro e w1 ⟨rfl, hb1⟩
    rw [decide_eq_true h]
    go_wp2_with fail
    go_ret
    exact ⟨by rw [hs.out]; rfl, hb1⟩
  · have hs := Lib.hid (show Dw.at_ n = -1 from by unfold Dw.at_; rw [if_neg h])
    go_enter Tryd.func97, Tryd.ntmps97
    go_wp2_with fail
    refine (between_any _ _ _ _).mono ?_
    rintro e w1 ⟨rfl, hb1⟩
    rw [decide_eq_false h]
    go_wp2_with fail
    go_ret
    exact ⟨by rw [hs.out]; rfl, hb1⟩

theorem slots_any (m : Nat) (hm : m ≤ 1000000) (w : World) :
    Calls Tryd.prog 42 #[.int .i64 m] w fun e w' => e = .returned (.int .i64 (Dw.slots m)) ∧ Below w.heap.size w w' := by
  by_cases h0 : m % 24 = 0
  · by_cases h1 : 48 ≤ m ∧ m ≤ 312
    · have hs := Lib.hid (show ((Dw.slots m : Nat) : Int) = (m : Int) / 24 - 1 from by unfold Dw.slots; rw [if_pos ⟨h0, h1⟩]; omega)
      have hz := Lib.hid (show Dw.size ((m : Int) / 24 - 1) = m from by unfold Dw.size; rw [if_pos (by omega)]; omega)
      have hne : ¬ ((m : Int) = 0) := by omega
      have h0' : (m : Int) % 24 = 0 := by omega
      go_enter Tryd.func42, Tryd.ntmps42
      go_wp2_with fail
      refine (lsize_any _ _).mono ?_
      rintro e w1 ⟨rfl, hb1⟩
      rw [hz.out]
      go_wp2_with fail
      go_ret
      exact ⟨by rw [hs.out]; rfl, hb1⟩
    · have hs := Lib.hid (show ((Dw.slots m : Nat) : Int) = 0 from by unfold Dw.slots; rw [if_neg (by omega)]; rfl)
      have hz := Lib.hid (show Dw.size ((m : Int) / 24 - 1) = 0 from by unfold Dw.size; rw [if_neg (by omega)])
      have h0' : (m : Int) % 24 = 0 := by omega
      go_enter Tryd.func42, Tryd.ntmps42
      go_wp2_with fail
      refine (lsize_any _ _).mono ?_
      rintro e w1 ⟨rfl, hb1⟩
      rw [hz.out]
      go_wp2_with fail
      go_ret
      exact ⟨by rw [hs.out]; rfl, hb1⟩
  · have hs := Lib.hid (show ((Dw.slots m : Nat) : Int) = 0 from by unfold Dw.slots; rw [if_neg (by omega)]; rfl)
    have h0' : ¬ ((m : Int) % 24 = 0) := by omega
    go_enter Tryd.func42, Tryd.ntmps42
    go_wp2_with fail
    go_ret
    exact ⟨by rw [hs.out]; rfl, Below.refl _ _⟩

theorem lmark_any (n : Int) (w : World) :
    Calls Tryd.prog 98 #[.int .i64 n] w fun e w' => e = .returned (.int .i64 (Dw.mark n)) ∧ Below w.heap.size w w' := by
  by_cases h : 0 ≤ n ∧ n ≤ 12
  · have hs := Lib.hid (show Dw.mark n = 24 * n + 24 - 2 from by unfold Dw.mark; rw [if_pos h]; omega)
    have ha := Lib.hid (show Dw.at_ n = 24 * n from by unfold Dw.at_; rw [if_pos h])
    have hp : ¬ (24 * n < 0) := by omega
    go_enter Tryd.func98, Tryd.ntmps98
    go_wp2_with fail
    refine (at_any _ _).mono ?_
    rintro e w1 ⟨rfl, hb1⟩
    rw [ha.out]
    go_wp2_with fail
    go_ret
    exact ⟨by rw [hs.out]; rfl, hb1⟩
  · have hs := Lib.hid (show Dw.mark n = -1 from by unfold Dw.mark; rw [if_neg h])
    have ha := Lib.hid (show Dw.at_ n = -1 from by unfold Dw.at_; rw [if_neg h])
    go_enter Tryd.func98, Tryd.ntmps98
    go_wp2_with fail
    refine (at_any _ _).mono ?_
    rintro e w1 ⟨rfl, hb1⟩
    rw [ha.out]
    go_wp2_with fail
    go_ret
    exact ⟨by rw [hs.out]; rfl, hb1⟩

theorem rsize_any (n : Int) (w : World) :
    Calls Tryd.prog 20 #[.int .i64 n] w fun e w' => e = .returned (.int .i64 (Dw.size n)) ∧ Below w.heap.size w w' := by
  by_cases h : 1 ≤ n ∧ n ≤ 12
  · have hs := Lib.hid (show Dw.size n = 24 * n + 24 from by unfold Dw.size; rw [if_pos h])
    have h1 : ¬ (n < 1) := by omega
    have h2 : ¬ (12 < n) := by omega
    go_enter Tryd.func20, Tryd.ntmps20
    go_wp2_with fail
    go_ret
    exact ⟨by rw [hs.out]; rfl, Below.refl _ _⟩
  · have hs := Lib.hid (show Dw.size n = 0 from by unfold Dw.size; rw [if_neg h])
    by_cases h1 : n < 1
    · go_enter Tryd.func20, Tryd.ntmps20
      go_wp2_with fail
      go_ret
      exact ⟨by rw [hs.out]; rfl, Below.refl _ _⟩
    · have h2 : 12 < n := by omega
      go_enter Tryd.func20, Tryd.ntmps20
      go_wp2_with fail
      go_ret
      exact ⟨by rw [hs.out]; rfl, Below.refl _ _⟩

set_option maxHeartbeats 400000 in
theorem rslots_any (m : Nat) (w : World) :
    Calls Tryd.prog 44 #[.int .i64 m] w fun e w' => e = .returned (.int .i64 (Dw.slots m)) ∧ Below w.heap.size w w' := by
  go_enter Tryd.func44, Tryd.ntmps44
  go_wp2_with fail
  go_loopw [3] (fun i wr => ∃ k : Nat, 1 ≤ k ∧ k ≤ 13 ∧ i = .int .i64 k ∧ (Dw.slots m = 0 ∨ k ≤ Dw.slots m) ∧ Below w.heap.size w wr) (fun i _ => 13 - (intOf i).toNat)
  case atStart => exact ⟨1, Nat.le_refl _, by omega, rfl, by omega, Below.refl _ _⟩
  case round =>
    obtain ⟨k, hk1, hk, rfl, hno, hB⟩ := hrel
    by_cases hlt : k < 13
    · by_cases heq : Dw.slots m = k
      · have hz := Lib.hid ((Dw.slots_size m k hk1 (by omega)).2 heq)
        have hle : (k : Int) ≤ 12 := by omega
        go_wp2_with fail
        refine (rsize_any _ _).mono ?_
        rintro e w1 ⟨rfl, hb1⟩
        rw [hz.out]
        go_wp2_with fail
        go_ret
        exact ⟨by rw [heq]; rfl, hB.trans (hb1.mono hB.size)⟩
      · have hz : ¬ (Dw.size k = m) := fun e => heq ((Dw.slots_size m k hk1 (by omega)).1 e)
        have hle : (k : Int) ≤ 12 := by omega
        go_wp2_with fail
        refine (rsize_any _ _).mono ?_
        rintro e w1 ⟨rfl, hb1⟩
        go_wp2_with fail
        go_roundw
        case rel => exact ⟨k + 1, by omega, by omega, by go_num, by omega, hB.trans (hb1.mono hB.size)⟩
        case measure => simp [intOf]; omega
    · obtain rfl : k = 13 := by omega
      have h0 : Dw.slots m = 0 := by have := Dw.slots_le m; omega
      go_wp2_with fail
      go_ret
      exact ⟨by rw [h0]; rfl, hB⟩
end Go.Proofs.YtmjbpdhkpdpdjaaDoor
