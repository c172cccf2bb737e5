/- Layer 9: the reference's Next. -/
import Derived.Test.YtaniehjhmjecjaaGreatDoorP9
import Derived.Test.YtaniehjhmjecjaaGreatDoorP17
namespace Go.Proofs.YtaniehjhmjecjaaGreatDoor
open Go.RowKit Go.Shelf
attribute [local go_sem] Oper.semAt_some

set_option maxRecDepth 100000 in
set_option maxHeartbeats 2000000 in
theorem rnext_any (s : List UInt8) (hs : s.length ≤ 400) (w : World) :
    Calls Tryz.prog 69 #[.string ⟨s.toArray⟩] w fun e w' => e = .returned (.int .i64 ((Dw.next s : Nat) : Int)) ∧ Below w.heap.size w w' := by
  have hle := Dw.slots_le s.length
  have HIS := Lib.hid (fun n j => @Dw.next_is s n j)
  have HZ := Lib.hid (fun n => @Dw.next_zero s n)
  have HZ0 := Lib.hid (show Dw.slots s.length = 0 → Dw.next s = 0 from fun h => by unfold Dw.next Dw.tz Dw.states; rw [h]; rfl)
  have HSL := Lib.hid (fun w => rslots_any s.length w)
  have HST := Lib.hid (fun (i : Nat) hi w => rstate_any s hs (i : Int) i rfl hi w)
  generalize hn : Dw.slots s.length = n at *
  have Hn := Lib.hid hn; clear hn
  have hB := Below.refl w.heap.size w
  go_enter Tryz.func69, Tryz.ntmps69
  go_wp2_with fail
  refine (HSL.out _).mono ?_
  rintro e w1 ⟨rfl, hb⟩
  replace hB := hB.trans (hb.mono hB.size)
  clear hb
  go_wp2_with fail
  go_loopw [4, 5] (fun x i wr => ∃ k j : Nat, k ≤ n ∧ i = .int .i64 ((k + 1 : Nat) : Int) ∧ x = .int .i64 j ∧ 1 ≤ j ∧ j ≤ k + 1 ∧ (∀ t, j ≤ t → t ≤ k → Dw.state s t = 0) ∧ (j = 1 ∨ Dw.state s (j - 1) ≠ 0) ∧ Below w.heap.size w wr) (fun _ i _ => n + 1 - (intOf i).toNat)
  case atStart => exact ⟨0, 1, Nat.zero_le _, rfl, rfl, Nat.le_refl _, Nat.le_refl _, fun t h1 h2 => absurd h1 (by omega), .inl rfl, hB⟩
  case round =>
    clear hB
    obtain ⟨k, j, hk, rfl, rfl, hj1, hjk, hz, hp, hB⟩ := hrel
    have HZZ := Lib.hid hz; have HP := Lib.hid hp
    clear hz hp
    by_cases hlt : k < n
    · have h1 : ((k + 1 : Nat) : Int) ≤ (n : Int) := by omega
      have h1' : (k : Int) + 1 ≤ (n : Int) := by omega
      go_wp2_with fail
      refine (HST.out (k + 1) (by omega) _).mono ?_
      rintro e w2 ⟨rfl, hb⟩
      replace hB := hB.trans (hb.mono hB.size)
      clear hb
      generalize hst : Dw.state s (k + 1) = st at *
      have HST1 := Lib.hid hst; clear hst
      by_cases h0 : st = 0
      · subst h0
        go_wp2_with fail
        go_roundw
        case rel => exact ⟨k + 1, j, hlt, by go_num, rfl, hj1, by omega, fun t ht1 ht2 => by
          by_cases e : t = k + 1
          · rw [e, HST1.out]
          · exact HZZ.out t ht1 (by omega), HP.out, hB⟩
        case measure => simp [intOf]; omega
      · have h0' : ((st : Int) == 0) = false := by rw [beq_eq_false_iff_ne]; omega
        go_wp2_with fail
        go_roundw
        case rel => exact ⟨k + 1, k + 2, hlt, by go_num, by go_num, by omega, by omega, fun t ht1 ht2 => absurd ht1 (by omega), .inr (by rw [show k + 2 - 1 = k + 1 from rfl, HST1.out]; exact h0), hB⟩
        case measure => simp [intOf]; omega
    · obtain rfl : k = n := by omega
      have h1 : ¬ ((k + 1 : Nat) : Int) ≤ (k : Int) := by omega
      have h1' : ¬ (k : Int) + 1 ≤ (k : Int) := by omega
      by_cases hj : k < j
      · have h2 : (k : Int) < (j : Int) := by omega
        have hfin : Dw.next s = 0 := by
          rcases Nat.eq_zero_or_pos k with e | e
          · exact HZ0.out e
          · refine HZ.out k rfl e ?_
            rcases HP.out with h | h
            · omega
            · rwa [show j - 1 = k by omega] at h
        have HF := Lib.hid hfin
        clear hfin
        go_wp2_with fail
        go_ret
        exact ⟨by rw [HF.out]; rfl, hB⟩
      · have h2 : ¬ (k : Int) < (j : Int) := by omega
        have HF := Lib.hid (HIS.out k j rfl hj1 (by omega) HZZ.out HP.out)
        go_wp2_with fail
        go_ret
        exact ⟨by rw [HF.out]; rfl, hB⟩
end Go.Proofs.YtaniehjhmjecjaaGreatDoor
