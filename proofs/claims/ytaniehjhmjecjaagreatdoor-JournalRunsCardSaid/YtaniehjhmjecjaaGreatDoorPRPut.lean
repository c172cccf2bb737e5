/- Layers 5 and 6: the reference's At, Mark, Put. -/
import Derived.Test.YtaniehjhmjecjaaGreatDoorPRClear
namespace Go.Proofs.YtaniehjhmjecjaaGreatDoor
open Go.RowKit Go.Shelf
attribute [local go_sem] Oper.semAt_some

theorem rat5_any (n : Nat) (hn : n ≤ 12) (w : World) :
    Calls Tryz.prog 101 #[.int .i64 n] w fun e w' => e = .returned (.int .i64 ((24 * n + 0 : Nat) : Int)) ∧ Below w.heap.size w w' := by
  have i1 : ¬ (n : Int) < 0 := by omega
  have i2 : ¬ (12 : Int) < (n : Int) := by omega
  have i3 : IntKind.i64.wrap (24 * (n : Int)) = 24 * (n : Int) := IntWalk.i64_in _ (by omega)
  go_enter Tryz.func101, Tryz.ntmps101
  go_wp2_with fail
  go_ret
  exact ⟨ret_int (by omega), Below.refl _ _⟩
theorem rmark5_any (n : Nat) (hn : n ≤ 12) (w : World) :
    Calls Tryz.prog 103 #[.int .i64 n] w fun e w' => e = .returned (.int .i64 ((24 * n + 22 : Nat) : Int)) ∧ Below w.heap.size w w' := by
  have i1 : ¬ (n : Int) < 0 := by omega
  have i2 : ¬ (12 : Int) < (n : Int) := by omega
  have i3 : IntKind.i64.wrap (24 * (n : Int)) = 24 * (n : Int) := IntWalk.i64_in _ (by omega)
  have i4 : IntKind.i64.wrap (24 * (n : Int) + 22) = 24 * (n : Int) + 22 := IntWalk.i64_in _ (by omega)
  go_enter Tryz.func103, Tryz.ntmps103
  go_wp2_with fail
  go_ret
  exact ⟨ret_int (by omega), Below.refl _ _⟩

set_option maxRecDepth 100000 in
set_option maxHeartbeats 2000000 in
theorem rput_any (n : Nat) (hn : n < 18446744073709551616) (w : World) :
    Calls Tryz.prog 127 #[.int .u64 n, .int .i64 8] w fun e w' => e = .returned (.string ⟨(Dw.put 8 n).toArray⟩) ∧ Below w.heap.size w w' := by
  have HL := Lib.hid (Dw.put_length 8 n)
  have HG := Lib.hid (show ∀ k, k < 8 → (((Dw.put 8 n).getD k 0).toNat : Int) = ((n / 256 ^ (7 - k) % 256 : Nat) : Int) from fun k hk => by
    have hk' : k < (Dw.put 8 n).length := by rw [Dw.put_length]; exact hk
    rw [List.getD_eq_getElem?_getD, List.getElem?_eq_getElem hk', Option.getD_some, Dw.put_at])
  have hB0 := (Below.refl w.heap.size w).alloc (Nat.le_refl _) (.cells #[] 5)
  have hO0 := ownB_new w (Nat.le_refl _)
  generalize hD : Dw.put 8 n = D at *
  clear hD
  have hmx : max (0 : Int) 8 = 8 := by decide
  go_enter Tryz.func127, Tryz.ntmps127
  go_wp2_with fail
  go_loopw [5, 6] (fun v i wr => ∃ k : Nat, k ≤ 8 ∧ i = .int .i64 (7 - (k : Int)) ∧ OwnB w.heap.size wr v (D.take k) ∧ Below w.heap.size w wr) (fun _ i _ => (intOf i + 1).toNat)
  case atStart => exact ⟨0, Nat.zero_le _, rfl, hO0, hB0⟩
  case round =>
    clear hO0 hB0
    obtain ⟨k, hk, rfl, hown, hB⟩ := hrel
    obtain ⟨⟨g, cap, hv⟩, _⟩ := id hown
    have hlen : (D.take k).length = k := by rw [List.length_take, HL.out]; omega
    rw [hlen] at hv
    subst hv
    have hBs := hB.size
    by_cases hlt : k < 8
    · have Htk := Lib.hid (Dw.getD_take_succ D k (by rw [HL.out]; exact hlt))
      have hg := HG.out k hlt
      generalize D.take k = L at *
      generalize D.getD k 0 = dk at *
      have hB4 := hB.alloc hB.size (.cells #[.int .u8 ((dk.toNat : Nat) : Int)] 5)
      have hown4 := ownB_keep hown ((KeepBut.refl (fun _ => False) wr).alloc (.cells #[.int .u8 ((dk.toNat : Nat) : Int)] 5)) (fun _ _ h => h)
      have hbc := heap_alloc_new wr (.cells #[.int .u8 ((dk.toNat : Nat) : Int)] 5)
      have HB4 := Lib.hid hB4; have HO4 := Lib.hid hown4; have HBC := Lib.hid hbc; have Hlen := Lib.hid hlen
      clear hB4 hown4 hbc hown hB hlen
      rcases (by omega : k = 0 ∨ k = 1 ∨ k = 2 ∨ k = 3 ∨ k = 4 ∨ k = 5 ∨ k = 6 ∨ k = 7) with rfl | rfl | rfl | rfl | rfl | rfl | rfl | rfl
      · rw [show (7 - (((0 : Nat)) : Int)) = 7 from rfl]
        rw [show 256 ^ (7 - 0) = 72057594037927936 from rfl] at hg
        have hbyte : (n : Int) / 72057594037927936 = ((dk.toNat : Nat) : Int) := by rw [hg]; omega
        have Hbyte := Lib.hid hbyte
        clear hbyte hg
        go_wp2_with (at_builtin; rw [Hbyte.out]; refine append_byte (p := dk) (by rfl) _ _ (by rfl) HB4.out (Nat.le_refl _) (by rfl) HO4.out (by rw [Hlen.out]; decide) (by rfl) rfl HBC.out ?_; intro g' c' w5 hown5 hB5 _ _)
        go_wp2_with fail
        go_roundw
        case rel => exact ⟨1, by decide, by rfl, by rw [Htk.out]; exact hown5, hB5⟩
        case measure => first | done | (simp [intOf]; done) | (simp [intOf]; omega)
      · rw [show (7 - (((1 : Nat)) : Int)) = 6 from rfl]
        rw [show 256 ^ (7 - 1) = 281474976710656 from rfl] at hg
        have hbyte : (n : Int) / 281474976710656 % 256 = ((dk.toNat : Nat) : Int) := by rw [hg]; omega
        have Hbyte := Lib.hid hbyte
        clear hbyte hg
        go_wp2_with (at_builtin; rw [Hbyte.out]; refine append_byte (p := dk) (by rfl) _ _ (by rfl) HB4.out (Nat.le_refl _) (by rfl) HO4.out (by rw [Hlen.out]; decide) (by rfl) rfl HBC.out ?_; intro g' c' w5 hown5 hB5 _ _)
        go_wp2_with fail
        go_roundw
        case rel => exact ⟨2, by decide, by rfl, by rw [Htk.out]; exact hown5, hB5⟩
        case measure => first | done | (simp [intOf]; done) | (simp [intOf]; omega)
      · rw [show (7 - (((2 : Nat)) : Int)) = 5 from rfl]
        rw [show 256 ^ (7 - 2) = 1099511627776 from rfl] at hg
        have hbyte : (n : Int) / 1099511627776 % 256 = ((dk.toNat : Nat) : Int) := by rw [hg]; omega
        have Hbyte := Lib.hid hbyte
        clear hbyte hg
        go_wp2_with (at_builtin; rw [Hbyte.out]; refine append_byte (p := dk) (by rfl) _ _ (by rfl) HB4.out (Nat.le_refl _) (by rfl) HO4.out (by rw [Hlen.out]; decide) (by rfl) rfl HBC.out ?_; intro g' c' w5 hown5 hB5 _ _)
        go_wp2_with fail
        go_roundw
        case rel => exact ⟨3, by decide, by rfl, by rw [Htk.out]; exact hown5, hB5⟩
        case measure => first | done | (simp [intOf]; done) | (simp [intOf]; omega)
      · rw [show (7 - (((3 : Nat)) : Int)) = 4 from rfl]
        rw [show 256 ^ (7 - 3) = 4294967296 from rfl] at hg
        have hbyte : (n : Int) / 4294967296 % 256 = ((dk.toNat : Nat) : Int) := by rw [hg]; omega
        have Hbyte := Lib.hid hbyte
        clear hbyte hg
        go_wp2_with (at_builtin; rw [Hbyte.out]; refine append_byte (p := dk) (by rfl) _ _ (by rfl) HB4.out (Nat.le_refl _) (by rfl) HO4.out (by rw [Hlen.out]; decide) (by rfl) rfl HBC.out ?_; intro g' c' w5 hown5 hB5 _ _)
        go_wp2_with fail
        go_roundw
        case rel => exact ⟨4, by decide, by rfl, by rw [Htk.out]; exact hown5, hB5⟩
        case measure => first | done | (simp [intOf]; done) | (simp [intOf]; omega)
      · rw [show (7 - (((4 : Nat)) : Int)) = 3 from rfl]
        rw [show 256 ^ (7 - 4) = 16777216 from rfl] at hg
        have hbyte : (n : Int) / 16777216 % 256 = ((dk.toNat : Nat) : Int) := by rw [hg]; omega
        have Hbyte := Lib.hid hbyte
        clear hbyte hg
        go_wp2_with (at_builtin; rw [Hbyte.out]; refine append_byte (p := dk) (by rfl) _ _ (by rfl) HB4.out (Nat.le_refl _) (by rfl) HO4.out (by rw [Hlen.out]; decide) (by rfl) rfl HBC.out ?_; intro g' c' w5 hown5 hB5 _ _)
        go_wp2_with fail
        go_roundw
        case rel => exact ⟨5, by decide, by rfl, by rw [Htk.out]; exact hown5, hB5⟩
        case measure => first | done | (simp [intOf]; done) | (simp [intOf]; omega)
      · rw [show (7 - (((5 : Nat)) : Int)) = 2 from rfl]
        rw [show 256 ^ (7 - 5) = 65536 from rfl] at hg
        have hbyte : (n : Int) / 65536 % 256 = ((dk.toNat : Nat) : Int) := by rw [hg]; omega
        have Hbyte := Lib.hid hbyte
        clear hbyte hg
        go_wp2_with (at_builtin; rw [Hbyte.out]; refine append_byte (p := dk) (by rfl) _ _ (by rfl) HB4.out (Nat.le_refl _) (by rfl) HO4.out (by rw [Hlen.out]; decide) (by rfl) rfl HBC.out ?_; intro g' c' w5 hown5 hB5 _ _)
        go_wp2_with fail
        go_roundw
        case rel => exact ⟨6, by decide, by rfl, by rw [Htk.out]; exact hown5, hB5⟩
        case measure => first | done | (simp [intOf]; done) | (simp [intOf]; omega)
      · rw [show (7 - (((6 : Nat)) : Int)) = 1 from rfl]
        rw [show 256 ^ (7 - 6) = 256 from rfl] at hg
        have hbyte : (n : Int) / 256 % 256 = ((dk.toNat : Nat) : Int) := by rw [hg]; omega
        have Hbyte := Lib.hid hbyte
        clear hbyte hg
        go_wp2_with (at_builtin; rw [Hbyte.out]; refine append_byte (p := dk) (by rfl) _ _ (by rfl) HB4.out (Nat.le_refl _) (by rfl) HO4.out (by rw [Hlen.out]; decide) (by rfl) rfl HBC.out ?_; intro g' c' w5 hown5 hB5 _ _)
        go_wp2_with fail
        go_roundw
        case rel => exact ⟨7, by decide, by rfl, by rw [Htk.out]; exact hown5, hB5⟩
        case measure => first | done | (simp [intOf]; done) | (simp [intOf]; omega)
      · rw [show (7 - (((7 : Nat)) : Int)) = 0 from rfl]
        rw [show 256 ^ (7 - 7) = 1 from rfl] at hg
        have hbyte : (n : Int) % 256 = ((dk.toNat : Nat) : Int) := by rw [hg]; omega
        have Hbyte := Lib.hid hbyte
        clear hbyte hg
        go_wp2_with (at_builtin; rw [Hbyte.out]; refine append_byte (p := dk) (by rfl) _ _ (by rfl) HB4.out (Nat.le_refl _) (by rfl) HO4.out (by rw [Hlen.out]; decide) (by rfl) rfl HBC.out ?_; intro g' c' w5 hown5 hB5 _ _)
        go_wp2_with fail
        go_roundw
        case rel => exact ⟨8, by decide, by rfl, by rw [Htk.out]; exact hown5, hB5⟩
        case measure => first | done | (simp [intOf]; done) | (simp [intOf]; omega)
    · obtain rfl : k = 8 := by omega
      have kc := ownB_conv hown
      rw [List.take_of_length_le (by rw [HL.out]; exact Nat.le_refl _)] at kc
      go_wp2_with fail
      go_ret
      exact ⟨rfl, hB⟩

end Go.Proofs.YtaniehjhmjecjaaGreatDoor
