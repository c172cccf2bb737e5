/- What the statement's proof stands on, part 31: RPut, RPut3, RSt, Res, Res2, Res3, RSt2, RBody. -/
import Derived.Test.YtjonoojhdifjiaaGreatDoorBb22
import Derived.Test.YtjonoojhdifjiaaGreatDoorBb27
import Derived.Test.YtjonoojhdifjiaaGreatDoorBb17
import Derived.Test.YtjonoojhdifjiaaGreatDoorBb16
set_option linter.unusedSimpArgs false
set_option linter.unusedVariables false
set_option maxRecDepth 100000
set_option maxHeartbeats 4000000
namespace Go.Proofs.YtjonoojhdifjiaaGreatDoor
open Go.RowKit Go.Shelf
attribute [local go_sem] Oper.semAt_some
theorem rput_any (n : Nat) (hn : n < 18446744073709551616) (w : World) :
    Calls Tryz.prog 71 #[.int .u64 n, .int .i64 8] w fun e w' => e = .returned (.string ⟨(Dw.put 8 n).toArray⟩) ∧ Below w.heap.size w w' := by
  have HL := Lib.hid (Dw.put_length 8 n)
  have HG := Lib.hid (show ∀ k, k < 8 → (((Dw.put 8 n).getD k 0).toNat : Int) = ((n / 256 ^ (7 - k) % 256 : Nat) : Int) from fun k hk => by
    have hk' : k < (Dw.put 8 n).length := by rw [Dw.put_length]; exact hk
    rw [List.getD_eq_getElem?_getD, List.getElem?_eq_getElem hk', Option.getD_some, Dw.put_at])
  have hB0 := (Below.refl w.heap.size w).alloc (Nat.le_refl _) (.cells #[] 5)
  have hO0 := ownB_new w (Nat.le_refl _)
  generalize hD : Dw.put 8 n = D at *
  clear hD
  have hmx : max (0 : Int) 8 = 8 := by decide
  go_enter Tryz.func71, Tryz.ntmps71
  go_wp2_with fail
  go_loopw [5, 6] (fun v i wr => ∃ k : Nat, k ≤ 8 ∧ i = .int .i64 (7 - (k : Int)) ∧ OwnB w.heap.size wr v (D.take k) ∧ Below w.heap.size w wr) (fun _ i _ => (intOf i + 1).toNat)
  case atStart => exact ⟨0, Nat.zero_le _, rfl, hO0, hB0⟩
  case round =>
    clear hO0 hB0
    obtain ⟨k, hk, rfl, hown, hB⟩ := hrel
    obtain ⟨⟨g, cap, hv⟩, _⟩ := id hown
    have hlen : (D.take k).length = k := by rw [List.length_take, HL.out]; omega
    rw [hlen] at hv
    subst hv
    have hBs := hB.size
    by_cases hlt : k < 8
    · have Htk := Lib.hid (Dw.getD_take_succ D k (by rw [HL.out]; exact hlt))
      have hg := HG.out k hlt
      generalize D.take k = L at *
      generalize D.getD k 0 = dk at *
      have hB4 := hB.alloc hB.size (.cells #[.int .u8 ((dk.toNat : Nat) : Int)] 5)
      have hown4 := ownB_keep hown ((KeepBut.refl (fun _ => False) wr).alloc (.cells #[.int .u8 ((dk.toNat : Nat) : Int)] 5)) (fun _ _ h => h)
      have hbc := han wr (.cells #[.int .u8 ((dk.toNat : Nat) : Int)] 5)
      have HB4 := Lib.hid hB4; have HO4 := Lib.hid hown4; have HBC := Lib.hid hbc; have Hlen := Lib.hid hlen
      clear hB4 hown4 hbc hown hB hlen
      rcases (by omega : k = 0 ∨ k = 1 ∨ k = 2 ∨ k = 3 ∨ k = 4 ∨ k = 5 ∨ k = 6 ∨ k = 7) with rfl | rfl | rfl | rfl | rfl | rfl | rfl | rfl
      · rw [show (7 - (((0 : Nat)) : Int)) = 7 from rfl]
        rw [show 256 ^ (7 - 0) = 72057594037927936 from rfl] at hg
        have hbyte : (n : Int) / 72057594037927936 = ((dk.toNat : Nat) : Int) := by rw [hg]; omega
        have Hbyte := Lib.hid hbyte
        clear hbyte hg
        go_wp2_with (at_builtin; rw [Hbyte.out]; refine append_byte (p := dk) (by rfl) _ _ (by rfl) HB4.out (Nat.le_refl _) (by rfl) HO4.out (by rw [Hlen.out]; decide) (by rfl) rfl HBC.out ?_; intro g' c' w5 hown5 hB5 _ _)
        go_wp2_with fail
        go_roundw
        case rel => exact ⟨1, by decide, by rfl, by rw [Htk.out]; exact hown5, hB5⟩
        case measure => first | done | (simp [intOf]; done) | (simp [intOf]; omega)
      · rw [show (7 - (((1 : Nat)) : Int)) = 6 from rfl]
        rw [show 256 ^ (7 - 1) = 281474976710656 from rfl] at hg
        have hbyte : (n : Int) / 281474976710656 % 256 = ((dk.toNat : Nat) : Int) := by rw [hg]; omega
        have Hbyte := Lib.hid hbyte
        clear hbyte hg
        go_wp2_with (at_builtin; rw [Hbyte.out]; refine append_byte (p := dk) (by rfl) _ _ (by rfl) HB4.out (Nat.le_refl _) (by rfl) HO4.out (by rw [Hlen.out]; decide) (by rfl) rfl HBC.out ?_; intro g' c' w5 hown5 hB5 _ _)
        go_wp2_with fail
        go_roundw
        case rel => exact ⟨2, by decide, by rfl, by rw [Htk.out]; exact hown5, hB5⟩
        case measure => first | done | (simp [intOf]; done) | (simp [intOf]; omega)
      · rw [show (7 - (((2 : Nat)) : Int)) = 5 from rfl]
        rw [show 256 ^ (7 - 2) = 1099511627776 from rfl] at hg
        have hbyte : (n : Int) / 1099511627776 % 256 = ((dk.toNat : Nat) : Int) := by rw [hg]; omega
        have Hbyte := Lib.hid hbyte
        clear hbyte hg
        go_wp2_with (at_builtin; rw [Hbyte.out]; refine append_byte (p := dk) (by rfl) _ _ (by rfl) HB4.out (Nat.le_refl _) (by rfl) HO4.out (by rw [Hlen.out]; decide) (by rfl) rfl HBC.out ?_; intro g' c' w5 hown5 hB5 _ _)
        go_wp2_with fail
        go_roundw
        case rel => exact ⟨3, by decide, by rfl, by rw [Htk.out]; exact hown5, hB5⟩
        case measure => first | done | (simp [intOf]; done) | (simp [intOf]; omega)
      · rw [show (7 - (((3 : Nat)) : Int)) = 4 from rfl]
        rw [show 256 ^ (7 - 3) = 4294967296 from rfl] at hg
        have hbyte : (n : Int) / 4294967296 % 256 = ((dk.toNat : Nat) : Int) := by rw [hg]; omega
        have Hbyte := Lib.hid hbyte
        clear hbyte hg
        go_wp2_with (at_builtin; rw [Hbyte.out]; refine append_byte (p := dk) (by rfl) _ _ (by rfl) HB4.out (Nat.le_refl _) (by rfl) HO4.out (by rw [Hlen.out]; decide) (by rfl) rfl HBC.out ?_; intro g' c' w5 hown5 hB5 _ _)
        go_wp2_with fail
        go_roundw
        case rel => exact ⟨4, by decide, by rfl, by rw [Htk.out]; exact hown5, hB5⟩
        case measure => first | done | (simp [intOf]; done) | (simp [intOf]; omega)
      · rw [show (7 - (((4 : Nat)) : Int)) = 3 from rfl]
        rw [show 256 ^ (7 - 4) = 16777216 from rfl] at hg
        have hbyte : (n : Int) / 16777216 % 256 = ((dk.toNat : Nat) : Int) := by rw [hg]; omega
        have Hbyte := Lib.hid hbyte
        clear hbyte hg
        go_wp2_with (at_builtin; rw [Hbyte.out]; refine append_byte (p := dk) (by rfl) _ _ (by rfl) HB4.out (Nat.le_refl _) (by rfl) HO4.out (by rw [Hlen.out]; decide) (by rfl) rfl HBC.out ?_; intro g' c' w5 hown5 hB5 _ _)
        go_wp2_with fail
        go_roundw
        case rel => exact ⟨5, by decide, by rfl, by rw [Htk.out]; exact hown5, hB5⟩
        case measure => first | done | (simp [intOf]; done) | (simp [intOf]; omega)
      · rw [show (7 - (((5 : Nat)) : Int)) = 2 from rfl]
        rw [show 256 ^ (7 - 5) = 65536 from rfl] at hg
        have hbyte : (n : Int) / 65536 % 256 = ((dk.toNat : Nat) : Int) := by rw [hg]; omega
        have Hbyte := Lib.hid hbyte
        clear hbyte hg
        go_wp2_with (at_builtin; rw [Hbyte.out]; refine append_byte (p := dk) (by rfl) _ _ (by rfl) HB4.out (Nat.le_refl _) (by rfl) HO4.out (by rw [Hlen.out]; decide) (by rfl) rfl HBC.out ?_; intro g' c' w5 hown5 hB5 _ _)
        go_wp2_with fail
        go_roundw
        case rel => exact ⟨6, by decide, by rfl, by rw [Htk.out]; exact hown5, hB5⟩
        case measure => first | done | (simp [intOf]; done) | (simp [intOf]; omega)
      · rw [show (7 - (((6 : Nat)) : Int)) = 1 from rfl]
        rw [show 256 ^ (7 - 6) = 256 from rfl] at hg
        have hbyte : (n : Int) / 256 % 256 = ((dk.toNat : Nat) : Int) := by rw [hg]; omega
        have Hbyte := Lib.hid hbyte
        clear hbyte hg
        go_wp2_with (at_builtin; rw [Hbyte.out]; refine append_byte (p := dk) (by rfl) _ _ (by rfl) HB4.out (Nat.le_refl _) (by rfl) HO4.out (by rw [Hlen.out]; decide) (by rfl) rfl HBC.out ?_; intro g' c' w5 hown5 hB5 _ _)
        go_wp2_with fail
        go_roundw
        case rel => exact ⟨7, by decide, by rfl, by rw [Htk.out]; exact hown5, hB5⟩
        case measure => first | done | (simp [intOf]; done) | (simp [intOf]; omega)
      · rw [show (7 - (((7 : Nat)) : Int)) = 0 from rfl]
        rw [show 256 ^ (7 - 7) = 1 from rfl] at hg
        have hbyte : (n : Int) % 256 = ((dk.toNat : Nat) : Int) := by rw [hg]; omega
        have Hbyte := Lib.hid hbyte
        clear hbyte hg
        go_wp2_with (at_builtin; rw [Hbyte.out]; refine append_byte (p := dk) (by rfl) _ _ (by rfl) HB4.out (Nat.le_refl _) (by rfl) HO4.out (by rw [Hlen.out]; decide) (by rfl) rfl HBC.out ?_; intro g' c' w5 hown5 hB5 _ _)
        go_wp2_with fail
        go_roundw
        case rel => exact ⟨8, by decide, by rfl, by rw [Htk.out]; exact hown5, hB5⟩
        case measure => first | done | (simp [intOf]; done) | (simp [intOf]; omega)
    · obtain rfl : k = 8 := by omega
      have kc := ownB_conv hown
      rw [List.take_of_length_le (by rw [HL.out]; exact Nat.le_refl _)] at kc
      go_wp2_with fail
      go_ret
      exact ⟨rfl, hB⟩
theorem rput3_any (n : Nat) (_ : n < 18446744073709551616) (w : World) :
    Calls Tryz.prog 71 #[.int .u64 n, .int .i64 3] w fun e w' => e = .returned (.string ⟨(Dw.put 3 n).toArray⟩) ∧ Below w.heap.size w w' := by
  have HL := Lib.hid (Dw.put_length 3 n)
  have HG := Lib.hid (show ∀ k, k < 3 → (((Dw.put 3 n).getD k 0).toNat : Int) = ((n / 256 ^ (2 - k) % 256 : Nat) : Int) from fun k hk => by
    have hk' : k < (Dw.put 3 n).length := by rw [Dw.put_length]; exact hk
    rw [List.getD_eq_getElem?_getD, List.getElem?_eq_getElem hk', Option.getD_some, Dw.put_at])
  have hB0 := (Below.refl w.heap.size w).alloc (Nat.le_refl _) (.cells #[] 5)
  have hO0 := ownB_new w (Nat.le_refl _)
  generalize hD : Dw.put 3 n = D at *
  clear hD
  have hmx : max (0 : Int) 3 = 3 := by decide
  have hmn : min (3 : Int) 8 = 3 := by decide
  go_enter Tryz.func71, Tryz.ntmps71
  go_wp2_with fail
  go_loopw [5, 6] (fun v i wr => ∃ k : Nat, k ≤ 3 ∧ i = .int .i64 (2 - (k : Int)) ∧ OwnB w.heap.size wr v (D.take k) ∧ Below w.heap.size w wr) (fun _ i _ => (intOf i + 1).toNat)
  case atStart => exact ⟨0, Nat.zero_le _, rfl, hO0, hB0⟩
  case round =>
    clear hO0 hB0
    obtain ⟨k, hk, rfl, hown, hB⟩ := hrel
    obtain ⟨⟨g, cap, hv⟩, _⟩ := id hown
    have hlen : (D.take k).length = k := by rw [List.length_take, HL.out]; omega
    rw [hlen] at hv
    subst hv
    have hBs := hB.size
    by_cases hlt : k < 3
    · have Htk := Lib.hid (Dw.getD_take_succ D k (by rw [HL.out]; exact hlt))
      have hg := HG.out k hlt
      generalize D.take k = L at *
      generalize D.getD k 0 = dk at *
      have hB4 := hB.alloc hB.size (.cells #[.int .u8 ((dk.toNat : Nat) : Int)] 5)
      have hown4 := ownB_keep hown ((KeepBut.refl (fun _ => False) wr).alloc (.cells #[.int .u8 ((dk.toNat : Nat) : Int)] 5)) (fun _ _ h => h)
      have hbc := han wr (.cells #[.int .u8 ((dk.toNat : Nat) : Int)] 5)
      have HB4 := Lib.hid hB4; have HO4 := Lib.hid hown4; have HBC := Lib.hid hbc; have Hlen := Lib.hid hlen
      clear hB4 hown4 hbc hown hB hlen
      rcases (by omega : k = 0 ∨ k = 1 ∨ k = 2) with rfl | rfl | rfl
      · rw [show (2 - (((0 : Nat)) : Int)) = 2 from rfl]
        rw [show 256 ^ (2 - 0) = 65536 from rfl] at hg
        have hbyte : (n : Int) / 65536 % 256 = ((dk.toNat : Nat) : Int) := by rw [hg]; omega
        have Hbyte := Lib.hid hbyte
        clear hbyte hg
        go_wp2_with (at_builtin; rw [Hbyte.out]; refine append_byte (p := dk) (by rfl) _ _ (by rfl) HB4.out (Nat.le_refl _) (by rfl) HO4.out (by rw [Hlen.out]; decide) (by rfl) rfl HBC.out ?_; intro g' c' w5 hown5 hB5 _ _)
        go_wp2_with fail
        go_roundw
        case rel => exact ⟨1, by decide, by rfl, by rw [Htk.out]; exact hown5, hB5⟩
        case measure => first | done | (simp [intOf]; done) | (simp [intOf]; omega)
      · rw [show (2 - (((1 : Nat)) : Int)) = 1 from rfl]
        rw [show 256 ^ (2 - 1) = 256 from rfl] at hg
        have hbyte : (n : Int) / 256 % 256 = ((dk.toNat : Nat) : Int) := by rw [hg]; omega
        have Hbyte := Lib.hid hbyte
        clear hbyte hg
        go_wp2_with (at_builtin; rw [Hbyte.out]; refine append_byte (p := dk) (by rfl) _ _ (by rfl) HB4.out (Nat.le_refl _) (by rfl) HO4.out (by rw [Hlen.out]; decide) (by rfl) rfl HBC.out ?_; intro g' c' w5 hown5 hB5 _ _)
        go_wp2_with fail
        go_roundw
        case rel => exact ⟨2, by decide, by rfl, by rw [Htk.out]; exact hown5, hB5⟩
        case measure => first | done | (simp [intOf]; done) | (simp [intOf]; omega)
      · rw [show (2 - (((2 : Nat)) : Int)) = 0 from rfl]
        rw [show 256 ^ (2 - 2) = 1 from rfl] at hg
        have hbyte : (n : Int) % 256 = ((dk.toNat : Nat) : Int) := by rw [hg]; omega
        have Hbyte := Lib.hid hbyte
        clear hbyte hg
        go_wp2_with (at_builtin; rw [Hbyte.out]; refine append_byte (p := dk) (by rfl) _ _ (by rfl) HB4.out (Nat.le_refl _) (by rfl) HO4.out (by rw [Hlen.out]; decide) (by rfl) rfl HBC.out ?_; intro g' c' w5 hown5 hB5 _ _)
        go_wp2_with fail
        go_roundw
        case rel => exact ⟨3, by decide, by rfl, by rw [Htk.out]; exact hown5, hB5⟩
        case measure => first | done | (simp [intOf]; done) | (simp [intOf]; omega)
    · obtain rfl : k = 3 := by omega
      have kc := ownB_conv hown
      rw [List.take_of_length_le (by rw [HL.out]; exact Nat.le_refl _)] at kc
      go_wp2_with fail
      go_ret
      exact ⟨rfl, hB⟩
theorem rlegal_any (s : Dw.St) (w : World) :
    Calls Tryz.prog 14 #[stV s] w fun e w' => e = .returned (.bool (Dw.legal s)) ∧ Below w.heap.size w w' := by
  have hB0 := (Below.refl w.heap.size w).alloc (Nat.le_refl _) (.cells (stC s) 30)
  have hC0 := han w (.cells (stC s) 30)
  obtain ⟨mo, ar, ho, la, lo, iso⟩ := s
  obtain ⟨c0, c1, c2, c3, c4, c5⟩ := cells6 hC0
  have HB := Lib.hid hB0
  clear hC0 hB0
  cases ho
  · have HLE := Lib.hid (show ∀ la, Dw.legal ⟨mo, ar, false, la, lo, iso⟩ = decide ((0 ≤ mo ∧ mo ≤ 5 ∧ 0 ≤ iso ∧ iso ≤ 15) ∧ (-737280 ≤ la ∧ la ≤ 737280 ∧ -1474560 ≤ lo ∧ lo ≤ 1474560) ∧ (la = 0 ∧ lo = 0)) from fun la => by
      rw [Bool.eq_iff_iff, Dw.legal_iff, decide_eq_true_eq]; simp)
    go_enter Tryz.func14, Tryz.ntmps14
    go_wp2_with fail
    all_goals
      go_ret
      refine ⟨?_, (Below.refl w.heap.size w).alloc (Nat.le_refl _) _⟩
      rw [HLE.out]
      first | exact ret_bool (decide_eq_true (by omega)).symm | exact ret_bool (decide_eq_false (by omega)).symm | exact ret_bool (show (lo == 0) = _ from by rw [Bool.eq_iff_iff]; simp; omega)
  · have HLE := Lib.hid (show Dw.legal ⟨mo, ar, true, la, lo, iso⟩ = decide ((0 ≤ mo ∧ mo ≤ 5 ∧ 0 ≤ iso ∧ iso ≤ 15) ∧ (-737280 ≤ la ∧ la ≤ 737280 ∧ -1474560 ≤ lo ∧ lo ≤ 1474560)) from by
      rw [Bool.eq_iff_iff, Dw.legal_iff, decide_eq_true_eq]; simp)
    go_enter Tryz.func14, Tryz.ntmps14
    go_wp2_with fail
    all_goals
      go_ret
      refine ⟨?_, (Below.refl w.heap.size w).alloc (Nat.le_refl _) _⟩
      rw [HLE.out]
      first | exact ret_bool (decide_eq_true (by omega)).symm | exact ret_bool (decide_eq_false (by omega)).symm
theorem and_m24 (n : Nat) (h : n < 18446744073709551616) : bits .and .u64 (n : Int) 16777215 = ((n % 16777216 : Nat) : Int) := by
  have e := u64_and_nat n 16777215 h (by decide)
  rw [show n &&& 16777215 = n % 16777216 from Nat.and_two_pow_sub_one_eq_mod n 24] at e
  exact e
theorem rsigned_any (n : Nat) (h : n < 16777216) (w : World) :
    Calls Tryz.prog 72 #[.int .u64 n, .int .i64 3] w fun e w' => e = .returned (.int .i64 (Dw.sg24 n)) ∧ Below w.heap.size w w' := by
  have h1 := and_m24 n (by omega)
  rw [Nat.mod_eq_of_lt h] at h1
  have h2 : wrap64 (n : Int) = (n : Int) := IntWalk.wrap64_in _ (by omega)
  by_cases hs : n < 8388608
  · have HS := Lib.hid (show Dw.sg24 n = (n : Int) from by unfold Dw.sg24; rw [if_pos hs])
    have h3 : ¬ (n : Int) / 8388608 = 1 := by omega
    go_enter Tryz.func72, Tryz.ntmps72
    go_wp2_with fail
    go_ret
    exact ⟨ret_int HS.out.symm, Below.refl _ _⟩
  · have HS := Lib.hid (show Dw.sg24 n = (n : Int) - 16777216 from by unfold Dw.sg24; rw [if_neg hs])
    have h3 : (n : Int) / 8388608 = 1 := by omega
    have h4 : wrap64 ((n : Int) - 16777216) = (n : Int) - 16777216 := IntWalk.wrap64_in _ (by omega)
    have h5 : IntKind.i64.wrap ((n : Int) - 16777216) = (n : Int) - 16777216 := IntWalk.i64_in _ (by omega)
    go_enter Tryz.func72, Tryz.ntmps72
    go_wp2_with fail
    go_ret
    exact ⟨ret_int HS.out.symm, Below.refl _ _⟩
theorem put_append (a : Nat) : ∀ b n, Dw.put (a + b) n = Dw.put a (n / 256 ^ b) ++ Dw.put b n
  | 0, n => by simp [Dw.put]
  | b + 1, n => by
    rw [← Nat.add_assoc, Dw.put_succ, put_append a b, Dw.put_succ b n, Nat.div_div_eq_div_mul, List.append_assoc, Nat.mul_comm 256, ← Nat.pow_succ]
theorem put8_parts (n : Nat) : Dw.put 8 n = Dw.put 2 (n / 281474976710656) ++ (Dw.put 3 (n / 16777216) ++ Dw.put 3 n) := by
  rw [show Dw.put 8 n = Dw.put (5 + 3) n from rfl, put_append 5 3, show Dw.put 5 (n / 256 ^ 3) = Dw.put (2 + 3) (n / 256 ^ 3) from rfl, put_append 2 3, List.append_assoc, Nat.div_div_eq_div_mul]
theorem rat3_any (n i m : Nat) (hi : i + 3 ≤ 8) (hm : ((Dw.put 8 n).drop i).take 3 = Dw.put 3 m) (w : World) :
    Calls Tryz.prog 73 #[.string ⟨(Dw.put 8 n).toArray⟩, .int .i64 i, .int .i64 3] w fun e w' => e = .returned (.int .u64 ((m % 16777216 : Nat) : Int)) ∧ Below w.heap.size w w' := by
  have HX := Lib.hid (show (⟨(Dw.put 8 n).toArray⟩ : ByteArray).extract i (i + 3) = ⟨(Dw.put 3 m).toArray⟩ from by rw [bs_extract, List.drop_take, Nat.add_sub_cancel_left, hm])
  have HG := Lib.hid (fun w => rget_any ⟨(Dw.put 3 m).toArray⟩ (by show (Dw.put 3 m).toArray.size ≤ 8; simp [Dw.put_length]) w)
  rw [show (⟨(Dw.put 3 m).toArray⟩ : ByteArray).data.toList = Dw.put 3 m from rfl, Dw.get_put] at HG
  have hs : (Dw.put 8 n).toArray.size = 8 := by simp [Dw.put_length]
  have hsz : (⟨(Dw.put 8 n).toArray⟩ : ByteArray).size = 8 := hs
  generalize (⟨(Dw.put 8 n).toArray⟩ : ByteArray) = S at *
  have i1 : ¬ (i : Int) < 0 := by omega
  have i2 : ¬ (8 : Int) < (i : Int) := by omega
  have i3 : IntKind.i64.wrap (8 - (i : Int)) = 8 - (i : Int) := IntWalk.i64_in _ (by omega)
  have i4 : ¬ (8 : Int) - (i : Int) < 3 := by omega
  have i5 : IntKind.i64.wrap ((i : Int) + 3) = (i : Int) + 3 := IntWalk.i64_in _ (by omega)
  clear hm
  go_enter Tryz.func73, Tryz.ntmps73
  go_wp2_with fail
  rw [HX.out]
  refine cb (HG.out _) fun w1 hb => ?_
  go_wp2_with fail
  go_ret
  exact ⟨rfl, hb⟩
theorem rat_lat (n : Nat) (w : World) :
    Calls Tryz.prog 73 #[.string ⟨(Dw.put 8 n).toArray⟩, .int .i64 2, .int .i64 3] w fun e w' => e = .returned (.int .u64 ((n / 16777216 % 16777216 : Nat) : Int)) ∧ Below w.heap.size w w' :=
  rat3_any n 2 (n / 16777216) (by decide) (by rw [put8_parts, List.drop_left' (Dw.put_length 2 _), List.take_left' (Dw.put_length 3 _)]) w
theorem rat_lon (n : Nat) (w : World) :
    Calls Tryz.prog 73 #[.string ⟨(Dw.put 8 n).toArray⟩, .int .i64 5, .int .i64 3] w fun e w' => e = .returned (.int .u64 ((n % 16777216 : Nat) : Int)) ∧ Below w.heap.size w w' :=
  rat3_any n 5 n (by decide) (by rw [put8_parts, ← List.append_assoc, List.drop_left' (by simp [Dw.put_length]), List.take_of_length_le (by simp [Dw.put_length])]) w
theorem safe_any (s : Dw.St) (h : 0 ≤ s.iso ∧ s.iso ≤ 15) (w : World) :
    Calls Tryz.prog 83 #[stV s] w fun e w' => e = .returned (.int .i64 (Dw.safeI s)) ∧ Below w.heap.size w w' := by
  have hB := (Below.refl w.heap.size w).alloc (Nat.le_refl _) (.cells (stC s) 27)
  have hC0 := han w (.cells (stC s) 27)
  have HS := Lib.hid (fun w => sound_any s h w)
  have HN := Lib.hid (fun w => needs_any s.mo w)
  have HF := Lib.hid (fun w => fly_any s.mo w)
  have HH := Lib.hid (fun w => home_any s.mo w)
  have H2 := Lib.hid (fun w => needs_any 2 w)
  rw [show Dw.needsI 2 = 2 from rfl] at H2
  have HR := Lib.hid (show Dw.safeI s = if Dw.flyB s.mo && (s.ho || !Dw.homeB s.mo) && decide (Dw.needsI s.mo ≤ Dw.soundN s.iso) then s.mo else if 2 ≤ Dw.soundN s.iso then 2 else 5 from rfl)
  generalize Dw.safeI s = R at *
  generalize Dw.needsI s.mo = nM at *
  generalize Dw.soundN s.iso = nS at *
  generalize Dw.flyB s.mo = bF at *
  generalize Dw.homeB s.mo = bH at *
  obtain ⟨mo, ar, ho, la, lo, iso⟩ := s
  obtain ⟨c0, c1, c2, c3, c4, c5⟩ := cells6 hC0
  have HC := Lib.hid hC0
  clear hC0 h
  go_enter Tryz.func83, Tryz.ntmps83
  go_wp2_with (first | (refine lb HC.out rfl rfl rfl (by kernel_rfl) ?_))
  go_wp2_with fail
  refine cb (HS.out _) fun w1 hb => ?_
  have hC := kp hb HC.out
  replace hB := tr hB hb
  clear hb HC c0 c1 c2 c3 c4 c5
  obtain ⟨c0, c1, c2, c3, c4, c5⟩ := cells6 hC
  have HC := Lib.hid hC
  clear hC
  go_wp2_with fail
  refine cb (HF.out _) fun w2 hb => ?_
  have hC := kp hb HC.out
  replace hB := tr hB hb
  clear hb HC c0 c1 c2 c3 c4 c5
  obtain ⟨c0, c1, c2, c3, c4, c5⟩ := cells6 hC
  have HC := Lib.hid hC
  clear hC
  cases bF
  · go_wp2_with fail
    refine cb (H2.out _) fun w3 hb => ?_
    have hC := kp hb HC.out
    replace hB := tr hB hb
    clear hb HC c0 c1 c2 c3 c4 c5
    obtain ⟨c0, c1, c2, c3, c4, c5⟩ := cells6 hC
    have HC := Lib.hid hC
    clear hC
    by_cases h2 : 2 ≤ nS
    · have h3 : ¬ nS < 2 := by omega
      go_wp2_with fail
      go_ret
      exact ⟨ret_int (by rw [HR.out]; first | (simp [*]; done) | (split <;> rename_i q <;> simp at q <;> (try split) <;> omega)), hB⟩
    · have h3 : nS < 2 := by omega
      go_wp2_with fail
      go_ret
      exact ⟨ret_int (by rw [HR.out]; first | (simp [*]; done) | (split <;> rename_i q <;> simp at q <;> (try split) <;> omega)), hB⟩
  · go_wp2_with fail
    refine cb (HN.out _) fun w3 hb => ?_
    have hC := kp hb HC.out
    replace hB := tr hB hb
    clear hb HC c0 c1 c2 c3 c4 c5
    obtain ⟨c0, c1, c2, c3, c4, c5⟩ := cells6 hC
    have HC := Lib.hid hC
    clear hC
    by_cases hn : nM ≤ nS
    · cases ho
      · go_wp2_with fail
        refine cb (HH.out _) fun w4 hb => ?_
        have hC := kp hb HC.out
        replace hB := tr hB hb
        clear hb HC c0 c1 c2 c3 c4 c5
        obtain ⟨c0, c1, c2, c3, c4, c5⟩ := cells6 hC
        have HC := Lib.hid hC
        clear hC
        cases bH
        · go_wp2_with fail
          go_ret
          exact ⟨ret_int (by rw [HR.out]; first | (simp [*]; done) | (split <;> rename_i q <;> simp at q <;> (try split) <;> omega)), hB⟩
        · go_wp2_with fail
          refine cb (H2.out _) fun w5 hb => ?_
          have hC := kp hb HC.out
          replace hB := tr hB hb
          clear hb HC c0 c1 c2 c3 c4 c5
          obtain ⟨c0, c1, c2, c3, c4, c5⟩ := cells6 hC
          have HC := Lib.hid hC
          clear hC
          by_cases h2 : 2 ≤ nS
          · have h3 : ¬ nS < 2 := by omega
            go_wp2_with fail
            go_ret
            exact ⟨ret_int (by rw [HR.out]; first | (simp [*]; done) | (split <;> rename_i q <;> simp at q <;> (try split) <;> omega)), hB⟩
          · have h3 : nS < 2 := by omega
            go_wp2_with fail
            go_ret
            exact ⟨ret_int (by rw [HR.out]; first | (simp [*]; done) | (split <;> rename_i q <;> simp at q <;> (try split) <;> omega)), hB⟩
      · go_wp2_with fail
        go_ret
        exact ⟨ret_int (by rw [HR.out]; first | (simp [*]; done) | (split <;> rename_i q <;> simp at q <;> (try split) <;> omega)), hB⟩
    · go_wp2_with fail
      refine cb (H2.out _) fun w5 hb => ?_
      have hC := kp hb HC.out
      replace hB := tr hB hb
      clear hb HC c0 c1 c2 c3 c4 c5
      obtain ⟨c0, c1, c2, c3, c4, c5⟩ := cells6 hC
      have HC := Lib.hid hC
      clear hC
      by_cases h2 : 2 ≤ nS
      · have h3 : ¬ nS < 2 := by omega
        go_wp2_with fail
        go_ret
        exact ⟨ret_int (by rw [HR.out]; first | (simp [*]; done) | (split <;> rename_i q <;> simp at q <;> (try split) <;> omega)), hB⟩
      · have h3 : nS < 2 := by omega
        go_wp2_with fail
        go_ret
        exact ⟨ret_int (by rw [HR.out]; first | (simp [*]; done) | (split <;> rename_i q <;> simp at q <;> (try split) <;> omega)), hB⟩
abbrev Z6 : Array Value := #[.int .i64 0, .bool false, .bool false, .int .i64 0, .int .i64 0, .int .i64 0]
theorem resolve_any (s : Dw.St) (h : 0 ≤ s.iso ∧ s.iso ≤ 15) (v : Int) (w : World) :
    Calls Tryz.prog 53 #[stV s, .int .i64 v] w fun e w' => e = .returned (stV (Dw.resolveS s v)) ∧ Below w.heap.size w w' := by
  have HS := Lib.hid (fun w => safe_any s h w)
  obtain ⟨V, hV⟩ : ∃ V, (w.alloc (.cells (stC s) 27)).alloc (.cells Z6 27) = V := ⟨_, rfl⟩
  have b0 : V.heap[w.heap.size]? = some (.cells (stC s) 27) := by rw [← hV]; exact heap_alloc2_old _ _ _
  have b1 : V.heap[w.heap.size + 1]? = some (.cells Z6 27) := by rw [← hV]; exact heap_alloc2_new _ _ _
  have hB : Below w.heap.size w V := by rw [← hV]; exact ((Below.refl _ w).alloc (Nat.le_refl _) _).alloc (by simp) _
  by_cases h2 : v = 2
  · subst h2
    go_enter Tryz.func53, Tryz.ntmps53
    go_wp2_with (first | (refine lb b0 rfl rfl rfl (by kernel_rfl) ?_) | (refine sb b0 rfl rfl rfl rfl (by kernel_rfl) ?_))
    refine cb (HS.out _) fun w1 hb => ?_
    replace b0 := kp hb b0
    replace b1 := kp hb b1
    replace hB := tr hB hb
    clear hb hV
    have q0 := heap_setCell_same w1 w.heap.size 1 _ _ (.bool true) b0
    change _ = some (Obj.cells (stC { s with ar := true }) _ _) at q0
    have r0 := (heap_setCell_other w1 ⟨w.heap.size, 1, none⟩ (w.heap.size + 1) (.bool true) (by simp)).trans b1
    have hB0 := hB.setCell (p := ⟨w.heap.size, 1, none⟩) (by simp) (.bool true)
    have q1 := heap_setCell_same _ w.heap.size 0 _ _ (.int .i64 (Dw.safeI s)) q0
    change _ = some (Obj.cells (stC { s with mo := Dw.safeI s, ar := true }) _ _) at q1
    have r1 := (heap_setCell_other _ ⟨w.heap.size, 0, none⟩ (w.heap.size + 1) (.int .i64 (Dw.safeI s)) (by simp)).trans r0
    have hB1 := hB0.setCell (p := ⟨w.heap.size, 0, none⟩) (by simp) (.int .i64 (Dw.safeI s))
    obtain ⟨W2, hW2⟩ : ∃ W2, (w1.setCell ⟨w.heap.size, 1, none⟩ (.bool true)).setCell ⟨w.heap.size, 0, none⟩ (.int .i64 (Dw.safeI s)) = W2 := ⟨_, rfl⟩
    rw [hW2] at q1 r1 hB1
    obtain ⟨c0, c1, -⟩ := cells6 b0
    obtain ⟨d0, d1, -⟩ := cells6 q0
    have z0 := frozen0 b0 1
    have z1 := frozen0 q0 0
    go_wp2_with (first | (refine lb q1 rfl rfl rfl (by kernel_rfl) ?_) | (refine sb q1 rfl rfl rfl rfl (by kernel_rfl) ?_) | (refine lb r1 rfl rfl rfl (by kernel_rfl) ?_) | (refine sb r1 rfl rfl rfl rfl (by kernel_rfl) ?_))
    exact bodyPost_ret (rcr rfl (srh r1) (by rfl) (by kernel_rfl)) rfl ⟨rfl, below_setRow hB1 (by omega) _⟩
  · by_cases h1 : v = 1
    · subst h1
      have q0 := heap_setCell_same V w.heap.size 1 _ _ (.bool false) b0
      change _ = some (Obj.cells (stC { s with ar := false }) _ _) at q0
      have r0 := (heap_setCell_other V ⟨w.heap.size, 1, none⟩ (w.heap.size + 1) (.bool false) (by simp)).trans b1
      have hB0 := hB.setCell (p := ⟨w.heap.size, 1, none⟩) (by simp) (.bool false)
      have q1 := heap_setCell_same _ w.heap.size 0 _ _ (.int .i64 0) q0
      change _ = some (Obj.cells (stC { s with mo := 0, ar := false }) _ _) at q1
      have r1 := (heap_setCell_other _ ⟨w.heap.size, 0, none⟩ (w.heap.size + 1) (.int .i64 0) (by simp)).trans r0
      have hB1 := hB0.setCell (p := ⟨w.heap.size, 0, none⟩) (by simp) (.int .i64 0)
      obtain ⟨W2, hW2⟩ : ∃ W2, (V.setCell ⟨w.heap.size, 1, none⟩ (.bool false)).setCell ⟨w.heap.size, 0, none⟩ (.int .i64 0) = W2 := ⟨_, rfl⟩
      rw [hW2] at q1 r1 hB1
      obtain ⟨c0, c1, -⟩ := cells6 b0
      obtain ⟨d0, d1, -⟩ := cells6 q0
      have z0 := frozen0 b0 1
      have z1 := frozen0 q0 0
      go_enter Tryz.func53, Tryz.ntmps53
      go_wp2_with (first | (refine lb q1 rfl rfl rfl (by kernel_rfl) ?_) | (refine sb q1 rfl rfl rfl rfl (by kernel_rfl) ?_) | (refine lb r1 rfl rfl rfl (by kernel_rfl) ?_) | (refine sb r1 rfl rfl rfl rfl (by kernel_rfl) ?_))
      exact bodyPost_ret (rcr rfl (srh r1) (by rfl) (by kernel_rfl)) rfl ⟨rfl, below_setRow hB1 (by omega) _⟩
    · have hr : Dw.resolveS s v = s := by unfold Dw.resolveS; rw [if_neg h2, if_neg h1]
      have HR := Lib.hid hr
      clear hr
      have h2' : (v == 2) = false := by simpa using h2
      have h1' : (v == 1) = false := by simpa using h1
      go_enter Tryz.func53, Tryz.ntmps53
      go_wp2_with (first | (refine lb b0 rfl rfl rfl (by kernel_rfl) ?_) | (refine sb b0 rfl rfl rfl rfl (by kernel_rfl) ?_) | (refine lb b1 rfl rfl rfl (by kernel_rfl) ?_) | (refine sb b1 rfl rfl rfl rfl (by kernel_rfl) ?_))
      exact bodyPost_ret (rcr rfl (srh b1) (by rfl) (by kernel_rfl)) rfl ⟨by rw [HR.out], below_setRow hB (by omega) _⟩
theorem getFrom_eq : ∀ (b : List UInt8) (n : Nat), Dw.getFrom n b = n * 256 ^ b.length + Dw.getFrom 0 b
  | [], n => by simp [Dw.getFrom]
  | x :: l, n => by
    have h1 : Dw.getFrom n (x :: l) = Dw.getFrom (n * 256 + x.toNat) l := rfl
    have h2 : Dw.getFrom 0 (x :: l) = Dw.getFrom (0 * 256 + x.toNat) l := rfl
    rw [h1, h2, getFrom_eq l (n * 256 + x.toNat), getFrom_eq l (0 * 256 + x.toNat), List.length_cons, Nat.pow_succ, Nat.zero_mul, Nat.zero_add, Nat.add_mul, Nat.mul_assoc, Nat.mul_comm 256, Nat.add_assoc]
theorem get_append (a b : List UInt8) : Dw.get (a ++ b) = Dw.get a * 256 ^ b.length + Dw.get b := by
  unfold Dw.get
  rw [← getFrom_eq]
  exact List.foldl_append
theorem get_pack (F I NA NB : Nat) (hF : F < 256) (hI : I < 256) : Dw.get ([UInt8.ofNat F, UInt8.ofNat I] ++ Dw.put 3 NA ++ Dw.put 3 NB) = F * 72057594037927936 + I * 281474976710656 + NA % 16777216 * 16777216 + NB % 16777216 := by
  rw [get_append, get_append, Dw.put_length, Dw.put_length, Dw.get_put, Dw.get_put, show Dw.get [UInt8.ofNat F, UInt8.ofNat I] = F * 256 + I from by
    show (0 * 256 + (UInt8.ofNat F).toNat) * 256 + (UInt8.ofNat I).toNat = _
    rw [UInt8.toNat_ofNat', UInt8.toNat_ofNat']; omega]
  omega
theorem rpack_any (s : Dw.St) (h : Dw.legal s = true) (w : World) :
    Calls Tryz.prog 45 #[stV s] w fun e w' => e = .returned (.int .u64 (Dw.pack s : Nat)) ∧ Below w.heap.size w w' := by
  obtain ⟨⟨m0, m1, i0, i1⟩, _⟩ := (Dw.legal_iff s).1 h
  have hF : Dw.firstN s < 32 := Dw.firstN_lt h
  have HP := Lib.hid (show Dw.get ([UInt8.ofNat (Dw.firstN s), UInt8.ofNat s.iso.toNat] ++ Dw.put 3 (s.la % 18446744073709551616).toNat ++ Dw.put 3 (s.lo % 18446744073709551616).toNat) = Dw.pack s from by
    rw [get_pack _ _ _ _ (by omega) (by omega), m24_u64, m24_u64]; unfold Dw.pack; rw [if_pos h])
  have HL := Lib.hid (fun w => rlegal_any s w)
  rw [h] at HL
  have HF := Lib.hid (show ((Dw.firstN s : Nat) : Int) = s.mo + (if s.ar then 8 else 0) + (if s.ho then 16 else 0) from by unfold Dw.firstN; cases s.ar <;> cases s.ho <;> simp <;> omega)
  have wA := u64_nat s.la; have wB := u64_nat s.lo
  have HP1 := Lib.hid (fun w => rput3_any (s.la % 18446744073709551616).toNat (by omega) w)
  have HP2 := Lib.hid (fun w => rput3_any (s.lo % 18446744073709551616).toNat (by omega) w)
  have l1 : (Dw.put 3 (s.la % 18446744073709551616).toNat).length = 3 := Dw.put_length 3 _
  have l2 : (Dw.put 3 (s.lo % 18446744073709551616).toNat).length = 3 := Dw.put_length 3 _
  have hI8 : IntKind.u8.wrap s.iso = (((UInt8.ofNat s.iso.toNat).toNat : Nat) : Int) := by rw [IntKind.wrap_u8', UInt8.toNat_ofNat']; omega
  have hF8 : IntKind.u8.wrap ((Dw.firstN s : Nat) : Int) = (((UInt8.ofNat (Dw.firstN s)).toNat : Nat) : Int) := by rw [IntKind.wrap_u8', UInt8.toNat_ofNat']; omega
  have hB0 := (Below.refl w.heap.size w).alloc (Nat.le_refl _) (.cells (stC s) 30)
  have hC0 := han w (.cells (stC s) 30)
  have HW := Lib.hid (fun (L : List UInt8) (hl : L.length ≤ 8) w => rget_any ⟨L.toArray⟩ (by show L.toArray.size ≤ 8; simpa using hl) w)
  generalize Dw.pack s = PK at *
  generalize Dw.put 3 (s.la % 18446744073709551616).toNat = Q at *
  generalize Dw.put 3 (s.lo % 18446744073709551616).toNat = D at *
  generalize (s.la % 18446744073709551616).toNat = NA at *
  generalize (s.lo % 18446744073709551616).toNat = NB at *
  generalize UInt8.ofNat (Dw.firstN s) = fb at *
  generalize UInt8.ofNat s.iso.toNat = ib at *
  generalize ((Dw.firstN s : Nat) : Int) = FI at *
  obtain ⟨mo, ar, ho, la, lo, iso⟩ := s
  obtain ⟨c0, c1, c2, c3, c4, c5⟩ := cells6 hC0
  have j1 : wrap64 (mo + 8) = mo + 8 := IntWalk.wrap64_in _ (by dsimp only at *; omega)
  have j2 : wrap64 (mo + 16) = mo + 16 := IntWalk.wrap64_in _ (by dsimp only at *; omega)
  have j3 : wrap64 (mo + 8 + 16) = mo + 8 + 16 := IntWalk.wrap64_in _ (by dsimp only at *; omega)
  have j4 : IntKind.i64.wrap (mo + 8) = mo + 8 := IntWalk.i64_in _ (by dsimp only at *; omega)
  have j5 : IntKind.i64.wrap (mo + 16) = mo + 16 := IntWalk.i64_in _ (by dsimp only at *; omega)
  have j6 : IntKind.i64.wrap (mo + 8 + 16) = mo + 8 + 16 := IntWalk.i64_in _ (by dsimp only at *; omega)
  have HA := Lib.hid wA; have HB := Lib.hid wB; have HF8 := Lib.hid hF8; have HI8 := Lib.hid hI8
  clear wA wB hF8 hI8 h m0 m1 i0 i1 hF
  cases ar <;> cases ho
  · have HE := Lib.hid (show mo = FI from by have := HF.out; simp at this; omega)
    clear HF
    go_enter Tryz.func45, Tryz.ntmps45
    go_wp2_with (first | (refine lb hC0 rfl rfl rfl (by kernel_rfl) ?_))
    refine cb (HL.out _) fun w1 hb => ?_
    replace hC0 := kp hb hC0
    have hB1 := tr hB0 hb
    clear hb c0 c1 c2 c3 c4 c5 hB0
    obtain ⟨c0, c1, c2, c3, c4, c5⟩ := cells6 hC0
    go_wp2_with fail
    rw [HE.out]
    clear HE HL j1 j2 j3 j4 j5 j6
    refine wp_letterM [0, 1, 2, 3, 4, 7, 8, 9, 10, 12, 13, 14, 15] 5 [6, 11, 16, 17] 18 (some 22) (NewRow w1 #[.int .u8 ((fb.toNat : Nat) : Int), .int .u8 ((ib.toNat : Nat) : Int)] 5) rfl rfl (by kernel_rfl) (by kernel_rfl) (by kernel_rfl) rfl (fun v A B h hk => h.keep hk) ?_
    (apply rat; (focus (intro w' hk; obtain ⟨x3,x4,x5⟩ := look3 hk c3 c4 c5; have e1 := HA.out; have e2 := HB.out; have e3 := HF8.out; have e4 := HI8.out; (iterate 8 (refine' rv ?_ rfl rfl (by go_simp; first | done | with_reducible rfl | exact rfl); try simp only [Act.put, List.setIfInBounds_toArray, List.set_cons_zero, List.set_cons_succ])); (refine' rc ?_ (by exact rfl) (by exact rfl) (by go_simp; first | done | (constructor <;> with_reducible rfl) | with_reducible rfl) (by exact HP1.out w'); try simp only [Act.put, List.setIfInBounds_toArray, List.set_cons_zero, List.set_cons_succ]); (iterate 3 (refine' rv ?_ rfl rfl (by go_simp; first | done | with_reducible rfl | exact rfl); try simp only [Act.put, List.setIfInBounds_toArray, List.set_cons_zero, List.set_cons_succ])); (refine' rc ?_ (by exact rfl) (by exact rfl) (by go_simp; first | done | (constructor <;> with_reducible rfl) | with_reducible rfl) (by exact HP2.out w'); try simp only [Act.put, List.setIfInBounds_toArray, List.set_cons_zero, List.set_cons_succ]); (exact rn))))
    refine ⟨rfl, sure_row (fun w' _ => by go_simp), ?_⟩
    rintro v W2 hk2 ⟨b, rfl, hb, hbc⟩
    simp only [List.setIfInBounds_toArray, List.set_cons_zero, List.set_cons_succ, List.size_toArray, List.length_cons, List.length_nil, Nat.zero_add]
    have kc : ∀ w', Keep W2 w' → (convert 134 9 (.slice (some ⟨b, 0, none⟩) 2 2)).run Tryz.prog w' = .ok (.string ⟨([fb, ib] : List UInt8).toArray⟩) w' := fun w' hk' => by
      have hbc' := kpi hk' hbc
      exact run_convert_bytes_back (P := Tryz.prog) w' 134 9 5 ⟨b, 0, none⟩ 2 [fb, ib] Tryz.underlying134 Tryz.underlying5 Tryz.underlying9 (fun j hj => by
        rw [addr_add, cell_of_row _ _ j _ _ _ hbc']
        have hj2 : j < 2 := hj
        rcases (by omega : j = 0 ∨ j = 1) with rfl | rfl
        · rfl
        · rfl)
    have KC := Lib.hid kc
    clear kc
    have HPO := Lib.hid HP.out
    generalize hSS : ([fb, ib] : List UInt8) = SS at *
    have hS2 : SS.length = 2 := by rw [← hSS]; rfl
    clear hSS HP
    have j1 : ¬ 9223372036854775807 < SS.length + Q.length := by omega
    have j2 : ¬ 9223372036854775807 < SS.length + Q.length + D.length := by omega
    obtain ⟨L8, hL8⟩ : ∃ L, SS ++ Q ++ D = L := ⟨_, rfl⟩
    have x1 : ((⟨SS.toArray⟩ : ByteArray) ++ ⟨Q.toArray⟩ ++ ⟨D.toArray⟩) = ⟨L8.toArray⟩ := by rw [bs_append, bs_append, hL8]
    have X1 := Lib.hid x1
    clear x1
    have HG := Lib.hid (fun w => HW.out L8 (by rw [← hL8]; simp; omega) w)
    have HL8 := Lib.hid hL8
    clear hL8
    repeat' (first | (refine pl_value (v := ?_) rfl rfl ?_ ?_; rotate_left 1; (focus (intro w' hk; have kc' := KC.out w' hk; go_simp; (first | done | with_reducible rfl | exact rfl))); (try simp only [Act.put, List.setIfInBounds_toArray, List.set_cons_zero, List.set_cons_succ])) | (refine pl_value (v := ?_) rfl rfl ?_ ?_; rotate_left 1; (focus (intro w' hk; go_simp; (first | done | with_reducible rfl | exact rfl))); (try simp only [Act.put, List.setIfInBounds_toArray, List.set_cons_zero, List.set_cons_succ])))
    rw [X1.out]
    (refine pl_call (v := ?_) (f := ?_) (args := ?_) rfl rfl ?_ ?_ ?_; rotate_left 3; (focus (intro w' hk; go_simp; (first | done | (constructor <;> with_reducible rfl) | with_reducible rfl))); (focus (intro w' hk; exact HG.out w')); (try simp only [Act.put, List.setIfInBounds_toArray, List.set_cons_zero, List.set_cons_succ]))
    refine pl_nil ?_
    intro w3 hk3 _
    simp only [List.drop_succ_cons, List.drop_zero]
    have hB3 := hB1.trans ((hk2.trans hk3).whole.mono hB1.size)
    clear hk2 hk3 hbc hB1 KC c0 c1 c2 c3 c4 c5 j1 j2 HP1 HP2 HG HW
    go_wp2_with fail
    go_ret
    refine ⟨?_, hB3⟩
    show _ = Ending.returned (.int .u64 ((PK : Nat) : Int))
    rw [← HPO.out, HL8.out]
    rfl
  · have HE := Lib.hid (show mo + 16 = FI from by have := HF.out; simp at this; omega)
    clear HF
    go_enter Tryz.func45, Tryz.ntmps45
    go_wp2_with (first | (refine lb hC0 rfl rfl rfl (by kernel_rfl) ?_))
    refine cb (HL.out _) fun w1 hb => ?_
    replace hC0 := kp hb hC0
    have hB1 := tr hB0 hb
    clear hb c0 c1 c2 c3 c4 c5 hB0
    obtain ⟨c0, c1, c2, c3, c4, c5⟩ := cells6 hC0
    go_wp2_with fail
    rw [HE.out]
    clear HE HL j1 j2 j3 j4 j5 j6
    refine wp_letterM [0, 1, 2, 3, 4, 7, 8, 9, 10, 12, 13, 14, 15] 5 [6, 11, 16, 17] 18 (some 22) (NewRow w1 #[.int .u8 ((fb.toNat : Nat) : Int), .int .u8 ((ib.toNat : Nat) : Int)] 5) rfl rfl (by kernel_rfl) (by kernel_rfl) (by kernel_rfl) rfl (fun v A B h hk => h.keep hk) ?_
    (apply rat; (focus (intro w' hk; obtain ⟨x3,x4,x5⟩ := look3 hk c3 c4 c5; have e1 := HA.out; have e2 := HB.out; have e3 := HF8.out; have e4 := HI8.out; (iterate 8 (refine' rv ?_ rfl rfl (by go_simp; first | done | with_reducible rfl | exact rfl); try simp only [Act.put, List.setIfInBounds_toArray, List.set_cons_zero, List.set_cons_succ])); (refine' rc ?_ (by exact rfl) (by exact rfl) (by go_simp; first | done | (constructor <;> with_reducible rfl) | with_reducible rfl) (by exact HP1.out w'); try simp only [Act.put, List.setIfInBounds_toArray, List.set_cons_zero, List.set_cons_succ]); (iterate 3 (refine' rv ?_ rfl rfl (by go_simp; first | done | with_reducible rfl | exact rfl); try simp only [Act.put, List.setIfInBounds_toArray, List.set_cons_zero, List.set_cons_succ])); (refine' rc ?_ (by exact rfl) (by exact rfl) (by go_simp; first | done | (constructor <;> with_reducible rfl) | with_reducible rfl) (by exact HP2.out w'); try simp only [Act.put, List.setIfInBounds_toArray, List.set_cons_zero, List.set_cons_succ]); (exact rn))))
    refine ⟨rfl, sure_row (fun w' _ => by go_simp), ?_⟩
    rintro v W2 hk2 ⟨b, rfl, hb, hbc⟩
    simp only [List.setIfInBounds_toArray, List.set_cons_zero, List.set_cons_succ, List.size_toArray, List.length_cons, List.length_nil, Nat.zero_add]
    have kc : ∀ w', Keep W2 w' → (convert 134 9 (.slice (some ⟨b, 0, none⟩) 2 2)).run Tryz.prog w' = .ok (.string ⟨([fb, ib] : List UInt8).toArray⟩) w' := fun w' hk' => by
      have hbc' := kpi hk' hbc
      exact run_convert_bytes_back (P := Tryz.prog) w' 134 9 5 ⟨b, 0, none⟩ 2 [fb, ib] Tryz.underlying134 Tryz.underlying5 Tryz.underlying9 (fun j hj => by
        rw [addr_add, cell_of_row _ _ j _ _ _ hbc']
        have hj2 : j < 2 := hj
        rcases (by omega : j = 0 ∨ j = 1) with rfl | rfl
        · rfl
        · rfl)
    have KC := Lib.hid kc
    clear kc
    have HPO := Lib.hid HP.out
    generalize hSS : ([fb, ib] : List UInt8) = SS at *
    have hS2 : SS.length = 2 := by rw [← hSS]; rfl
    clear hSS HP
    have j1 : ¬ 9223372036854775807 < SS.length + Q.length := by omega
    have j2 : ¬ 9223372036854775807 < SS.length + Q.length + D.length := by omega
    obtain ⟨L8, hL8⟩ : ∃ L, SS ++ Q ++ D = L := ⟨_, rfl⟩
    have x1 : ((⟨SS.toArray⟩ : ByteArray) ++ ⟨Q.toArray⟩ ++ ⟨D.toArray⟩) = ⟨L8.toArray⟩ := by rw [bs_append, bs_append, hL8]
    have X1 := Lib.hid x1
    clear x1
    have HG := Lib.hid (fun w => HW.out L8 (by rw [← hL8]; simp; omega) w)
    have HL8 := Lib.hid hL8
    clear hL8
    repeat' (first | (refine pl_value (v := ?_) rfl rfl ?_ ?_; rotate_left 1; (focus (intro w' hk; have kc' := KC.out w' hk; go_simp; (first | done | with_reducible rfl | exact rfl))); (try simp only [Act.put, List.setIfInBounds_toArray, List.set_cons_zero, List.set_cons_succ])) | (refine pl_value (v := ?_) rfl rfl ?_ ?_; rotate_left 1; (focus (intro w' hk; go_simp; (first | done | with_reducible rfl | exact rfl))); (try simp only [Act.put, List.setIfInBounds_toArray, List.set_cons_zero, List.set_cons_succ])))
    rw [X1.out]
    (refine pl_call (v := ?_) (f := ?_) (args := ?_) rfl rfl ?_ ?_ ?_; rotate_left 3; (focus (intro w' hk; go_simp; (first | done | (constructor <;> with_reducible rfl) | with_reducible rfl))); (focus (intro w' hk; exact HG.out w')); (try simp only [Act.put, List.setIfInBounds_toArray, List.set_cons_zero, List.set_cons_succ]))
    refine pl_nil ?_
    intro w3 hk3 _
    simp only [List.drop_succ_cons, List.drop_zero]
    have hB3 := hB1.trans ((hk2.trans hk3).whole.mono hB1.size)
    clear hk2 hk3 hbc hB1 KC c0 c1 c2 c3 c4 c5 j1 j2 HP1 HP2 HG HW
    go_wp2_with fail
    go_ret
    refine ⟨?_, hB3⟩
    show _ = Ending.returned (.int .u64 ((PK : Nat) : Int))
    rw [← HPO.out, HL8.out]
    rfl
  · have HE := Lib.hid (show mo + 8 = FI from by have := HF.out; simp at this; omega)
    clear HF
    go_enter Tryz.func45, Tryz.ntmps45
    go_wp2_with (first | (refine lb hC0 rfl rfl rfl (by kernel_rfl) ?_))
    refine cb (HL.out _) fun w1 hb => ?_
    replace hC0 := kp hb hC0
    have hB1 := tr hB0 hb
    clear hb c0 c1 c2 c3 c4 c5 hB0
    obtain ⟨c0, c1, c2, c3, c4, c5⟩ := cells6 hC0
    go_wp2_with fail
    rw [HE.out]
    clear HE HL j1 j2 j3 j4 j5 j6
    refine wp_letterM [0, 1, 2, 3, 4, 7, 8, 9, 10, 12, 13, 14, 15] 5 [6, 11, 16, 17] 18 (some 22) (NewRow w1 #[.int .u8 ((fb.toNat : Nat) : Int), .int .u8 ((ib.toNat : Nat) : Int)] 5) rfl rfl (by kernel_rfl) (by kernel_rfl) (by kernel_rfl) rfl (fun v A B h hk => h.keep hk) ?_
    (apply rat; (focus (intro w' hk; obtain ⟨x3,x4,x5⟩ := look3 hk c3 c4 c5; have e1 := HA.out; have e2 := HB.out; have e3 := HF8.out; have e4 := HI8.out; (iterate 8 (refine' rv ?_ rfl rfl (by go_simp; first | done | with_reducible rfl | exact rfl); try simp only [Act.put, List.setIfInBounds_toArray, List.set_cons_zero, List.set_cons_succ])); (refine' rc ?_ (by exact rfl) (by exact rfl) (by go_simp; first | done | (constructor <;> with_reducible rfl) | with_reducible rfl) (by exact HP1.out w'); try simp only [Act.put, List.setIfInBounds_toArray, List.set_cons_zero, List.set_cons_succ]); (iterate 3 (refine' rv ?_ rfl rfl (by go_simp; first | done | with_reducible rfl | exact rfl); try simp only [Act.put, List.setIfInBounds_toArray, List.set_cons_zero, List.set_cons_succ])); (refine' rc ?_ (by exact rfl) (by exact rfl) (by go_simp; first | done | (constructor <;> with_reducible rfl) | with_reducible rfl) (by exact HP2.out w'); try simp only [Act.put, List.setIfInBounds_toArray, List.set_cons_zero, List.set_cons_succ]); (exact rn))))
    refine ⟨rfl, sure_row (fun w' _ => by go_simp), ?_⟩
    rintro v W2 hk2 ⟨b, rfl, hb, hbc⟩
    simp only [List.setIfInBounds_toArray, List.set_cons_zero, List.set_cons_succ, List.size_toArray, List.length_cons, List.length_nil, Nat.zero_add]
    have kc : ∀ w', Keep W2 w' → (convert 134 9 (.slice (some ⟨b, 0, none⟩) 2 2)).run Tryz.prog w' = .ok (.string ⟨([fb, ib] : List UInt8).toArray⟩) w' := fun w' hk' => by
      have hbc' := kpi hk' hbc
      exact run_convert_bytes_back (P := Tryz.prog) w' 134 9 5 ⟨b, 0, none⟩ 2 [fb, ib] Tryz.underlying134 Tryz.underlying5 Tryz.underlying9 (fun j hj => by
        rw [addr_add, cell_of_row _ _ j _ _ _ hbc']
        have hj2 : j < 2 := hj
        rcases (by omega : j = 0 ∨ j = 1) with rfl | rfl
        · rfl
        · rfl)
    have KC := Lib.hid kc
    clear kc
    have HPO := Lib.hid HP.out
    generalize hSS : ([fb, ib] : List UInt8) = SS at *
    have hS2 : SS.length = 2 := by rw [← hSS]; rfl
    clear hSS HP
    have j1 : ¬ 9223372036854775807 < SS.length + Q.length := by omega
    have j2 : ¬ 9223372036854775807 < SS.length + Q.length + D.length := by omega
    obtain ⟨L8, hL8⟩ : ∃ L, SS ++ Q ++ D = L := ⟨_, rfl⟩
    have x1 : ((⟨SS.toArray⟩ : ByteArray) ++ ⟨Q.toArray⟩ ++ ⟨D.toArray⟩) = ⟨L8.toArray⟩ := by rw [bs_append, bs_append, hL8]
    have X1 := Lib.hid x1
    clear x1
    have HG := Lib.hid (fun w => HW.out L8 (by rw [← hL8]; simp; omega) w)
    have HL8 := Lib.hid hL8
    clear hL8
    repeat' (first | (refine pl_value (v := ?_) rfl rfl ?_ ?_; rotate_left 1; (focus (intro w' hk; have kc' := KC.out w' hk; go_simp; (first | done | with_reducible rfl | exact rfl))); (try simp only [Act.put, List.setIfInBounds_toArray, List.set_cons_zero, List.set_cons_succ])) | (refine pl_value (v := ?_) rfl rfl ?_ ?_; rotate_left 1; (focus (intro w' hk; go_simp; (first | done | with_reducible rfl | exact rfl))); (try simp only [Act.put, List.setIfInBounds_toArray, List.set_cons_zero, List.set_cons_succ])))
    rw [X1.out]
    (refine pl_call (v := ?_) (f := ?_) (args := ?_) rfl rfl ?_ ?_ ?_; rotate_left 3; (focus (intro w' hk; go_simp; (first | done | (constructor <;> with_reducible rfl) | with_reducible rfl))); (focus (intro w' hk; exact HG.out w')); (try simp only [Act.put, List.setIfInBounds_toArray, List.set_cons_zero, List.set_cons_succ]))
    refine pl_nil ?_
    intro w3 hk3 _
    simp only [List.drop_succ_cons, List.drop_zero]
    have hB3 := hB1.trans ((hk2.trans hk3).whole.mono hB1.size)
    clear hk2 hk3 hbc hB1 KC c0 c1 c2 c3 c4 c5 j1 j2 HP1 HP2 HG HW
    go_wp2_with fail
    go_ret
    refine ⟨?_, hB3⟩
    show _ = Ending.returned (.int .u64 ((PK : Nat) : Int))
    rw [← HPO.out, HL8.out]
    rfl
  · have HE := Lib.hid (show mo + 8 + 16 = FI from by have := HF.out; simp at this; omega)
    clear HF
    go_enter Tryz.func45, Tryz.ntmps45
    go_wp2_with (first | (refine lb hC0 rfl rfl rfl (by kernel_rfl) ?_))
    refine cb (HL.out _) fun w1 hb => ?_
    replace hC0 := kp hb hC0
    have hB1 := tr hB0 hb
    clear hb c0 c1 c2 c3 c4 c5 hB0
    obtain ⟨c0, c1, c2, c3, c4, c5⟩ := cells6 hC0
    go_wp2_with fail
    rw [HE.out]
    clear HE HL j1 j2 j3 j4 j5 j6
    refine wp_letterM [0, 1, 2, 3, 4, 7, 8, 9, 10, 12, 13, 14, 15] 5 [6, 11, 16, 17] 18 (some 22) (NewRow w1 #[.int .u8 ((fb.toNat : Nat) : Int), .int .u8 ((ib.toNat : Nat) : Int)] 5) rfl rfl (by kernel_rfl) (by kernel_rfl) (by kernel_rfl) rfl (fun v A B h hk => h.keep hk) ?_
    (apply rat; (focus (intro w' hk; obtain ⟨x3,x4,x5⟩ := look3 hk c3 c4 c5; have e1 := HA.out; have e2 := HB.out; have e3 := HF8.out; have e4 := HI8.out; (iterate 8 (refine' rv ?_ rfl rfl (by go_simp; first | done | with_reducible rfl | exact rfl); try simp only [Act.put, List.setIfInBounds_toArray, List.set_cons_zero, List.set_cons_succ])); (refine' rc ?_ (by exact rfl) (by exact rfl) (by go_simp; first | done | (constructor <;> with_reducible rfl) | with_reducible rfl) (by exact HP1.out w'); try simp only [Act.put, List.setIfInBounds_toArray, List.set_cons_zero, List.set_cons_succ]); (iterate 3 (refine' rv ?_ rfl rfl (by go_simp; first | done | with_reducible rfl | exact rfl); try simp only [Act.put, List.setIfInBounds_toArray, List.set_cons_zero, List.set_cons_succ])); (refine' rc ?_ (by exact rfl) (by exact rfl) (by go_simp; first | done | (constructor <;> with_reducible rfl) | with_reducible rfl) (by exact HP2.out w'); try simp only [Act.put, List.setIfInBounds_toArray, List.set_cons_zero, List.set_cons_succ]); (exact rn))))
    refine ⟨rfl, sure_row (fun w' _ => by go_simp), ?_⟩
    rintro v W2 hk2 ⟨b, rfl, hb, hbc⟩
    simp only [List.setIfInBounds_toArray, List.set_cons_zero, List.set_cons_succ, List.size_toArray, List.length_cons, List.length_nil, Nat.zero_add]
    have kc : ∀ w', Keep W2 w' → (convert 134 9 (.slice (some ⟨b, 0, none⟩) 2 2)).run Tryz.prog w' = .ok (.string ⟨([fb, ib] : List UInt8).toArray⟩) w' := fun w' hk' => by
      have hbc' := kpi hk' hbc
      exact run_convert_bytes_back (P := Tryz.prog) w' 134 9 5 ⟨b, 0, none⟩ 2 [fb, ib] Tryz.underlying134 Tryz.underlying5 Tryz.underlying9 (fun j hj => by
        rw [addr_add, cell_of_row _ _ j _ _ _ hbc']
        have hj2 : j < 2 := hj
        rcases (by omega : j = 0 ∨ j = 1) with rfl | rfl
        · rfl
        · rfl)
    have KC := Lib.hid kc
    clear kc
    have HPO := Lib.hid HP.out
    generalize hSS : ([fb, ib] : List UInt8) = SS at *
    have hS2 : SS.length = 2 := by rw [← hSS]; rfl
    clear hSS HP
    have j1 : ¬ 9223372036854775807 < SS.length + Q.length := by omega
    have j2 : ¬ 9223372036854775807 < SS.length + Q.length + D.length := by omega
    obtain ⟨L8, hL8⟩ : ∃ L, SS ++ Q ++ D = L := ⟨_, rfl⟩
    have x1 : ((⟨SS.toArray⟩ : ByteArray) ++ ⟨Q.toArray⟩ ++ ⟨D.toArray⟩) = ⟨L8.toArray⟩ := by rw [bs_append, bs_append, hL8]
    have X1 := Lib.hid x1
    clear x1
    have HG := Lib.hid (fun w => HW.out L8 (by rw [← hL8]; simp; omega) w)
    have HL8 := Lib.hid hL8
    clear hL8
    repeat' (first | (refine pl_value (v := ?_) rfl rfl ?_ ?_; rotate_left 1; (focus (intro w' hk; have kc' := KC.out w' hk; go_simp; (first | done | with_reducible rfl | exact rfl))); (try simp only [Act.put, List.setIfInBounds_toArray, List.set_cons_zero, List.set_cons_succ])) | (refine pl_value (v := ?_) rfl rfl ?_ ?_; rotate_left 1; (focus (intro w' hk; go_simp; (first | done | with_reducible rfl | exact rfl))); (try simp only [Act.put, List.setIfInBounds_toArray, List.set_cons_zero, List.set_cons_succ])))
    rw [X1.out]
    (refine pl_call (v := ?_) (f := ?_) (args := ?_) rfl rfl ?_ ?_ ?_; rotate_left 3; (focus (intro w' hk; go_simp; (first | done | (constructor <;> with_reducible rfl) | with_reducible rfl))); (focus (intro w' hk; exact HG.out w')); (try simp only [Act.put, List.setIfInBounds_toArray, List.set_cons_zero, List.set_cons_succ]))
    refine pl_nil ?_
    intro w3 hk3 _
    simp only [List.drop_succ_cons, List.drop_zero]
    have hB3 := hB1.trans ((hk2.trans hk3).whole.mono hB1.size)
    clear hk2 hk3 hbc hB1 KC c0 c1 c2 c3 c4 c5 j1 j2 HP1 HP2 HG HW
    go_wp2_with fail
    go_ret
    refine ⟨?_, hB3⟩
    show _ = Ending.returned (.int .u64 ((PK : Nat) : Int))
    rw [← HPO.out, HL8.out]
    rfl
end Go.Proofs.YtjonoojhdifjiaaGreatDoor
