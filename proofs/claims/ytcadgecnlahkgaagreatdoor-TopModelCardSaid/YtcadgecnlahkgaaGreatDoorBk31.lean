/- What the statement's proof stands on, part 31: Fix, RWay, RCmd. -/
import Derived.Test.YtcadgecnlahkgaaGreatDoorBk29
import Derived.Test.YtcadgecnlahkgaaGreatDoorBk27
import Derived.Laws.BitsAllLaws
import Derived.Test.YtcadgecnlahkgaaGreatDoorBk23
import Derived.Test.YtcadgecnlahkgaaGreatDoorBk19
import Derived.Test.YtcadgecnlahkgaaGreatDoorBk30
set_option linter.unusedSimpArgs false
set_option linter.unusedVariables false
set_option maxRecDepth 100000
set_option maxHeartbeats 4000000
namespace Go.Proofs.YtcadgecnlahkgaaGreatDoor
open Go.RowKit Go.Shelf
attribute [local go_sem] Oper.semAt_some
namespace Dw
open Ieee
theorem keep_high (n j : Nat) (hn : n < 18446744073709551616) (hj : j ≤ 63) : n &&& (18446744073709551615 - (2 ^ j - 1)) = n / 2 ^ j * 2 ^ j := by
  have hp := Nat.two_pow_pos j
  have hq : 2 ^ j ≤ 2 ^ 64 := Nat.pow_le_pow_right (by decide) (by omega)
  rw [show 18446744073709551615 - (2 ^ j - 1) = 2 ^ 64 - ((2 ^ j - 1) + 1) from by
    have : (2 : Nat) ^ 64 = 18446744073709551616 := by decide
    omega]
  apply Nat.eq_of_testBit_eq
  intro i
  rw [Nat.testBit_and, Nat.testBit_two_pow_sub_succ (by omega), Nat.testBit_two_pow_sub_one, Nat.testBit_mul_two_pow, Nat.testBit_div_two_pow]
  by_cases h1 : j ≤ i
  · by_cases h2 : i < 64
    · simp [h1, h2, Nat.not_lt.2 h1, Nat.sub_add_cancel h1]
    · have : n.testBit i = false := Nat.testBit_lt_two_pow (Nat.lt_of_lt_of_le hn (Nat.pow_le_pow_right (by decide : 0 < 2) (by omega : 64 ≤ i)))
      simp [this, Nat.sub_add_cancel h1]
  · simp [h1, Nat.lt_of_not_le h1]
theorem word_lt {s : Bool} {R : Nat} (h : R < 2047 * 4503599627370496) : double.word s R < 18446744073709551616 := by
  rw [word_eq]; split <;> omega
theorem word_e {s : Bool} {R : Nat} (h : R < 2047 * 4503599627370496) : bits .and .u64 ((double.word s R : Int) / 4503599627370496) 2047 = ((R / 4503599627370496 : Nat) : Int) := by
  have hw : double.word s R / 4503599627370496 % 2048 = R / 4503599627370496 := by rw [word_eq]; split <;> omega
  have hb := word_lt (s := s) h
  generalize double.word s R = B at *
  have e := u64_and_nat (B / 4503599627370496) 2047 (by omega) (by decide)
  rw [show B / 4503599627370496 &&& 2047 = B / 4503599627370496 % 2048 from Nat.and_two_pow_sub_one_eq_mod _ 11, hw] at e
  rw [← e]
  rfl
theorem word_s {s : Bool} {R : Nat} (h : R < 2047 * 4503599627370496) : bits .and .u64 (double.word s R : Int) 9223372036854775808 = if s then 9223372036854775808 else 0 := by
  have hw := word_eq s R
  have hb := word_lt (s := s) h
  have e := u64_and_nat (double.word s R) 9223372036854775808 hb (by decide)
  rw [show ((9223372036854775808 : Nat) : Int) = 9223372036854775808 from rfl] at e
  have k := keep_high (double.word s R) 63 hb (by decide)
  rw [show 18446744073709551615 - (2 ^ 63 - 1) = 9223372036854775808 from by decide, show (2 : Nat) ^ 63 = 9223372036854775808 from by decide] at k
  rw [e, k, hw]
  cases s
  · rw [if_neg (by decide), if_neg (by decide)]; omega
  · rw [if_pos rfl, if_pos rfl]; omega
theorem small_e {R : Nat} (hu : uv R ≤ 1474560 * onU) : R / 4503599627370496 ≤ 1043 := by
  have ho := uO_eq
  apply Decidable.byContradiction
  intro hn
  have hlo : 4503599627370496 ≤ mant R := by unfold mant; rw [if_neg (by omega)]; omega
  have hx : uO - 31 ≤ ex R := by unfold ex; omega
  have h1 : 4503599627370496 * 2 ^ (uO - 31) ≤ uv R := by
    unfold uv
    exact Nat.le_trans (Nat.mul_le_mul_right _ hlo) (Nat.mul_le_mul_left _ (Nat.pow_le_pow_right (by decide) hx))
  have h2 : 1474560 * onU < 4503599627370496 * 2 ^ (uO - 31) := by
    rw [onU_pow, show (4503599627370496 : Nat) * 2 ^ (uO - 31) = 2097152 * 2 ^ uO from by
      rw [show (4503599627370496 : Nat) = 2 ^ 52 from by decide, show (2097152 : Nat) = 2 ^ 21 from by decide, ← Nat.pow_add, ← Nat.pow_add, show 52 + (uO - 31) = 21 + uO by omega]]
    exact Nat.mul_lt_mul_of_pos_right (by decide) (Nat.two_pow_pos _)
  exact absurd (Nat.lt_of_lt_of_le h2 h1) (Nat.not_lt.2 hu)
theorem half_shr {k : Nat} (h : k ≤ 51) : (2251799813685248 : Int) / 2 ^ k = ((2 ^ (51 - k) : Nat) : Int) := by
  have e : (2251799813685248 : Nat) / 2 ^ k = 2 ^ (51 - k) := by rw [show (2251799813685248 : Nat) = 2 ^ 51 from by decide, Nat.pow_div h (by decide)]
  rw [← e]
  simp
theorem mask_shr {k : Nat} (h : k ≤ 52) : (4503599627370495 : Int) / 2 ^ k = ((2 ^ (52 - k) - 1 : Nat) : Int) := by
  have e : (4503599627370495 : Nat) / 2 ^ k = 2 ^ (52 - k) - 1 := by
    have h1 : 4503599627370496 = 2 ^ (52 - k) * 2 ^ k := by rw [← Nat.pow_add, show 52 - k + k = 52 by omega]
    have h2 := Nat.two_pow_pos (52 - k); have h3 := Nat.two_pow_pos k
    generalize 2 ^ (52 - k) = a at *
    generalize 2 ^ k = b at *
    obtain ⟨a, rfl⟩ : ∃ c, a = c + 1 := ⟨a - 1, by omega⟩
    rw [Nat.add_mul, Nat.one_mul] at h1
    rw [Nat.add_sub_cancel]
    exact Nat.div_eq_of_lt_le (by omega) (by rw [Nat.add_mul, Nat.one_mul]; omega)
  rw [← e]
  simp
theorem word_big {s : Bool} {R k : Nat} (h : R < 2047 * 4503599627370496) (_he : R / 4503599627370496 = 1023 + k) (hk : k ≤ 20) :
    double.word s R + 2 ^ (51 - k) < 18446744073709551616 ∧
    (bits .andNot .u64 ((double.word s R + 2 ^ (51 - k) : Nat) : Int) ((2 ^ (52 - k) - 1 : Nat) : Int)) = ((double.word s ((R + 2 ^ (51 - k)) / 2 ^ (52 - k) * 2 ^ (52 - k)) : Nat) : Int) := by
  have hp : 2 ^ (51 - k) ≤ 2251799813685248 := Nat.le_trans (Nat.pow_le_pow_right (by decide) (by omega : 51 - k ≤ 51)) (by decide)
  have hp2 : 2 ^ (52 - k) ≤ 4503599627370496 := Nat.le_trans (Nat.pow_le_pow_right (by decide) (by omega : 52 - k ≤ 52)) (by decide)
  have hlt : double.word s R + 2 ^ (51 - k) < 18446744073709551616 := by rw [word_eq]; split <;> omega
  refine ⟨hlt, ?_⟩
  rw [u64_andNot_nat _ _ hlt (by omega), keep_high _ _ hlt (by omega), word_eq, word_eq]
  congr 1
  cases s
  · rfl
  · rw [if_pos rfl, if_pos rfl]
    have hd : 9223372036854775808 = 2 ^ (63 - (52 - k)) * 2 ^ (52 - k) := by rw [← Nat.pow_add, show 63 - (52 - k) + (52 - k) = 63 by omega]
    rw [Nat.add_assoc]
    conv => lhs; rw [hd, Nat.mul_comm (2 ^ (63 - (52 - k))), Nat.mul_add_div (Nat.two_pow_pos _), Nat.add_mul, Nat.mul_comm (2 ^ (63 - (52 - k))), Nat.mul_comm]
    rw [Nat.mul_comm (2 ^ (63 - (52 - k))), Nat.mul_comm (2 ^ (52 - k)), ← hd]
end Dw
namespace Dw
open Ieee
theorem rdU_le {u m : Nat} (h : u ≤ m * onU) : rdU u ≤ m := by
  unfold rdU
  have h1 := onU_eq; have h2 := hfU_pos
  apply Nat.le_of_lt_succ
  apply (Nat.div_lt_iff_lt_mul onU_pos).2
  rw [Nat.succ_mul]
  omega
theorem to_fix {x R Z : Nat} (h : uv R = uv (x % 9223372036854775808) * 8192) (hu : uv (x % 9223372036854775808) ≤ 180 * onU) (hZ : Z < 2047 * 4503599627370496) (hz : uv Z = rdU (uv R) * onU) :
    floatToIntVal .f64 (double.word (sgnB x) Z) .i64 = some (fixV x) := by
  have h1 := word_mod (s := sgnB x) (fin_lt hZ)
  have h2 := word_sgn (s := sgnB x) (fin_lt hZ)
  have h3 : uv Z / onU = rdU (uv R) := by rw [hz, Nat.mul_div_cancel _ onU_pos]
  have h4 := to_int (y := double.word (sgnB x) Z) (by rw [h1]; exact hZ) (by rw [h1, h3]; exact rdU_le (by omega))
  rw [h4, h1, h2, h3, h]
  rfl
end Dw
open Ieee in
theorem round_any (s : Bool) (R : Nat) (hR : R < 2047 * 4503599627370496) (hu : Dw.uv R ≤ 1474560 * Dw.onU) (w : World) :
    Calls Tryz.prog 123 #[.float .f64 (double.word s R)] w fun e w' => (∃ Z, e = .returned (.float .f64 (double.word s Z)) ∧ Z < 2047 * 4503599627370496 ∧ Dw.uv Z = Dw.rdU (Dw.uv R) * Dw.onU) ∧ Below w.heap.size w w' := by
  have hE := Dw.word_e (s := s) hR
  have hS := Dw.word_s (s := s) hR
  have hle := Dw.small_e hu
  have hB := Below.refl w.heap.size w
  have hfb : ∀ B : Nat, (Extern.MathFloatBits.float64bits #[.float .f64 B]).run Tryz.prog w = .ok (.int .u64 (B : Int)) w := fun _ => rfl
  have hbf : ∀ n : Int, (Extern.MathFloatBits.float64frombits #[.int .u64 n]).run Tryz.prog w = .ok (.float .f64 n.toNat) w := fun _ => rfl
  have hcf : ∀ B : Nat, (callFunc 143 #[.float .f64 B]).run Tryz.prog w = .ok (.value (.int .u64 (B : Int))) w := fun B => by
    rw [run_callFunc_extern Tryz.func143 (by kernel_rfl) (by kernel_rfl) (by kernel_rfl) (e := Extern.MathFloatBits.float64bits) (by kernel_rfl), hfb]; rfl
  have hcb : ∀ n : Int, (callFunc 142 #[.int .u64 n]).run Tryz.prog w = .ok (.value (.float .f64 n.toNat)) w := fun n => by
    rw [run_callFunc_extern Tryz.func142 (by kernel_rfl) (by kernel_rfl) (by kernel_rfl) (e := Extern.MathFloatBits.float64frombits) (by kernel_rfl), hbf]; rfl
  by_cases h1 : R / 4503599627370496 < 1023
  · have hrd := Dw.round_small h1
    by_cases h2 : R / 4503599627370496 = 1022
    · rw [if_pos h2] at hrd
      rw [h2] at hE
      generalize hBB : double.word s R = B at *
      have hor : bits .or .u64 (if s then 9223372036854775808 else 0) 4607182418800017408 = ((double.word s (1023 * 4503599627370496) : Nat) : Int) := by cases s <;> decide +kernel
      rw [← hS] at hor
      have HO := Lib.hid hor
      clear hS hle hfb hbf hor
      go_enter Tryz.func123, Tryz.ntmps123
      go_wp2_with fail
      go_ret
      refine ⟨⟨1023 * 4503599627370496, by rw [HO.out]; rfl, by decide, ?_⟩, hB⟩
      rw [hrd, Dw.uv_one, Nat.one_mul]
    · rw [if_neg h2] at hrd
      obtain ⟨E, hEE⟩ : ∃ E : Int, ((R / 4503599627370496 : Nat) : Int) = E := ⟨_, rfl⟩
      rw [hEE] at hE
      have l1 : E < 1023 := by omega
      have l2 : (E == 1022) = false := by simp; omega
      have HS := Lib.hid hS
      generalize double.word s R = B at *
      clear hS hle hfb hbf hEE h1 h2
      go_enter Tryz.func123, Tryz.ntmps123
      go_wp2_with fail
      go_ret
      have hz : ∀ s : Bool, (if s = true then (9223372036854775808 : Int) else 0).toNat = double.word s 0 := by intro s; cases s <;> decide +kernel
      refine ⟨⟨0, ?_, by decide, by rw [hrd, Dw.uv0, Nat.zero_mul]⟩, hB⟩
      show Ending.returned (.float .f64 (bits .and .u64 (B : Int) 9223372036854775808).toNat) = _
      rw [HS.out, hz]
  · obtain ⟨k, hk⟩ : ∃ k, R / 4503599627370496 = 1023 + k := ⟨R / 4503599627370496 - 1023, by omega⟩
    have hk20 : k ≤ 20 := by omega
    obtain ⟨hlt, hbig⟩ := Dw.word_big (s := s) hR hk hk20
    obtain ⟨r1, r2⟩ := Dw.round_big hk (by omega)
    obtain ⟨E, hEE⟩ : ∃ E : Int, ((R / 4503599627370496 : Nat) : Int) = E := ⟨_, rfl⟩
    rw [hEE] at hE
    have l1 : ¬ E < 1023 := by omega
    have l2 : E < 1075 := by omega
    have l3 : IntKind.u64.wrap (E - 1023) = (k : Int) := by rw [show E - 1023 = (k : Int) by omega]; exact IntWalk.u64_in _ (by omega)
    have HB := Lib.hid hbig
    clear hS hle hfb hbf hEE h1
    obtain ⟨B, hBB⟩ : ∃ B, double.word s R = B := ⟨_, rfl⟩
    rw [hBB] at hE HB hlt
    rw [hBB]
    clear hBB hbig
    go_enter Tryz.func123, Tryz.ntmps123
    go_wp2_with fail
    go_ret
    refine ⟨⟨_, ?_, r2, r1⟩, hB⟩
    show Ending.returned (.float .f64 (bits .andNot .u64 (IntKind.u64.wrap ((B : Int) + 2251799813685248 / 2 ^ k)) (4503599627370495 / 2 ^ k)).toNat) = _
    rw [Dw.half_shr (by omega), Dw.mask_shr (by omega)]
    have hb := HB.out
    clear HB r1 r2
    generalize 2 ^ (51 - k) = p at *
    rw [IntWalk.u64_in _ (by omega), ← Int.natCast_add, hb]
    rfl
theorem fix90_any (x : Nat) (hx : x < 18446744073709551616) (w : World) :
    Calls Tryz.prog 102 #[.float .f64 x, .int .i64 90] w fun e w' => e = .returned (.tuple #[.int .i64 (if Dw.fixE x 4636033603912859648 = 0 then Dw.fixV x else 0), .int .i64 (Dw.fixE x 4636033603912859648)]) ∧ Below w.heap.size w w' := by
  have hc : floatOfInt .f64 90 = 4636033603912859648 := by decide +kernel
  have HC := Lib.hid (fun w => class_any x w)
  have HA := Lib.hid (fun w => abs_any x hx w)
  have HE := Lib.hid (show Dw.fixE x 4636033603912859648 = if Dw.nanB x then 12 else if Dw.fgt (Dw.absF x) 4636033603912859648 then 13 else 0 from rfl)
  have HF := Lib.hid (fun h => Dw.fix90 (x := x) h)
  have he0 : (FloatKind.f64.format.order (Dw.absF x) 4636033603912859648 == some Ordering.gt) = Dw.fgt (Dw.absF x) 4636033603912859648 := rfl
  generalize Dw.fixE x 4636033603912859648 = E at *
  generalize Dw.fgt (Dw.absF x) 4636033603912859648 = bg at *
  generalize Dw.absF x = ax at *
  generalize Dw.nanB x = bn at *
  cases bn
  · cases bg
    · have h0 : E = 0 := by rw [HE.out]; rfl
      subst h0
      obtain ⟨hf, hu⟩ := HF.out rfl
      have hu180 : Dw.uv (x % 9223372036854775808) ≤ 180 * Dw.onU := by omega
      obtain ⟨R, m1, m2, m3⟩ := Dw.mul_8192 hf hu180
      have hm : ∀ (t : TypeId) w, (binOp .mul t (.float .f64 x) (.float .f64 4665729213955833856)).run Tryz.prog w = .ok (.float .f64 (Ieee.double.word (Dw.sgnB x) R)) w := fun t w => run_float_arith w _ t _ _ _ _ m1
      have HRd := Lib.hid (fun w => round_any (Dw.sgnB x) R m2 (by rw [m3]; omega) w)
      have HT := Lib.hid (fun Z h1 h2 => Dw.to_fix (x := x) (Z := Z) m3 hu180 h1 h2)
      clear hf hu hu180 m1 m2 m3 HF HE hx
      generalize Ieee.double.word (Dw.sgnB x) R = y at *
      generalize Dw.fixV x = V at *
      go_enter Tryz.func102, Tryz.ntmps102
      go_wp2_with fail
      refine (HC.out _).mono ?_
      rintro e w1 ⟨k, rfl, hk, hb1⟩
      have hk5 : ¬ k = 5 := hk
      go_wp2_with fail
      refine cb (HA.out _) fun w2 hb2 => ?_
      replace hb2 := tr hb1 hb2
      go_wp2_with fail
      refine (HRd.out _).mono ?_
      rintro e w3 ⟨⟨Z, rfl, hZ1, hZ2⟩, hb3⟩
      replace hb3 := tr hb2 hb3
      have hcv : ∀ w, (convert 40 3 (.float .f64 (Ieee.double.word (Dw.sgnB x) Z))).run Tryz.prog w = .ok (.int .i64 V) w := fun w => run_convert_float_int w _ _ _ _ _ _ rfl Tryz.underlying3 (HT.out Z hZ1 hZ2)
      go_wp2_with fail
      refine bodyPost_ret (results_tmp2 rfl _ _ _) rfl ⟨rfl, hb3⟩
    · have h0 : E = 13 := by rw [HE.out]; rfl
      subst h0
      clear HF HE hx
      go_enter Tryz.func102, Tryz.ntmps102
      go_wp2_with fail
      refine (HC.out _).mono ?_
      rintro e w1 ⟨k, rfl, hk, hb1⟩
      have hk5 : ¬ k = 5 := hk
      go_wp2_with fail
      refine cb (HA.out _) fun w2 hb2 => ?_
      replace hb2 := tr hb1 hb2
      go_wp2_with fail
      refine bodyPost_ret (results_tmp2 rfl _ _ _) rfl ⟨rfl, hb2⟩
  · have h0 : E = 12 := by rw [HE.out]; rfl
    subst h0
    clear HF HE hx he0
    go_enter Tryz.func102, Tryz.ntmps102
    go_wp2_with fail
    refine (HC.out _).mono ?_
    rintro e w1 ⟨k, rfl, hk, hb1⟩
    obtain rfl : k = 5 := hk
    go_wp2_with fail
    refine bodyPost_ret (results_tmp2 rfl _ _ _) rfl ⟨rfl, hb1⟩
theorem fix180_any (x : Nat) (hx : x < 18446744073709551616) (w : World) :
    Calls Tryz.prog 102 #[.float .f64 x, .int .i64 180] w fun e w' => e = .returned (.tuple #[.int .i64 (if Dw.fixE x 4640537203540230144 = 0 then Dw.fixV x else 0), .int .i64 (Dw.fixE x 4640537203540230144)]) ∧ Below w.heap.size w w' := by
  have hc : floatOfInt .f64 180 = 4640537203540230144 := by decide +kernel
  have HC := Lib.hid (fun w => class_any x w)
  have HA := Lib.hid (fun w => abs_any x hx w)
  have HE := Lib.hid (show Dw.fixE x 4640537203540230144 = if Dw.nanB x then 12 else if Dw.fgt (Dw.absF x) 4640537203540230144 then 13 else 0 from rfl)
  have HF := Lib.hid (fun h => Dw.fix180 (x := x) h)
  have he0 : (FloatKind.f64.format.order (Dw.absF x) 4640537203540230144 == some Ordering.gt) = Dw.fgt (Dw.absF x) 4640537203540230144 := rfl
  generalize Dw.fixE x 4640537203540230144 = E at *
  generalize Dw.fgt (Dw.absF x) 4640537203540230144 = bg at *
  generalize Dw.absF x = ax at *
  generalize Dw.nanB x = bn at *
  cases bn
  · cases bg
    · have h0 : E = 0 := by rw [HE.out]; rfl
      subst h0
      obtain ⟨hf, hu⟩ := HF.out rfl
      have hu180 : Dw.uv (x % 9223372036854775808) ≤ 180 * Dw.onU := by omega
      obtain ⟨R, m1, m2, m3⟩ := Dw.mul_8192 hf hu180
      have hm : ∀ (t : TypeId) w, (binOp .mul t (.float .f64 x) (.float .f64 4665729213955833856)).run Tryz.prog w = .ok (.float .f64 (Ieee.double.word (Dw.sgnB x) R)) w := fun t w => run_float_arith w _ t _ _ _ _ m1
      have HRd := Lib.hid (fun w => round_any (Dw.sgnB x) R m2 (by rw [m3]; omega) w)
      have HT := Lib.hid (fun Z h1 h2 => Dw.to_fix (x := x) (Z := Z) m3 hu180 h1 h2)
      clear hf hu hu180 m1 m2 m3 HF HE hx
      generalize Ieee.double.word (Dw.sgnB x) R = y at *
      generalize Dw.fixV x = V at *
      go_enter Tryz.func102, Tryz.ntmps102
      go_wp2_with fail
      refine (HC.out _).mono ?_
      rintro e w1 ⟨k, rfl, hk, hb1⟩
      have hk5 : ¬ k = 5 := hk
      go_wp2_with fail
      refine cb (HA.out _) fun w2 hb2 => ?_
      replace hb2 := tr hb1 hb2
      go_wp2_with fail
      refine (HRd.out _).mono ?_
      rintro e w3 ⟨⟨Z, rfl, hZ1, hZ2⟩, hb3⟩
      replace hb3 := tr hb2 hb3
      have hcv : ∀ w, (convert 40 3 (.float .f64 (Ieee.double.word (Dw.sgnB x) Z))).run Tryz.prog w = .ok (.int .i64 V) w := fun w => run_convert_float_int w _ _ _ _ _ _ rfl Tryz.underlying3 (HT.out Z hZ1 hZ2)
      go_wp2_with fail
      refine bodyPost_ret (results_tmp2 rfl _ _ _) rfl ⟨rfl, hb3⟩
    · have h0 : E = 13 := by rw [HE.out]; rfl
      subst h0
      clear HF HE hx
      go_enter Tryz.func102, Tryz.ntmps102
      go_wp2_with fail
      refine (HC.out _).mono ?_
      rintro e w1 ⟨k, rfl, hk, hb1⟩
      have hk5 : ¬ k = 5 := hk
      go_wp2_with fail
      refine cb (HA.out _) fun w2 hb2 => ?_
      replace hb2 := tr hb1 hb2
      go_wp2_with fail
      refine bodyPost_ret (results_tmp2 rfl _ _ _) rfl ⟨rfl, hb2⟩
  · have h0 : E = 12 := by rw [HE.out]; rfl
    subst h0
    clear HF HE hx he0
    go_enter Tryz.func102, Tryz.ntmps102
    go_wp2_with fail
    refine (HC.out _).mono ?_
    rintro e w1 ⟨k, rfl, hk, hb1⟩
    obtain rfl : k = 5 := hk
    go_wp2_with fail
    refine bodyPost_ret (results_tmp2 rfl _ _ _) rfl ⟨rfl, hb1⟩
end Go.Proofs.YtcadgecnlahkgaaGreatDoor
namespace Go.Proofs.YtcadgecnlahkgaaGreatDoor
open Go.RowKit Go.Shelf
attribute [local go_sem] Oper.semAt_some unary_neg_float
theorem rway_any (a b : Int) (w : World) :
    Calls Tryz.prog 62 #[.int .i64 a, .int .i64 b] w fun e w' => e = .returned (.bool (Dw.wayB a b)) ∧ Below w.heap.size w w' := by
  have HA := Lib.hid (fun w => rmode_any a w)
  have HB := Lib.hid (fun w => rmode_any b w)
  by_cases ha : 0 ≤ a ∧ a ≤ 5
  · by_cases hb : 0 ≤ b ∧ b ≤ 5
    · rw [decide_eq_true ha] at HA
      rw [decide_eq_true hb] at HB
      rcases six (m := a) ⟨ha.1, by omega⟩ with rfl | rfl | rfl | rfl | rfl | rfl <;> rcases six (m := b) ⟨hb.1, by omega⟩ with rfl | rfl | rfl | rfl | rfl | rfl
      all_goals
        clear ha hb
        go_enter Tryz.func62, Tryz.ntmps62
        go_wp2_with fail
        refine cb (HA.out _) fun w1 hb1 => ?_
        go_wp2_with fail
        refine cb (HB.out _) fun w2 hb2 => ?_
        replace hb2 := tr hb1 hb2
        go_wp2_with fail
        go_ret
        exact ⟨by first | rfl | exact ret_bool (by decide), hb2⟩
    · have HW := Lib.hid (show Dw.wayB a b = false from by unfold Dw.wayB; rw [decide_eq_false hb]; simp)
      rw [decide_eq_true ha] at HA
      rw [decide_eq_false hb] at HB
      clear ha hb
      go_enter Tryz.func62, Tryz.ntmps62
      go_wp2_with fail
      refine cb (HA.out _) fun w1 hb1 => ?_
      go_wp2_with fail
      refine cb (HB.out _) fun w2 hb2 => ?_
      replace hb2 := tr hb1 hb2
      go_wp2_with fail
      go_ret
      exact ⟨by rw [HW.out]; rfl, hb2⟩
  · have HW := Lib.hid (show Dw.wayB a b = false from by unfold Dw.wayB; rw [decide_eq_false ha]; simp)
    rw [decide_eq_false ha] at HA
    clear ha HB
    go_enter Tryz.func62, Tryz.ntmps62
    go_wp2_with fail
    refine cb (HA.out _) fun w1 hb1 => ?_
    go_wp2_with fail
    go_ret
    exact ⟨by rw [HW.out]; rfl, hb1⟩
namespace Dw
open Ieee
theorem m90 : double.read 13859405640767635456 = .number true 6333186975989760 (-1074 + ((uO - 46 : Nat) : Int)) := by
  rw [show -1074 + ((uO - 46 : Nat) : Int) = -46 by have := uO_eq; omega]
  decide +kernel
theorem m180 : double.read 13863909240395005952 = .number true 6333186975989760 (-1074 + ((uO - 45 : Nat) : Int)) := by
  rw [show -1074 + ((uO - 45 : Nat) : Int) = -45 by have := uO_eq; omega]
  decide +kernel
end Dw
theorem rfix90_any (x : Nat) (w : World) :
    Calls Tryz.prog 64 #[.float .f64 x, .int .i64 90] w fun e w' => e = .returned (.tuple #[.int .i64 (if Dw.fixE x 4636033603912859648 = 0 then Dw.fixV x else 0), .int .i64 (Dw.fixE x 4636033603912859648)]) ∧ Below w.heap.size w w' := by
  have hc : floatOfInt .f64 90 = 4636033603912859648 := by decide +kernel
  have hcn : Op.negFloat .f64 4636033603912859648 = 13859405640767635456 := by decide +kernel
  have hB := Below.refl w.heap.size w
  have HF := Lib.hid (fun h => Dw.fix90 (x := x) h)
  have hab := Dw.abs_gt x Dw.c90 Dw.m90
  have HE := Lib.hid (show Dw.fixE x 4636033603912859648 = if Dw.nanB x then 12 else if Dw.fgt x 4636033603912859648 || Dw.flt x 13859405640767635456 then 13 else 0 from by unfold Dw.fixE; rw [hab])
  have e0 : (FloatKind.f64.format.order x x != some Ordering.eq) = Dw.nanB x := rfl
  have e1 : (FloatKind.f64.format.order x 4636033603912859648 == some Ordering.gt) = Dw.fgt x 4636033603912859648 := rfl
  have e2 : (FloatKind.f64.format.order x 13859405640767635456 == some Ordering.lt) = Dw.flt x 13859405640767635456 := rfl
  clear hab
  generalize Dw.fixE x 4636033603912859648 = E at *
  generalize Dw.fgt x 4636033603912859648 = bg at *
  generalize Dw.flt x 13859405640767635456 = bl at *
  generalize Dw.nanB x = bn at *
  cases bn
  · cases bl
    · cases bg
      · have h0 : E = 0 := by rw [HE.out]; rfl
        subst h0
        obtain ⟨hf, hu⟩ := HF.out rfl
        obtain ⟨y, n, z, m1, m2, m3, m4, m5⟩ := Dw.ref_fix hf (by omega)
        have hm : ∀ (t : TypeId) w, (binOp .mul t (.float .f64 x) (.float .f64 4665729213955833856)).run Tryz.prog w = .ok (.float .f64 y) w := fun t w => run_float_arith w _ t _ _ _ _ m1
        have hcv : ∀ w, (convert 40 3 (.float .f64 y)).run Tryz.prog w = .ok (.int .i64 n) w := fun w => run_convert_float_int w _ _ _ _ _ _ rfl Tryz.underlying3 m2
        have hs : ∀ (t : TypeId) w, (binOp .sub t (.float .f64 y) (.float .f64 (floatOfInt .f64 n))).run Tryz.prog w = .ok (.float .f64 z) w := fun t w => run_float_arith w _ t _ _ _ _ m3
        have HV := Lib.hid m5
        have n1 : IntKind.i64.wrap (n + 1) = n + 1 := IntWalk.i64_in _ (by omega)
        have n2 : IntKind.i64.wrap (n - 1) = n - 1 := IntWalk.i64_in _ (by omega)
        have g1 : (FloatKind.f64.format.order z 4602678819172646912 == some Ordering.gt || FloatKind.f64.format.order z 4602678819172646912 == some Ordering.eq) = (Ieee.double.order z 4602678819172646912 == some .gt || Ieee.double.order z 4602678819172646912 == some .eq) := rfl
        have g2 : (FloatKind.f64.format.order z 13826050856027422720 == some Ordering.lt || FloatKind.f64.format.order z 13826050856027422720 == some Ordering.eq) = (Ieee.double.order z 13826050856027422720 == some .lt || Ieee.double.order z 13826050856027422720 == some .eq) := rfl
        clear m1 m2 m3 m4 m5 HF HE hf hu
        generalize (Ieee.double.order z 4602678819172646912 == some .gt || Ieee.double.order z 4602678819172646912 == some .eq) = b1 at *
        generalize (Ieee.double.order z 13826050856027422720 == some .lt || Ieee.double.order z 13826050856027422720 == some .eq) = b2 at *
        generalize Dw.fixV x = V at *
        cases b1
        · cases b2
          all_goals
            go_enter Tryz.func64, Tryz.ntmps64
            go_wp2_with fail
            refine bodyPost_ret (results_tmp2 rfl _ _ _) rfl ⟨by rw [HV.out]; rfl, hB⟩
        · go_enter Tryz.func64, Tryz.ntmps64
          go_wp2_with fail
          refine bodyPost_ret (results_tmp2 rfl _ _ _) rfl ⟨by rw [HV.out]; rfl, hB⟩
      · have h0 : E = 13 := by rw [HE.out]; rfl
        subst h0
        clear HF HE
        go_enter Tryz.func64, Tryz.ntmps64
        go_wp2_with fail
        refine bodyPost_ret (results_tmp2 rfl _ _ _) rfl ⟨rfl, hB⟩
    · have h0 : E = 13 := by rw [HE.out]; simp
      subst h0
      clear HF HE
      go_enter Tryz.func64, Tryz.ntmps64
      go_wp2_with fail
      refine bodyPost_ret (results_tmp2 rfl _ _ _) rfl ⟨rfl, hB⟩
  · have h0 : E = 12 := by rw [HE.out]; rfl
    subst h0
    clear HF HE
    go_enter Tryz.func64, Tryz.ntmps64
    go_wp2_with fail
    refine bodyPost_ret (results_tmp2 rfl _ _ _) rfl ⟨rfl, hB⟩
theorem rfix180_any (x : Nat) (w : World) :
    Calls Tryz.prog 64 #[.float .f64 x, .int .i64 180] w fun e w' => e = .returned (.tuple #[.int .i64 (if Dw.fixE x 4640537203540230144 = 0 then Dw.fixV x else 0), .int .i64 (Dw.fixE x 4640537203540230144)]) ∧ Below w.heap.size w w' := by
  have hc : floatOfInt .f64 180 = 4640537203540230144 := by decide +kernel
  have hcn : Op.negFloat .f64 4640537203540230144 = 13863909240395005952 := by decide +kernel
  have hB := Below.refl w.heap.size w
  have HF := Lib.hid (fun h => Dw.fix180 (x := x) h)
  have hab := Dw.abs_gt x Dw.c180 Dw.m180
  have HE := Lib.hid (show Dw.fixE x 4640537203540230144 = if Dw.nanB x then 12 else if Dw.fgt x 4640537203540230144 || Dw.flt x 13863909240395005952 then 13 else 0 from by unfold Dw.fixE; rw [hab])
  have e0 : (FloatKind.f64.format.order x x != some Ordering.eq) = Dw.nanB x := rfl
  have e1 : (FloatKind.f64.format.order x 4640537203540230144 == some Ordering.gt) = Dw.fgt x 4640537203540230144 := rfl
  have e2 : (FloatKind.f64.format.order x 13863909240395005952 == some Ordering.lt) = Dw.flt x 13863909240395005952 := rfl
  clear hab
  generalize Dw.fixE x 4640537203540230144 = E at *
  generalize Dw.fgt x 4640537203540230144 = bg at *
  generalize Dw.flt x 13863909240395005952 = bl at *
  generalize Dw.nanB x = bn at *
  cases bn
  · cases bl
    · cases bg
      · have h0 : E = 0 := by rw [HE.out]; rfl
        subst h0
        obtain ⟨hf, hu⟩ := HF.out rfl
        obtain ⟨y, n, z, m1, m2, m3, m4, m5⟩ := Dw.ref_fix hf (by omega)
        have hm : ∀ (t : TypeId) w, (binOp .mul t (.float .f64 x) (.float .f64 4665729213955833856)).run Tryz.prog w = .ok (.float .f64 y) w := fun t w => run_float_arith w _ t _ _ _ _ m1
        have hcv : ∀ w, (convert 40 3 (.float .f64 y)).run Tryz.prog w = .ok (.int .i64 n) w := fun w => run_convert_float_int w _ _ _ _ _ _ rfl Tryz.underlying3 m2
        have hs : ∀ (t : TypeId) w, (binOp .sub t (.float .f64 y) (.float .f64 (floatOfInt .f64 n))).run Tryz.prog w = .ok (.float .f64 z) w := fun t w => run_float_arith w _ t _ _ _ _ m3
        have HV := Lib.hid m5
        have n1 : IntKind.i64.wrap (n + 1) = n + 1 := IntWalk.i64_in _ (by omega)
        have n2 : IntKind.i64.wrap (n - 1) = n - 1 := IntWalk.i64_in _ (by omega)
        have g1 : (FloatKind.f64.format.order z 4602678819172646912 == some Ordering.gt || FloatKind.f64.format.order z 4602678819172646912 == some Ordering.eq) = (Ieee.double.order z 4602678819172646912 == some .gt || Ieee.double.order z 4602678819172646912 == some .eq) := rfl
        have g2 : (FloatKind.f64.format.order z 13826050856027422720 == some Ordering.lt || FloatKind.f64.format.order z 13826050856027422720 == some Ordering.eq) = (Ieee.double.order z 13826050856027422720 == some .lt || Ieee.double.order z 13826050856027422720 == some .eq) := rfl
        clear m1 m2 m3 m4 m5 HF HE hf hu
        generalize (Ieee.double.order z 4602678819172646912 == some .gt || Ieee.double.order z 4602678819172646912 == some .eq) = b1 at *
        generalize (Ieee.double.order z 13826050856027422720 == some .lt || Ieee.double.order z 13826050856027422720 == some .eq) = b2 at *
        generalize Dw.fixV x = V at *
        cases b1
        · cases b2
          all_goals
            go_enter Tryz.func64, Tryz.ntmps64
            go_wp2_with fail
            refine bodyPost_ret (results_tmp2 rfl _ _ _) rfl ⟨by rw [HV.out]; rfl, hB⟩
        · go_enter Tryz.func64, Tryz.ntmps64
          go_wp2_with fail
          refine bodyPost_ret (results_tmp2 rfl _ _ _) rfl ⟨by rw [HV.out]; rfl, hB⟩
      · have h0 : E = 13 := by rw [HE.out]; rfl
        subst h0
        clear HF HE
        go_enter Tryz.func64, Tryz.ntmps64
        go_wp2_with fail
        refine bodyPost_ret (results_tmp2 rfl _ _ _) rfl ⟨rfl, hB⟩
    · have h0 : E = 13 := by rw [HE.out]; simp
      subst h0
      clear HF HE
      go_enter Tryz.func64, Tryz.ntmps64
      go_wp2_with fail
      refine bodyPost_ret (results_tmp2 rfl _ _ _) rfl ⟨rfl, hB⟩
  · have h0 : E = 12 := by rw [HE.out]; rfl
    subst h0
    clear HF HE
    go_enter Tryz.func64, Tryz.ntmps64
    go_wp2_with fail
    refine bodyPost_ret (results_tmp2 rfl _ _ _) rfl ⟨rfl, hB⟩
end Go.Proofs.YtcadgecnlahkgaaGreatDoor
namespace Go.Proofs.YtcadgecnlahkgaaGreatDoor
open Go.RowKit Go.Shelf
attribute [local go_sem] Oper.semAt_some
theorem rgoes_ff (mo la lo iso : Int) (hi : 0 ≤ iso ∧ iso ≤ 15) (n : Int) (w : World) :
    Calls Tryz.prog 39 #[stV ⟨mo, false, false, la, lo, iso⟩, .int .i64 n] w fun e w' => e = .returned (.tuple #[stV (if Dw.goesE ⟨mo, false, false, la, lo, iso⟩ n = 0 then ⟨n, false, false, la, lo, iso⟩ else ⟨mo, false, false, la, lo, iso⟩), .int .i64 (Dw.goesE ⟨mo, false, false, la, lo, iso⟩ n)]) ∧ Below w.heap.size w w' := by
  obtain ⟨V, hV⟩ : ∃ V, (w.alloc (.cells (stC ⟨mo, false, false, la, lo, iso⟩) 38)).alloc (.cells Z6 38) = V := ⟨_, rfl⟩
  have b0 : V.heap[w.heap.size]? = some (.cells (stC ⟨mo, false, false, la, lo, iso⟩) 38) := by rw [← hV]; exact heap_alloc2_old _ _ _
  have b1 : V.heap[w.heap.size + 1]? = some (.cells Z6 38) := by rw [← hV]; exact heap_alloc2_new _ _ _
  have hB : Below w.heap.size w V := by rw [← hV]; exact ((Below.refl _ w).alloc (Nat.le_refl _) _).alloc (by simp) _
  have HW := Lib.hid (fun w => rway_any mo n w)
  have HN := Lib.hid (fun w => rneeds_any n w)
  have HH := Lib.hid (fun w => rhome_any n w)
  have HS := Lib.hid (fun w => rsens_any ⟨mo, false, false, la, lo, iso⟩ hi w)
  have HR := Lib.hid (show Dw.goesE ⟨mo, false, false, la, lo, iso⟩ n = if Dw.wayB mo n = false then 20 else if false = false ∧ n ≠ 0 then 22 else if false = true ∧ n = 0 then 21 else if Dw.homeB n = true ∧ false = false then 23 else if Dw.soundN iso < Dw.needsI n then 24 else 0 from rfl)
  generalize Dw.goesE ⟨mo, false, false, la, lo, iso⟩ n = R at *
  generalize Dw.wayB mo n = wv at *
  generalize Dw.needsI n = nd at *
  generalize Dw.homeB n = hm at *
  dsimp only at HS
  generalize Dw.soundN iso = sn at *
  obtain ⟨c0, c1, c2, c3, c4, c5⟩ := cells6 b0
  clear hi
  go_enter Tryz.func39, Tryz.ntmps39
  go_wp2_with fail
  refine cb (HW.out _) fun w1 hb => ?_
  replace b0 := kp hb b0
  replace b1 := kp hb b1
  replace hB := tr hB hb
  clear hb
  clear hV
  clear c0 c1 c2 c3 c4 c5
  obtain ⟨c0, c1, c2, c3, c4, c5⟩ := cells6 b0
  cases wv
  · have hR : R = 20 := by rw [HR.out]; rfl
    clear HR HW HN HH HS
    go_wp2_with (first | (refine lb b0 rfl rfl rfl (by kernel_rfl) ?_) | (refine sb b0 rfl rfl rfl rfl (by kernel_rfl) ?_) | (refine lb b1 rfl rfl rfl (by kernel_rfl) ?_) | (refine sb b1 rfl rfl rfl rfl (by kernel_rfl) ?_))
    refine bodyPost_ret (rct rfl (srh b1) (by rfl) (by kernel_rfl)) rfl ⟨?_, below_setRow hB (by omega) _⟩
    first | rfl | (rw [hR]; rfl)
  · by_cases hn : n = 0
    · have hz : (n == 0) = true := by simpa using hn
      have Hn := Lib.hid hn
      clear hn
      go_wp2_with fail
      refine cb (HH.out _) fun w2 hb => ?_
      replace b0 := kp hb b0
      replace b1 := kp hb b1
      replace hB := tr hB hb
      clear hb
      clear c0 c1 c2 c3 c4 c5
      obtain ⟨c0, c1, c2, c3, c4, c5⟩ := cells6 b0
      cases hm
      · have hn := Hn.out
        clear hn
        go_wp2_with (first | (refine lb b0 rfl rfl rfl (by kernel_rfl) ?_) | (refine sb b0 rfl rfl rfl rfl (by kernel_rfl) ?_))
        refine cb (HS.out _) fun w3 hb => ?_
        replace b0 := kp hb b0
        replace b1 := kp hb b1
        replace hB := tr hB hb
        clear hb
        go_wp2_with fail
        refine cb (HN.out _) fun w4 hb => ?_
        replace b0 := kp hb b0
        replace b1 := kp hb b1
        replace hB := tr hB hb
        clear hb
        clear c0 c1 c2 c3 c4 c5
        obtain ⟨c0, c1, c2, c3, c4, c5⟩ := cells6 b0
        by_cases hq : sn < nd
        · have hR : R = 24 := by rw [HR.out]; simp [hq, Hn.out]
          clear HR HW HN HH HS
          go_wp2_with (first | (refine lb b0 rfl rfl rfl (by kernel_rfl) ?_) | (refine sb b0 rfl rfl rfl rfl (by kernel_rfl) ?_) | (refine lb b1 rfl rfl rfl (by kernel_rfl) ?_) | (refine sb b1 rfl rfl rfl rfl (by kernel_rfl) ?_))
          refine bodyPost_ret (rct rfl (srh b1) (by rfl) (by kernel_rfl)) rfl ⟨?_, below_setRow hB (by omega) _⟩
          first | rfl | (rw [hR]; rfl)
        · have hR : R = 0 := by rw [HR.out]; simp [hq, Hn.out]
          have b2 := heap_setCell_same w4 w.heap.size 0 _ _ (.int .i64 n) b0
          change _ = some (Obj.cells (stC ⟨n, false, false, la, lo, iso⟩) _ _) at b2
          have z0 := frozen0 b0 0
          replace b1 := (heap_setCell_other w4 ⟨w.heap.size, 0, none⟩ (w.heap.size + 1) (.int .i64 n) (by simp)).trans b1
          replace hB := hB.setCell (p := ⟨w.heap.size, 0, none⟩) (by simp) (.int .i64 n)
          clear HR HW HN HH HS
          go_wp2_with (first | (refine lb b2 rfl rfl rfl (by kernel_rfl) ?_) | (refine sb b2 rfl rfl rfl rfl (by kernel_rfl) ?_) | (refine lb b1 rfl rfl rfl (by kernel_rfl) ?_) | (refine sb b1 rfl rfl rfl rfl (by kernel_rfl) ?_))
          refine bodyPost_ret (rct rfl (srh b1) (by rfl) (by kernel_rfl)) rfl ⟨?_, below_setRow hB (by omega) _⟩
          first | rfl | (rw [hR]; rfl)
      · have hn := Hn.out
        have hR : R = 23 := by rw [HR.out]; simp [hn]
        clear hn
        clear HR HW HN HH HS
        go_wp2_with (first | (refine lb b0 rfl rfl rfl (by kernel_rfl) ?_) | (refine sb b0 rfl rfl rfl rfl (by kernel_rfl) ?_) | (refine lb b1 rfl rfl rfl (by kernel_rfl) ?_) | (refine sb b1 rfl rfl rfl rfl (by kernel_rfl) ?_))
        refine bodyPost_ret (rct rfl (srh b1) (by rfl) (by kernel_rfl)) rfl ⟨?_, below_setRow hB (by omega) _⟩
        first | rfl | (rw [hR]; rfl)
    · have hz : (n == 0) = false := by simpa using hn
      have hR : R = 22 := by rw [HR.out]; simp [hn]
      have Hn := Lib.hid hn
      clear hn
      clear HR HW HN HH HS
      go_wp2_with (first | (refine lb b0 rfl rfl rfl (by kernel_rfl) ?_) | (refine sb b0 rfl rfl rfl rfl (by kernel_rfl) ?_) | (refine lb b1 rfl rfl rfl (by kernel_rfl) ?_) | (refine sb b1 rfl rfl rfl rfl (by kernel_rfl) ?_))
      refine bodyPost_ret (rct rfl (srh b1) (by rfl) (by kernel_rfl)) rfl ⟨?_, below_setRow hB (by omega) _⟩
      first | rfl | (rw [hR]; rfl)
theorem rgoes_ft (mo la lo iso : Int) (hi : 0 ≤ iso ∧ iso ≤ 15) (n : Int) (w : World) :
    Calls Tryz.prog 39 #[stV ⟨mo, false, true, la, lo, iso⟩, .int .i64 n] w fun e w' => e = .returned (.tuple #[stV (if Dw.goesE ⟨mo, false, true, la, lo, iso⟩ n = 0 then ⟨n, false, true, la, lo, iso⟩ else ⟨mo, false, true, la, lo, iso⟩), .int .i64 (Dw.goesE ⟨mo, false, true, la, lo, iso⟩ n)]) ∧ Below w.heap.size w w' := by
  obtain ⟨V, hV⟩ : ∃ V, (w.alloc (.cells (stC ⟨mo, false, true, la, lo, iso⟩) 38)).alloc (.cells Z6 38) = V := ⟨_, rfl⟩
  have b0 : V.heap[w.heap.size]? = some (.cells (stC ⟨mo, false, true, la, lo, iso⟩) 38) := by rw [← hV]; exact heap_alloc2_old _ _ _
  have b1 : V.heap[w.heap.size + 1]? = some (.cells Z6 38) := by rw [← hV]; exact heap_alloc2_new _ _ _
  have hB : Below w.heap.size w V := by rw [← hV]; exact ((Below.refl _ w).alloc (Nat.le_refl _) _).alloc (by simp) _
  have HW := Lib.hid (fun w => rway_any mo n w)
  have HN := Lib.hid (fun w => rneeds_any n w)
  have HH := Lib.hid (fun w => rhome_any n w)
  have HS := Lib.hid (fun w => rsens_any ⟨mo, false, true, la, lo, iso⟩ hi w)
  have HR := Lib.hid (show Dw.goesE ⟨mo, false, true, la, lo, iso⟩ n = if Dw.wayB mo n = false then 20 else if false = false ∧ n ≠ 0 then 22 else if false = true ∧ n = 0 then 21 else if Dw.homeB n = true ∧ true = false then 23 else if Dw.soundN iso < Dw.needsI n then 24 else 0 from rfl)
  generalize Dw.goesE ⟨mo, false, true, la, lo, iso⟩ n = R at *
  generalize Dw.wayB mo n = wv at *
  generalize Dw.needsI n = nd at *
  generalize Dw.homeB n = hm at *
  dsimp only at HS
  generalize Dw.soundN iso = sn at *
  obtain ⟨c0, c1, c2, c3, c4, c5⟩ := cells6 b0
  clear hi
  go_enter Tryz.func39, Tryz.ntmps39
  go_wp2_with fail
  refine cb (HW.out _) fun w1 hb => ?_
  replace b0 := kp hb b0
  replace b1 := kp hb b1
  replace hB := tr hB hb
  clear hb
  clear hV
  clear c0 c1 c2 c3 c4 c5
  obtain ⟨c0, c1, c2, c3, c4, c5⟩ := cells6 b0
  cases wv
  · have hR : R = 20 := by rw [HR.out]; rfl
    clear HR HW HN HH HS
    go_wp2_with (first | (refine lb b0 rfl rfl rfl (by kernel_rfl) ?_) | (refine sb b0 rfl rfl rfl rfl (by kernel_rfl) ?_) | (refine lb b1 rfl rfl rfl (by kernel_rfl) ?_) | (refine sb b1 rfl rfl rfl rfl (by kernel_rfl) ?_))
    refine bodyPost_ret (rct rfl (srh b1) (by rfl) (by kernel_rfl)) rfl ⟨?_, below_setRow hB (by omega) _⟩
    first | rfl | (rw [hR]; rfl)
  · by_cases hn : n = 0
    · have hz : (n == 0) = true := by simpa using hn
      have Hn := Lib.hid hn
      clear hn
      go_wp2_with fail
      refine cb (HH.out _) fun w2 hb => ?_
      replace b0 := kp hb b0
      replace b1 := kp hb b1
      replace hB := tr hB hb
      clear hb
      clear c0 c1 c2 c3 c4 c5
      obtain ⟨c0, c1, c2, c3, c4, c5⟩ := cells6 b0
      cases hm
      · have hn := Hn.out
        clear hn
        go_wp2_with (first | (refine lb b0 rfl rfl rfl (by kernel_rfl) ?_) | (refine sb b0 rfl rfl rfl rfl (by kernel_rfl) ?_))
        refine cb (HS.out _) fun w3 hb => ?_
        replace b0 := kp hb b0
        replace b1 := kp hb b1
        replace hB := tr hB hb
        clear hb
        go_wp2_with fail
        refine cb (HN.out _) fun w4 hb => ?_
        replace b0 := kp hb b0
        replace b1 := kp hb b1
        replace hB := tr hB hb
        clear hb
        clear c0 c1 c2 c3 c4 c5
        obtain ⟨c0, c1, c2, c3, c4, c5⟩ := cells6 b0
        by_cases hq : sn < nd
        · have hR : R = 24 := by rw [HR.out]; simp [hq, Hn.out]
          clear HR HW HN HH HS
          go_wp2_with (first | (refine lb b0 rfl rfl rfl (by kernel_rfl) ?_) | (refine sb b0 rfl rfl rfl rfl (by kernel_rfl) ?_) | (refine lb b1 rfl rfl rfl (by kernel_rfl) ?_) | (refine sb b1 rfl rfl rfl rfl (by kernel_rfl) ?_))
          refine bodyPost_ret (rct rfl (srh b1) (by rfl) (by kernel_rfl)) rfl ⟨?_, below_setRow hB (by omega) _⟩
          first | rfl | (rw [hR]; rfl)
        · have hR : R = 0 := by rw [HR.out]; simp [hq, Hn.out]
          have b2 := heap_setCell_same w4 w.heap.size 0 _ _ (.int .i64 n) b0
          change _ = some (Obj.cells (stC ⟨n, false, true, la, lo, iso⟩) _ _) at b2
          have z0 := frozen0 b0 0
          replace b1 := (heap_setCell_other w4 ⟨w.heap.size, 0, none⟩ (w.heap.size + 1) (.int .i64 n) (by simp)).trans b1
          replace hB := hB.setCell (p := ⟨w.heap.size, 0, none⟩) (by simp) (.int .i64 n)
          clear HR HW HN HH HS
          go_wp2_with (first | (refine lb b2 rfl rfl rfl (by kernel_rfl) ?_) | (refine sb b2 rfl rfl rfl rfl (by kernel_rfl) ?_) | (refine lb b1 rfl rfl rfl (by kernel_rfl) ?_) | (refine sb b1 rfl rfl rfl rfl (by kernel_rfl) ?_))
          refine bodyPost_ret (rct rfl (srh b1) (by rfl) (by kernel_rfl)) rfl ⟨?_, below_setRow hB (by omega) _⟩
          first | rfl | (rw [hR]; rfl)
      · have hn := Hn.out
        clear hn
        go_wp2_with (first | (refine lb b0 rfl rfl rfl (by kernel_rfl) ?_) | (refine sb b0 rfl rfl rfl rfl (by kernel_rfl) ?_))
        refine cb (HS.out _) fun w3 hb => ?_
        replace b0 := kp hb b0
        replace b1 := kp hb b1
        replace hB := tr hB hb
        clear hb
        go_wp2_with fail
        refine cb (HN.out _) fun w4 hb => ?_
        replace b0 := kp hb b0
        replace b1 := kp hb b1
        replace hB := tr hB hb
        clear hb
        clear c0 c1 c2 c3 c4 c5
        obtain ⟨c0, c1, c2, c3, c4, c5⟩ := cells6 b0
        by_cases hq : sn < nd
        · have hR : R = 24 := by rw [HR.out]; simp [hq, Hn.out]
          clear HR HW HN HH HS
          go_wp2_with (first | (refine lb b0 rfl rfl rfl (by kernel_rfl) ?_) | (refine sb b0 rfl rfl rfl rfl (by kernel_rfl) ?_) | (refine lb b1 rfl rfl rfl (by kernel_rfl) ?_) | (refine sb b1 rfl rfl rfl rfl (by kernel_rfl) ?_))
          refine bodyPost_ret (rct rfl (srh b1) (by rfl) (by kernel_rfl)) rfl ⟨?_, below_setRow hB (by omega) _⟩
          first | rfl | (rw [hR]; rfl)
        · have hR : R = 0 := by rw [HR.out]; simp [hq, Hn.out]
          have b2 := heap_setCell_same w4 w.heap.size 0 _ _ (.int .i64 n) b0
          change _ = some (Obj.cells (stC ⟨n, false, true, la, lo, iso⟩) _ _) at b2
          have z0 := frozen0 b0 0
          replace b1 := (heap_setCell_other w4 ⟨w.heap.size, 0, none⟩ (w.heap.size + 1) (.int .i64 n) (by simp)).trans b1
          replace hB := hB.setCell (p := ⟨w.heap.size, 0, none⟩) (by simp) (.int .i64 n)
          clear HR HW HN HH HS
          go_wp2_with (first | (refine lb b2 rfl rfl rfl (by kernel_rfl) ?_) | (refine sb b2 rfl rfl rfl rfl (by kernel_rfl) ?_) | (refine lb b1 rfl rfl rfl (by kernel_rfl) ?_) | (refine sb b1 rfl rfl rfl rfl (by kernel_rfl) ?_))
          refine bodyPost_ret (rct rfl (srh b1) (by rfl) (by kernel_rfl)) rfl ⟨?_, below_setRow hB (by omega) _⟩
          first | rfl | (rw [hR]; rfl)
    · have hz : (n == 0) = false := by simpa using hn
      have hR : R = 22 := by rw [HR.out]; simp [hn]
      have Hn := Lib.hid hn
      clear hn
      clear HR HW HN HH HS
      go_wp2_with (first | (refine lb b0 rfl rfl rfl (by kernel_rfl) ?_) | (refine sb b0 rfl rfl rfl rfl (by kernel_rfl) ?_) | (refine lb b1 rfl rfl rfl (by kernel_rfl) ?_) | (refine sb b1 rfl rfl rfl rfl (by kernel_rfl) ?_))
      refine bodyPost_ret (rct rfl (srh b1) (by rfl) (by kernel_rfl)) rfl ⟨?_, below_setRow hB (by omega) _⟩
      first | rfl | (rw [hR]; rfl)
theorem rgoes_tf (mo la lo iso : Int) (hi : 0 ≤ iso ∧ iso ≤ 15) (n : Int) (w : World) :
    Calls Tryz.prog 39 #[stV ⟨mo, true, false, la, lo, iso⟩, .int .i64 n] w fun e w' => e = .returned (.tuple #[stV (if Dw.goesE ⟨mo, true, false, la, lo, iso⟩ n = 0 then ⟨n, true, false, la, lo, iso⟩ else ⟨mo, true, false, la, lo, iso⟩), .int .i64 (Dw.goesE ⟨mo, true, false, la, lo, iso⟩ n)]) ∧ Below w.heap.size w w' := by
  obtain ⟨V, hV⟩ : ∃ V, (w.alloc (.cells (stC ⟨mo, true, false, la, lo, iso⟩) 38)).alloc (.cells Z6 38) = V := ⟨_, rfl⟩
  have b0 : V.heap[w.heap.size]? = some (.cells (stC ⟨mo, true, false, la, lo, iso⟩) 38) := by rw [← hV]; exact heap_alloc2_old _ _ _
  have b1 : V.heap[w.heap.size + 1]? = some (.cells Z6 38) := by rw [← hV]; exact heap_alloc2_new _ _ _
  have hB : Below w.heap.size w V := by rw [← hV]; exact ((Below.refl _ w).alloc (Nat.le_refl _) _).alloc (by simp) _
  have HW := Lib.hid (fun w => rway_any mo n w)
  have HN := Lib.hid (fun w => rneeds_any n w)
  have HH := Lib.hid (fun w => rhome_any n w)
  have HS := Lib.hid (fun w => rsens_any ⟨mo, true, false, la, lo, iso⟩ hi w)
  have HR := Lib.hid (show Dw.goesE ⟨mo, true, false, la, lo, iso⟩ n = if Dw.wayB mo n = false then 20 else if true = false ∧ n ≠ 0 then 22 else if true = true ∧ n = 0 then 21 else if Dw.homeB n = true ∧ false = false then 23 else if Dw.soundN iso < Dw.needsI n then 24 else 0 from rfl)
  generalize Dw.goesE ⟨mo, true, false, la, lo, iso⟩ n = R at *
  generalize Dw.wayB mo n = wv at *
  generalize Dw.needsI n = nd at *
  generalize Dw.homeB n = hm at *
  dsimp only at HS
  generalize Dw.soundN iso = sn at *
  obtain ⟨c0, c1, c2, c3, c4, c5⟩ := cells6 b0
  clear hi
  go_enter Tryz.func39, Tryz.ntmps39
  go_wp2_with fail
  refine cb (HW.out _) fun w1 hb => ?_
  replace b0 := kp hb b0
  replace b1 := kp hb b1
  replace hB := tr hB hb
  clear hb
  clear hV
  clear c0 c1 c2 c3 c4 c5
  obtain ⟨c0, c1, c2, c3, c4, c5⟩ := cells6 b0
  cases wv
  · have hR : R = 20 := by rw [HR.out]; rfl
    clear HR HW HN HH HS
    go_wp2_with (first | (refine lb b0 rfl rfl rfl (by kernel_rfl) ?_) | (refine sb b0 rfl rfl rfl rfl (by kernel_rfl) ?_) | (refine lb b1 rfl rfl rfl (by kernel_rfl) ?_) | (refine sb b1 rfl rfl rfl rfl (by kernel_rfl) ?_))
    refine bodyPost_ret (rct rfl (srh b1) (by rfl) (by kernel_rfl)) rfl ⟨?_, below_setRow hB (by omega) _⟩
    first | rfl | (rw [hR]; rfl)
  · by_cases hn : n = 0
    · have hz : (n == 0) = true := by simpa using hn
      have hR : R = 21 := by rw [HR.out]; simp [hn]
      have Hn := Lib.hid hn
      clear hn
      clear HR HW HN HH HS
      go_wp2_with (first | (refine lb b0 rfl rfl rfl (by kernel_rfl) ?_) | (refine sb b0 rfl rfl rfl rfl (by kernel_rfl) ?_) | (refine lb b1 rfl rfl rfl (by kernel_rfl) ?_) | (refine sb b1 rfl rfl rfl rfl (by kernel_rfl) ?_))
      refine bodyPost_ret (rct rfl (srh b1) (by rfl) (by kernel_rfl)) rfl ⟨?_, below_setRow hB (by omega) _⟩
      first | rfl | (rw [hR]; rfl)
    · have hz : (n == 0) = false := by simpa using hn
      have Hn := Lib.hid hn
      clear hn
      go_wp2_with fail
      refine cb (HH.out _) fun w2 hb => ?_
      replace b0 := kp hb b0
      replace b1 := kp hb b1
      replace hB := tr hB hb
      clear hb
      clear c0 c1 c2 c3 c4 c5
      obtain ⟨c0, c1, c2, c3, c4, c5⟩ := cells6 b0
      cases hm
      · have hn := Hn.out
        clear hn
        go_wp2_with (first | (refine lb b0 rfl rfl rfl (by kernel_rfl) ?_) | (refine sb b0 rfl rfl rfl rfl (by kernel_rfl) ?_))
        refine cb (HS.out _) fun w3 hb => ?_
        replace b0 := kp hb b0
        replace b1 := kp hb b1
        replace hB := tr hB hb
        clear hb
        go_wp2_with fail
        refine cb (HN.out _) fun w4 hb => ?_
        replace b0 := kp hb b0
        replace b1 := kp hb b1
        replace hB := tr hB hb
        clear hb
        clear c0 c1 c2 c3 c4 c5
        obtain ⟨c0, c1, c2, c3, c4, c5⟩ := cells6 b0
        by_cases hq : sn < nd
        · have hR : R = 24 := by rw [HR.out]; simp [hq, Hn.out]
          clear HR HW HN HH HS
          go_wp2_with (first | (refine lb b0 rfl rfl rfl (by kernel_rfl) ?_) | (refine sb b0 rfl rfl rfl rfl (by kernel_rfl) ?_) | (refine lb b1 rfl rfl rfl (by kernel_rfl) ?_) | (refine sb b1 rfl rfl rfl rfl (by kernel_rfl) ?_))
          refine bodyPost_ret (rct rfl (srh b1) (by rfl) (by kernel_rfl)) rfl ⟨?_, below_setRow hB (by omega) _⟩
          first | rfl | (rw [hR]; rfl)
        · have hR : R = 0 := by rw [HR.out]; simp [hq, Hn.out]
          have b2 := heap_setCell_same w4 w.heap.size 0 _ _ (.int .i64 n) b0
          change _ = some (Obj.cells (stC ⟨n, true, false, la, lo, iso⟩) _ _) at b2
          have z0 := frozen0 b0 0
          replace b1 := (heap_setCell_other w4 ⟨w.heap.size, 0, none⟩ (w.heap.size + 1) (.int .i64 n) (by simp)).trans b1
          replace hB := hB.setCell (p := ⟨w.heap.size, 0, none⟩) (by simp) (.int .i64 n)
          clear HR HW HN HH HS
          go_wp2_with (first | (refine lb b2 rfl rfl rfl (by kernel_rfl) ?_) | (refine sb b2 rfl rfl rfl rfl (by kernel_rfl) ?_) | (refine lb b1 rfl rfl rfl (by kernel_rfl) ?_) | (refine sb b1 rfl rfl rfl rfl (by kernel_rfl) ?_))
          refine bodyPost_ret (rct rfl (srh b1) (by rfl) (by kernel_rfl)) rfl ⟨?_, below_setRow hB (by omega) _⟩
          first | rfl | (rw [hR]; rfl)
      · have hn := Hn.out
        have hR : R = 23 := by rw [HR.out]; simp [hn]
        clear hn
        clear HR HW HN HH HS
        go_wp2_with (first | (refine lb b0 rfl rfl rfl (by kernel_rfl) ?_) | (refine sb b0 rfl rfl rfl rfl (by kernel_rfl) ?_) | (refine lb b1 rfl rfl rfl (by kernel_rfl) ?_) | (refine sb b1 rfl rfl rfl rfl (by kernel_rfl) ?_))
        refine bodyPost_ret (rct rfl (srh b1) (by rfl) (by kernel_rfl)) rfl ⟨?_, below_setRow hB (by omega) _⟩
        first | rfl | (rw [hR]; rfl)
theorem rgoes_tt (mo la lo iso : Int) (hi : 0 ≤ iso ∧ iso ≤ 15) (n : Int) (w : World) :
    Calls Tryz.prog 39 #[stV ⟨mo, true, true, la, lo, iso⟩, .int .i64 n] w fun e w' => e = .returned (.tuple #[stV (if Dw.goesE ⟨mo, true, true, la, lo, iso⟩ n = 0 then ⟨n, true, true, la, lo, iso⟩ else ⟨mo, true, true, la, lo, iso⟩), .int .i64 (Dw.goesE ⟨mo, true, true, la, lo, iso⟩ n)]) ∧ Below w.heap.size w w' := by
  obtain ⟨V, hV⟩ : ∃ V, (w.alloc (.cells (stC ⟨mo, true, true, la, lo, iso⟩) 38)).alloc (.cells Z6 38) = V := ⟨_, rfl⟩
  have b0 : V.heap[w.heap.size]? = some (.cells (stC ⟨mo, true, true, la, lo, iso⟩) 38) := by rw [← hV]; exact heap_alloc2_old _ _ _
  have b1 : V.heap[w.heap.size + 1]? = some (.cells Z6 38) := by rw [← hV]; exact heap_alloc2_new _ _ _
  have hB : Below w.heap.size w V := by rw [← hV]; exact ((Below.refl _ w).alloc (Nat.le_refl _) _).alloc (by simp) _
  have HW := Lib.hid (fun w => rway_any mo n w)
  have HN := Lib.hid (fun w => rneeds_any n w)
  have HH := Lib.hid (fun w => rhome_any n w)
  have HS := Lib.hid (fun w => rsens_any ⟨mo, true, true, la, lo, iso⟩ hi w)
  have HR := Lib.hid (show Dw.goesE ⟨mo, true, true, la, lo, iso⟩ n = if Dw.wayB mo n = false then 20 else if true = false ∧ n ≠ 0 then 22 else if true = true ∧ n = 0 then 21 else if Dw.homeB n = true ∧ true = false then 23 else if Dw.soundN iso < Dw.needsI n then 24 else 0 from rfl)
  generalize Dw.goesE ⟨mo, true, true, la, lo, iso⟩ n = R at *
  generalize Dw.wayB mo n = wv at *
  generalize Dw.needsI n = nd at *
  generalize Dw.homeB n = hm at *
  dsimp only at HS
  generalize Dw.soundN iso = sn at *
  obtain ⟨c0, c1, c2, c3, c4, c5⟩ := cells6 b0
  clear hi
  go_enter Tryz.func39, Tryz.ntmps39
  go_wp2_with fail
  refine cb (HW.out _) fun w1 hb => ?_
  replace b0 := kp hb b0
  replace b1 := kp hb b1
  replace hB := tr hB hb
  clear hb
  clear hV
  clear c0 c1 c2 c3 c4 c5
  obtain ⟨c0, c1, c2, c3, c4, c5⟩ := cells6 b0
  cases wv
  · have hR : R = 20 := by rw [HR.out]; rfl
    clear HR HW HN HH HS
    go_wp2_with (first | (refine lb b0 rfl rfl rfl (by kernel_rfl) ?_) | (refine sb b0 rfl rfl rfl rfl (by kernel_rfl) ?_) | (refine lb b1 rfl rfl rfl (by kernel_rfl) ?_) | (refine sb b1 rfl rfl rfl rfl (by kernel_rfl) ?_))
    refine bodyPost_ret (rct rfl (srh b1) (by rfl) (by kernel_rfl)) rfl ⟨?_, below_setRow hB (by omega) _⟩
    first | rfl | (rw [hR]; rfl)
  · by_cases hn : n = 0
    · have hz : (n == 0) = true := by simpa using hn
      have hR : R = 21 := by rw [HR.out]; simp [hn]
      have Hn := Lib.hid hn
      clear hn
      clear HR HW HN HH HS
      go_wp2_with (first | (refine lb b0 rfl rfl rfl (by kernel_rfl) ?_) | (refine sb b0 rfl rfl rfl rfl (by kernel_rfl) ?_) | (refine lb b1 rfl rfl rfl (by kernel_rfl) ?_) | (refine sb b1 rfl rfl rfl rfl (by kernel_rfl) ?_))
      refine bodyPost_ret (rct rfl (srh b1) (by rfl) (by kernel_rfl)) rfl ⟨?_, below_setRow hB (by omega) _⟩
      first | rfl | (rw [hR]; rfl)
    · have hz : (n == 0) = false := by simpa using hn
      have Hn := Lib.hid hn
      clear hn
      go_wp2_with fail
      refine cb (HH.out _) fun w2 hb => ?_
      replace b0 := kp hb b0
      replace b1 := kp hb b1
      replace hB := tr hB hb
      clear hb
      clear c0 c1 c2 c3 c4 c5
      obtain ⟨c0, c1, c2, c3, c4, c5⟩ := cells6 b0
      cases hm
      · have hn := Hn.out
        clear hn
        go_wp2_with (first | (refine lb b0 rfl rfl rfl (by kernel_rfl) ?_) | (refine sb b0 rfl rfl rfl rfl (by kernel_rfl) ?_))
        refine cb (HS.out _) fun w3 hb => ?_
        replace b0 := kp hb b0
        replace b1 := kp hb b1
        replace hB := tr hB hb
        clear hb
        go_wp2_with fail
        refine cb (HN.out _) fun w4 hb => ?_
        replace b0 := kp hb b0
        replace b1 := kp hb b1
        replace hB := tr hB hb
        clear hb
        clear c0 c1 c2 c3 c4 c5
        obtain ⟨c0, c1, c2, c3, c4, c5⟩ := cells6 b0
        by_cases hq : sn < nd
        · have hR : R = 24 := by rw [HR.out]; simp [hq, Hn.out]
          clear HR HW HN HH HS
          go_wp2_with (first | (refine lb b0 rfl rfl rfl (by kernel_rfl) ?_) | (refine sb b0 rfl rfl rfl rfl (by kernel_rfl) ?_) | (refine lb b1 rfl rfl rfl (by kernel_rfl) ?_) | (refine sb b1 rfl rfl rfl rfl (by kernel_rfl) ?_))
          refine bodyPost_ret (rct rfl (srh b1) (by rfl) (by kernel_rfl)) rfl ⟨?_, below_setRow hB (by omega) _⟩
          first | rfl | (rw [hR]; rfl)
        · have hR : R = 0 := by rw [HR.out]; simp [hq, Hn.out]
          have b2 := heap_setCell_same w4 w.heap.size 0 _ _ (.int .i64 n) b0
          change _ = some (Obj.cells (stC ⟨n, true, true, la, lo, iso⟩) _ _) at b2
          have z0 := frozen0 b0 0
          replace b1 := (heap_setCell_other w4 ⟨w.heap.size, 0, none⟩ (w.heap.size + 1) (.int .i64 n) (by simp)).trans b1
          replace hB := hB.setCell (p := ⟨w.heap.size, 0, none⟩) (by simp) (.int .i64 n)
          clear HR HW HN HH HS
          go_wp2_with (first | (refine lb b2 rfl rfl rfl (by kernel_rfl) ?_) | (refine sb b2 rfl rfl rfl rfl (by kernel_rfl) ?_) | (refine lb b1 rfl rfl rfl (by kernel_rfl) ?_) | (refine sb b1 rfl rfl rfl rfl (by kernel_rfl) ?_))
          refine bodyPost_ret (rct rfl (srh b1) (by rfl) (by kernel_rfl)) rfl ⟨?_, below_setRow hB (by omega) _⟩
          first | rfl | (rw [hR]; rfl)
      · have hn := Hn.out
        clear hn
        go_wp2_with (first | (refine lb b0 rfl rfl rfl (by kernel_rfl) ?_) | (refine sb b0 rfl rfl rfl rfl (by kernel_rfl) ?_))
        refine cb (HS.out _) fun w3 hb => ?_
        replace b0 := kp hb b0
        replace b1 := kp hb b1
        replace hB := tr hB hb
        clear hb
        go_wp2_with fail
        refine cb (HN.out _) fun w4 hb => ?_
        replace b0 := kp hb b0
        replace b1 := kp hb b1
        replace hB := tr hB hb
        clear hb
        clear c0 c1 c2 c3 c4 c5
        obtain ⟨c0, c1, c2, c3, c4, c5⟩ := cells6 b0
        by_cases hq : sn < nd
        · have hR : R = 24 := by rw [HR.out]; simp [hq, Hn.out]
          clear HR HW HN HH HS
          go_wp2_with (first | (refine lb b0 rfl rfl rfl (by kernel_rfl) ?_) | (refine sb b0 rfl rfl rfl rfl (by kernel_rfl) ?_) | (refine lb b1 rfl rfl rfl (by kernel_rfl) ?_) | (refine sb b1 rfl rfl rfl rfl (by kernel_rfl) ?_))
          refine bodyPost_ret (rct rfl (srh b1) (by rfl) (by kernel_rfl)) rfl ⟨?_, below_setRow hB (by omega) _⟩
          first | rfl | (rw [hR]; rfl)
        · have hR : R = 0 := by rw [HR.out]; simp [hq, Hn.out]
          have b2 := heap_setCell_same w4 w.heap.size 0 _ _ (.int .i64 n) b0
          change _ = some (Obj.cells (stC ⟨n, true, true, la, lo, iso⟩) _ _) at b2
          have z0 := frozen0 b0 0
          replace b1 := (heap_setCell_other w4 ⟨w.heap.size, 0, none⟩ (w.heap.size + 1) (.int .i64 n) (by simp)).trans b1
          replace hB := hB.setCell (p := ⟨w.heap.size, 0, none⟩) (by simp) (.int .i64 n)
          clear HR HW HN HH HS
          go_wp2_with (first | (refine lb b2 rfl rfl rfl (by kernel_rfl) ?_) | (refine sb b2 rfl rfl rfl rfl (by kernel_rfl) ?_) | (refine lb b1 rfl rfl rfl (by kernel_rfl) ?_) | (refine sb b1 rfl rfl rfl rfl (by kernel_rfl) ?_))
          refine bodyPost_ret (rct rfl (srh b1) (by rfl) (by kernel_rfl)) rfl ⟨?_, below_setRow hB (by omega) _⟩
          first | rfl | (rw [hR]; rfl)
theorem rgoes_any (s : Dw.St) (hi : 0 ≤ s.iso ∧ s.iso ≤ 15) (n : Int) (w : World) :
    Calls Tryz.prog 39 #[stV s, .int .i64 n] w fun e w' => e = .returned (.tuple #[stV (if Dw.goesE s n = 0 then { s with mo := n } else s), .int .i64 (Dw.goesE s n)]) ∧ Below w.heap.size w w' := by
  obtain ⟨mo, ar, ho, la, lo, iso⟩ := s
  cases ar <;> cases ho
  · exact rgoes_ff mo la lo iso hi n w
  · exact rgoes_ft mo la lo iso hi n w
  · exact rgoes_tf mo la lo iso hi n w
  · exact rgoes_tt mo la lo iso hi n w
end Go.Proofs.YtcadgecnlahkgaaGreatDoor
