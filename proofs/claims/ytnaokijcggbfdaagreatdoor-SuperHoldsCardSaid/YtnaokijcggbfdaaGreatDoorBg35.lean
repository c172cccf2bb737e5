/- What the statement's proof stands on, part 35: Fix. -/
import Derived.Test.YtnaokijcggbfdaaGreatDoorBg32
import Derived.Test.YtnaokijcggbfdaaGreatDoorBg30
import Derived.Laws.BitsAllLaws
set_option linter.unusedSimpArgs false
set_option linter.unusedVariables false
set_option maxRecDepth 100000
set_option maxHeartbeats 4000000
namespace Go.Proofs.YtnaokijcggbfdaaGreatDoor
open Go.RowKit Go.Shelf
attribute [local go_sem] Oper.semAt_some
namespace Dw
open Ieee
theorem keep_high (n j : Nat) (hn : n < 18446744073709551616) (hj : j ≤ 63) : n &&& (18446744073709551615 - (2 ^ j - 1)) = n / 2 ^ j * 2 ^ j := by
  have hp := Nat.two_pow_pos j
  have hq : 2 ^ j ≤ 2 ^ 64 := Nat.pow_le_pow_right (by decide) (by omega)
  rw [show 18446744073709551615 - (2 ^ j - 1) = 2 ^ 64 - ((2 ^ j - 1) + 1) from by
    have : (2 : Nat) ^ 64 = 18446744073709551616 := by decide
    omega]
  apply Nat.eq_of_testBit_eq
  intro i
  rw [Nat.testBit_and, Nat.testBit_two_pow_sub_succ (by omega), Nat.testBit_two_pow_sub_one, Nat.testBit_mul_two_pow, Nat.testBit_div_two_pow]
  by_cases h1 : j ≤ i
  · by_cases h2 : i < 64
    · simp [h1, h2, Nat.not_lt.2 h1, Nat.sub_add_cancel h1]
    · have : n.testBit i = false := Nat.testBit_lt_two_pow (Nat.lt_of_lt_of_le hn (Nat.pow_le_pow_right (by decide : 0 < 2) (by omega : 64 ≤ i)))
      simp [this, Nat.sub_add_cancel h1]
  · simp [h1, Nat.lt_of_not_le h1]
theorem word_lt {s : Bool} {R : Nat} (h : R < 2047 * 4503599627370496) : double.word s R < 18446744073709551616 := by
  rw [word_eq]; split <;> omega
theorem word_e {s : Bool} {R : Nat} (h : R < 2047 * 4503599627370496) : bits .and .u64 ((double.word s R : Int) / 4503599627370496) 2047 = ((R / 4503599627370496 : Nat) : Int) := by
  have hw : double.word s R / 4503599627370496 % 2048 = R / 4503599627370496 := by rw [word_eq]; split <;> omega
  have hb := word_lt (s := s) h
  generalize double.word s R = B at *
  have e := u64_and_nat (B / 4503599627370496) 2047 (by omega) (by decide)
  rw [show B / 4503599627370496 &&& 2047 = B / 4503599627370496 % 2048 from Nat.and_two_pow_sub_one_eq_mod _ 11, hw] at e
  rw [← e]
  rfl
theorem word_s {s : Bool} {R : Nat} (h : R < 2047 * 4503599627370496) : bits .and .u64 (double.word s R : Int) 9223372036854775808 = if s then 9223372036854775808 else 0 := by
  have hw := word_eq s R
  have hb := word_lt (s := s) h
  have e := u64_and_nat (double.word s R) 9223372036854775808 hb (by decide)
  rw [show ((9223372036854775808 : Nat) : Int) = 9223372036854775808 from rfl] at e
  have k := keep_high (double.word s R) 63 hb (by decide)
  rw [show 18446744073709551615 - (2 ^ 63 - 1) = 9223372036854775808 from by decide, show (2 : Nat) ^ 63 = 9223372036854775808 from by decide] at k
  rw [e, k, hw]
  cases s
  · rw [if_neg (by decide), if_neg (by decide)]; omega
  · rw [if_pos rfl, if_pos rfl]; omega
theorem small_e {R : Nat} (hu : uv R ≤ 1474560 * onU) : R / 4503599627370496 ≤ 1043 := by
  have ho := uO_eq
  apply Decidable.byContradiction
  intro hn
  have hlo : 4503599627370496 ≤ mant R := by unfold mant; rw [if_neg (by omega)]; omega
  have hx : uO - 31 ≤ ex R := by unfold ex; omega
  have h1 : 4503599627370496 * 2 ^ (uO - 31) ≤ uv R := by
    unfold uv
    exact Nat.le_trans (Nat.mul_le_mul_right _ hlo) (Nat.mul_le_mul_left _ (Nat.pow_le_pow_right (by decide) hx))
  have h2 : 1474560 * onU < 4503599627370496 * 2 ^ (uO - 31) := by
    rw [onU_pow, show (4503599627370496 : Nat) * 2 ^ (uO - 31) = 2097152 * 2 ^ uO from by
      rw [show (4503599627370496 : Nat) = 2 ^ 52 from by decide, show (2097152 : Nat) = 2 ^ 21 from by decide, ← Nat.pow_add, ← Nat.pow_add, show 52 + (uO - 31) = 21 + uO by omega]]
    exact Nat.mul_lt_mul_of_pos_right (by decide) (Nat.two_pow_pos _)
  exact absurd (Nat.lt_of_lt_of_le h2 h1) (Nat.not_lt.2 hu)
theorem half_shr {k : Nat} (h : k ≤ 51) : (2251799813685248 : Int) / 2 ^ k = ((2 ^ (51 - k) : Nat) : Int) := by
  have e : (2251799813685248 : Nat) / 2 ^ k = 2 ^ (51 - k) := by rw [show (2251799813685248 : Nat) = 2 ^ 51 from by decide, Nat.pow_div h (by decide)]
  rw [← e]
  simp
theorem mask_shr {k : Nat} (h : k ≤ 52) : (4503599627370495 : Int) / 2 ^ k = ((2 ^ (52 - k) - 1 : Nat) : Int) := by
  have e : (4503599627370495 : Nat) / 2 ^ k = 2 ^ (52 - k) - 1 := by
    have h1 : 4503599627370496 = 2 ^ (52 - k) * 2 ^ k := by rw [← Nat.pow_add, show 52 - k + k = 52 by omega]
    have h2 := Nat.two_pow_pos (52 - k); have h3 := Nat.two_pow_pos k
    generalize 2 ^ (52 - k) = a at *
    generalize 2 ^ k = b at *
    obtain ⟨a, rfl⟩ : ∃ c, a = c + 1 := ⟨a - 1, by omega⟩
    rw [Nat.add_mul, Nat.one_mul] at h1
    rw [Nat.add_sub_cancel]
    exact Nat.div_eq_of_lt_le (by omega) (by rw [Nat.add_mul, Nat.one_mul]; omega)
  rw [← e]
  simp
theorem word_big {s : Bool} {R k : Nat} (h : R < 2047 * 4503599627370496) (_he : R / 4503599627370496 = 1023 + k) (hk : k ≤ 20) :
    double.word s R + 2 ^ (51 - k) < 18446744073709551616 ∧
    (bits .andNot .u64 ((double.word s R + 2 ^ (51 - k) : Nat) : Int) ((2 ^ (52 - k) - 1 : Nat) : Int)) = ((double.word s ((R + 2 ^ (51 - k)) / 2 ^ (52 - k) * 2 ^ (52 - k)) : Nat) : Int) := by
  have hp : 2 ^ (51 - k) ≤ 2251799813685248 := Nat.le_trans (Nat.pow_le_pow_right (by decide) (by omega : 51 - k ≤ 51)) (by decide)
  have hp2 : 2 ^ (52 - k) ≤ 4503599627370496 := Nat.le_trans (Nat.pow_le_pow_right (by decide) (by omega : 52 - k ≤ 52)) (by decide)
  have hlt : double.word s R + 2 ^ (51 - k) < 18446744073709551616 := by rw [word_eq]; split <;> omega
  refine ⟨hlt, ?_⟩
  rw [u64_andNot_nat _ _ hlt (by omega), keep_high _ _ hlt (by omega), word_eq, word_eq]
  congr 1
  cases s
  · rfl
  · rw [if_pos rfl, if_pos rfl]
    have hd : 9223372036854775808 = 2 ^ (63 - (52 - k)) * 2 ^ (52 - k) := by rw [← Nat.pow_add, show 63 - (52 - k) + (52 - k) = 63 by omega]
    rw [Nat.add_assoc]
    conv => lhs; rw [hd, Nat.mul_comm (2 ^ (63 - (52 - k))), Nat.mul_add_div (Nat.two_pow_pos _), Nat.add_mul, Nat.mul_comm (2 ^ (63 - (52 - k))), Nat.mul_comm]
    rw [Nat.mul_comm (2 ^ (63 - (52 - k))), Nat.mul_comm (2 ^ (52 - k)), ← hd]
end Dw
namespace Dw
open Ieee
theorem rdU_le {u m : Nat} (h : u ≤ m * onU) : rdU u ≤ m := by
  unfold rdU
  have h1 := onU_eq; have h2 := hfU_pos
  apply Nat.le_of_lt_succ
  apply (Nat.div_lt_iff_lt_mul onU_pos).2
  rw [Nat.succ_mul]
  omega
theorem to_fix {x R Z : Nat} (h : uv R = uv (x % 9223372036854775808) * 8192) (hu : uv (x % 9223372036854775808) ≤ 180 * onU) (hZ : Z < 2047 * 4503599627370496) (hz : uv Z = rdU (uv R) * onU) :
    floatToIntVal .f64 (double.word (sgnB x) Z) .i64 = some (fixV x) := by
  have h1 := word_mod (s := sgnB x) (fin_lt hZ)
  have h2 := word_sgn (s := sgnB x) (fin_lt hZ)
  have h3 : uv Z / onU = rdU (uv R) := by rw [hz, Nat.mul_div_cancel _ onU_pos]
  have h4 := to_int (y := double.word (sgnB x) Z) (by rw [h1]; exact hZ) (by rw [h1, h3]; exact rdU_le (by omega))
  rw [h4, h1, h2, h3, h]
  rfl
end Dw
open Ieee in
theorem round_any (s : Bool) (R : Nat) (hR : R < 2047 * 4503599627370496) (hu : Dw.uv R ≤ 1474560 * Dw.onU) (w : World) :
    Calls Tryz.prog 139 #[.float .f64 (double.word s R)] w fun e w' => (∃ Z, e = .returned (.float .f64 (double.word s Z)) ∧ Z < 2047 * 4503599627370496 ∧ Dw.uv Z = Dw.rdU (Dw.uv R) * Dw.onU) ∧ Below w.heap.size w w' := by
  have hE := Dw.word_e (s := s) hR
  have hS := Dw.word_s (s := s) hR
  have hle := Dw.small_e hu
  have hB := Below.refl w.heap.size w
  have hfb : ∀ B : Nat, (Extern.MathFloatBits.float64bits #[.float .f64 B]).run Tryz.prog w = .ok (.int .u64 (B : Int)) w := fun _ => rfl
  have hbf : ∀ n : Int, (Extern.MathFloatBits.float64frombits #[.int .u64 n]).run Tryz.prog w = .ok (.float .f64 n.toNat) w := fun _ => rfl
  have hcf : ∀ B : Nat, (callFunc 157 #[.float .f64 B]).run Tryz.prog w = .ok (.value (.int .u64 (B : Int))) w := fun B => by
    rw [run_callFunc_extern Tryz.func157 (by kernel_rfl) (by kernel_rfl) (by kernel_rfl) (e := Extern.MathFloatBits.float64bits) (by kernel_rfl), hfb]; rfl
  have hcb : ∀ n : Int, (callFunc 156 #[.int .u64 n]).run Tryz.prog w = .ok (.value (.float .f64 n.toNat)) w := fun n => by
    rw [run_callFunc_extern Tryz.func156 (by kernel_rfl) (by kernel_rfl) (by kernel_rfl) (e := Extern.MathFloatBits.float64frombits) (by kernel_rfl), hbf]; rfl
  by_cases h1 : R / 4503599627370496 < 1023
  · have hrd := Dw.round_small h1
    by_cases h2 : R / 4503599627370496 = 1022
    · rw [if_pos h2] at hrd
      rw [h2] at hE
      generalize hBB : double.word s R = B at *
      have hor : bits .or .u64 (if s then 9223372036854775808 else 0) 4607182418800017408 = ((double.word s (1023 * 4503599627370496) : Nat) : Int) := by cases s <;> decide +kernel
      rw [← hS] at hor
      have HO := Lib.hid hor
      clear hS hle hfb hbf hor
      go_enter Tryz.func139, Tryz.ntmps139
      go_wp2_with fail
      go_ret
      refine ⟨⟨1023 * 4503599627370496, by rw [HO.out]; rfl, by decide, ?_⟩, hB⟩
      rw [hrd, Dw.uv_one, Nat.one_mul]
    · rw [if_neg h2] at hrd
      obtain ⟨E, hEE⟩ : ∃ E : Int, ((R / 4503599627370496 : Nat) : Int) = E := ⟨_, rfl⟩
      rw [hEE] at hE
      have l1 : E < 1023 := by omega
      have l2 : (E == 1022) = false := by simp; omega
      have HS := Lib.hid hS
      generalize double.word s R = B at *
      clear hS hle hfb hbf hEE h1 h2
      go_enter Tryz.func139, Tryz.ntmps139
      go_wp2_with fail
      go_ret
      have hz : ∀ s : Bool, (if s = true then (9223372036854775808 : Int) else 0).toNat = double.word s 0 := by intro s; cases s <;> decide +kernel
      refine ⟨⟨0, ?_, by decide, by rw [hrd, Dw.uv0, Nat.zero_mul]⟩, hB⟩
      show Ending.returned (.float .f64 (bits .and .u64 (B : Int) 9223372036854775808).toNat) = _
      rw [HS.out, hz]
  · obtain ⟨k, hk⟩ : ∃ k, R / 4503599627370496 = 1023 + k := ⟨R / 4503599627370496 - 1023, by omega⟩
    have hk20 : k ≤ 20 := by omega
    obtain ⟨hlt, hbig⟩ := Dw.word_big (s := s) hR hk hk20
    obtain ⟨r1, r2⟩ := Dw.round_big hk (by omega)
    obtain ⟨E, hEE⟩ : ∃ E : Int, ((R / 4503599627370496 : Nat) : Int) = E := ⟨_, rfl⟩
    rw [hEE] at hE
    have l1 : ¬ E < 1023 := by omega
    have l2 : E < 1075 := by omega
    have l3 : IntKind.u64.wrap (E - 1023) = (k : Int) := by rw [show E - 1023 = (k : Int) by omega]; exact IntWalk.u64_in _ (by omega)
    have HB := Lib.hid hbig
    clear hS hle hfb hbf hEE h1
    obtain ⟨B, hBB⟩ : ∃ B, double.word s R = B := ⟨_, rfl⟩
    rw [hBB] at hE HB hlt
    rw [hBB]
    clear hBB hbig
    go_enter Tryz.func139, Tryz.ntmps139
    go_wp2_with fail
    go_ret
    refine ⟨⟨_, ?_, r2, r1⟩, hB⟩
    show Ending.returned (.float .f64 (bits .andNot .u64 (IntKind.u64.wrap ((B : Int) + 2251799813685248 / 2 ^ k)) (4503599627370495 / 2 ^ k)).toNat) = _
    rw [Dw.half_shr (by omega), Dw.mask_shr (by omega)]
    have hb := HB.out
    clear HB r1 r2
    generalize 2 ^ (51 - k) = p at *
    rw [IntWalk.u64_in _ (by omega), ← Int.natCast_add, hb]
    rfl
theorem fix90_any (x : Nat) (hx : x < 18446744073709551616) (w : World) :
    Calls Tryz.prog 110 #[.float .f64 x, .int .i64 90] w fun e w' => e = .returned (.tuple #[.int .i64 (if Dw.fixE x 4636033603912859648 = 0 then Dw.fixV x else 0), .int .i64 (Dw.fixE x 4636033603912859648)]) ∧ Below w.heap.size w w' := by
  have hc : floatOfInt .f64 90 = 4636033603912859648 := by decide +kernel
  have HC := Lib.hid (fun w => class_any x w)
  have HA := Lib.hid (fun w => abs_any x hx w)
  have HE := Lib.hid (show Dw.fixE x 4636033603912859648 = if Dw.nanB x then 12 else if Dw.fgt (Dw.absF x) 4636033603912859648 then 13 else 0 from rfl)
  have HF := Lib.hid (fun h => Dw.fix90 (x := x) h)
  have he0 : (FloatKind.f64.format.order (Dw.absF x) 4636033603912859648 == some Ordering.gt) = Dw.fgt (Dw.absF x) 4636033603912859648 := rfl
  generalize Dw.fixE x 4636033603912859648 = E at *
  generalize Dw.fgt (Dw.absF x) 4636033603912859648 = bg at *
  generalize Dw.absF x = ax at *
  generalize Dw.nanB x = bn at *
  cases bn
  · cases bg
    · have h0 : E = 0 := by rw [HE.out]; rfl
      subst h0
      obtain ⟨hf, hu⟩ := HF.out rfl
      have hu180 : Dw.uv (x % 9223372036854775808) ≤ 180 * Dw.onU := by omega
      obtain ⟨R, m1, m2, m3⟩ := Dw.mul_8192 hf hu180
      have hm : ∀ (t : TypeId) w, (binOp .mul t (.float .f64 x) (.float .f64 4665729213955833856)).run Tryz.prog w = .ok (.float .f64 (Ieee.double.word (Dw.sgnB x) R)) w := fun t w => run_float_arith w _ t _ _ _ _ m1
      have HRd := Lib.hid (fun w => round_any (Dw.sgnB x) R m2 (by rw [m3]; omega) w)
      have HT := Lib.hid (fun Z h1 h2 => Dw.to_fix (x := x) (Z := Z) m3 hu180 h1 h2)
      clear hf hu hu180 m1 m2 m3 HF HE hx
      generalize Ieee.double.word (Dw.sgnB x) R = y at *
      generalize Dw.fixV x = V at *
      go_enter Tryz.func110, Tryz.ntmps110
      go_wp2_with fail
      refine (HC.out _).mono ?_
      rintro e w1 ⟨k, rfl, hk, hb1⟩
      have hk5 : ¬ k = 5 := hk
      go_wp2_with fail
      refine cb (HA.out _) fun w2 hb2 => ?_
      replace hb2 := tr hb1 hb2
      go_wp2_with fail
      refine (HRd.out _).mono ?_
      rintro e w3 ⟨⟨Z, rfl, hZ1, hZ2⟩, hb3⟩
      replace hb3 := tr hb2 hb3
      have hcv : ∀ w, (convert 32 3 (.float .f64 (Ieee.double.word (Dw.sgnB x) Z))).run Tryz.prog w = .ok (.int .i64 V) w := fun w => run_convert_float_int w _ _ _ _ _ _ rfl Tryz.underlying3 (HT.out Z hZ1 hZ2)
      go_wp2_with fail
      refine bodyPost_ret (results_tmp2 rfl _ _ _) rfl ⟨rfl, hb3⟩
    · have h0 : E = 13 := by rw [HE.out]; rfl
      subst h0
      clear HF HE hx
      go_enter Tryz.func110, Tryz.ntmps110
      go_wp2_with fail
      refine (HC.out _).mono ?_
      rintro e w1 ⟨k, rfl, hk, hb1⟩
      have hk5 : ¬ k = 5 := hk
      go_wp2_with fail
      refine cb (HA.out _) fun w2 hb2 => ?_
      replace hb2 := tr hb1 hb2
      go_wp2_with fail
      refine bodyPost_ret (results_tmp2 rfl _ _ _) rfl ⟨rfl, hb2⟩
  · have h0 : E = 12 := by rw [HE.out]; rfl
    subst h0
    clear HF HE hx he0
    go_enter Tryz.func110, Tryz.ntmps110
    go_wp2_with fail
    refine (HC.out _).mono ?_
    rintro e w1 ⟨k, rfl, hk, hb1⟩
    obtain rfl : k = 5 := hk
    go_wp2_with fail
    refine bodyPost_ret (results_tmp2 rfl _ _ _) rfl ⟨rfl, hb1⟩
theorem fix180_any (x : Nat) (hx : x < 18446744073709551616) (w : World) :
    Calls Tryz.prog 110 #[.float .f64 x, .int .i64 180] w fun e w' => e = .returned (.tuple #[.int .i64 (if Dw.fixE x 4640537203540230144 = 0 then Dw.fixV x else 0), .int .i64 (Dw.fixE x 4640537203540230144)]) ∧ Below w.heap.size w w' := by
  have hc : floatOfInt .f64 180 = 4640537203540230144 := by decide +kernel
  have HC := Lib.hid (fun w => class_any x w)
  have HA := Lib.hid (fun w => abs_any x hx w)
  have HE := Lib.hid (show Dw.fixE x 4640537203540230144 = if Dw.nanB x then 12 else if Dw.fgt (Dw.absF x) 4640537203540230144 then 13 else 0 from rfl)
  have HF := Lib.hid (fun h => Dw.fix180 (x := x) h)
  have he0 : (FloatKind.f64.format.order (Dw.absF x) 4640537203540230144 == some Ordering.gt) = Dw.fgt (Dw.absF x) 4640537203540230144 := rfl
  generalize Dw.fixE x 4640537203540230144 = E at *
  generalize Dw.fgt (Dw.absF x) 4640537203540230144 = bg at *
  generalize Dw.absF x = ax at *
  generalize Dw.nanB x = bn at *
  cases bn
  · cases bg
    · have h0 : E = 0 := by rw [HE.out]; rfl
      subst h0
      obtain ⟨hf, hu⟩ := HF.out rfl
      have hu180 : Dw.uv (x % 9223372036854775808) ≤ 180 * Dw.onU := by omega
      obtain ⟨R, m1, m2, m3⟩ := Dw.mul_8192 hf hu180
      have hm : ∀ (t : TypeId) w, (binOp .mul t (.float .f64 x) (.float .f64 4665729213955833856)).run Tryz.prog w = .ok (.float .f64 (Ieee.double.word (Dw.sgnB x) R)) w := fun t w => run_float_arith w _ t _ _ _ _ m1
      have HRd := Lib.hid (fun w => round_any (Dw.sgnB x) R m2 (by rw [m3]; omega) w)
      have HT := Lib.hid (fun Z h1 h2 => Dw.to_fix (x := x) (Z := Z) m3 hu180 h1 h2)
      clear hf hu hu180 m1 m2 m3 HF HE hx
      generalize Ieee.double.word (Dw.sgnB x) R = y at *
      generalize Dw.fixV x = V at *
      go_enter Tryz.func110, Tryz.ntmps110
      go_wp2_with fail
      refine (HC.out _).mono ?_
      rintro e w1 ⟨k, rfl, hk, hb1⟩
      have hk5 : ¬ k = 5 := hk
      go_wp2_with fail
      refine cb (HA.out _) fun w2 hb2 => ?_
      replace hb2 := tr hb1 hb2
      go_wp2_with fail
      refine (HRd.out _).mono ?_
      rintro e w3 ⟨⟨Z, rfl, hZ1, hZ2⟩, hb3⟩
      replace hb3 := tr hb2 hb3
      have hcv : ∀ w, (convert 32 3 (.float .f64 (Ieee.double.word (Dw.sgnB x) Z))).run Tryz.prog w = .ok (.int .i64 V) w := fun w => run_convert_float_int w _ _ _ _ _ _ rfl Tryz.underlying3 (HT.out Z hZ1 hZ2)
      go_wp2_with fail
      refine bodyPost_ret (results_tmp2 rfl _ _ _) rfl ⟨rfl, hb3⟩
    · have h0 : E = 13 := by rw [HE.out]; rfl
      subst h0
      clear HF HE hx
      go_enter Tryz.func110, Tryz.ntmps110
      go_wp2_with fail
      refine (HC.out _).mono ?_
      rintro e w1 ⟨k, rfl, hk, hb1⟩
      have hk5 : ¬ k = 5 := hk
      go_wp2_with fail
      refine cb (HA.out _) fun w2 hb2 => ?_
      replace hb2 := tr hb1 hb2
      go_wp2_with fail
      refine bodyPost_ret (results_tmp2 rfl _ _ _) rfl ⟨rfl, hb2⟩
  · have h0 : E = 12 := by rw [HE.out]; rfl
    subst h0
    clear HF HE hx he0
    go_enter Tryz.func110, Tryz.ntmps110
    go_wp2_with fail
    refine (HC.out _).mono ?_
    rintro e w1 ⟨k, rfl, hk, hb1⟩
    obtain rfl : k = 5 := hk
    go_wp2_with fail
    refine bodyPost_ret (results_tmp2 rfl _ _ _) rfl ⟨rfl, hb1⟩
end Go.Proofs.YtnaokijcggbfdaaGreatDoor
