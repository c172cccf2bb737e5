/- What the statement's proof stands on, part 34: Fix, Cmd3. -/
import Derived.Test.YtjibbchfndhhpaaGreatDoorRc33
import Derived.Test.YtjibbchfndhhpaaGreatDoorRc28
import Derived.Laws.BitsAllLaws
set_option linter.unusedSimpArgs false
set_option linter.unusedVariables false
set_option maxRecDepth 100000
set_option maxHeartbeats 4000000
namespace Go.Proofs.YtjibbchfndhhpaaGreatDoor
open Go.RowKit Go.Shelf
attribute [local go_sem] Oper.semAt_some
namespace Dw
open Ieee
theorem keep_high (n j : Nat) (hn : n < 18446744073709551616) (hj : j ≤ 63) : n &&& (18446744073709551615 - (2 ^ j - 1)) = n / 2 ^ j * 2 ^ j := by
  have hp := Nat.two_pow_pos j
  have hq : 2 ^ j ≤ 2 ^ 64 := Nat.pow_le_pow_right (by decide) (by omega)
  rw [show 18446744073709551615 - (2 ^ j - 1) = 2 ^ 64 - ((2 ^ j - 1) + 1) from by
    have : (2 : Nat) ^ 64 = 18446744073709551616 := by decide
    omega]
  apply Nat.eq_of_testBit_eq
  intro i
  rw [Nat.testBit_and, Nat.testBit_two_pow_sub_succ (by omega), Nat.testBit_two_pow_sub_one, Nat.testBit_mul_two_pow, Nat.testBit_div_two_pow]
  by_cases h1 : j ≤ i
  · by_cases h2 : i < 64
    · simp [h1, h2, Nat.not_lt.2 h1, Nat.sub_add_cancel h1]
    · have : n.testBit i = false := Nat.testBit_lt_two_pow (Nat.lt_of_lt_of_le hn (Nat.pow_le_pow_right (by decide : 0 < 2) (by omega : 64 ≤ i)))
      simp [this, Nat.sub_add_cancel h1]
  · simp [h1, Nat.lt_of_not_le h1]
theorem word_lt {s : Bool} {R : Nat} (h : R < 2047 * 4503599627370496) : double.word s R < 18446744073709551616 := by
  rw [word_eq]; split <;> omega
theorem word_e {s : Bool} {R : Nat} (h : R < 2047 * 4503599627370496) : bits .and .u64 ((double.word s R : Int) / 4503599627370496) 2047 = ((R / 4503599627370496 : Nat) : Int) := by
  have hw : double.word s R / 4503599627370496 % 2048 = R / 4503599627370496 := by rw [word_eq]; split <;> omega
  have hb := word_lt (s := s) h
  generalize double.word s R = B at *
  have e := u64_and_nat (B / 4503599627370496) 2047 (by omega) (by decide)
  rw [show B / 4503599627370496 &&& 2047 = B / 4503599627370496 % 2048 from Nat.and_two_pow_sub_one_eq_mod _ 11, hw] at e
  rw [← e]
  rfl
theorem word_s {s : Bool} {R : Nat} (h : R < 2047 * 4503599627370496) : bits .and .u64 (double.word s R : Int) 9223372036854775808 = if s then 9223372036854775808 else 0 := by
  have hw := word_eq s R
  have hb := word_lt (s := s) h
  have e := u64_and_nat (double.word s R) 9223372036854775808 hb (by decide)
  rw [show ((9223372036854775808 : Nat) : Int) = 9223372036854775808 from rfl] at e
  have k := keep_high (double.word s R) 63 hb (by decide)
  rw [show 18446744073709551615 - (2 ^ 63 - 1) = 9223372036854775808 from by decide, show (2 : Nat) ^ 63 = 9223372036854775808 from by decide] at k
  rw [e, k, hw]
  cases s
  · rw [if_neg (by decide), if_neg (by decide)]; omega
  · rw [if_pos rfl, if_pos rfl]; omega
theorem small_e {R : Nat} (hu : uv R ≤ 1474560 * onU) : R / 4503599627370496 ≤ 1043 := by
  have ho := uO_eq
  apply Decidable.byContradiction
  intro hn
  have hlo : 4503599627370496 ≤ mant R := by unfold mant; rw [if_neg (by omega)]; omega
  have hx : uO - 31 ≤ ex R := by unfold ex; omega
  have h1 : 4503599627370496 * 2 ^ (uO - 31) ≤ uv R := by
    unfold uv
    exact Nat.le_trans (Nat.mul_le_mul_right _ hlo) (Nat.mul_le_mul_left _ (Nat.pow_le_pow_right (by decide) hx))
  have h2 : 1474560 * onU < 4503599627370496 * 2 ^ (uO - 31) := by
    rw [onU_pow, show (4503599627370496 : Nat) * 2 ^ (uO - 31) = 2097152 * 2 ^ uO from by
      rw [show (4503599627370496 : Nat) = 2 ^ 52 from by decide, show (2097152 : Nat) = 2 ^ 21 from by decide, ← Nat.pow_add, ← Nat.pow_add, show 52 + (uO - 31) = 21 + uO by omega]]
    exact Nat.mul_lt_mul_of_pos_right (by decide) (Nat.two_pow_pos _)
  exact absurd (Nat.lt_of_lt_of_le h2 h1) (Nat.not_lt.2 hu)
theorem half_shr {k : Nat} (h : k ≤ 51) : (2251799813685248 : Int) / 2 ^ k = ((2 ^ (51 - k) : Nat) : Int) := by
  have e : (2251799813685248 : Nat) / 2 ^ k = 2 ^ (51 - k) := by rw [show (2251799813685248 : Nat) = 2 ^ 51 from by decide, Nat.pow_div h (by decide)]
  rw [← e]
  simp
theorem mask_shr {k : Nat} (h : k ≤ 52) : (4503599627370495 : Int) / 2 ^ k = ((2 ^ (52 - k) - 1 : Nat) : Int) := by
  have e : (4503599627370495 : Nat) / 2 ^ k = 2 ^ (52 - k) - 1 := by
    have h1 : 4503599627370496 = 2 ^ (52 - k) * 2 ^ k := by rw [← Nat.pow_add, show 52 - k + k = 52 by omega]
    have h2 := Nat.two_pow_pos (52 - k); have h3 := Nat.two_pow_pos k
    generalize 2 ^ (52 - k) = a at *
    generalize 2 ^ k = b at *
    obtain ⟨a, rfl⟩ : ∃ c, a = c + 1 := ⟨a - 1, by omega⟩
    rw [Nat.add_mul, Nat.one_mul] at h1
    rw [Nat.add_sub_cancel]
    exact Nat.div_eq_of_lt_le (by omega) (by rw [Nat.add_mul, Nat.one_mul]; omega)
  rw [← e]
  simp
theorem word_big {s : Bool} {R k : Nat} (h : R < 2047 * 4503599627370496) (_he : R / 4503599627370496 = 1023 + k) (hk : k ≤ 20) :
    double.word s R + 2 ^ (51 - k) < 18446744073709551616 ∧
    (bits .andNot .u64 ((double.word s R + 2 ^ (51 - k) : Nat) : Int) ((2 ^ (52 - k) - 1 : Nat) : Int)) = ((double.word s ((R + 2 ^ (51 - k)) / 2 ^ (52 - k) * 2 ^ (52 - k)) : Nat) : Int) := by
  have hp : 2 ^ (51 - k) ≤ 2251799813685248 := Nat.le_trans (Nat.pow_le_pow_right (by decide) (by omega : 51 - k ≤ 51)) (by decide)
  have hp2 : 2 ^ (52 - k) ≤ 4503599627370496 := Nat.le_trans (Nat.pow_le_pow_right (by decide) (by omega : 52 - k ≤ 52)) (by decide)
  have hlt : double.word s R + 2 ^ (51 - k) < 18446744073709551616 := by rw [word_eq]; split <;> omega
  refine ⟨hlt, ?_⟩
  rw [u64_andNot_nat _ _ hlt (by omega), keep_high _ _ hlt (by omega), word_eq, word_eq]
  congr 1
  cases s
  · rfl
  · rw [if_pos rfl, if_pos rfl]
    have hd : 9223372036854775808 = 2 ^ (63 - (52 - k)) * 2 ^ (52 - k) := by rw [← Nat.pow_add, show 63 - (52 - k) + (52 - k) = 63 by omega]
    rw [Nat.add_assoc]
    conv => lhs; rw [hd, Nat.mul_comm (2 ^ (63 - (52 - k))), Nat.mul_add_div (Nat.two_pow_pos _), Nat.add_mul, Nat.mul_comm (2 ^ (63 - (52 - k))), Nat.mul_comm]
    rw [Nat.mul_comm (2 ^ (63 - (52 - k))), Nat.mul_comm (2 ^ (52 - k)), ← hd]
end Dw
namespace Dw
open Ieee
theorem rdU_le {u m : Nat} (h : u ≤ m * onU) : rdU u ≤ m := by
  unfold rdU
  have h1 := onU_eq; have h2 := hfU_pos
  apply Nat.le_of_lt_succ
  apply (Nat.div_lt_iff_lt_mul onU_pos).2
  rw [Nat.succ_mul]
  omega
theorem to_fix {x R Z : Nat} (h : uv R = uv (x % 9223372036854775808) * 8192) (hu : uv (x % 9223372036854775808) ≤ 180 * onU) (hZ : Z < 2047 * 4503599627370496) (hz : uv Z = rdU (uv R) * onU) :
    floatToIntVal .f64 (double.word (sgnB x) Z) .i64 = some (fixV x) := by
  have h1 := word_mod (s := sgnB x) (fin_lt hZ)
  have h2 := word_sgn (s := sgnB x) (fin_lt hZ)
  have h3 : uv Z / onU = rdU (uv R) := by rw [hz, Nat.mul_div_cancel _ onU_pos]
  have h4 := to_int (y := double.word (sgnB x) Z) (by rw [h1]; exact hZ) (by rw [h1, h3]; exact rdU_le (by omega))
  rw [h4, h1, h2, h3, h]
  rfl
end Dw
open Ieee in
theorem round_any (s : Bool) (R : Nat) (hR : R < 2047 * 4503599627370496) (hu : Dw.uv R ≤ 1474560 * Dw.onU) (w : World) :
    Calls Tryz.prog 159 #[.float .f64 (double.word s R)] w fun e w' => (∃ Z, e = .returned (.float .f64 (double.word s Z)) ∧ Z < 2047 * 4503599627370496 ∧ Dw.uv Z = Dw.rdU (Dw.uv R) * Dw.onU) ∧ Below w.heap.size w w' := by
  have hE := Dw.word_e (s := s) hR
  have hS := Dw.word_s (s := s) hR
  have hle := Dw.small_e hu
  have hB := Below.refl w.heap.size w
  have hfb : ∀ B : Nat, (Extern.MathFloatBits.float64bits #[.float .f64 B]).run Tryz.prog w = .ok (.int .u64 (B : Int)) w := fun _ => rfl
  have hbf : ∀ n : Int, (Extern.MathFloatBits.float64frombits #[.int .u64 n]).run Tryz.prog w = .ok (.float .f64 n.toNat) w := fun _ => rfl
  have hcf : ∀ B : Nat, (callFunc 188 #[.float .f64 B]).run Tryz.prog w = .ok (.value (.int .u64 (B : Int))) w := fun B => by
    rw [run_callFunc_extern Tryz.func188 (by kernel_rfl) (by kernel_rfl) (by kernel_rfl) (e := Extern.MathFloatBits.float64bits) (by kernel_rfl), hfb]; rfl
  have hcb : ∀ n : Int, (callFunc 187 #[.int .u64 n]).run Tryz.prog w = .ok (.value (.float .f64 n.toNat)) w := fun n => by
    rw [run_callFunc_extern Tryz.func187 (by kernel_rfl) (by kernel_rfl) (by kernel_rfl) (e := Extern.MathFloatBits.float64frombits) (by kernel_rfl), hbf]; rfl
  by_cases h1 : R / 4503599627370496 < 1023
  · have hrd := Dw.round_small h1
    by_cases h2 : R / 4503599627370496 = 1022
    · rw [if_pos h2] at hrd
      rw [h2] at hE
      generalize hBB : double.word s R = B at *
      have hor : bits .or .u64 (if s then 9223372036854775808 else 0) 4607182418800017408 = ((double.word s (1023 * 4503599627370496) : Nat) : Int) := by cases s <;> decide +kernel
      rw [← hS] at hor
      have HO := Lib.hid hor
      clear hS hle hfb hbf hor
      go_enter Tryz.func159, Tryz.ntmps159
      go_wp2_with fail
      go_ret
      refine ⟨⟨1023 * 4503599627370496, by rw [HO.out]; rfl, by decide, ?_⟩, hB⟩
      rw [hrd, Dw.uv_one, Nat.one_mul]
    · rw [if_neg h2] at hrd
      obtain ⟨E, hEE⟩ : ∃ E : Int, ((R / 4503599627370496 : Nat) : Int) = E := ⟨_, rfl⟩
      rw [hEE] at hE
      have l1 : E < 1023 := by omega
      have l2 : (E == 1022) = false := by simp; omega
      have HS := Lib.hid hS
      generalize double.word s R = B at *
      clear hS hle hfb hbf hEE h1 h2
      go_enter Tryz.func159, Tryz.ntmps159
      go_wp2_with fail
      go_ret
      have hz : ∀ s : Bool, (if s = true then (9223372036854775808 : Int) else 0).toNat = double.word s 0 := by intro s; cases s <;> decide +kernel
      refine ⟨⟨0, ?_, by decide, by rw [hrd, Dw.uv0, Nat.zero_mul]⟩, hB⟩
      show Ending.returned (.float .f64 (bits .and .u64 (B : Int) 9223372036854775808).toNat) = _
      rw [HS.out, hz]
  · obtain ⟨k, hk⟩ : ∃ k, R / 4503599627370496 = 1023 + k := ⟨R / 4503599627370496 - 1023, by omega⟩
    have hk20 : k ≤ 20 := by omega
    obtain ⟨hlt, hbig⟩ := Dw.word_big (s := s) hR hk hk20
    obtain ⟨r1, r2⟩ := Dw.round_big hk (by omega)
    obtain ⟨E, hEE⟩ : ∃ E : Int, ((R / 4503599627370496 : Nat) : Int) = E := ⟨_, rfl⟩
    rw [hEE] at hE
    have l1 : ¬ E < 1023 := by omega
    have l2 : E < 1075 := by omega
    have l3 : IntKind.u64.wrap (E - 1023) = (k : Int) := by rw [show E - 1023 = (k : Int) by omega]; exact IntWalk.u64_in _ (by omega)
    have HB := Lib.hid hbig
    clear hS hle hfb hbf hEE h1
    obtain ⟨B, hBB⟩ : ∃ B, double.word s R = B := ⟨_, rfl⟩
    rw [hBB] at hE HB hlt
    rw [hBB]
    clear hBB hbig
    go_enter Tryz.func159, Tryz.ntmps159
    go_wp2_with fail
    go_ret
    refine ⟨⟨_, ?_, r2, r1⟩, hB⟩
    show Ending.returned (.float .f64 (bits .andNot .u64 (IntKind.u64.wrap ((B : Int) + 2251799813685248 / 2 ^ k)) (4503599627370495 / 2 ^ k)).toNat) = _
    rw [Dw.half_shr (by omega), Dw.mask_shr (by omega)]
    have hb := HB.out
    clear HB r1 r2
    generalize 2 ^ (51 - k) = p at *
    rw [IntWalk.u64_in _ (by omega), ← Int.natCast_add, hb]
    rfl
theorem fix90_any (x : Nat) (hx : x < 18446744073709551616) (w : World) :
    Calls Tryz.prog 126 #[.float .f64 x, .int .i64 90] w fun e w' => e = .returned (.tuple #[.int .i64 (if Dw.fixE x 4636033603912859648 = 0 then Dw.fixV x else 0), .int .i64 (Dw.fixE x 4636033603912859648)]) ∧ Below w.heap.size w w' := by
  have hc : floatOfInt .f64 90 = 4636033603912859648 := by decide +kernel
  have HC := Lib.hid (fun w => class_any x w)
  have HA := Lib.hid (fun w => abs_any x hx w)
  have HE := Lib.hid (show Dw.fixE x 4636033603912859648 = if Dw.nanB x then 12 else if Dw.fgt (Dw.absF x) 4636033603912859648 then 13 else 0 from rfl)
  have HF := Lib.hid (fun h => Dw.fix90 (x := x) h)
  have he0 : (FloatKind.f64.format.order (Dw.absF x) 4636033603912859648 == some Ordering.gt) = Dw.fgt (Dw.absF x) 4636033603912859648 := rfl
  generalize Dw.fixE x 4636033603912859648 = E at *
  generalize Dw.fgt (Dw.absF x) 4636033603912859648 = bg at *
  generalize Dw.absF x = ax at *
  generalize Dw.nanB x = bn at *
  cases bn
  · cases bg
    · have h0 : E = 0 := by rw [HE.out]; rfl
      subst h0
      obtain ⟨hf, hu⟩ := HF.out rfl
      have hu180 : Dw.uv (x % 9223372036854775808) ≤ 180 * Dw.onU := by omega
      obtain ⟨R, m1, m2, m3⟩ := Dw.mul_8192 hf hu180
      have hm : ∀ (t : TypeId) w, (binOp .mul t (.float .f64 x) (.float .f64 4665729213955833856)).run Tryz.prog w = .ok (.float .f64 (Ieee.double.word (Dw.sgnB x) R)) w := fun t w => run_float_arith w _ t _ _ _ _ m1
      have HRd := Lib.hid (fun w => round_any (Dw.sgnB x) R m2 (by rw [m3]; omega) w)
      have HT := Lib.hid (fun Z h1 h2 => Dw.to_fix (x := x) (Z := Z) m3 hu180 h1 h2)
      clear hf hu hu180 m1 m2 m3 HF HE hx
      generalize Ieee.double.word (Dw.sgnB x) R = y at *
      generalize Dw.fixV x = V at *
      go_enter Tryz.func126, Tryz.ntmps126
      go_wp2_with fail
      refine (HC.out _).mono ?_
      rintro e w1 ⟨k, rfl, hk, hb1⟩
      have hk5 : ¬ k = 5 := hk
      go_wp2_with fail
      refine cb (HA.out _) fun w2 hb2 => ?_
      replace hb2 := tr hb1 hb2
      go_wp2_with fail
      refine (HRd.out _).mono ?_
      rintro e w3 ⟨⟨Z, rfl, hZ1, hZ2⟩, hb3⟩
      replace hb3 := tr hb2 hb3
      have hcv : ∀ w, (convert 65 3 (.float .f64 (Ieee.double.word (Dw.sgnB x) Z))).run Tryz.prog w = .ok (.int .i64 V) w := fun w => run_convert_float_int w _ _ _ _ _ _ rfl Tryz.underlying3 (HT.out Z hZ1 hZ2)
      go_wp2_with fail
      refine bodyPost_ret (results_tmp2 rfl _ _ _) rfl ⟨rfl, hb3⟩
    · have h0 : E = 13 := by rw [HE.out]; rfl
      subst h0
      clear HF HE hx
      go_enter Tryz.func126, Tryz.ntmps126
      go_wp2_with fail
      refine (HC.out _).mono ?_
      rintro e w1 ⟨k, rfl, hk, hb1⟩
      have hk5 : ¬ k = 5 := hk
      go_wp2_with fail
      refine cb (HA.out _) fun w2 hb2 => ?_
      replace hb2 := tr hb1 hb2
      go_wp2_with fail
      refine bodyPost_ret (results_tmp2 rfl _ _ _) rfl ⟨rfl, hb2⟩
  · have h0 : E = 12 := by rw [HE.out]; rfl
    subst h0
    clear HF HE hx he0
    go_enter Tryz.func126, Tryz.ntmps126
    go_wp2_with fail
    refine (HC.out _).mono ?_
    rintro e w1 ⟨k, rfl, hk, hb1⟩
    obtain rfl : k = 5 := hk
    go_wp2_with fail
    refine bodyPost_ret (results_tmp2 rfl _ _ _) rfl ⟨rfl, hb1⟩
theorem fix180_any (x : Nat) (hx : x < 18446744073709551616) (w : World) :
    Calls Tryz.prog 126 #[.float .f64 x, .int .i64 180] w fun e w' => e = .returned (.tuple #[.int .i64 (if Dw.fixE x 4640537203540230144 = 0 then Dw.fixV x else 0), .int .i64 (Dw.fixE x 4640537203540230144)]) ∧ Below w.heap.size w w' := by
  have hc : floatOfInt .f64 180 = 4640537203540230144 := by decide +kernel
  have HC := Lib.hid (fun w => class_any x w)
  have HA := Lib.hid (fun w => abs_any x hx w)
  have HE := Lib.hid (show Dw.fixE x 4640537203540230144 = if Dw.nanB x then 12 else if Dw.fgt (Dw.absF x) 4640537203540230144 then 13 else 0 from rfl)
  have HF := Lib.hid (fun h => Dw.fix180 (x := x) h)
  have he0 : (FloatKind.f64.format.order (Dw.absF x) 4640537203540230144 == some Ordering.gt) = Dw.fgt (Dw.absF x) 4640537203540230144 := rfl
  generalize Dw.fixE x 4640537203540230144 = E at *
  generalize Dw.fgt (Dw.absF x) 4640537203540230144 = bg at *
  generalize Dw.absF x = ax at *
  generalize Dw.nanB x = bn at *
  cases bn
  · cases bg
    · have h0 : E = 0 := by rw [HE.out]; rfl
      subst h0
      obtain ⟨hf, hu⟩ := HF.out rfl
      have hu180 : Dw.uv (x % 9223372036854775808) ≤ 180 * Dw.onU := by omega
      obtain ⟨R, m1, m2, m3⟩ := Dw.mul_8192 hf hu180
      have hm : ∀ (t : TypeId) w, (binOp .mul t (.float .f64 x) (.float .f64 4665729213955833856)).run Tryz.prog w = .ok (.float .f64 (Ieee.double.word (Dw.sgnB x) R)) w := fun t w => run_float_arith w _ t _ _ _ _ m1
      have HRd := Lib.hid (fun w => round_any (Dw.sgnB x) R m2 (by rw [m3]; omega) w)
      have HT := Lib.hid (fun Z h1 h2 => Dw.to_fix (x := x) (Z := Z) m3 hu180 h1 h2)
      clear hf hu hu180 m1 m2 m3 HF HE hx
      generalize Ieee.double.word (Dw.sgnB x) R = y at *
      generalize Dw.fixV x = V at *
      go_enter Tryz.func126, Tryz.ntmps126
      go_wp2_with fail
      refine (HC.out _).mono ?_
      rintro e w1 ⟨k, rfl, hk, hb1⟩
      have hk5 : ¬ k = 5 := hk
      go_wp2_with fail
      refine cb (HA.out _) fun w2 hb2 => ?_
      replace hb2 := tr hb1 hb2
      go_wp2_with fail
      refine (HRd.out _).mono ?_
      rintro e w3 ⟨⟨Z, rfl, hZ1, hZ2⟩, hb3⟩
      replace hb3 := tr hb2 hb3
      have hcv : ∀ w, (convert 65 3 (.float .f64 (Ieee.double.word (Dw.sgnB x) Z))).run Tryz.prog w = .ok (.int .i64 V) w := fun w => run_convert_float_int w _ _ _ _ _ _ rfl Tryz.underlying3 (HT.out Z hZ1 hZ2)
      go_wp2_with fail
      refine bodyPost_ret (results_tmp2 rfl _ _ _) rfl ⟨rfl, hb3⟩
    · have h0 : E = 13 := by rw [HE.out]; rfl
      subst h0
      clear HF HE hx
      go_enter Tryz.func126, Tryz.ntmps126
      go_wp2_with fail
      refine (HC.out _).mono ?_
      rintro e w1 ⟨k, rfl, hk, hb1⟩
      have hk5 : ¬ k = 5 := hk
      go_wp2_with fail
      refine cb (HA.out _) fun w2 hb2 => ?_
      replace hb2 := tr hb1 hb2
      go_wp2_with fail
      refine bodyPost_ret (results_tmp2 rfl _ _ _) rfl ⟨rfl, hb2⟩
  · have h0 : E = 12 := by rw [HE.out]; rfl
    subst h0
    clear HF HE hx he0
    go_enter Tryz.func126, Tryz.ntmps126
    go_wp2_with fail
    refine (HC.out _).mono ?_
    rintro e w1 ⟨k, rfl, hk, hb1⟩
    obtain rfl : k = 5 := hk
    go_wp2_with fail
    refine bodyPost_ret (results_tmp2 rfl _ _ _) rfl ⟨rfl, hb1⟩
end Go.Proofs.YtjibbchfndhhpaaGreatDoor
namespace Go.Proofs.YtjibbchfndhhpaaGreatDoor
open Go.RowKit Go.Shelf
attribute [local go_sem] Oper.semAt_some
theorem disarm_one (mo : Int) (_hq : (mo == 1) = false) (ar ho : Bool) (la lo iso : Int) (c : Dw.Cmd) (g : Nat) (w : World) (hg : w.heap[g]? = some (.cells (stC ⟨1, ar, ho, la, lo, iso⟩) 140 (0, 0))) :
    Calls Tryz.prog 89 #[.pointer (some ⟨g, 0, none⟩), cmV c] w (CEnd ⟨0, false, ho, la, lo, iso⟩ (if ar = false then 22 else if true = false then 20 else 0) g w) := by
  have hB := (Below.refl w.heap.size w).alloc (Nat.le_refl _) (.cells (cmC c) 67)
  have hg1 := (hB.block g (block_lt hg)).trans hg
  have hgl := block_lt hg
  obtain ⟨b, hbb⟩ : ∃ b : Bool, True := by first | exact ⟨_, rfl⟩ | exact ⟨true, trivial⟩
  obtain ⟨R, hR⟩ : ∃ R, (if ar = false then 22 else if true = false then 20 else 0) = (R : Int) := ⟨_, rfl⟩
  have HR := Lib.hid hR
  rw [hR]
  (try rw [hbb] at HR)
  obtain ⟨c0, c1, -⟩ := cells6 hg1
  clear hg hR
  go_enter Tryz.func89, Tryz.ntmps89
  go_wp2_with fail
  generalize w.alloc _ = V at *
  refine wp_letterD [0,1,2,3,4,5,6,7,8,9,10,11,12,13,14,15,16,17,18,19,20] 21 22 (some 27) (NewRows V #[.bool ar, .int .i64 22, .bool true, .int .i64 20] 2 177) rfl rfl (by kernel_rfl) (by kernel_rfl) rfl (fun v A B h hk => h.keep hk) ?_
  (apply rat; (focus (intro w' hk; obtain ⟨k0,k1⟩ := look2 hk c0 c1; repeat' (first | exact rn | ((first | refine' rv ?_ rfl rfl (by go_simp; first | done | with_reducible rfl | exact rfl) | refine' rc ?_ (by exact rfl) (by exact rfl) (by go_simp; first | done | (constructor <;> with_reducible rfl) | with_reducible rfl) (by fail) | refine' rs ?_ rfl rfl); try simp only [Act.put, List.setIfInBounds_toArray, List.set_cons_zero, List.set_cons_succ])))))
  refine ⟨rfl, sure_rows (fun w' _ => by go_simp; first | done | rw [hbb]), ?_⟩
  rintro v W2 hk2 ⟨b', rfl, hb, hbc⟩
  simp only [List.drop_succ_cons, List.drop_zero, List.setIfInBounds_toArray, List.set_cons_zero, List.set_cons_succ]
  have hg2 := kpi hk2 hg1
  replace hB := hB.trans (hk2.whole.mono hB.size)
  clear hk2 hg1 c0 c1 _hq hbb
  go_wp2_with fail
  refine (first2_any _ _ _ _ b' _ _ hbc).mono ?_
  rintro e w3 ⟨he, hb3⟩
  rw [HR.out] at he
  subst he
  have hg3 := kp hb3 hg2
  replace hB := tr hB hb3
  clear hb3 hg2 hbc
  have q0 := heap_setCell_same w3 g 1 _ _ (.bool false) hg3
  change _ = some (Obj.cells (stC ⟨1, false, ho, la, lo, iso⟩) _ _) at q0
  have q1 := heap_setCell_same _ g 0 _ _ (.int .i64 0) q0
  change _ = some (Obj.cells (stC ⟨0, false, ho, la, lo, iso⟩) _ _) at q1
  have hK := (((keepB hB).mono (fun _ _ h => h.elim) : KeepBut (fun k => k = g) w w3).setCell (p := ⟨g, 1, none⟩) rfl (.bool false)).setCell (p := ⟨g, 0, none⟩) rfl (.int .i64 0)
  obtain ⟨c0, c1, -⟩ := cells6 hg3
  obtain ⟨d0, d1, -⟩ := cells6 q0
  have z0 := frozen0 hg3 1
  have z1 := frozen0 q0 0
  go_wp2_with fail
  go_ret
  exact ⟨rfl, hK, _, q1, fun _ => rfl⟩
theorem disarm_not (mo : Int) (_hq : (mo == 1) = false) (ar ho : Bool) (la lo iso : Int) (c : Dw.Cmd) (g : Nat) (w : World) (hg : w.heap[g]? = some (.cells (stC ⟨mo, ar, ho, la, lo, iso⟩) 140 (0, 0))) :
    Calls Tryz.prog 89 #[.pointer (some ⟨g, 0, none⟩), cmV c] w (CEnd ⟨0, false, ho, la, lo, iso⟩ (if ar = false then 22 else if (mo == 5) = false then 20 else 0) g w) := by
  have hB := (Below.refl w.heap.size w).alloc (Nat.le_refl _) (.cells (cmC c) 67)
  have hg1 := (hB.block g (block_lt hg)).trans hg
  have hgl := block_lt hg
  obtain ⟨b, hbb⟩ : ∃ b : Bool, (mo == 5) = b := by first | exact ⟨_, rfl⟩ | exact ⟨true, trivial⟩
  obtain ⟨R, hR⟩ : ∃ R, (if ar = false then 22 else if (mo == 5) = false then 20 else 0) = (R : Int) := ⟨_, rfl⟩
  have HR := Lib.hid hR
  rw [hR]
  (try rw [hbb] at HR)
  obtain ⟨c0, c1, -⟩ := cells6 hg1
  clear hg hR
  go_enter Tryz.func89, Tryz.ntmps89
  go_wp2_with fail
  generalize w.alloc _ = V at *
  refine wp_letterD [0,1,2,3,4,5,6,7,8,9,10,11,12,13,14,15,16,17,18,19,20] 21 22 (some 27) (NewRows V #[.bool ar, .int .i64 22, .bool b, .int .i64 20] 2 177) rfl rfl (by kernel_rfl) (by kernel_rfl) rfl (fun v A B h hk => h.keep hk) ?_
  (apply rat; (focus (intro w' hk; obtain ⟨k0,k1⟩ := look2 hk c0 c1; repeat' (first | exact rn | ((first | refine' rv ?_ rfl rfl (by go_simp; first | done | with_reducible rfl | exact rfl) | refine' rc ?_ (by exact rfl) (by exact rfl) (by go_simp; first | done | (constructor <;> with_reducible rfl) | with_reducible rfl) (by fail) | refine' rs ?_ rfl rfl); try simp only [Act.put, List.setIfInBounds_toArray, List.set_cons_zero, List.set_cons_succ])))))
  refine ⟨rfl, sure_rows (fun w' _ => by go_simp; first | done | rw [hbb]), ?_⟩
  rintro v W2 hk2 ⟨b', rfl, hb, hbc⟩
  simp only [List.drop_succ_cons, List.drop_zero, List.setIfInBounds_toArray, List.set_cons_zero, List.set_cons_succ]
  have hg2 := kpi hk2 hg1
  replace hB := hB.trans (hk2.whole.mono hB.size)
  clear hk2 hg1 c0 c1 _hq hbb
  go_wp2_with fail
  refine (first2_any _ _ _ _ b' _ _ hbc).mono ?_
  rintro e w3 ⟨he, hb3⟩
  rw [HR.out] at he
  subst he
  have hg3 := kp hb3 hg2
  replace hB := tr hB hb3
  clear hb3 hg2 hbc
  have q0 := heap_setCell_same w3 g 1 _ _ (.bool false) hg3
  change _ = some (Obj.cells (stC ⟨mo, false, ho, la, lo, iso⟩) _ _) at q0
  have q1 := heap_setCell_same _ g 0 _ _ (.int .i64 0) q0
  change _ = some (Obj.cells (stC ⟨0, false, ho, la, lo, iso⟩) _ _) at q1
  have hK := (((keepB hB).mono (fun _ _ h => h.elim) : KeepBut (fun k => k = g) w w3).setCell (p := ⟨g, 1, none⟩) rfl (.bool false)).setCell (p := ⟨g, 0, none⟩) rfl (.int .i64 0)
  obtain ⟨c0, c1, -⟩ := cells6 hg3
  obtain ⟨d0, d1, -⟩ := cells6 q0
  have z0 := frozen0 hg3 1
  have z1 := frozen0 q0 0
  go_wp2_with fail
  go_ret
  exact ⟨rfl, hK, _, q1, fun _ => rfl⟩
theorem disarm_any (s : Dw.St) (c : Dw.Cmd) (g : Nat) (w : World) (hg : w.heap[g]? = some (.cells (stC s) 140 (0, 0))) :
    Calls Tryz.prog 89 #[.pointer (some ⟨g, 0, none⟩), cmV c] w (CEnd { s with ar := false, mo := 0 } (Dw.disarmE s) g w) := by
  obtain ⟨mo, ar, ho, la, lo, iso⟩ := s
  by_cases h : mo = 1
  · subst h
    have e : Dw.disarmE ⟨1, ar, ho, la, lo, iso⟩ = if ar = false then 22 else if true = false then 20 else 0 := by unfold Dw.disarmE; cases ar <;> simp
    rw [e]
    exact disarm_one 0 (by decide) ar ho la lo iso c g w hg
  · have e : Dw.disarmE ⟨mo, ar, ho, la, lo, iso⟩ = if ar = false then 22 else if (mo == 5) = false then 20 else 0 := by
      unfold Dw.disarmE
      by_cases h5 : mo = 5
      · subst h5; cases ar <;> simp
      · have : (mo == 5) = false := by simpa using h5
        rw [this]; cases ar <;> simp [h, h5]
    rw [e]
    exact disarm_not mo (by simpa using h) ar ho la lo iso c g w hg
theorem chome_any (s : Dw.St) (c : Dw.Cmd) (h1 : c.la < 18446744073709551616) (h2 : c.lo < 18446744073709551616) (g : Nat) (w : World) (hg : w.heap[g]? = some (.cells (stC s) 140 (0, 0))) :
    Calls Tryz.prog 90 #[.pointer (some ⟨g, 0, none⟩), cmV c] w (CEnd { s with ho := true, la := Dw.fixV c.la, lo := Dw.fixV c.lo } (Dw.homeE c) g w) := by
  have hB := (Below.refl w.heap.size w).alloc (Nat.le_refl _) (.cells (cmC c) 67)
  have hg1 := (hB.block g (block_lt hg)).trans hg
  have hgl := block_lt hg
  have hC := han w (.cells (cmC c) 67)
  obtain ⟨-, -, k2, k3⟩ := cells4 hC
  have HL := Lib.hid (fun w => fix90_any c.la h1 w)
  have HO := Lib.hid (fun w => fix180_any c.lo h2 w)
  have HR := Lib.hid (show Dw.homeE c = if Dw.fixE c.la 4636033603912859648 ≠ 0 then Dw.fixE c.la 4636033603912859648 else Dw.fixE c.lo 4640537203540230144 from rfl)
  have HA := Lib.hid (show Dw.fixE c.la 4636033603912859648 = 0 → (if Dw.fixE c.la 4636033603912859648 = 0 then Dw.fixV c.la else 0) = Dw.fixV c.la from fun h => if_pos h)
  have HB := Lib.hid (show Dw.fixE c.lo 4640537203540230144 = 0 → (if Dw.fixE c.lo 4640537203540230144 = 0 then Dw.fixV c.lo else 0) = Dw.fixV c.lo from fun h => if_pos h)
  generalize Dw.homeE c = R at *
  obtain ⟨vL, hvL⟩ : ∃ v, (if Dw.fixE c.la 4636033603912859648 = 0 then Dw.fixV c.la else 0) = v := ⟨_, rfl⟩
  obtain ⟨vO, hvO⟩ : ∃ v, (if Dw.fixE c.lo 4640537203540230144 = 0 then Dw.fixV c.lo else 0) = v := ⟨_, rfl⟩
  rw [hvL] at HL HA
  rw [hvO] at HO HB
  clear hvL hvO
  generalize Dw.fixE c.la 4636033603912859648 = eL at *
  generalize Dw.fixE c.lo 4640537203540230144 = eO at *
  generalize Dw.fixV c.la = fL at *
  generalize Dw.fixV c.lo = fO at *
  obtain ⟨mo, ar, ho, la, lo, iso⟩ := s
  dsimp only
  clear hg h1 h2
  go_enter Tryz.func90, Tryz.ntmps90
  go_wp2_with fail
  refine cb (HL.out _) fun w1 hb => ?_
  replace hg1 := kp hb hg1
  replace hC := kp hb hC
  replace hB := tr hB hb
  clear hb k2 k3
  have q0 := heap_setCell_same w1 g 3 _ _ (.int .i64 vL) hg1
  change _ = some (Obj.cells (stC ⟨mo, ar, ho, vL, lo, iso⟩) _ _) at q0
  have hK := ((keepB hB).mono (fun _ _ h => h.elim) : KeepBut (fun k => k = g) w w1).setCell (p := ⟨g, 3, none⟩) rfl (.int .i64 vL)
  have hC1 := (heap_setCell_other w1 ⟨g, 3, none⟩ w.heap.size (.int .i64 vL) (by simp; omega)).trans hC
  obtain ⟨-, -, -, c3, -⟩ := cells6 hg1
  have z0 := frozen0 hg1 3
  by_cases hL : eL = 0
  · subst hL
    obtain ⟨-, -, k2, k3⟩ := cells4 hC1
    have q1 := heap_setCell_same _ g 2 _ _ (.bool true) q0
    change _ = some (Obj.cells (stC ⟨mo, ar, true, vL, lo, iso⟩) _ _) at q1
    replace hK := hK.setCell (p := ⟨g, 2, none⟩) rfl (.bool true)
    obtain ⟨-, -, d2, -⟩ := cells6 q0
    have z1 := frozen0 q0 2
    have hC2 := (heap_setCell_other _ ⟨g, 2, none⟩ w.heap.size (.bool true) (by simp; omega)).trans hC1
    obtain ⟨-, -, j2, j3⟩ := cells4 hC2
    clear hC hC1 hC2
    go_wp2_with fail
    refine cb (HO.out _) fun w2 hb => ?_
    replace q1 := kp hb q1
    have hK2 := hK.trans ((keepB hb).mono (fun _ _ h => h.elim))
    clear hb q0 hg1 hB hK c3 z0 d2 z1 k2 k3 j2 j3
    have q2 := heap_setCell_same w2 g 4 _ _ (.int .i64 vO) q1
    change _ = some (Obj.cells (stC ⟨mo, ar, true, vL, vO, iso⟩) _ _) at q2
    replace hK2 := hK2.setCell (p := ⟨g, 4, none⟩) rfl (.int .i64 vO)
    obtain ⟨-, -, -, -, c4, -⟩ := cells6 q1
    have z4 := frozen0 q1 4
    go_wp2_with fail
    go_ret
    have hR := HR.out
    rw [if_neg (by decide)] at hR
    exact ⟨by rw [hR]; rfl, hK2, _, q2, fun h => by rw [HA.out (by first | rfl | trivial), HB.out (hR.symm.trans h)]⟩
  · have hLb : (eL == 0) = false := by simpa using hL
    go_wp2_with fail
    go_ret
    have hR := HR.out
    rw [if_pos hL] at hR
    exact ⟨by rw [hR]; rfl, hK, _, q0, fun h => absurd (hR.symm.trans h) hL⟩
theorem bit_facts : ∀ (k : Fin 16) (j : Fin 4), bits .and .i64 ((k.val : Nat) : Int) ((2 ^ j.val : Nat) : Int) = (if Dw.bitOn ((k.val : Nat) : Int) ((j.val : Nat) : Int) then ((2 ^ j.val : Nat) : Int) else 0) ∧ bits .or .i64 ((k.val : Nat) : Int) ((2 ^ j.val : Nat) : Int) = Dw.setOn ((k.val : Nat) : Int) ((j.val : Nat) : Int) ∧
    IntKind.i64.wrap (((k.val : Nat) : Int) - (if Dw.bitOn ((k.val : Nat) : Int) ((j.val : Nat) : Int) then ((2 ^ j.val : Nat) : Int) else 0)) = Dw.setOff ((k.val : Nat) : Int) ((j.val : Nat) : Int) ∧
    bits .andNot .i64 ((k.val : Nat) : Int) ((2 ^ j.val : Nat) : Int) = Dw.setOff ((k.val : Nat) : Int) ((j.val : Nat) : Int) ∧ 0 ≤ Dw.setOn ((k.val : Nat) : Int) ((j.val : Nat) : Int) ∧ Dw.setOn ((k.val : Nat) : Int) ((j.val : Nat) : Int) ≤ 15 := by decide +kernel
theorem bit_0 (iso : Int) (h : 0 ≤ iso ∧ iso ≤ 15) : bits .and .i64 iso 1 = (if Dw.bitOn iso 0 then 1 else 0) ∧ bits .or .i64 iso 1 = Dw.setOn iso 0 ∧ IntKind.i64.wrap (iso - (if Dw.bitOn iso 0 then 1 else 0)) = Dw.setOff iso 0 ∧ bits .andNot .i64 iso 1 = Dw.setOff iso 0 ∧ 0 ≤ Dw.setOn iso 0 ∧ Dw.setOn iso 0 ≤ 15 := by
  have := bit_facts ⟨iso.toNat, by omega⟩ 0
  rw [show (((⟨iso.toNat, by omega⟩ : Fin 16).val : Nat) : Int) = iso from by show ((iso.toNat : Nat) : Int) = iso; omega] at this
  exact this
theorem bit_1 (iso : Int) (h : 0 ≤ iso ∧ iso ≤ 15) : bits .and .i64 iso 2 = (if Dw.bitOn iso 1 then 2 else 0) ∧ bits .or .i64 iso 2 = Dw.setOn iso 1 ∧ IntKind.i64.wrap (iso - (if Dw.bitOn iso 1 then 2 else 0)) = Dw.setOff iso 1 ∧ bits .andNot .i64 iso 2 = Dw.setOff iso 1 ∧ 0 ≤ Dw.setOn iso 1 ∧ Dw.setOn iso 1 ≤ 15 := by
  have := bit_facts ⟨iso.toNat, by omega⟩ 1
  rw [show (((⟨iso.toNat, by omega⟩ : Fin 16).val : Nat) : Int) = iso from by show ((iso.toNat : Nat) : Int) = iso; omega] at this
  exact this
theorem bit_2 (iso : Int) (h : 0 ≤ iso ∧ iso ≤ 15) : bits .and .i64 iso 4 = (if Dw.bitOn iso 2 then 4 else 0) ∧ bits .or .i64 iso 4 = Dw.setOn iso 2 ∧ IntKind.i64.wrap (iso - (if Dw.bitOn iso 2 then 4 else 0)) = Dw.setOff iso 2 ∧ bits .andNot .i64 iso 4 = Dw.setOff iso 2 ∧ 0 ≤ Dw.setOn iso 2 ∧ Dw.setOn iso 2 ≤ 15 := by
  have := bit_facts ⟨iso.toNat, by omega⟩ 2
  rw [show (((⟨iso.toNat, by omega⟩ : Fin 16).val : Nat) : Int) = iso from by show ((iso.toNat : Nat) : Int) = iso; omega] at this
  exact this
theorem bit_3 (iso : Int) (h : 0 ≤ iso ∧ iso ≤ 15) : bits .and .i64 iso 8 = (if Dw.bitOn iso 3 then 8 else 0) ∧ bits .or .i64 iso 8 = Dw.setOn iso 3 ∧ IntKind.i64.wrap (iso - (if Dw.bitOn iso 3 then 8 else 0)) = Dw.setOff iso 3 ∧ bits .andNot .i64 iso 8 = Dw.setOff iso 3 ∧ 0 ≤ Dw.setOn iso 3 ∧ Dw.setOn iso 3 ≤ 15 := by
  have := bit_facts ⟨iso.toNat, by omega⟩ 3
  rw [show (((⟨iso.toNat, by omega⟩ : Fin 16).val : Nat) : Int) = iso from by show ((iso.toNat : Nat) : Int) = iso; omega] at this
  exact this
theorem sensor5_0 (mo la lo iso : Int) (ar ho : Bool) (hi : 0 ≤ iso ∧ iso ≤ 15) (cla clo : Nat) (g : Nat) (w : World) (hg : w.heap[g]? = some (.cells (stC ⟨mo, ar, ho, la, lo, iso⟩) 140 (0, 0))) :
    Calls Tryz.prog 91 #[.pointer (some ⟨g, 0, none⟩), cmV ⟨5, 0, cla, clo⟩] w (CEnd ⟨mo, ar, ho, la, lo, Dw.setOn iso 0⟩ (if Dw.bitOn iso 0 = false ∧ Dw.soundN iso - 1 < Dw.needsI mo then 24 else 0) g w) := by
  obtain ⟨R, hR⟩ : ∃ R, (if Dw.bitOn iso 0 = false ∧ Dw.soundN iso - 1 < Dw.needsI mo then (24 : Int) else 0) = R := ⟨_, rfl⟩
  rw [hR]
  have HR := Lib.hid hR
  clear hR
  have hB := (Below.refl w.heap.size w).alloc (Nat.le_refl _) (.cells (cmC ⟨5, 0, cla, clo⟩) 67)
  obtain ⟨V, hV⟩ : ∃ V, w.alloc (.cells (cmC ⟨5, 0, cla, clo⟩) 67) = V := ⟨_, rfl⟩
  rw [hV] at hB
  have hg1 := (hB.block g (block_lt hg)).trans hg
  have hgl := block_lt hg
  have hC := han w (.cells (cmC ⟨5, 0, cla, clo⟩) 67)
  rw [hV] at hC
  obtain ⟨k0, k1, -⟩ := cells4 hC
  obtain ⟨hand, hor, -⟩ := bit_0 iso hi
  have HE := Lib.hid (fun m w h => enough_any ⟨mo, ar, ho, la, lo, iso⟩ hi m g w h)
  have HN := Lib.hid (fun w => needs_any mo w)
  have hnd : 0 ≤ Dw.needsI mo ∧ Dw.needsI mo ≤ 3 := by unfold Dw.needsI; (repeat' split) <;> decide
  generalize Dw.needsI mo = nd at *
  have hw1 : IntKind.i64.wrap (nd + 1) = nd + 1 := IntWalk.i64_in _ (by omega)
  dsimp only at HE
  have hiso := Lib.hid hi
  generalize Dw.soundN iso = sn at *
  generalize Dw.setOn iso 0 = so at *
  clear hg hC hi
  obtain ⟨c0, -, -, -, -, c5⟩ := cells6 hg1
  generalize Dw.bitOn iso 0 = b at *
  cases b
  · go_enter Tryz.func91, Tryz.ntmps91
    go_wp2_with fail
    refine cb (HN.out _) fun w1 hb => ?_
    replace hg1 := kp hb hg1
    have k0' := (hb.cell (lt_of_cell k0)).trans k0
    replace hB := tr hB hb
    clear hb c0 c5 k0 k1
    go_wp2_with fail
    refine cb (HE.out _ _ hg1) fun w2 hb => ?_
    replace hg1 := kp hb hg1
    have k0 := (hb.cell (lt_of_cell k0')).trans k0'
    replace hB := tr hB hb
    clear hb k0'
    have q0 := heap_setCell_same w2 g 5 _ _ (.int .i64 so) hg1
    change _ = some (Obj.cells (stC ⟨mo, ar, ho, la, lo, so⟩) _ _) at q0
    have hK := ((keepB hB).mono (fun _ _ h => h.elim) : KeepBut (fun k => k = g) w w2)
    have hK5 := hK.setCell (p := ⟨g, 5, none⟩) rfl (.int .i64 so)
    obtain ⟨-, -, -, -, -, c5⟩ := cells6 hg1
    have z5 := frozen0 hg1 5
    have k5 : (w2.setCell ⟨g, 5, none⟩ (.int .i64 so)).cell? ⟨w.heap.size, 0, none⟩ = some (.int .i64 5) := (World.cell?_setCell_other _ _ _ _ (by simp; try omega)).trans k0
    by_cases hen : nd + 1 ≤ sn
    · have hd : decide (nd + 1 ≤ sn) = true := decide_eq_true hen
      obtain rfl : 0 = R := by rw [← HR.out, if_neg (fun h => by have := h.2; omega)]
      go_wp2_with fail
      go_ret
      exact ⟨rfl, hK5, _, q0, fun _ => rfl⟩
    · have hd : decide (nd + 1 ≤ sn) = false := decide_eq_false hen
      obtain rfl : 24 = R := by rw [← HR.out, if_pos (by first | exact ⟨rfl, by omega⟩ | exact ⟨trivial, by omega⟩)]
      go_wp2_with fail
      go_ret
      exact ⟨rfl, hK, _, hg1, fun h => absurd h (by decide)⟩
  · obtain rfl : 0 = R := by rw [← HR.out, if_neg (fun h => by cases h.1)]
    have q0 := heap_setCell_same _ g 5 _ _ (.int .i64 so) hg1
    change _ = some (Obj.cells (stC ⟨mo, ar, ho, la, lo, so⟩) _ _) at q0
    have hK5 := ((keepB hB).mono (fun _ _ h => h.elim) : KeepBut (fun k => k = g) w _).setCell (p := ⟨g, 5, none⟩) rfl (.int .i64 so)
    have z5 := frozen0 hg1 5
    have k5 := (World.cell?_setCell_other _ ⟨g, 5, none⟩ _ (.int .i64 so) (by simp; try omega)).trans k0
    go_enter Tryz.func91, Tryz.ntmps91
    go_wp2_with fail
    go_ret
    exact ⟨rfl, hK5, _, q0, fun _ => rfl⟩
theorem sensor6_0 (mo la lo iso : Int) (ar ho : Bool) (hi : 0 ≤ iso ∧ iso ≤ 15) (cla clo : Nat) (g : Nat) (w : World) (hg : w.heap[g]? = some (.cells (stC ⟨mo, ar, ho, la, lo, iso⟩) 140 (0, 0))) :
    Calls Tryz.prog 91 #[.pointer (some ⟨g, 0, none⟩), cmV ⟨6, 0, cla, clo⟩] w (CEnd ⟨mo, ar, ho, la, lo, Dw.setOff iso 0⟩ 0 g w) := by
  have hB := (Below.refl w.heap.size w).alloc (Nat.le_refl _) (.cells (cmC ⟨6, 0, cla, clo⟩) 67)
  obtain ⟨V, hV⟩ : ∃ V, w.alloc (.cells (cmC ⟨6, 0, cla, clo⟩) 67) = V := ⟨_, rfl⟩
  rw [hV] at hB
  have hg1 := (hB.block g (block_lt hg)).trans hg
  have hgl := block_lt hg
  have hC := han w (.cells (cmC ⟨6, 0, cla, clo⟩) 67)
  rw [hV] at hC
  obtain ⟨k0, k1, -⟩ := cells4 hC
  obtain ⟨hand, -, hsb, -⟩ := bit_0 iso hi
  generalize Dw.setOff iso 0 = so at *
  generalize (if Dw.bitOn iso 0 then (1 : Int) else 0) = was at *
  clear hg hC hi
  obtain ⟨c0, -, -, -, -, c5⟩ := cells6 hg1
  have q0 := heap_setCell_same _ g 5 _ _ (.int .i64 so) hg1
  change _ = some (Obj.cells (stC ⟨mo, ar, ho, la, lo, so⟩) _ _) at q0
  have hK5 := ((keepB hB).mono (fun _ _ h => h.elim) : KeepBut (fun k => k = g) w _).setCell (p := ⟨g, 5, none⟩) rfl (.int .i64 so)
  have z5 := frozen0 hg1 5
  go_enter Tryz.func91, Tryz.ntmps91
  go_wp2_with fail
  go_ret
  exact ⟨rfl, hK5, _, q0, fun _ => rfl⟩
theorem sensor5_1 (mo la lo iso : Int) (ar ho : Bool) (hi : 0 ≤ iso ∧ iso ≤ 15) (cla clo : Nat) (g : Nat) (w : World) (hg : w.heap[g]? = some (.cells (stC ⟨mo, ar, ho, la, lo, iso⟩) 140 (0, 0))) :
    Calls Tryz.prog 91 #[.pointer (some ⟨g, 0, none⟩), cmV ⟨5, 1, cla, clo⟩] w (CEnd ⟨mo, ar, ho, la, lo, Dw.setOn iso 1⟩ (if Dw.bitOn iso 1 = false ∧ Dw.soundN iso - 1 < Dw.needsI mo then 24 else 0) g w) := by
  obtain ⟨R, hR⟩ : ∃ R, (if Dw.bitOn iso 1 = false ∧ Dw.soundN iso - 1 < Dw.needsI mo then (24 : Int) else 0) = R := ⟨_, rfl⟩
  rw [hR]
  have HR := Lib.hid hR
  clear hR
  have hB := (Below.refl w.heap.size w).alloc (Nat.le_refl _) (.cells (cmC ⟨5, 1, cla, clo⟩) 67)
  obtain ⟨V, hV⟩ : ∃ V, w.alloc (.cells (cmC ⟨5, 1, cla, clo⟩) 67) = V := ⟨_, rfl⟩
  rw [hV] at hB
  have hg1 := (hB.block g (block_lt hg)).trans hg
  have hgl := block_lt hg
  have hC := han w (.cells (cmC ⟨5, 1, cla, clo⟩) 67)
  rw [hV] at hC
  obtain ⟨k0, k1, -⟩ := cells4 hC
  obtain ⟨hand, hor, -⟩ := bit_1 iso hi
  have HE := Lib.hid (fun m w h => enough_any ⟨mo, ar, ho, la, lo, iso⟩ hi m g w h)
  have HN := Lib.hid (fun w => needs_any mo w)
  have hnd : 0 ≤ Dw.needsI mo ∧ Dw.needsI mo ≤ 3 := by unfold Dw.needsI; (repeat' split) <;> decide
  generalize Dw.needsI mo = nd at *
  have hw1 : IntKind.i64.wrap (nd + 1) = nd + 1 := IntWalk.i64_in _ (by omega)
  dsimp only at HE
  have hiso := Lib.hid hi
  generalize Dw.soundN iso = sn at *
  generalize Dw.setOn iso 1 = so at *
  clear hg hC hi
  obtain ⟨c0, -, -, -, -, c5⟩ := cells6 hg1
  generalize Dw.bitOn iso 1 = b at *
  cases b
  · go_enter Tryz.func91, Tryz.ntmps91
    go_wp2_with fail
    refine cb (HN.out _) fun w1 hb => ?_
    replace hg1 := kp hb hg1
    have k0' := (hb.cell (lt_of_cell k0)).trans k0
    replace hB := tr hB hb
    clear hb c0 c5 k0 k1
    go_wp2_with fail
    refine cb (HE.out _ _ hg1) fun w2 hb => ?_
    replace hg1 := kp hb hg1
    have k0 := (hb.cell (lt_of_cell k0')).trans k0'
    replace hB := tr hB hb
    clear hb k0'
    have q0 := heap_setCell_same w2 g 5 _ _ (.int .i64 so) hg1
    change _ = some (Obj.cells (stC ⟨mo, ar, ho, la, lo, so⟩) _ _) at q0
    have hK := ((keepB hB).mono (fun _ _ h => h.elim) : KeepBut (fun k => k = g) w w2)
    have hK5 := hK.setCell (p := ⟨g, 5, none⟩) rfl (.int .i64 so)
    obtain ⟨-, -, -, -, -, c5⟩ := cells6 hg1
    have z5 := frozen0 hg1 5
    have k5 : (w2.setCell ⟨g, 5, none⟩ (.int .i64 so)).cell? ⟨w.heap.size, 0, none⟩ = some (.int .i64 5) := (World.cell?_setCell_other _ _ _ _ (by simp; try omega)).trans k0
    by_cases hen : nd + 1 ≤ sn
    · have hd : decide (nd + 1 ≤ sn) = true := decide_eq_true hen
      obtain rfl : 0 = R := by rw [← HR.out, if_neg (fun h => by have := h.2; omega)]
      go_wp2_with fail
      go_ret
      exact ⟨rfl, hK5, _, q0, fun _ => rfl⟩
    · have hd : decide (nd + 1 ≤ sn) = false := decide_eq_false hen
      obtain rfl : 24 = R := by rw [← HR.out, if_pos (by first | exact ⟨rfl, by omega⟩ | exact ⟨trivial, by omega⟩)]
      go_wp2_with fail
      go_ret
      exact ⟨rfl, hK, _, hg1, fun h => absurd h (by decide)⟩
  · obtain rfl : 0 = R := by rw [← HR.out, if_neg (fun h => by cases h.1)]
    have q0 := heap_setCell_same _ g 5 _ _ (.int .i64 so) hg1
    change _ = some (Obj.cells (stC ⟨mo, ar, ho, la, lo, so⟩) _ _) at q0
    have hK5 := ((keepB hB).mono (fun _ _ h => h.elim) : KeepBut (fun k => k = g) w _).setCell (p := ⟨g, 5, none⟩) rfl (.int .i64 so)
    have z5 := frozen0 hg1 5
    have k5 := (World.cell?_setCell_other _ ⟨g, 5, none⟩ _ (.int .i64 so) (by simp; try omega)).trans k0
    go_enter Tryz.func91, Tryz.ntmps91
    go_wp2_with fail
    go_ret
    exact ⟨rfl, hK5, _, q0, fun _ => rfl⟩
theorem sensor6_1 (mo la lo iso : Int) (ar ho : Bool) (hi : 0 ≤ iso ∧ iso ≤ 15) (cla clo : Nat) (g : Nat) (w : World) (hg : w.heap[g]? = some (.cells (stC ⟨mo, ar, ho, la, lo, iso⟩) 140 (0, 0))) :
    Calls Tryz.prog 91 #[.pointer (some ⟨g, 0, none⟩), cmV ⟨6, 1, cla, clo⟩] w (CEnd ⟨mo, ar, ho, la, lo, Dw.setOff iso 1⟩ 0 g w) := by
  have hB := (Below.refl w.heap.size w).alloc (Nat.le_refl _) (.cells (cmC ⟨6, 1, cla, clo⟩) 67)
  obtain ⟨V, hV⟩ : ∃ V, w.alloc (.cells (cmC ⟨6, 1, cla, clo⟩) 67) = V := ⟨_, rfl⟩
  rw [hV] at hB
  have hg1 := (hB.block g (block_lt hg)).trans hg
  have hgl := block_lt hg
  have hC := han w (.cells (cmC ⟨6, 1, cla, clo⟩) 67)
  rw [hV] at hC
  obtain ⟨k0, k1, -⟩ := cells4 hC
  obtain ⟨hand, -, hsb, -⟩ := bit_1 iso hi
  generalize Dw.setOff iso 1 = so at *
  generalize (if Dw.bitOn iso 1 then (2 : Int) else 0) = was at *
  clear hg hC hi
  obtain ⟨c0, -, -, -, -, c5⟩ := cells6 hg1
  have q0 := heap_setCell_same _ g 5 _ _ (.int .i64 so) hg1
  change _ = some (Obj.cells (stC ⟨mo, ar, ho, la, lo, so⟩) _ _) at q0
  have hK5 := ((keepB hB).mono (fun _ _ h => h.elim) : KeepBut (fun k => k = g) w _).setCell (p := ⟨g, 5, none⟩) rfl (.int .i64 so)
  have z5 := frozen0 hg1 5
  go_enter Tryz.func91, Tryz.ntmps91
  go_wp2_with fail
  go_ret
  exact ⟨rfl, hK5, _, q0, fun _ => rfl⟩
theorem sensor5_2 (mo la lo iso : Int) (ar ho : Bool) (hi : 0 ≤ iso ∧ iso ≤ 15) (cla clo : Nat) (g : Nat) (w : World) (hg : w.heap[g]? = some (.cells (stC ⟨mo, ar, ho, la, lo, iso⟩) 140 (0, 0))) :
    Calls Tryz.prog 91 #[.pointer (some ⟨g, 0, none⟩), cmV ⟨5, 2, cla, clo⟩] w (CEnd ⟨mo, ar, ho, la, lo, Dw.setOn iso 2⟩ (if Dw.bitOn iso 2 = false ∧ Dw.soundN iso - 1 < Dw.needsI mo then 24 else 0) g w) := by
  obtain ⟨R, hR⟩ : ∃ R, (if Dw.bitOn iso 2 = false ∧ Dw.soundN iso - 1 < Dw.needsI mo then (24 : Int) else 0) = R := ⟨_, rfl⟩
  rw [hR]
  have HR := Lib.hid hR
  clear hR
  have hB := (Below.refl w.heap.size w).alloc (Nat.le_refl _) (.cells (cmC ⟨5, 2, cla, clo⟩) 67)
  obtain ⟨V, hV⟩ : ∃ V, w.alloc (.cells (cmC ⟨5, 2, cla, clo⟩) 67) = V := ⟨_, rfl⟩
  rw [hV] at hB
  have hg1 := (hB.block g (block_lt hg)).trans hg
  have hgl := block_lt hg
  have hC := han w (.cells (cmC ⟨5, 2, cla, clo⟩) 67)
  rw [hV] at hC
  obtain ⟨k0, k1, -⟩ := cells4 hC
  obtain ⟨hand, hor, -⟩ := bit_2 iso hi
  have HE := Lib.hid (fun m w h => enough_any ⟨mo, ar, ho, la, lo, iso⟩ hi m g w h)
  have HN := Lib.hid (fun w => needs_any mo w)
  have hnd : 0 ≤ Dw.needsI mo ∧ Dw.needsI mo ≤ 3 := by unfold Dw.needsI; (repeat' split) <;> decide
  generalize Dw.needsI mo = nd at *
  have hw1 : IntKind.i64.wrap (nd + 1) = nd + 1 := IntWalk.i64_in _ (by omega)
  dsimp only at HE
  have hiso := Lib.hid hi
  generalize Dw.soundN iso = sn at *
  generalize Dw.setOn iso 2 = so at *
  clear hg hC hi
  obtain ⟨c0, -, -, -, -, c5⟩ := cells6 hg1
  generalize Dw.bitOn iso 2 = b at *
  cases b
  · go_enter Tryz.func91, Tryz.ntmps91
    go_wp2_with fail
    refine cb (HN.out _) fun w1 hb => ?_
    replace hg1 := kp hb hg1
    have k0' := (hb.cell (lt_of_cell k0)).trans k0
    replace hB := tr hB hb
    clear hb c0 c5 k0 k1
    go_wp2_with fail
    refine cb (HE.out _ _ hg1) fun w2 hb => ?_
    replace hg1 := kp hb hg1
    have k0 := (hb.cell (lt_of_cell k0')).trans k0'
    replace hB := tr hB hb
    clear hb k0'
    have q0 := heap_setCell_same w2 g 5 _ _ (.int .i64 so) hg1
    change _ = some (Obj.cells (stC ⟨mo, ar, ho, la, lo, so⟩) _ _) at q0
    have hK := ((keepB hB).mono (fun _ _ h => h.elim) : KeepBut (fun k => k = g) w w2)
    have hK5 := hK.setCell (p := ⟨g, 5, none⟩) rfl (.int .i64 so)
    obtain ⟨-, -, -, -, -, c5⟩ := cells6 hg1
    have z5 := frozen0 hg1 5
    have k5 : (w2.setCell ⟨g, 5, none⟩ (.int .i64 so)).cell? ⟨w.heap.size, 0, none⟩ = some (.int .i64 5) := (World.cell?_setCell_other _ _ _ _ (by simp; try omega)).trans k0
    by_cases hen : nd + 1 ≤ sn
    · have hd : decide (nd + 1 ≤ sn) = true := decide_eq_true hen
      obtain rfl : 0 = R := by rw [← HR.out, if_neg (fun h => by have := h.2; omega)]
      go_wp2_with fail
      go_ret
      exact ⟨rfl, hK5, _, q0, fun _ => rfl⟩
    · have hd : decide (nd + 1 ≤ sn) = false := decide_eq_false hen
      obtain rfl : 24 = R := by rw [← HR.out, if_pos (by first | exact ⟨rfl, by omega⟩ | exact ⟨trivial, by omega⟩)]
      go_wp2_with fail
      go_ret
      exact ⟨rfl, hK, _, hg1, fun h => absurd h (by decide)⟩
  · obtain rfl : 0 = R := by rw [← HR.out, if_neg (fun h => by cases h.1)]
    have q0 := heap_setCell_same _ g 5 _ _ (.int .i64 so) hg1
    change _ = some (Obj.cells (stC ⟨mo, ar, ho, la, lo, so⟩) _ _) at q0
    have hK5 := ((keepB hB).mono (fun _ _ h => h.elim) : KeepBut (fun k => k = g) w _).setCell (p := ⟨g, 5, none⟩) rfl (.int .i64 so)
    have z5 := frozen0 hg1 5
    have k5 := (World.cell?_setCell_other _ ⟨g, 5, none⟩ _ (.int .i64 so) (by simp; try omega)).trans k0
    go_enter Tryz.func91, Tryz.ntmps91
    go_wp2_with fail
    go_ret
    exact ⟨rfl, hK5, _, q0, fun _ => rfl⟩
theorem sensor6_2 (mo la lo iso : Int) (ar ho : Bool) (hi : 0 ≤ iso ∧ iso ≤ 15) (cla clo : Nat) (g : Nat) (w : World) (hg : w.heap[g]? = some (.cells (stC ⟨mo, ar, ho, la, lo, iso⟩) 140 (0, 0))) :
    Calls Tryz.prog 91 #[.pointer (some ⟨g, 0, none⟩), cmV ⟨6, 2, cla, clo⟩] w (CEnd ⟨mo, ar, ho, la, lo, Dw.setOff iso 2⟩ 0 g w) := by
  have hB := (Below.refl w.heap.size w).alloc (Nat.le_refl _) (.cells (cmC ⟨6, 2, cla, clo⟩) 67)
  obtain ⟨V, hV⟩ : ∃ V, w.alloc (.cells (cmC ⟨6, 2, cla, clo⟩) 67) = V := ⟨_, rfl⟩
  rw [hV] at hB
  have hg1 := (hB.block g (block_lt hg)).trans hg
  have hgl := block_lt hg
  have hC := han w (.cells (cmC ⟨6, 2, cla, clo⟩) 67)
  rw [hV] at hC
  obtain ⟨k0, k1, -⟩ := cells4 hC
  obtain ⟨hand, -, hsb, -⟩ := bit_2 iso hi
  generalize Dw.setOff iso 2 = so at *
  generalize (if Dw.bitOn iso 2 then (4 : Int) else 0) = was at *
  clear hg hC hi
  obtain ⟨c0, -, -, -, -, c5⟩ := cells6 hg1
  have q0 := heap_setCell_same _ g 5 _ _ (.int .i64 so) hg1
  change _ = some (Obj.cells (stC ⟨mo, ar, ho, la, lo, so⟩) _ _) at q0
  have hK5 := ((keepB hB).mono (fun _ _ h => h.elim) : KeepBut (fun k => k = g) w _).setCell (p := ⟨g, 5, none⟩) rfl (.int .i64 so)
  have z5 := frozen0 hg1 5
  go_enter Tryz.func91, Tryz.ntmps91
  go_wp2_with fail
  go_ret
  exact ⟨rfl, hK5, _, q0, fun _ => rfl⟩
theorem sensor5_3 (mo la lo iso : Int) (ar ho : Bool) (hi : 0 ≤ iso ∧ iso ≤ 15) (cla clo : Nat) (g : Nat) (w : World) (hg : w.heap[g]? = some (.cells (stC ⟨mo, ar, ho, la, lo, iso⟩) 140 (0, 0))) :
    Calls Tryz.prog 91 #[.pointer (some ⟨g, 0, none⟩), cmV ⟨5, 3, cla, clo⟩] w (CEnd ⟨mo, ar, ho, la, lo, Dw.setOn iso 3⟩ (if Dw.bitOn iso 3 = false ∧ Dw.soundN iso - 1 < Dw.needsI mo then 24 else 0) g w) := by
  obtain ⟨R, hR⟩ : ∃ R, (if Dw.bitOn iso 3 = false ∧ Dw.soundN iso - 1 < Dw.needsI mo then (24 : Int) else 0) = R := ⟨_, rfl⟩
  rw [hR]
  have HR := Lib.hid hR
  clear hR
  have hB := (Below.refl w.heap.size w).alloc (Nat.le_refl _) (.cells (cmC ⟨5, 3, cla, clo⟩) 67)
  obtain ⟨V, hV⟩ : ∃ V, w.alloc (.cells (cmC ⟨5, 3, cla, clo⟩) 67) = V := ⟨_, rfl⟩
  rw [hV] at hB
  have hg1 := (hB.block g (block_lt hg)).trans hg
  have hgl := block_lt hg
  have hC := han w (.cells (cmC ⟨5, 3, cla, clo⟩) 67)
  rw [hV] at hC
  obtain ⟨k0, k1, -⟩ := cells4 hC
  obtain ⟨hand, hor, -⟩ := bit_3 iso hi
  have HE := Lib.hid (fun m w h => enough_any ⟨mo, ar, ho, la, lo, iso⟩ hi m g w h)
  have HN := Lib.hid (fun w => needs_any mo w)
  have hnd : 0 ≤ Dw.needsI mo ∧ Dw.needsI mo ≤ 3 := by unfold Dw.needsI; (repeat' split) <;> decide
  generalize Dw.needsI mo = nd at *
  have hw1 : IntKind.i64.wrap (nd + 1) = nd + 1 := IntWalk.i64_in _ (by omega)
  dsimp only at HE
  have hiso := Lib.hid hi
  generalize Dw.soundN iso = sn at *
  generalize Dw.setOn iso 3 = so at *
  clear hg hC hi
  obtain ⟨c0, -, -, -, -, c5⟩ := cells6 hg1
  generalize Dw.bitOn iso 3 = b at *
  cases b
  · go_enter Tryz.func91, Tryz.ntmps91
    go_wp2_with fail
    refine cb (HN.out _) fun w1 hb => ?_
    replace hg1 := kp hb hg1
    have k0' := (hb.cell (lt_of_cell k0)).trans k0
    replace hB := tr hB hb
    clear hb c0 c5 k0 k1
    go_wp2_with fail
    refine cb (HE.out _ _ hg1) fun w2 hb => ?_
    replace hg1 := kp hb hg1
    have k0 := (hb.cell (lt_of_cell k0')).trans k0'
    replace hB := tr hB hb
    clear hb k0'
    have q0 := heap_setCell_same w2 g 5 _ _ (.int .i64 so) hg1
    change _ = some (Obj.cells (stC ⟨mo, ar, ho, la, lo, so⟩) _ _) at q0
    have hK := ((keepB hB).mono (fun _ _ h => h.elim) : KeepBut (fun k => k = g) w w2)
    have hK5 := hK.setCell (p := ⟨g, 5, none⟩) rfl (.int .i64 so)
    obtain ⟨-, -, -, -, -, c5⟩ := cells6 hg1
    have z5 := frozen0 hg1 5
    have k5 : (w2.setCell ⟨g, 5, none⟩ (.int .i64 so)).cell? ⟨w.heap.size, 0, none⟩ = some (.int .i64 5) := (World.cell?_setCell_other _ _ _ _ (by simp; try omega)).trans k0
    by_cases hen : nd + 1 ≤ sn
    · have hd : decide (nd + 1 ≤ sn) = true := decide_eq_true hen
      obtain rfl : 0 = R := by rw [← HR.out, if_neg (fun h => by have := h.2; omega)]
      go_wp2_with fail
      go_ret
      exact ⟨rfl, hK5, _, q0, fun _ => rfl⟩
    · have hd : decide (nd + 1 ≤ sn) = false := decide_eq_false hen
      obtain rfl : 24 = R := by rw [← HR.out, if_pos (by first | exact ⟨rfl, by omega⟩ | exact ⟨trivial, by omega⟩)]
      go_wp2_with fail
      go_ret
      exact ⟨rfl, hK, _, hg1, fun h => absurd h (by decide)⟩
  · obtain rfl : 0 = R := by rw [← HR.out, if_neg (fun h => by cases h.1)]
    have q0 := heap_setCell_same _ g 5 _ _ (.int .i64 so) hg1
    change _ = some (Obj.cells (stC ⟨mo, ar, ho, la, lo, so⟩) _ _) at q0
    have hK5 := ((keepB hB).mono (fun _ _ h => h.elim) : KeepBut (fun k => k = g) w _).setCell (p := ⟨g, 5, none⟩) rfl (.int .i64 so)
    have z5 := frozen0 hg1 5
    have k5 := (World.cell?_setCell_other _ ⟨g, 5, none⟩ _ (.int .i64 so) (by simp; try omega)).trans k0
    go_enter Tryz.func91, Tryz.ntmps91
    go_wp2_with fail
    go_ret
    exact ⟨rfl, hK5, _, q0, fun _ => rfl⟩
theorem sensor6_3 (mo la lo iso : Int) (ar ho : Bool) (hi : 0 ≤ iso ∧ iso ≤ 15) (cla clo : Nat) (g : Nat) (w : World) (hg : w.heap[g]? = some (.cells (stC ⟨mo, ar, ho, la, lo, iso⟩) 140 (0, 0))) :
    Calls Tryz.prog 91 #[.pointer (some ⟨g, 0, none⟩), cmV ⟨6, 3, cla, clo⟩] w (CEnd ⟨mo, ar, ho, la, lo, Dw.setOff iso 3⟩ 0 g w) := by
  have hB := (Below.refl w.heap.size w).alloc (Nat.le_refl _) (.cells (cmC ⟨6, 3, cla, clo⟩) 67)
  obtain ⟨V, hV⟩ : ∃ V, w.alloc (.cells (cmC ⟨6, 3, cla, clo⟩) 67) = V := ⟨_, rfl⟩
  rw [hV] at hB
  have hg1 := (hB.block g (block_lt hg)).trans hg
  have hgl := block_lt hg
  have hC := han w (.cells (cmC ⟨6, 3, cla, clo⟩) 67)
  rw [hV] at hC
  obtain ⟨k0, k1, -⟩ := cells4 hC
  obtain ⟨hand, -, hsb, -⟩ := bit_3 iso hi
  generalize Dw.setOff iso 3 = so at *
  generalize (if Dw.bitOn iso 3 then (8 : Int) else 0) = was at *
  clear hg hC hi
  obtain ⟨c0, -, -, -, -, c5⟩ := cells6 hg1
  have q0 := heap_setCell_same _ g 5 _ _ (.int .i64 so) hg1
  change _ = some (Obj.cells (stC ⟨mo, ar, ho, la, lo, so⟩) _ _) at q0
  have hK5 := ((keepB hB).mono (fun _ _ h => h.elim) : KeepBut (fun k => k = g) w _).setCell (p := ⟨g, 5, none⟩) rfl (.int .i64 so)
  have z5 := frozen0 hg1 5
  go_enter Tryz.func91, Tryz.ntmps91
  go_wp2_with fail
  go_ret
  exact ⟨rfl, hK5, _, q0, fun _ => rfl⟩
theorem sensor5_far (s : Dw.St) (n : Int) (hn : n < 0 ∨ 3 < n) (cla clo : Nat) (T : Dw.St) (g : Nat) (w : World) (hg : w.heap[g]? = some (.cells (stC s) 140 (0, 0))) :
    Calls Tryz.prog 91 #[.pointer (some ⟨g, 0, none⟩), cmV ⟨5, n, cla, clo⟩] w (CEnd T 1 g w) := by
  have hB := (Below.refl w.heap.size w).alloc (Nat.le_refl _) (.cells (cmC ⟨5, n, cla, clo⟩) 67)
  have hg1 := (hB.block g (block_lt hg)).trans hg
  have hC := han w (.cells (cmC ⟨5, n, cla, clo⟩) 67)
  have hK := ((keepB hB).mono (fun _ _ h => h.elim) : KeepBut (fun k => k = g) w _)
  obtain ⟨k0, k1, -⟩ := cells4 hC
  clear hg hC
  rcases hn with hn | hn
  · go_enter Tryz.func91, Tryz.ntmps91
    go_wp2_with fail
    go_ret
    exact ⟨rfl, hK, s, hg1, fun h => absurd h (by decide)⟩
  · have hn1 : ¬ n < 0 := by omega
    have hn2 : 4 ≤ n := by omega
    go_enter Tryz.func91, Tryz.ntmps91
    go_wp2_with fail
    go_ret
    exact ⟨rfl, hK, s, hg1, fun h => absurd h (by decide)⟩
theorem sensor5_any (s : Dw.St) (hi : 0 ≤ s.iso ∧ s.iso ≤ 15) (c : Dw.Cmd) (hk : c.ki = 5) (g : Nat) (w : World) (hg : w.heap[g]? = some (.cells (stC s) 140 (0, 0))) :
    Calls Tryz.prog 91 #[.pointer (some ⟨g, 0, none⟩), cmV c] w (CEnd { s with iso := Dw.setOn s.iso c.n } (Dw.isoE s c.n) g w) := by
  obtain ⟨mo, ar, ho, la, lo, iso⟩ := s
  obtain ⟨ki, n, cla, clo⟩ := c
  dsimp only at *
  subst hk
  by_cases hn : n < 0 ∨ 3 < n
  · have e : (if n < 0 ∨ 3 < n then (1 : Int) else 0) = 1 := if_pos hn
    first
    | (unfold Dw.isoE; rw [if_pos hn]; exact sensor5_far _ n hn cla clo _ g w hg)
    | (unfold Dw.resE; rw [if_pos hn]; exact sensor5_far _ n hn cla clo _ g w hg)
  · first
    | (unfold Dw.isoE; rw [if_neg hn]
       rcases Dw.n4 hn with rfl | rfl | rfl | rfl
       · exact sensor5_0 mo la lo iso ar ho hi cla clo g w hg
       · exact sensor5_1 mo la lo iso ar ho hi cla clo g w hg
       · exact sensor5_2 mo la lo iso ar ho hi cla clo g w hg
       · exact sensor5_3 mo la lo iso ar ho hi cla clo g w hg)
    | (unfold Dw.resE; rw [if_neg hn]
       rcases Dw.n4 hn with rfl | rfl | rfl | rfl
       · exact sensor5_0 mo la lo iso ar ho hi cla clo g w hg
       · exact sensor5_1 mo la lo iso ar ho hi cla clo g w hg
       · exact sensor5_2 mo la lo iso ar ho hi cla clo g w hg
       · exact sensor5_3 mo la lo iso ar ho hi cla clo g w hg)
theorem sensor6_far (s : Dw.St) (n : Int) (hn : n < 0 ∨ 3 < n) (cla clo : Nat) (T : Dw.St) (g : Nat) (w : World) (hg : w.heap[g]? = some (.cells (stC s) 140 (0, 0))) :
    Calls Tryz.prog 91 #[.pointer (some ⟨g, 0, none⟩), cmV ⟨6, n, cla, clo⟩] w (CEnd T 1 g w) := by
  have hB := (Below.refl w.heap.size w).alloc (Nat.le_refl _) (.cells (cmC ⟨6, n, cla, clo⟩) 67)
  have hg1 := (hB.block g (block_lt hg)).trans hg
  have hC := han w (.cells (cmC ⟨6, n, cla, clo⟩) 67)
  have hK := ((keepB hB).mono (fun _ _ h => h.elim) : KeepBut (fun k => k = g) w _)
  obtain ⟨k0, k1, -⟩ := cells4 hC
  clear hg hC
  rcases hn with hn | hn
  · go_enter Tryz.func91, Tryz.ntmps91
    go_wp2_with fail
    go_ret
    exact ⟨rfl, hK, s, hg1, fun h => absurd h (by decide)⟩
  · have hn1 : ¬ n < 0 := by omega
    have hn2 : 4 ≤ n := by omega
    go_enter Tryz.func91, Tryz.ntmps91
    go_wp2_with fail
    go_ret
    exact ⟨rfl, hK, s, hg1, fun h => absurd h (by decide)⟩
theorem sensor6_any (s : Dw.St) (hi : 0 ≤ s.iso ∧ s.iso ≤ 15) (c : Dw.Cmd) (hk : c.ki = 6) (g : Nat) (w : World) (hg : w.heap[g]? = some (.cells (stC s) 140 (0, 0))) :
    Calls Tryz.prog 91 #[.pointer (some ⟨g, 0, none⟩), cmV c] w (CEnd { s with iso := Dw.setOff s.iso c.n } (Dw.resE c.n) g w) := by
  obtain ⟨mo, ar, ho, la, lo, iso⟩ := s
  obtain ⟨ki, n, cla, clo⟩ := c
  dsimp only at *
  subst hk
  by_cases hn : n < 0 ∨ 3 < n
  · have e : (if n < 0 ∨ 3 < n then (1 : Int) else 0) = 1 := if_pos hn
    first
    | (unfold Dw.isoE; rw [if_pos hn]; exact sensor6_far _ n hn cla clo _ g w hg)
    | (unfold Dw.resE; rw [if_pos hn]; exact sensor6_far _ n hn cla clo _ g w hg)
  · first
    | (unfold Dw.isoE; rw [if_neg hn]
       rcases Dw.n4 hn with rfl | rfl | rfl | rfl
       · exact sensor6_0 mo la lo iso ar ho hi cla clo g w hg
       · exact sensor6_1 mo la lo iso ar ho hi cla clo g w hg
       · exact sensor6_2 mo la lo iso ar ho hi cla clo g w hg
       · exact sensor6_3 mo la lo iso ar ho hi cla clo g w hg)
    | (unfold Dw.resE; rw [if_neg hn]
       rcases Dw.n4 hn with rfl | rfl | rfl | rfl
       · exact sensor6_0 mo la lo iso ar ho hi cla clo g w hg
       · exact sensor6_1 mo la lo iso ar ho hi cla clo g w hg
       · exact sensor6_2 mo la lo iso ar ho hi cla clo g w hg
       · exact sensor6_3 mo la lo iso ar ho hi cla clo g w hg)
end Go.Proofs.YtjibbchfndhhpaaGreatDoor
