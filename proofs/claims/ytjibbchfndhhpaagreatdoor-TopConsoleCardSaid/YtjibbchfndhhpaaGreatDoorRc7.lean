/- What the statement's proof stands on, part 7: PlainF, PlainG. -/
import Derived.Test.YtjibbchfndhhpaaGreatDoorRc6
import Derived.Laws.FloatArith
set_option linter.unusedSimpArgs false
set_option linter.unusedVariables false
set_option maxRecDepth 100000
set_option maxHeartbeats 4000000
namespace Go.Proofs.YtjibbchfndhhpaaGreatDoor
namespace Dw
open Ieee
theorem bi52 : double.binade = 4503599627370496 := by decide +kernel
theorem ir52 : double.infRung = 2047 * 4503599627370496 := by decide +kernel
theorem lp52 : double.leastPlace = -1074 := by decide +kernel
def uO : Nat := 1074
def hfU : Nat := 2 ^ (uO - 1)
def onU : Nat := 2 ^ uO
theorem uO_eq : uO = 1074 := rfl
attribute [irreducible] uO
theorem onU_eq : onU = 2 * hfU := by
  unfold onU hfU
  rw [show uO = (uO - 1) + 1 by have := uO_eq; omega, Nat.pow_succ, Nat.mul_comm, show uO - 1 + 1 - 1 = uO - 1 by omega]
theorem hfU_pos : 0 < hfU := Nat.two_pow_pos _
theorem onU_pos : 0 < onU := Nat.two_pow_pos _
theorem onU_pow : onU = 2 ^ uO := rfl
theorem hfU_pow : hfU = 2 ^ (uO - 1) := rfl
attribute [irreducible] hfU onU
def mant (R : Nat) : Nat := if R < 4503599627370496 then R else 4503599627370496 + R % 4503599627370496
def ex (R : Nat) : Nat := R / 4503599627370496 - 1
def uv (R : Nat) : Nat := mant R * 2 ^ ex R
def sg (s : Bool) (u : Nat) : Int := if s then -(u : Int) else (u : Int)
def sgnB (x : Nat) : Bool := x / 9223372036854775808 % 2 == 1
theorem mant_lt (R : Nat) : mant R < 9007199254740992 := by unfold mant; split <;> omega
theorem uv_rung {e kept : Nat} (h : kept ≤ 9007199254740992) (hk : 4503599627370496 ≤ kept ∨ e = 0) : uv (e * 4503599627370496 + kept) = kept * 2 ^ e := by
  unfold uv mant ex
  by_cases h1 : 4503599627370496 ≤ kept
  · rw [if_neg (by omega)]
    by_cases h2 : kept = 9007199254740992
    · subst h2
      rw [show (e * 4503599627370496 + 9007199254740992) / 4503599627370496 - 1 = e + 1 by omega, show (e * 4503599627370496 + 9007199254740992) % 4503599627370496 = 0 by omega, Nat.pow_succ]
      generalize 2 ^ e = z
      omega
    · rw [show (e * 4503599627370496 + kept) / 4503599627370496 - 1 = e by omega, show 4503599627370496 + (e * 4503599627370496 + kept) % 4503599627370496 = kept by omega]
  · rcases hk with h2 | rfl
    · exact absurd h2 h1
    · rw [if_pos (by omega), show (0 * 4503599627370496 + kept) / 4503599627370496 - 1 = 0 by omega]
      omega
theorem read_fin {x : Nat} (h : x % 9223372036854775808 < 2047 * 4503599627370496) : double.read x = .number (sgnB x) (mant (x % 9223372036854775808)) (-1074 + (ex (x % 9223372036854775808) : Nat)) := by
  unfold Format.read
  rw [sw63, bi52, ir52, lp52]
  simp only []
  unfold mant ex sgnB
  by_cases h1 : x % 9223372036854775808 < 4503599627370496
  · rw [if_pos h1, if_pos h1, show x % 9223372036854775808 / 4503599627370496 - 1 = 0 by omega]; rfl
  · rw [if_neg h1, if_neg h1, if_pos h]
theorem word_eq (s : Bool) (R : Nat) : double.word s R = if s then 9223372036854775808 + R else R := by unfold Format.word; rw [sw63]
theorem word_mod {s : Bool} {R : Nat} (h : R < 9223372036854775808) : double.word s R % 9223372036854775808 = R := by
  rw [word_eq]; cases s
  · exact Nat.mod_eq_of_lt h
  · show (9223372036854775808 + R) % 9223372036854775808 = R
    rw [Nat.add_mod_left, Nat.mod_eq_of_lt h]
theorem word_sgn {s : Bool} {R : Nat} (h : R < 9223372036854775808) : sgnB (double.word s R) = s := by
  rw [word_eq]; unfold sgnB; cases s
  · rw [if_neg (by decide), Nat.div_eq_of_lt h]; rfl
  · rw [if_pos rfl, Nat.add_div_left _ (by decide), Nat.div_eq_of_lt h]; rfl
theorem fin_lt {R : Nat} (h : R < 2047 * 4503599627370496) : R < 9223372036854775808 := Nat.lt_trans h (by decide)
theorem cut_exact (n d : Nat) (neg : Bool) (h : n % 2 ^ d = 0) (hn : 0 < n) : Toward.even.cut neg n d = n / 2 ^ d := by
  have hd : d < n.log2 + 2 := by
    have h1 : 2 ^ d ≤ n := Nat.le_of_dvd hn (Nat.dvd_of_mod_eq_zero h)
    have h2 : n < 2 ^ (n.log2 + 1) := Nat.lt_log2_self
    have := (Nat.pow_lt_pow_iff_right (a := 2) (by decide)).1 (Nat.lt_of_le_of_lt h1 h2)
    omega
  unfold Toward.cut
  rw [Nat.min_eq_left (by omega)]
  simp only [Nat.one_shiftLeft, h]
  have hp := Nat.two_pow_pos d
  rw [decide_eq_false (by omega), show (2 ^ d == 2 * 0) = false from by simp]
  rfl
theorem nearest_exact (neg : Bool) (M a b m q : Nat) (hM : 0 < M) (he : M * 2 ^ a = m * 2 ^ q * 2 ^ b) (hm : m < 9007199254740992) (hb : m * 2 ^ q < 2 ^ (2 * uO - 50)) :
    ∃ R, double.nearest neg M (-1074 + ((a : Nat) : Int) - ((b : Nat) : Int)) = double.word neg R ∧ R < 2047 * 4503599627370496 ∧ uv R = m * 2 ^ q := by
  have ho := uO_eq
  have hL1 : 2 ^ M.log2 ≤ M := Nat.log2_self_le (by omega)
  have hL2 : M < 2 ^ (M.log2 + 1) := Nat.lt_log2_self
  unfold Format.nearest
  rw [if_neg (by omega), lp52, bi52, ir52]
  generalize hL : M.log2 = L at *
  have hfb : ((double.fractionBits : Nat) : Int) = 52 := rfl
  rw [hfb]
  by_cases hkl : 52 + b ≤ a + L
  · obtain ⟨e, hE⟩ : ∃ e, a + L = 52 + b + e := ⟨a + L - 52 - b, by omega⟩
    have hlast : max (-1074 + ((a : Nat) : Int) - ((b : Nat) : Int) + ((L : Nat) : Int) - 52) (-1074) = -1074 + ((e : Nat) : Int) := by omega
    simp only [hlast]
    rw [show (-1074 + ((e : Nat) : Int) - -1074).toNat = e by omega, show (-1074 + ((a : Nat) : Int) - ((b : Nat) : Int) - (-1074 + ((e : Nat) : Int))).toNat = 52 - L by omega, show (-1074 + ((e : Nat) : Int) - (-1074 + ((a : Nat) : Int) - ((b : Nat) : Int))).toNat = L - 52 by omega, Nat.shiftLeft_eq]
    obtain ⟨kept, hkept, h1, h2, h3⟩ : ∃ kept, Toward.even.cut neg (M * 2 ^ (52 - L)) (L - 52) = kept ∧ kept * 2 ^ e = m * 2 ^ q ∧ 4503599627370496 ≤ kept ∧ kept < 9007199254740992 := by
      by_cases hl : L ≤ 52
      · rw [show L - 52 = 0 by omega, cut_exact _ 0 neg (Nat.mod_one _) (Nat.mul_pos hM (Nat.two_pow_pos _)), Nat.pow_zero, Nat.div_one]
        refine ⟨_, rfl, ?_, ?_, ?_⟩
        · apply Nat.eq_of_mul_eq_mul_right (Nat.two_pow_pos b)
          rw [← he, Nat.mul_assoc, Nat.mul_assoc, ← Nat.pow_add, ← Nat.pow_add, show 52 - L + (e + b) = a by omega]
        · have := Nat.mul_le_mul_right (2 ^ (52 - L)) hL1
          rw [← Nat.pow_add, show L + (52 - L) = 52 by omega] at this
          exact this
        · have := Nat.mul_lt_mul_of_pos_right hL2 (Nat.two_pow_pos (52 - L))
          rw [← Nat.pow_add, show L + 1 + (52 - L) = 53 by omega] at this
          exact this
      · rw [show 52 - L = 0 by omega, Nat.pow_zero, Nat.mul_one]
        have hq : L + a ≤ q + b + 52 := by
          have h1 : 2 ^ (L + a) ≤ m * 2 ^ (q + b) := by rw [Nat.pow_add 2 q, ← Nat.mul_assoc, ← he, Nat.pow_add]; exact Nat.mul_le_mul_right _ hL1
          have h2 : m * 2 ^ (q + b) < 2 ^ (53 + (q + b)) := by rw [Nat.pow_add 2 53]; exact Nat.mul_lt_mul_of_pos_right hm (Nat.two_pow_pos _)
          have := (Nat.pow_lt_pow_iff_right (a := 2) (by decide)).1 (Nat.lt_of_le_of_lt h1 h2)
          omega
        have hdv : M % 2 ^ (L - 52) = 0 := by
          have h1 : 2 ^ (L - 52) * 2 ^ a ∣ M * 2 ^ a := by
            rw [he, ← Nat.pow_add, Nat.mul_assoc, ← Nat.pow_add]
            exact Nat.dvd_trans (Nat.pow_dvd_pow 2 (by omega)) (Nat.dvd_mul_left _ _)
          exact Nat.mod_eq_zero_of_dvd (Nat.dvd_of_mul_dvd_mul_right (Nat.two_pow_pos a) h1)
        rw [cut_exact _ _ neg hdv hM]
        have hmul : M / 2 ^ (L - 52) * 2 ^ (L - 52) = M := Nat.div_mul_cancel (Nat.dvd_of_mod_eq_zero hdv)
        refine ⟨_, rfl, ?_, ?_, ?_⟩
        · apply Nat.eq_of_mul_eq_mul_right (Nat.two_pow_pos b)
          rw [← he, Nat.mul_assoc, ← Nat.pow_add, show e + b = (L - 52) + a by omega, Nat.pow_add, ← Nat.mul_assoc, hmul]
        · apply (Nat.le_div_iff_mul_le (Nat.two_pow_pos _)).2
          have : 4503599627370496 * 2 ^ (L - 52) = 2 ^ L := by rw [show (4503599627370496 : Nat) = 2 ^ 52 from rfl, ← Nat.pow_add, show 52 + (L - 52) = L by omega]
          rw [this]; exact hL1
        · apply (Nat.div_lt_iff_lt_mul (Nat.two_pow_pos _)).2
          have : 9007199254740992 * 2 ^ (L - 52) = 2 ^ (L + 1) := by rw [show (9007199254740992 : Nat) = 2 ^ 53 from rfl, ← Nat.pow_add, show 53 + (L - 52) = L + 1 by omega]
          rw [this]; exact hL2
    rw [hkept]
    have he2 : e ≤ 2045 := by
      have h4 : 2 ^ (52 + e) ≤ m * 2 ^ q := by rw [← h1, Nat.pow_add]; exact Nat.mul_le_mul_right _ h2
      have := (Nat.pow_lt_pow_iff_right (a := 2) (by decide)).1 (Nat.lt_of_le_of_lt h4 hb)
      omega
    refine ⟨e * 4503599627370496 + kept, ?_, by omega, ?_⟩
    · rw [Nat.min_eq_left (by omega)]
    · rw [uv_rung (by omega) (.inl h2), h1]
  · have hlast : max (-1074 + ((a : Nat) : Int) - ((b : Nat) : Int) + ((L : Nat) : Int) - 52) (-1074) = -1074 := by omega
    simp only [hlast]
    have hlt : m * 2 ^ q < 4503599627370496 := by
      have h1 := Nat.mul_lt_mul_of_pos_right hL2 (Nat.two_pow_pos a)
      rw [he, ← Nat.pow_add] at h1
      have h2 := Nat.lt_of_lt_of_le h1 (Nat.pow_le_pow_right (n := 2) (by decide) (show L + 1 + a ≤ 52 + b by omega))
      rw [Nat.pow_add] at h2
      exact Nat.lt_of_mul_lt_mul_right h2
    have hkept : Toward.even.cut neg (M <<< (-1074 + ((a : Nat) : Int) - ((b : Nat) : Int) - -1074).toNat) (-1074 - (-1074 + ((a : Nat) : Int) - ((b : Nat) : Int))).toNat = m * 2 ^ q := by
      rw [Nat.shiftLeft_eq]
      by_cases hab : b ≤ a
      · rw [show (-1074 + ((a : Nat) : Int) - ((b : Nat) : Int) - -1074).toNat = a - b by omega, show (-1074 - (-1074 + ((a : Nat) : Int) - ((b : Nat) : Int))).toNat = 0 by omega, cut_exact _ 0 neg (Nat.mod_one _) (Nat.mul_pos hM (Nat.two_pow_pos _)), Nat.pow_zero, Nat.div_one]
        apply Nat.eq_of_mul_eq_mul_right (Nat.two_pow_pos b)
        rw [← he, Nat.mul_assoc, ← Nat.pow_add, show a - b + b = a by omega]
      · have hM2 : M = m * 2 ^ q * 2 ^ (b - a) := by
          apply Nat.eq_of_mul_eq_mul_right (Nat.two_pow_pos a)
          rw [he, Nat.mul_assoc (m * 2 ^ q), ← Nat.pow_add, show b - a + a = b by omega]
        rw [show (-1074 + ((a : Nat) : Int) - ((b : Nat) : Int) - -1074).toNat = 0 by omega, show (-1074 - (-1074 + ((a : Nat) : Int) - ((b : Nat) : Int))).toNat = b - a by omega, Nat.pow_zero, Nat.mul_one, cut_exact _ _ neg (by rw [hM2]; exact Nat.mul_mod_left _ _) hM, hM2, Nat.mul_div_cancel _ (Nat.two_pow_pos _)]
    rw [hkept, show (-1074 - -1074 : Int).toNat = 0 from rfl]
    refine ⟨m * 2 ^ q, ?_, by omega, ?_⟩
    · rw [Nat.zero_mul, Nat.zero_add, Nat.min_eq_left (by omega)]
    · have := uv_rung (e := 0) (kept := m * 2 ^ q) (by omega) (.inr rfl)
      rw [Nat.zero_mul, Nat.zero_add, Nat.pow_zero, Nat.mul_one] at this
      exact this
theorem signed_eq (s : Bool) (m d : Nat) : signed s m d = sg s (m * 2 ^ d) := by unfold signed sg; rw [Nat.shiftLeft_eq]
theorem sg_mul (s : Bool) (u c : Nat) : sg s (u * c) = sg s u * (c : Int) := by
  cases s
  · exact Int.natCast_mul u c
  · show -((u * c : Nat) : Int) = -(u : Int) * (c : Int)
    rw [Int.natCast_mul, Int.neg_mul]
theorem compare_mul (a b : Int) (c : Nat) (hc : 0 < c) : compare (a * (c : Int)) (b * (c : Int)) = compare a b := by
  have hc' : (0 : Int) < c := by omega
  show compareOfLessAndEq _ _ = compareOfLessAndEq _ _
  unfold compareOfLessAndEq
  by_cases h : a < b
  · rw [if_pos h, if_pos (Int.mul_lt_mul_of_pos_right h hc')]
  · rw [if_neg h, if_neg (fun h2 => h (Int.lt_of_mul_lt_mul_right h2 (by omega)))]
    by_cases h2 : a = b
    · rw [if_pos h2, if_pos (by rw [h2])]
    · rw [if_neg h2, if_neg (fun h3 => h2 (Int.eq_of_mul_eq_mul_right (by omega) h3))]
theorem order_num (s t : Bool) (m n p q : Nat) : (Datum.number s m (-1074 + (p : Nat))).order (.number t n (-1074 + (q : Nat))) = some (compare (sg s (m * 2 ^ p)) (sg t (n * 2 ^ q))) := by
  simp only [Datum.order, signed_eq]
  have e1 : (-1074 + ((p : Nat) : Int) - min (-1074 + ((p : Nat) : Int)) (-1074 + ((q : Nat) : Int))).toNat = p - min p q := by omega
  have e2 : (-1074 + ((q : Nat) : Int) - min (-1074 + ((p : Nat) : Int)) (-1074 + ((q : Nat) : Int))).toNat = q - min p q := by omega
  rw [e1, e2]
  have h1 : m * 2 ^ p = m * 2 ^ (p - min p q) * 2 ^ (min p q) := by rw [Nat.mul_assoc, ← Nat.pow_add, show p - min p q + min p q = p by omega]
  have h2 : n * 2 ^ q = n * 2 ^ (q - min p q) * 2 ^ (min p q) := by rw [Nat.mul_assoc, ← Nat.pow_add, show q - min p q + min p q = q by omega]
  rw [h1, h2, sg_mul s (m * 2 ^ (p - min p q)), sg_mul t (n * 2 ^ (q - min p q)), compare_mul _ _ _ (Nat.two_pow_pos _)]
theorem cut_zero (neg : Bool) (m d : Nat) : Toward.zero.cut neg m d = m / 2 ^ d := by
  unfold Toward.cut
  simp only [Nat.one_shiftLeft]
  show m / _ + 0 = _
  rw [Nat.add_zero]
  by_cases h : d ≤ m.log2 + 2
  · rw [Nat.min_eq_left h]
  · rw [Nat.min_eq_right (by omega)]
    have h1 : m < 2 ^ (m.log2 + 1) := Nat.lt_log2_self
    rw [Nat.div_eq_of_lt (Nat.lt_of_lt_of_le h1 (Nat.pow_le_pow_right (by decide) (by omega))), Nat.div_eq_of_lt (Nat.lt_of_lt_of_le h1 (Nat.pow_le_pow_right (by decide) (by omega)))]
theorem toInt_num (s : Bool) (m p : Nat) : (Datum.number s m (-1074 + (p : Nat))).toInt .zero = some (sg s (m * 2 ^ p / onU)) := by
  unfold Datum.toInt Datum.integral
  simp only [signed_eq, Nat.pow_zero, Nat.mul_one, cut_zero, Nat.shiftLeft_eq]
  rw [onU_pow]
  have ho := uO_eq
  by_cases h : uO ≤ p
  · rw [show (-1074 + ((p : Nat) : Int)).toNat = p - uO by omega, show (-(-1074 + ((p : Nat) : Int))).toNat = 0 by omega, Nat.pow_zero, Nat.div_one]
    rw [show m * 2 ^ p = m * 2 ^ (p - uO) * 2 ^ uO from by rw [Nat.mul_assoc, ← Nat.pow_add, show p - uO + uO = p by omega], Nat.mul_div_cancel _ (Nat.two_pow_pos _)]
  · rw [show (-1074 + ((p : Nat) : Int)).toNat = 0 by omega, show (-(-1074 + ((p : Nat) : Int))).toNat = uO - p by omega, Nat.pow_zero, Nat.mul_one]
    rw [show (2 : Nat) ^ uO = 2 ^ (uO - p) * 2 ^ p from by rw [← Nat.pow_add, show uO - p + p = uO by omega], Nat.mul_div_mul_right _ _ (Nat.two_pow_pos _)]
theorem sg_gt (a b : Nat) : (some (compare (sg false a) (sg false b)) == some Ordering.gt) = decide (b < a) := by rw [cmp_gt]; exact decide_eq_decide.2 (by unfold sg; simp)
theorem in_fin {x c n q : Nat} (hn : nanB x = false) (hc : double.read c = .number false n (-1074 + ((q : Nat) : Int))) (h : fgt (absF x) c = false) :
    x % 9223372036854775808 < 2047 * 4503599627370496 ∧ uv (x % 9223372036854775808) ≤ n * 2 ^ q := by
  by_cases hf : x % 9223372036854775808 < 2047 * 4503599627370496
  · refine ⟨hf, ?_⟩
    unfold fgt Format.order at h
    rw [read_abs, read_fin hf, hc] at h
    simp only [order_num, sg_gt] at h
    have := of_decide_eq_false h
    unfold uv
    omega
  · exfalso
    by_cases h3 : x % 9223372036854775808 = 2047 * 4503599627370496
    · have hr : double.read x = .infinity (sgnB x) := by
        unfold Format.read
        rw [sw63, bi52, ir52]
        simp only []
        rw [if_neg (by omega), if_neg hf, if_pos h3]; rfl
      unfold fgt Format.order at h
      rw [read_abs, hr, hc] at h
      simp [Datum.order] at h
    · have hr : double.read x = .nan (sgnB x) (x % 9223372036854775808 - 2047 * 4503599627370496) := by
        unfold Format.read
        rw [sw63, bi52, ir52]
        simp only []
        rw [if_neg (by omega), if_neg hf, if_neg h3]; rfl
      unfold nanB Format.order at hn
      rw [hr] at hn
      simp [Datum.order] at hn
theorem pow_lt (u : Nat) (h : u ≤ 1474560 * onU) : u < 2 ^ (2 * uO - 50) := by
  have ho := uO_eq
  have : 1474560 * onU < 2 ^ (21 + uO) := by rw [Nat.pow_add, ← onU_pow]; exact Nat.mul_lt_mul_of_pos_right (by decide) onU_pos
  exact Nat.lt_of_le_of_lt h (Nat.lt_of_lt_of_le this (Nat.pow_le_pow_right (by decide) (by omega)))
theorem nearest_zero (s : Bool) (p : Int) : double.nearest s 0 p = double.word s 0 := by unfold Format.nearest; rw [if_pos rfl]
theorem uv0 : uv 0 = 0 := by decide
theorem mul_8192 {x : Nat} (hf : x % 9223372036854775808 < 2047 * 4503599627370496) (hu : uv (x % 9223372036854775808) ≤ 180 * onU) :
    ∃ R, double.mul x 4665729213955833856 = some (double.word (sgnB x) R) ∧ R < 2047 * 4503599627370496 ∧ uv R = uv (x % 9223372036854775808) * 8192 := by
  have hr : double.read 4665729213955833856 = .number false 4503599627370496 (-39) := by decide +kernel
  unfold Format.mul
  rw [read_fin hf, hr]
  show ∃ R, some (double.nearest (sgnB x ^^ false) _ _) = _ ∧ _
  rw [Bool.xor_false]
  generalize hm : mant (x % 9223372036854775808) = m at *
  have hml : m < 9007199254740992 := hm ▸ mant_lt _
  generalize hp : ex (x % 9223372036854775808) = p at *
  have hU : uv (x % 9223372036854775808) = m * 2 ^ p := by unfold uv; rw [hm, hp]
  rw [hU] at hu ⊢
  by_cases h0 : m = 0
  · subst h0
    rw [Nat.zero_mul, nearest_zero]
    exact ⟨0, rfl, by decide, by rw [uv0, Nat.zero_mul]⟩
  · have h8 : m * 2 ^ (p + 13) = m * 2 ^ p * 8192 := by rw [Nat.pow_add, ← Nat.mul_assoc]
    obtain ⟨R, e1, e2, e3⟩ := nearest_exact (sgnB x) (m * 4503599627370496) p 39 m (p + 13) (Nat.mul_pos (by omega) (by decide))
      (by rw [Nat.mul_assoc, Nat.mul_assoc, ← Nat.pow_add, show (4503599627370496 : Nat) = 2 ^ 52 from rfl, ← Nat.pow_add, show 52 + p = p + 13 + 39 by omega]) hml
      (by rw [h8]; exact pow_lt _ (by omega))
    refine ⟨R, ?_, e2, by rw [e3, h8]⟩
    rw [← e1]
    congr 2
def rdU (u : Nat) : Nat := (u + hfU) / onU
theorem round_small {R : Nat} (h : R / 4503599627370496 < 1023) : rdU (uv R) = if R / 4503599627370496 = 1022 then 1 else 0 := by
  have ho := uO_eq
  have h1 := onU_eq; have h2 := hfU_pos
  unfold rdU
  have hm := mant_lt R
  by_cases hE : R / 4503599627370496 = 1022
  · rw [if_pos hE]
    have hx : ex R = uO - 1 - 52 := by unfold ex; omega
    have hlo : 4503599627370496 ≤ mant R := by unfold mant; rw [if_neg (by omega)]; omega
    have a1 : hfU ≤ uv R := by
      unfold uv; rw [hx, hfU_pow, show (2 : Nat) ^ (uO - 1) = 4503599627370496 * 2 ^ (uO - 1 - 52) from by rw [show (4503599627370496 : Nat) = 2 ^ 52 from rfl, ← Nat.pow_add, show 52 + (uO - 1 - 52) = uO - 1 by omega]]
      exact Nat.mul_le_mul_right _ hlo
    have a2 : uv R < onU := by
      unfold uv; rw [hx, onU_pow, show (2 : Nat) ^ uO = 9007199254740992 * 2 ^ (uO - 1 - 52) from by rw [show (9007199254740992 : Nat) = 2 ^ 53 from rfl, ← Nat.pow_add, show 53 + (uO - 1 - 52) = uO by omega]]
      exact Nat.mul_lt_mul_of_pos_right hm (Nat.two_pow_pos _)
    rw [h1] at a2 ⊢
    exact Nat.div_eq_of_lt_le (by omega) (by omega)
  · rw [if_neg hE]
    have a1 : uv R < hfU := by
      unfold uv
      have hx : ex R ≤ uO - 1 - 53 := by unfold ex; omega
      refine Nat.lt_of_lt_of_le (Nat.mul_lt_mul_of_pos_right hm (Nat.two_pow_pos _)) ?_
      rw [hfU_pow, show (9007199254740992 : Nat) = 2 ^ 53 from rfl, ← Nat.pow_add]
      exact Nat.pow_le_pow_right (by decide) (by omega)
    exact Nat.div_eq_of_lt (by omega)
theorem round_big {R e : Nat} (h1 : R / 4503599627370496 = 1023 + e) (h2 : e ≤ 51) :
    uv ((R + 2 ^ (51 - e)) / 2 ^ (52 - e) * 2 ^ (52 - e)) = rdU (uv R) * onU ∧ (R + 2 ^ (51 - e)) / 2 ^ (52 - e) * 2 ^ (52 - e) < 2047 * 4503599627370496 := by
  have ho := uO_eq
  obtain ⟨d, hd⟩ : ∃ d, 51 - e = d := ⟨_, rfl⟩
  rw [show 52 - e = d + 1 by omega, hd]
  have hM : mant R = 4503599627370496 + R % 4503599627370496 := by unfold mant; rw [if_neg (by omega)]
  have hx : ex R = 1022 + e := by unfold ex; omega
  have hp2 : (2 : Nat) ^ (d + 1) = 2 * 2 ^ d := by rw [Nat.pow_succ, Nat.mul_comm]
  have hbin : 4503599627370496 = 2 ^ (51 - d) * 2 ^ (d + 1) := by rw [← Nat.pow_add, show 51 - d + (d + 1) = 52 by omega]
  have hR : R = (1022 + e) * 4503599627370496 + mant R := by rw [hM]; omega
  have hm := mant_lt R
  have hml : 4503599627370496 ≤ mant R := by omega
  generalize hmm : mant R = m at *
  -- what is kept
  have hkeep : (R + 2 ^ d) / 2 ^ (d + 1) * 2 ^ (d + 1) = (1022 + e) * 4503599627370496 + (m + 2 ^ d) / 2 ^ (d + 1) * 2 ^ (d + 1) := by
    have hq : ((1022 + e) * 4503599627370496) = (1022 + e) * 2 ^ (51 - d) * 2 ^ (d + 1) := by rw [Nat.mul_assoc, ← hbin]
    have hdv : ((1022 + e) * 2 ^ (51 - d) * 2 ^ (d + 1) + (m + 2 ^ d)) / 2 ^ (d + 1) = (1022 + e) * 2 ^ (51 - d) + (m + 2 ^ d) / 2 ^ (d + 1) := by
      rw [Nat.mul_comm ((1022 + e) * 2 ^ (51 - d)), Nat.mul_add_div (Nat.two_pow_pos _)]
    rw [hR, Nat.add_assoc, hq, hdv, Nat.add_mul]
  rw [hkeep]
  have hk1 : (m + 2 ^ d) / 2 ^ (d + 1) * 2 ^ (d + 1) ≤ 9007199254740992 := by
    have hbin2 : 9007199254740992 = 2 ^ (52 - d) * 2 ^ (d + 1) := by rw [← Nat.pow_add, show 52 - d + (d + 1) = 53 by omega]
    have hlt : m + 2 ^ d < (2 ^ (52 - d) + 1) * 2 ^ (d + 1) := by
      rw [Nat.add_mul, ← hbin2]
      have := Nat.two_pow_pos d
      omega
    have h3 := (Nat.div_lt_iff_lt_mul (Nat.two_pow_pos (d + 1))).2 hlt
    calc _ ≤ 2 ^ (52 - d) * 2 ^ (d + 1) := Nat.mul_le_mul_right _ (by omega)
      _ = _ := hbin2.symm
  have hk2 : 4503599627370496 ≤ (m + 2 ^ d) / 2 ^ (d + 1) * 2 ^ (d + 1) := by
    rw [hbin]
    refine Nat.mul_le_mul_right _ ((Nat.le_div_iff_mul_le (Nat.two_pow_pos _)).2 ?_)
    rw [← hbin]; omega
  refine ⟨?_, by omega⟩
  rw [uv_rung hk1 (.inl hk2)]
  have hon : onU = 2 ^ (d + 1) * 2 ^ (1022 + e) := by rw [onU_pow, ← Nat.pow_add, show d + 1 + (1022 + e) = uO by omega]
  have hhf : hfU = 2 ^ d * 2 ^ (1022 + e) := by rw [hfU_pow, ← Nat.pow_add, show d + (1022 + e) = uO - 1 by omega]
  unfold rdU uv
  rw [hmm, hx, hon, hhf, ← Nat.add_mul, Nat.mul_div_mul_right _ _ (Nat.two_pow_pos _), Nat.mul_assoc]
theorem uv_one : uv (1023 * 4503599627370496) = onU := by
  have ho := uO_eq
  have hk : 52 + (uO - 52) = uO := by omega
  have hR : (uO - 52) * 4503599627370496 + 4503599627370496 = 1023 * 4503599627370496 := by rw [show uO - 52 = 1022 by omega]
  have h := uv_rung (e := uO - 52) (kept := 4503599627370496) (by decide) (.inl (by decide))
  rw [hR] at h
  rw [h, onU_pow, show (4503599627370496 : Nat) = 2 ^ 52 from rfl, ← Nat.pow_add, hk]
def fixV (x : Nat) : Int := sg (sgnB x) (rdU (uv (x % 9223372036854775808) * 8192))
theorem fix_range {x m : Nat} (h : uv (x % 9223372036854775808) ≤ m * onU) : -((m * 8192 : Nat) : Int) ≤ fixV x ∧ fixV x ≤ ((m * 8192 : Nat) : Int) := by
  have : rdU (uv (x % 9223372036854775808) * 8192) ≤ m * 8192 := by
    unfold rdU
    have h1 := onU_eq; have h2 := hfU_pos
    apply Nat.le_of_lt_succ
    apply (Nat.div_lt_iff_lt_mul onU_pos).2
    rw [Nat.succ_mul]
    have := Nat.mul_le_mul_right 8192 h
    rw [Nat.mul_right_comm] at this
    omega
  unfold fixV sg
  split <;> omega
end Dw
end Go.Proofs.YtjibbchfndhhpaaGreatDoor
namespace Go.Proofs.YtjibbchfndhhpaaGreatDoor
namespace Dw
open Ieee
theorem to_int {y : Nat} (hy : y % 9223372036854775808 < 2047 * 4503599627370496) (hu : uv (y % 9223372036854775808) / onU ≤ 1474560) :
    floatToIntVal .f64 y .i64 = some (sg (sgnB y) (uv (y % 9223372036854775808) / onU)) := by
  unfold floatToIntVal
  have e : (FloatKind.f64.decode y).toInt .zero = some (sg (sgnB y) (uv (y % 9223372036854775808) / onU)) := by
    show (double.read y).toInt .zero = _
    rw [read_fin hy, toInt_num]; rfl
  rw [e]
  simp only []
  generalize uv (y % 9223372036854775808) / onU = k at *
  rw [if_pos]
  have h1 : IntKind.i64.min = -9223372036854775808 := by decide
  have h2 : IntKind.i64.max = 9223372036854775807 := by decide
  rw [h1, h2]
  unfold sg
  split <;> omega
end Dw
end Go.Proofs.YtjibbchfndhhpaaGreatDoor
