/- What the statement's proof stands on, part 3: PlainCrc. -/

set_option linter.unusedSimpArgs false
set_option linter.unusedVariables false
set_option maxRecDepth 100000
set_option maxHeartbeats 4000000
namespace Go.Proofs.YtjibbchfndhhpaaGreatDoor
namespace Dw
def poly : Nat := 3988292384
def shr1 (c : Nat) : Nat := c / 2 ^^^ (if c % 2 = 1 then poly else 0)
def shiftN : Nat → Nat → Nat
  | 0, c => c
  | n + 1, c => shr1 (shiftN n c)
def stepB (c b : Nat) : Nat := shiftN 8 (c ^^^ b)
def sumFrom (c : Nat) (l : List UInt8) : Nat := l.foldl (fun c b => stepB c b.toNat) c
def sum (l : List UInt8) : Nat := sumFrom 4294967295 l ^^^ 4294967295
theorem shr1_xor (a b : Nat) : shr1 (a ^^^ b) = shr1 a ^^^ shr1 b := by
  unfold shr1
  have h1 : (a ^^^ b) / 2 = a / 2 ^^^ b / 2 := Nat.xor_div_two
  have h2 : (a ^^^ b) % 2 = (a + b) % 2 := by
    have e : (a ^^^ b) % 2 ^ 1 = a % 2 ^ 1 ^^^ b % 2 ^ 1 := Nat.xor_mod_two_pow
    simp only [Nat.pow_one] at e
    rw [e]
    rcases Nat.mod_two_eq_zero_or_one a with ha | ha <;> rcases Nat.mod_two_eq_zero_or_one b with hb | hb <;> rw [ha, hb] <;> simp <;> omega
  rw [h1, h2]
  rcases Nat.mod_two_eq_zero_or_one a with ha | ha <;> rcases Nat.mod_two_eq_zero_or_one b with hb | hb
  · rw [if_neg (by omega), if_neg (by omega), if_neg (by omega)]; simp
  · rw [if_pos (by omega), if_neg (by omega), if_pos (by omega)]; simp [Nat.xor_assoc]
  · rw [if_pos (by omega), if_pos (by omega), if_neg (by omega)]; simp; ac_rfl
  · rw [if_neg (by omega), if_pos (by omega), if_pos (by omega)]
    simp
    rw [show a / 2 ^^^ poly ^^^ (b / 2 ^^^ poly) = (a / 2 ^^^ b / 2) ^^^ (poly ^^^ poly) from by ac_rfl]
    simp
theorem shiftN_xor (n a b : Nat) : shiftN n (a ^^^ b) = shiftN n a ^^^ shiftN n b := by
  induction n with
  | zero => rfl
  | succ n ih => simp only [shiftN, ih, shr1_xor]
theorem shr1_even (a : Nat) : shr1 (2 * a) = a := by
  unfold shr1
  rw [if_neg (by omega)]
  simp
theorem shiftN_four_high (q : Nat) : shiftN 4 (16 * q) = q := by
  simp only [shiftN]
  rw [show 16 * q = 2 * (2 * (2 * (2 * q))) from by omega, shr1_even, shr1_even, shr1_even, shr1_even]
theorem split16 (c : Nat) : c = 16 * (c / 16) ^^^ c % 16 := by
  have h : 16 * (c / 16) ^^^ c % 16 = 16 * (c / 16) + c % 16 := by
    have e : (2 : Nat) ^ 4 * (c / 16) + c % 16 = 2 ^ 4 * (c / 16) ||| c % 16 := Nat.two_pow_add_eq_or_of_lt (by omega) _
    have e2 : 16 * (c / 16) ^^^ c % 16 = 16 * (c / 16) ||| c % 16 := by
      apply Nat.eq_of_testBit_eq
      intro i
      rw [Nat.testBit_xor, Nat.testBit_or]
      by_cases hi : i < 4
      · have : (16 * (c / 16)).testBit i = false := by
          rw [show 16 * (c / 16) = 2 ^ 4 * (c / 16) from rfl, Nat.testBit_two_pow_mul]; simp; omega
        rw [this]; simp
      · have : (c % 16).testBit i = false := by
          rw [show c % 16 = c % 2 ^ 4 from rfl, Nat.testBit_mod_two_pow]; simp; omega
        rw [this]; simp
    rw [e2]; exact e.symm
  omega
theorem shiftN_four (c : Nat) : shiftN 4 c = c / 16 ^^^ shiftN 4 (c % 16) := by
  conv => lhs; rw [split16 c, shiftN_xor, shiftN_four_high]
theorem shiftN_add (m n c : Nat) : shiftN (m + n) c = shiftN m (shiftN n c) := by
  induction m with
  | zero => simp [shiftN]
  | succ m ih => rw [show m + 1 + n = (m + n) + 1 from by omega]; simp only [shiftN, ih]
theorem shr1_lt {c : Nat} (h : c < 4294967296) : shr1 c < 4294967296 := by
  unfold shr1
  refine Nat.xor_lt_two_pow (n := 32) (by omega) ?_
  split <;> decide
theorem shiftN_lt (n : Nat) {c : Nat} (h : c < 4294967296) : shiftN n c < 4294967296 := by
  induction n with
  | zero => exact h
  | succ n ih => exact shr1_lt ih
theorem stepB_lt {c b : Nat} (h : c < 4294967296) (hb : b < 256) : stepB c b < 4294967296 := shiftN_lt 8 (Nat.xor_lt_two_pow (n := 32) h (by omega))
theorem sumFrom_lt (l : List UInt8) : ∀ {c : Nat}, c < 4294967296 → sumFrom c l < 4294967296 := by
  induction l with
  | nil => intro c h; exact h
  | cons b l ih => intro c h; exact ih (stepB_lt h b.toNat_lt)
theorem sum_lt (l : List UInt8) : sum l < 4294967296 := Nat.xor_lt_two_pow (n := 32) (sumFrom_lt l (by decide)) (by decide)
theorem sumFrom_snoc (c : Nat) (l : List UInt8) (b : UInt8) : sumFrom c (l ++ [b]) = stepB (sumFrom c l) b.toNat := by simp [sumFrom]
end Dw
end Go.Proofs.YtjibbchfndhhpaaGreatDoor
