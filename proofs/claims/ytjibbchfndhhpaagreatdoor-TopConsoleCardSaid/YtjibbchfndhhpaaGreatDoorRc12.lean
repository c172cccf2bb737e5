/- What the statement's proof stands on, part 12: Record, Low. -/
import Derived.Test.YtjibbchfndhhpaaGreatDoorRc5
import Derived.Test.YtjibbchfndhhpaaGreatDoorRc11
set_option linter.unusedSimpArgs false
set_option linter.unusedVariables false
set_option maxRecDepth 100000
set_option maxHeartbeats 4000000
namespace Go.Proofs.YtjibbchfndhhpaaGreatDoor
open Go.RowKit Go.Shelf
attribute [local go_sem] Oper.semAt_some
theorem take_any (b k : Nat) (s : ByteArray) (hk : k ≤ s.size) (w : World) (hc : w.cell? ⟨b, 0, none⟩ = some (.string s)) (hf : w.frozen? ⟨b, 0, none⟩ = false) :
    Calls Tryz.prog 231 #[.pointer (some ⟨b, 0, none⟩), .int .i64 k] w fun e w' => e = .returned (.string (s.extract 0 k)) ∧ w'.cell? ⟨b, 0, none⟩ = some (.string (s.extract k s.size)) ∧ w'.frozen? ⟨b, 0, none⟩ = false ∧ KeepBut (fun g => g = b) w w' := by
  have k1 : (0 : Int) ≤ (k : Int) := by omega
  have k2 : (k : Int) ≤ (s.size : Int) := by omega
  go_enter Tryz.func231, Tryz.ntmps231
  go_wp2_with fail
  refine wp_pure [0,1,2,3,4,5,6,7,8,9,10,11,12,13] 14 (by kernel_rfl) (by kernel_rfl) rfl ?_
  (apply rat; (focus (intro w' hk; have c0 := look hk hc; repeat' (first | exact rn | ((first | refine' rv ?_ rfl rfl (by go_simp; first | done | with_reducible rfl | exact rfl) | refine' rs ?_ rfl rfl); try simp only [Act.put, List.setIfInBounds_toArray, List.set_cons_zero, List.set_cons_succ])))))
  intro w1 hk1
  have c1 := look hk1 hc
  have f1 := (kfrozen hk1 b 0 (lt_of_cell hc)).trans hf
  simp only [List.drop_succ_cons, List.drop_zero]
  clear hc hf
  go_wp2_with fail
  go_ret
  refine ⟨rfl, World.cell?_setCell_same _ _ _ c1, by rw [World.frozen?_setCell]; exact f1, KeepBut.setCell (X := fun g => g = b) (hk1.mono (fun _ _ h => h.elim)) (p := ⟨b, 0, none⟩) rfl _⟩
def Dw.rev4 (n : Nat) : Nat := n % 256 * 16777216 + n / 256 % 256 * 65536 + n / 65536 % 256 * 256 + n / 16777216
theorem mask_mid (x : Nat) : x &&& 16711680 = x / 65536 % 256 * 65536 := by
  apply Nat.eq_of_testBit_eq
  intro i
  rw [show (16711680 : Nat) = 255 * 2 ^ 16 from rfl, show x / 65536 % 256 * 65536 = (x / 2 ^ 16 % 2 ^ 8) * 2 ^ 16 from rfl, Nat.testBit_and, Nat.testBit_mul_two_pow, Nat.testBit_mul_two_pow, Nat.testBit_mod_two_pow, Nat.testBit_div_two_pow, show (255 : Nat) = 2 ^ 8 - 1 from rfl, Nat.testBit_two_pow_sub_one]
  by_cases h : 16 ≤ i
  · rw [show i - 16 + 16 = i from by omega]
    simp [h, Bool.and_comm]
  · simp [h]
theorem mask_both (x : Nat) : x &&& 16711935 = x / 65536 % 256 * 65536 + x % 256 := by
  rw [show (16711935 : Nat) = 16711680 ||| 255 from rfl, Nat.and_or_distrib_left, mask_mid, nat_mask8, nat_join 16 _ _ (by simp) (by omega)]
theorem or_four (a b c d : Nat) (ha : a < 256) (hc : c < 256) (hd : d < 256) : (a * 65536 + c) ||| ((b * 65536 + d) * 256) = b * 16777216 + a * 65536 + d * 256 + c := by
  have j1 := nat_join 16 (a * 65536) c (by simp) (by omega)
  have j2 := nat_join 24 (b * 16777216) (d * 256) (by simp) (by omega)
  have j3 := nat_join 8 (d * 256) c (by simp) (by omega)
  have j4 := nat_join 16 (a * 65536) (d * 256 + c) (by simp) (by omega)
  have j5 := nat_join 24 (b * 16777216) (a * 65536 + (d * 256 + c)) (by simp) (by omega)
  rw [← j1, show (b * 65536 + d) * 256 = b * 16777216 + d * 256 from by omega, ← j2, show a * 65536 ||| c ||| (b * 16777216 ||| d * 256) = b * 16777216 ||| (a * 65536 ||| (d * 256 ||| c)) from by ac_rfl, j3, j4, j5]
  omega
theorem rev_any (n : Nat) (hn : n < 4294967296) (w : World) :
    Calls Tryz.prog 226 #[.int .u32 n] w fun e w' => e = .returned (.int .u32 ((Dw.rev4 n : Nat) : Int)) ∧ Below w.heap.size w w' := by
  obtain ⟨a, ha⟩ : ∃ a, a = n / 16777216 % 256 := ⟨_, rfl⟩
  obtain ⟨b, hb⟩ : ∃ b, b = n / 65536 % 256 := ⟨_, rfl⟩
  obtain ⟨c, hc⟩ : ∃ c, c = n / 256 % 256 := ⟨_, rfl⟩
  obtain ⟨d, hd⟩ : ∃ d, d = n % 256 := ⟨_, rfl⟩
  obtain ⟨q, hq⟩ : ∃ q, q = b * 16777216 + a * 65536 + d * 256 + c := ⟨_, rfl⟩
  have e1 : bits .and .u32 ((n : Int) / 256) 16711935 = (a : Int) * 65536 + (c : Int) := by
    rw [show (n : Int) / 256 = ((n / 256 : Nat) : Int) from by omega, show (16711935 : Int) = ((16711935 : Nat) : Int) from rfl, u32_and_nat _ _ (by omega) (by decide), mask_both, Nat.div_div_eq_div_mul]; omega
  have e2 : bits .and .u32 (n : Int) 16711935 = (b : Int) * 65536 + (d : Int) := by
    rw [show (16711935 : Int) = ((16711935 : Nat) : Int) from rfl, u32_and_nat _ _ hn (by decide), mask_both]; omega
  have e3 : bits .or .u32 ((a : Int) * 65536 + (c : Int)) (((b : Int) * 65536 + (d : Int)) * 256) = (q : Int) := by
    rw [show (a : Int) * 65536 + (c : Int) = ((a * 65536 + c : Nat) : Int) from by omega, show ((b : Int) * 65536 + (d : Int)) * 256 = (((b * 65536 + d) * 256 : Nat) : Int) from by omega, u32_or_nat _ _ (by omega) (by omega), or_four a b c d (by omega) (by omega) (by omega), hq]
  have e4 : bits .or .u32 ((q : Int) / 65536) ((q : Int) * 65536 % 4294967296) = ((Dw.rev4 n : Nat) : Int) := by
    have j := nat_join 16 ((d * 256 + c) * 65536) (b * 256 + a) (by simp) (by omega)
    rw [show (q : Int) / 65536 = ((b * 256 + a : Nat) : Int) from by omega, show (q : Int) * 65536 % 4294967296 = (((d * 256 + c) * 65536 : Nat) : Int) from by omega, u32_or_nat _ _ (by omega) (by omega), Nat.or_comm, j]
    unfold Dw.rev4
    omega
  have v1 : 0 ≤ (b : Int) ∧ (b : Int) < 256 := by omega
  have v2 : 0 ≤ (d : Int) ∧ (d : Int) < 256 := by omega
  have v3 : (((b : Int) * 65536 + (d : Int)) * 256) % 4294967296 = ((b : Int) * 65536 + (d : Int)) * 256 := by omega
  clear ha hb hc hd hq
  go_enter Tryz.func226, Tryz.ntmps226
  go_wp2_with fail
  go_ret
  exact ⟨rfl, Below.refl _ _⟩
theorem four_bytes (a b c d : Nat) (ha : a < 256) (hb : b < 256) (hc : c < 256) (hd : d < 256) :
    (d * 16777216 + c * 65536 + b * 256 + a) / 16777216 % 256 = d ∧ (d * 16777216 + c * 65536 + b * 256 + a) / 65536 % 256 = c ∧ (d * 16777216 + c * 65536 + b * 256 + a) / 256 % 256 = b ∧ (d * 16777216 + c * 65536 + b * 256 + a) / 1 % 256 = a :=
  ⟨by omega, by omega, by omega, by omega⟩
end Go.Proofs.YtjibbchfndhhpaaGreatDoor
