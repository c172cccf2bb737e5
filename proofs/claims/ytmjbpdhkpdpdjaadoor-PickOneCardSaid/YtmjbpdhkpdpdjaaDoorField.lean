/- Layer 6: the walks of field, and of its reference. -/
import Derived.Test.YtmjbpdhkpdpdjaaDoorCrc
namespace Go.Proofs.YtmjbpdhkpdpdjaaDoor
open Go.RowKit Go.Shelf
attribute [local go_sem] Oper.semAt_some

namespace Dw
/-- The number that bytes say, the greatest one first. -/
def getFrom (n : Nat) (l : List UInt8) : Nat := l.foldl (fun n b => n * 256 + b.toNat) n
def get (l : List UInt8) : Nat := getFrom 0 l
theorem getFrom_snoc (n : Nat) (l : List UInt8) (b : UInt8) : getFrom n (l ++ [b]) = getFrom n l * 256 + b.toNat := by simp [getFrom]
theorem getFrom_lt (l : List UInt8) : ∀ n m, n < 256 ^ m → getFrom n l < 256 ^ (m + l.length) := by
  induction l with
  | nil => intro n m h; simpa [getFrom] using h
  | cons b l ih =>
    intro n m h
    have := ih (n * 256 + b.toNat) (m + 1) (by rw [Nat.pow_succ]; have := b.toNat_lt; omega)
    rw [List.length_cons, show m + (l.length + 1) = m + 1 + l.length from by omega]
    exact this
theorem get_lt (l : List UInt8) : get l < 256 ^ l.length := by
  have := getFrom_lt l 0 0 (by decide)
  simpa [get] using this
end Dw

theorem pow256 {n : Nat} (h : n ≤ 8) : 256 ^ n ≤ 18446744073709551616 := by
  have : 256 ^ n ≤ 256 ^ 8 := Nat.pow_le_pow_right (by decide) h
  simpa using this

set_option maxHeartbeats 1000000 in
theorem fget_any (s : ByteArray) (hs : s.size ≤ 8) (w : World) :
    Calls Tryd.prog 113 #[.string s] w fun e w' => e = .returned (.int .u64 ((Dw.get s.data.toList : Nat) : Int)) ∧ Below w.heap.size w w' := by
  go_enter Tryd.func113, Tryd.ntmps113
  go_wp2_with fail
  go_loopw [2, 6] (fun c i wr => ∃ k : Nat, k ≤ s.size ∧ i = .int .i64 k ∧ c = .int .u64 ((Dw.get (s.data.toList.take k) : Nat) : Int) ∧ wr = w) (fun _ i _ => s.size - (intOf i).toNat)
  case atStart => exact ⟨0, Nat.zero_le _, rfl, rfl, rfl⟩
  case round =>
    obtain ⟨k, hk, rfl, rfl, rfl⟩ := hrel
    by_cases hlt : k < s.size
    · have Hst := Lib.hid (Dw.getFrom_snoc 0 (s.data.toList.take k) (s[k]'hlt))
      have Hsn := Lib.hid (bytes_snoc s k hlt)
      have hn : Dw.get (s.data.toList.take (k + 1)) < 18446744073709551616 := Nat.lt_of_lt_of_le (Dw.get_lt _) (pow256 (by rw [List.length_take]; omega))
      rw [Hsn.out] at hn
      unfold Dw.get at *
      rw [Hst.out] at hn
      generalize hcc : Dw.getFrom 0 (s.data.toList.take k) = c at *
      clear hcc
      have m1 : IntKind.u64.wrap ((c : Int) * 256) = (c : Int) * 256 := u64_id (by omega) (by omega)
      have m2 : IntKind.u64.wrap ((c : Int) * 256 + ((s[k]'hlt).toNat : Int)) = (c : Int) * 256 + ((s[k]'hlt).toNat : Int) := u64_id (by omega) (by omega)
      have m3 : IntKind.u64.wrap ((s[k]'hlt).toNat : Int) = ((s[k]'hlt).toNat : Int) := u64_id (by omega) (by have := (s[k]'hlt).toNat_lt; omega)
      go_wp2_with fail
      go_roundw
      case rel => exact ⟨k + 1, by omega, by go_num, by rw [Hsn.out, Hst.out]; exact int_val (by omega), trivial⟩
      case measure => simp [intOf]; omega
    · obtain rfl : k = s.size := by omega
      rw [List.take_of_length_le (by simp)] at *
      go_wp2_with fail
      go_ret
      exact ⟨rfl, Below.refl _ _⟩

set_option maxHeartbeats 1000000 in
theorem rget_any (s : ByteArray) (hs : s.size ≤ 8) (w : World) :
    Calls Tryd.prog 68 #[.string s] w fun e w' => e = .returned (.int .u64 ((Dw.get s.data.toList : Nat) : Int)) ∧ Below w.heap.size w w' := by
  go_enter Tryd.func68, Tryd.ntmps68
  go_wp2_with fail
  go_loopw [3, 4] (fun c i wr => ∃ k : Nat, k ≤ s.size ∧ i = .int .i64 k ∧ c = .int .u64 ((Dw.get (s.data.toList.take k) : Nat) : Int) ∧ wr = w) (fun _ i _ => s.size - (intOf i).toNat)
  case atStart => exact ⟨0, Nat.zero_le _, rfl, rfl, rfl⟩
  case round =>
    obtain ⟨k, hk, rfl, rfl, rfl⟩ := hrel
    by_cases hlt : k < s.size
    · have Hst := Lib.hid (Dw.getFrom_snoc 0 (s.data.toList.take k) (s[k]'hlt))
      have Hsn := Lib.hid (bytes_snoc s k hlt)
      have hn : Dw.get (s.data.toList.take (k + 1)) < 18446744073709551616 := Nat.lt_of_lt_of_le (Dw.get_lt _) (pow256 (by rw [List.length_take]; omega))
      rw [Hsn.out] at hn
      unfold Dw.get at *
      rw [Hst.out] at hn
      generalize hcc : Dw.getFrom 0 (s.data.toList.take k) = c at *
      clear hcc
      have hb := (s[k]'hlt).toNat_lt
      have m1 : IntKind.u64.wrap ((c : Int) * 256) = (c : Int) * 256 := u64_id (by omega) (by omega)
      have m2 := u64_join c (s[k]'hlt).toNat hn hb
      have m3 : IntKind.u64.wrap ((s[k]'hlt).toNat : Int) = ((s[k]'hlt).toNat : Int) := u64_id (by omega) (by omega)
      go_wp2_with fail
      go_roundw
      case rel => exact ⟨k + 1, by omega, by go_num, by rw [Hsn.out, Hst.out]; exact int_val (by omega), trivial⟩
      case measure => simp [intOf]; omega
    · obtain rfl : k = s.size := by omega
      rw [List.take_of_length_le (by simp)] at *
      go_wp2_with fail
      go_ret
      exact ⟨rfl, Below.refl _ _⟩
end Go.Proofs.YtmjbpdhkpdpdjaaDoor
