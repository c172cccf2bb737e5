/- Plain: what is encoded is decoded; a bank of one slot. -/
import Derived.Test.YtmjbpdhkpdpdjaaDoorLaw10
namespace Go.Proofs.YtmjbpdhkpdpdjaaDoor
namespace Dw

theorem encode_parts (k q d : Nat) : encode k q d = [165] ++ ([UInt8.ofNat k] ++ (put 8 q ++ (put 8 d ++ (put 4 (rev4 (sum (head k q d))) ++ [90, 60])))) := by
  unfold encode body head
  simp
theorem not_blank (x : UInt8) (l : List UInt8) (h : x ≠ 255) : blankB (x :: l) = false := by
  unfold blankB
  rw [decide_eq_false_iff_not, List.count_cons_of_ne h, List.length_cons]
  have := List.count_le_length (a := (255 : UInt8)) (l := l)
  omega
theorem take18 (k q d : Nat) : (encode k q d).take 18 = head k q d := by
  unfold encode body
  rw [List.append_assoc, List.take_left' (head_length k q d)]
theorem decode_encode (k q d : Nat) (h1 : 1 ≤ k) (h3 : k ≤ 3) (hq : q < 18446744073709551616) (hd : d < 18446744073709551616) : decodeE (encode k q d) = 0 ∧ decodeR (encode k q d) = ⟨k, q, d⟩ := by
  have hp := parts 165 (UInt8.ofNat k) (put 8 q) (put 8 d) (put 4 (rev4 (sum (head k q d)))) [90, 60] (put_length 8 q) (put_length 8 d) (put_length 4 _)
  rw [← encode_parts] at hp
  obtain ⟨⟨p1, p2, p3⟩, p4⟩ := hp
  have hk : (UInt8.ofNat k).toNat = k := by simp; omega
  have g0 : (encode k q d).getD 0 0 = 165 := by rw [encode_parts]; rfl
  have g1 : (encode k q d).getD 1 0 = UInt8.ofNat k := by rw [encode_parts]; rfl
  have hE : decodeE (encode k q d) = 0 := by
    unfold decodeE
    rw [if_neg (by rw [encode_length]; simp), if_neg (by rw [encode_parts, List.singleton_append, not_blank 165 _ (by decide)]; decide), g0, if_neg (by simp), p3, take18, if_neg (by simp), g1, hk, if_neg (by omega), p4, if_neg (by simp)]
  refine ⟨hE, ?_⟩
  unfold decodeR
  rw [if_pos hE]
  unfold recOf
  rw [g1, hk, p1, p2, get_put, get_put, Nat.mod_eq_of_lt (by simpa using hq), Nat.mod_eq_of_lt (by simpa using hd)]

theorem slots48 : slots 48 = 1 := by decide
theorem oneB_place0 (g q d : Nat) : slot (oneB g q d) 0 = encode 1 g 0 := by
  unfold slot
  rw [oneB_length, slots48, if_pos (by decide)]
  unfold place oneB
  rw [List.drop_zero, List.take_left' (encode_length 1 g 0)]
theorem oneB_place1 (g q d : Nat) : slot (oneB g q d) 1 = encode 3 q d := by
  unfold slot
  rw [oneB_length, slots48, if_pos (by decide)]
  unfold place oneB
  rw [show 24 * 1 = 24 from rfl, List.drop_left' (encode_length 1 g 0), List.take_of_length_le (by rw [encode_length]; omega)]
theorem oneB_all (g q d : Nat) (hg : g < 18446744073709551616) (hq : q < 18446744073709551616) (hd : d < 18446744073709551616) :
    sound (oneB g q d) = true ∧ genN (oneB g q d) = g ∧ (last (oneB g q d)).1 = ⟨3, q, d⟩ := by
  obtain ⟨a1, a2⟩ := decode_encode 1 g 0 (by decide) (by decide) hg (by decide)
  obtain ⟨b1, b2⟩ := decode_encode 3 q d (by decide) (by decide) hq hd
  have s0 : state (oneB g q d) 0 = 2 := by
    unfold state stateOf
    rw [oneB_place0, a1, if_neg (by decide), if_pos ⟨rfl, by rw [a2]; simp⟩]
  have s1 : state (oneB g q d) 1 = 2 := by
    unfold state stateOf
    rw [oneB_place1, b1, if_neg (by decide), if_pos ⟨rfl, by rw [b2]; simp⟩]
  have hl : last (oneB g q d) = (⟨3, q, d⟩, 0) := by
    unfold last
    rw [oneB_length, slots48, show (1 : Nat) = 0 + 1 from rfl, lastN_succ]
    unfold lastStep
    rw [Nat.zero_add, s1, oneB_place1, b2, if_pos ⟨rfl, .inl (by simp [lastN])⟩]
  refine ⟨?_, ?_, by rw [hl]⟩
  · unfold sound genE
    rw [s0, hl]
    simp
  · unfold genN
    rw [s0, if_pos rfl, oneB_place0, a2]
theorem ffs48_unsound : sound (ffs 48) = false := by decide +kernel
end Dw
end Go.Proofs.YtmjbpdhkpdpdjaaDoor
