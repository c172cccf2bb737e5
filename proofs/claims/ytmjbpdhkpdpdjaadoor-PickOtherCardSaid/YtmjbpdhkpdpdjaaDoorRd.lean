/- Plain: what is read, by what is sound. -/
import Derived.Test.YtmjbpdhkpdpdjaaDoorRound
namespace Go.Proofs.YtmjbpdhkpdpdjaaDoor
namespace Dw
def ofT (s : List UInt8) (i : Int) : PS := ⟨i, genN s, (last s).1.seq, (last s).1.data⟩
theorem ofS_sound (s : List UInt8) (i : Int) (h : sound s = true) : ofS s i = ofT s i := by unfold ofS; rw [if_pos h]; rfl
theorem sound_nil : sound [] = false := by decide +kernel
theorem rd0 (a b : List UInt8) (ha : sound a = true) (h : sound b = false ∨ genN b ≤ genN a) : readS a b = ofT a 0 ∧ readE a b = 0 := by
  have e : best a b = ofT a 0 := by
    unfold best
    rw [← ofS_sound a 0 ha]
    split
    · rfl
    · rename_i hb
      rw [if_neg]
      rintro (h1 | h1)
      · rw [ha] at h1; cases h1
      · rcases h with h | h
        · exact hb h
        · omega
  unfold readS readE
  rw [e]
  exact ⟨if_neg (by simp [ofT]), if_neg (by simp [ofT])⟩
theorem rd1 (a b : List UInt8) (hb : sound b = true) (h : sound a = false ∨ genN a < genN b) : readS a b = ofT b 1 ∧ readE a b = 0 := by
  have e : best a b = ofT b 1 := by
    unfold best
    rw [← ofS_sound b 1 hb, if_neg (by rw [hb]; decide), if_pos h]
  unfold readS readE
  rw [e]
  exact ⟨if_neg (by simp [ofT]), if_neg (by simp [ofT])⟩
theorem rdN (a b : List UInt8) (ha : sound a = false) (hb : sound b = false) : readS a b = psZero ∧ readE a b = 10 := by
  have e : best a b = psNone := by unfold best ofS; rw [if_pos hb, if_neg (by rw [ha]; decide)]
  unfold readS readE
  rw [e]
  exact ⟨rfl, rfl⟩
end Dw
end Go.Proofs.YtmjbpdhkpdpdjaaDoor
