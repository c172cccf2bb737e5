/- Plain: bytes that say a number, and back. -/
import Derived.Test.YtmjbpdhkpdpdjaaDoorBody
namespace Go.Proofs.YtmjbpdhkpdpdjaaDoor
namespace Dw

theorem put_succ (w n : Nat) : put (w + 1) n = put w (n / 256) ++ [UInt8.ofNat (n % 256)] := by
  unfold put
  rw [List.range_succ, List.map_append, List.map_cons, List.map_nil]
  congr 1
  · apply List.map_congr_left
    intro i hi
    rw [List.mem_range] at hi
    rw [show w + 1 - 1 - i = w - 1 - i + 1 from by omega, Nat.pow_succ, Nat.mul_comm, ← Nat.div_div_eq_div_mul]
  · simp
theorem get_put (w : Nat) : ∀ n, get (put w n) = n % 256 ^ w := by
  induction w with
  | zero => intro n; simp [put, get, getFrom, Nat.mod_one]
  | succ w ih =>
    intro n
    rw [put_succ]
    unfold get at *
    rw [getFrom_snoc, ih, show (UInt8.ofNat (n % 256)).toNat = n % 256 from by simp, Nat.pow_succ, Nat.mul_comm (256 ^ w) 256, Nat.mod_mul]
    omega
theorem put_get (w : Nat) : ∀ l : List UInt8, l.length = w → put w (get l) = l := by
  induction w with
  | zero => intro l hl; rw [List.eq_nil_of_length_eq_zero hl]; rfl
  | succ w ih =>
    intro l hl
    have hne : l ≠ [] := by intro e; subst e; simp at hl
    have e := List.dropLast_concat_getLast hne
    rw [← e]
    generalize l.getLast hne = b
    have hd : l.dropLast.length = w := by simp [hl]
    generalize l.dropLast = d at *
    have hb := b.toNat_lt
    rw [put_succ]
    unfold get at *
    rw [getFrom_snoc, show (getFrom 0 d * 256 + b.toNat) / 256 = getFrom 0 d from by omega, show (getFrom 0 d * 256 + b.toNat) % 256 = b.toNat from by omega, ih d hd]
    simp
theorem rev4_rev4 (n : Nat) (h : n < 4294967296) : rev4 (rev4 n) = n := by
  have e : ∀ a b c d : Nat, a < 256 → b < 256 → c < 256 → d < 256 → rev4 (d * 16777216 + c * 65536 + b * 256 + a) = a * 16777216 + b * 65536 + c * 256 + d := by
    intro a b c d ha hb hc hd
    obtain ⟨h1, h2, h3, h4⟩ := four_bytes a b c d ha hb hc hd
    unfold rev4
    rw [Nat.div_one] at h4
    rw [h4, h3, h2, show (d * 16777216 + c * 65536 + b * 256 + a) / 16777216 = d from by omega]
  obtain ⟨a, b, c, d, ha, hb, hc, hd, rfl⟩ : ∃ a b c d : Nat, a < 256 ∧ b < 256 ∧ c < 256 ∧ d < 256 ∧ n = d * 16777216 + c * 65536 + b * 256 + a :=
    ⟨n % 256, n / 256 % 256, n / 65536 % 256, n / 16777216, by omega, by omega, by omega, by omega, by omega⟩
  rw [e a b c d ha hb hc hd, e d c b a hd hc hb ha]
theorem check_iff (c : List UInt8) (n : Nat) (hc : c.length = 4) (hn : n < 4294967296) : rev4 (get c) = n ↔ c = put 4 (rev4 n) := by
  have hg : get c < 4294967296 := by have := get_lt c; rwa [hc] at this
  constructor
  · rintro rfl
    rw [rev4_rev4 _ hg, put_get 4 c hc]
  · intro h
    have hr := rev4_lt n hn
    rw [h, get_put, Nat.mod_eq_of_lt (by simpa using hr), rev4_rev4 n hn]
/-- The parts of a place. -/
theorem parts (x0 x1 : UInt8) (q d c m : List UInt8) (hq : q.length = 8) (hd : d.length = 8) (hc : c.length = 4) :
    ((([x0] ++ ([x1] ++ (q ++ (d ++ (c ++ m))))).drop 2).take 8 = q ∧ (([x0] ++ ([x1] ++ (q ++ (d ++ (c ++ m))))).drop 10).take 8 = d ∧
    (([x0] ++ ([x1] ++ (q ++ (d ++ (c ++ m))))).drop 18).take 4 = c) ∧ ([x0] ++ ([x1] ++ (q ++ (d ++ (c ++ m))))).drop 22 = m := by
  have e2 : ([x0] ++ ([x1] ++ (q ++ (d ++ (c ++ m))))).drop 2 = q ++ (d ++ (c ++ m)) := rfl
  have e10 : ([x0] ++ ([x1] ++ (q ++ (d ++ (c ++ m))))).drop 10 = d ++ (c ++ m) := by
    rw [show 10 = 2 + 8 from rfl, ← List.drop_drop, e2, List.drop_left' hq]
  have e18 : ([x0] ++ ([x1] ++ (q ++ (d ++ (c ++ m))))).drop 18 = c ++ m := by
    rw [show 18 = 10 + 8 from rfl, ← List.drop_drop, e10, List.drop_left' hd]
  have e22 : ([x0] ++ ([x1] ++ (q ++ (d ++ (c ++ m))))).drop 22 = m := by
    rw [show 22 = 18 + 4 from rfl, ← List.drop_drop, e18, List.drop_left' hc]
  exact ⟨⟨by rw [e2, List.take_left' hq], by rw [e10, List.take_left' hd], by rw [e18, List.take_left' hc]⟩, e22⟩
theorem splits (l : List UInt8) (h : l.length = 24) : ∃ (x0 x1 : UInt8) (q d c m : List UInt8), q.length = 8 ∧ d.length = 8 ∧ c.length = 4 ∧ m.length = 2 ∧ l = [x0] ++ ([x1] ++ (q ++ (d ++ (c ++ m)))) := by
  match l, h with
  | x0 :: x1 :: t, h =>
    simp at h
    refine ⟨x0, x1, t.take 8, (t.drop 8).take 8, (t.drop 16).take 4, t.drop 20, by simp; omega, by simp; omega, by simp; omega, by simp; omega, ?_⟩
    rw [show t.drop 20 = (t.drop 16).drop 4 from by rw [List.drop_drop], List.take_append_drop, show t.drop 16 = (t.drop 8).drop 8 from by rw [List.drop_drop], List.take_append_drop, List.take_append_drop]
    rfl
end Dw
end Go.Proofs.YtmjbpdhkpdpdjaaDoor
