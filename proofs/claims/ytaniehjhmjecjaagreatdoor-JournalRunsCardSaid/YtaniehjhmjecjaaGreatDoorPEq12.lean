/- What '==' says of two arrays of a flash. -/
import Derived.Test.YtaniehjhmjecjaaGreatDoorP20
namespace Go.Proofs.YtaniehjhmjecjaaGreatDoor
open Go.RowKit Go.Shelf

theorem ba_self (a : ByteArray) : (a == a) = true := by
  obtain ⟨a⟩ := a
  show (a == a) = true
  simp
theorem eqS (d : Nat) (a b : ByteArray) (w : World) : (Op.equalIn (d + 2) 22 (.agg #[.string a, .string b]) (.agg #[.string a, .string b])).run Tryz.prog w = .ok true w := by
  have u3 := Tryz.underlying9
  have a3 := Tryz.isAgg9
  have z3 := Tryz.sizeOf9
  have h1 := ba_self a; have h2 := ba_self b
  rw [Op.equalIn]
  simp only [Sem.run_bind, run_underlying Tryz.underlying22, Result.andThen_ok]
  simp only [Std.Legacy.Range.forIn_eq_forIn_range', Std.Legacy.Range.size, Nat.sub_zero, Nat.add_sub_cancel, Nat.div_one, List.range'_succ, List.range'_zero, List.forIn_cons, List.forIn_nil]
  go_simp
theorem eqI (d : Nat) (a b c e : Int) (w : World) : (Op.equalIn (d + 2) 23 (.agg #[.int .i64 a, .int .i64 b]) (.agg #[.int .i64 c, .int .i64 e])).run Tryz.prog w = .ok (a == c && b == e) w := by
  have u3 := Tryz.underlying3
  have a3 := Tryz.isAgg3
  have z3 := Tryz.sizeOf3
  rw [Op.equalIn]
  simp only [Sem.run_bind, run_underlying Tryz.underlying23, Result.andThen_ok]
  simp only [Std.Legacy.Range.forIn_eq_forIn_range', Std.Legacy.Range.size, Nat.sub_zero, Nat.add_sub_cancel, Nat.div_one, List.range'_succ, List.range'_zero, List.forIn_cons, List.forIn_nil]
  go_simp
  by_cases h1 : a = c <;> by_cases h2 : b = e <;> simp [h1, h2]
@[go_sem] theorem eqS9 (a b : ByteArray) (w : World) : (Op.equalIn 9999 22 (.agg #[.string a, .string b]) (.agg #[.string a, .string b])).run Tryz.prog w = .ok true w := by
  exact eqS 9997 a b w
@[go_sem] theorem eqI9 (a b : Int) (w : World) : (Op.equalIn 9999 23 (.agg #[.int .i64 a, .int .i64 b]) (.agg #[.int .i64 a, .int .i64 b])).run Tryz.prog w = .ok true w := by
  have := eqI 9997 a b a b w
  simpa using this
@[go_sem] theorem eqS8 (a b : ByteArray) (w : World) : (Op.equalIn 9998 22 (.agg #[.string a, .string b]) (.agg #[.string a, .string b])).run Tryz.prog w = .ok true w := by
  exact eqS 9996 a b w
@[go_sem] theorem eqI8 (a b : Int) (w : World) : (Op.equalIn 9998 23 (.agg #[.int .i64 a, .int .i64 b]) (.agg #[.int .i64 a, .int .i64 b])).run Tryz.prog w = .ok true w := by
  have := eqI 9996 a b a b w
  simpa using this
end Go.Proofs.YtaniehjhmjecjaaGreatDoor
