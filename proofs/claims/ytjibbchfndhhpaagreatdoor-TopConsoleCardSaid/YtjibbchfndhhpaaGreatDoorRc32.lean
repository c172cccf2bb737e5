/- What the statement's proof stands on, part 32: EqV, Aid20. -/
import Derived.Test.YtjibbchfndhhpaaGreatDoorRc26
import Derived.Laws.StructEq
set_option linter.unusedSimpArgs false
set_option linter.unusedVariables false
set_option maxRecDepth 100000
set_option maxHeartbeats 4000000
namespace Go.Proofs.YtjibbchfndhhpaaGreatDoor
open Go.RowKit Go.Shelf
attribute [local go_sem] Oper.semAt_some
theorem eqI (d : Nat) (a b c e : Int) (w : World) : (Op.equalIn (d + 2) 39 (.agg #[.int .i64 a, .int .i64 b]) (.agg #[.int .i64 c, .int .i64 e])).run Tryz.prog w = .ok (a == c && b == e) w := by
  have u3 := Tryz.underlying3
  have a3 := Tryz.isAgg3
  have z3 := Tryz.sizeOf3
  rw [Op.equalIn]
  simp only [Sem.run_bind, run_underlying Tryz.underlying39, Result.andThen_ok]
  simp only [Std.Legacy.Range.forIn_eq_forIn_range', Std.Legacy.Range.size, Nat.sub_zero, Nat.add_sub_cancel, Nat.div_one, List.range'_succ, List.range'_zero, List.forIn_cons, List.forIn_nil]
  go_simp
  by_cases h1 : a = c <;> by_cases h2 : b = e <;> simp [h1, h2]
theorem ba_tl (a c : ByteArray) : (a == c) = decide (a.toList = c.toList) := by
  rw [beq_toListBytes, Bool.eq_iff_iff]
  simp
theorem eqS (d : Nat) (a b c e : ByteArray) (w : World) : (Op.equalIn (d + 2) 38 (.agg #[.string a, .string b]) (.agg #[.string c, .string e])).run Tryz.prog w = .ok (a == c && b == e) w := by
  have u3 := Tryz.underlying9
  have a3 := Tryz.isAgg9
  have z3 := Tryz.sizeOf9
  rw [Op.equalIn]
  simp only [Sem.run_bind, run_underlying Tryz.underlying38, Result.andThen_ok]
  simp only [Std.Legacy.Range.forIn_eq_forIn_range', Std.Legacy.Range.size, Nat.sub_zero, Nat.add_sub_cancel, Nat.div_one, List.range'_succ, List.range'_zero, List.forIn_cons, List.forIn_nil]
  rw [ba_tl a c, ba_tl b e]
  go_simp
  by_cases h1 : a.toList = c.toList <;> by_cases h2 : b.toList = e.toList <;> simp [h1, h2]
@[go_sem] theorem eqI9 (a b c e : Int) (w : World) : (Op.equalIn 9999 39 (.agg #[.int .i64 a, .int .i64 b]) (.agg #[.int .i64 c, .int .i64 e])).run Tryz.prog w = .ok (a == c && b == e) w := eqI 9997 a b c e w
@[go_sem] theorem eqI8 (a b c e : Int) (w : World) : (Op.equalIn 9998 39 (.agg #[.int .i64 a, .int .i64 b]) (.agg #[.int .i64 c, .int .i64 e])).run Tryz.prog w = .ok (a == c && b == e) w := eqI 9996 a b c e w
@[go_sem] theorem eqS9 (a b c e : ByteArray) (w : World) : (Op.equalIn 9999 38 (.agg #[.string a, .string b]) (.agg #[.string c, .string e])).run Tryz.prog w = .ok (a == c && b == e) w := eqS 9997 a b c e w
@[go_sem] theorem eqS8 (a b c e : ByteArray) (w : World) : (Op.equalIn 9998 38 (.agg #[.string a, .string b]) (.agg #[.string c, .string e])).run Tryz.prog w = .ok (a == c && b == e) w := eqS 9996 a b c e w
theorem wpList_bin {P : Program} {w : World} {ops : Array Oper} {rest : List Oper} {o : Oper} {a : Act} {Q : Exit → Act → World → Prop} (hg : o.guard = none) (op : BinOp) (t t2 : TypeId) (x y : Operand) (hop : o.op = .binOp op t x y t2)
    (vx vy v : Value) (hx : a.eval x = vx) (hy : a.eval y = vy) (hr : (do eqGuard op t x y vx vy; binOp op t vx vy : Sem Value).run P w = .ok v w)
    (h : wpList P ops Q rest (a.put o.dst v) w) : wpList P ops Q (o :: rest) a w := by
  refine wpList_plain hg fun K hK => ?_
  unfold Oper.wp
  have e : (execOp a.eval o).run P w = .ok (.value v) w := by
    unfold execOp
    rw [hop]
    simp only [hx, hy]
    rw [Sem.run_bind] at hr
    cases hq : (eqGuard op t x y vx vy).run P w with
    | ok u w1 =>
      rw [hq] at hr
      have hr' : (binOp op t vx vy).run P w1 = .ok v w := hr
      simp [Sem.run_bind, hq, hr', Result.andThen]
    | halt h w1 =>
      rw [hq] at hr
      cases hr
  rw [e]
  exact hK _ _ h
theorem st_dec (a b : Dw.St) : a = b ↔ a.mo = b.mo ∧ a.ar = b.ar ∧ a.ho = b.ho ∧ a.la = b.la ∧ a.lo = b.lo ∧ a.iso = b.iso := by
  obtain ⟨a0, a1, a2, a3, a4, a5⟩ := a
  obtain ⟨b0, b1, b2, b3, b4, b5⟩ := b
  simp
theorem st_neq (x y : Operand) (a b : Dw.St) (w : World) : (do eqGuard .neq 28 x y (stV a) (stV b); binOp .neq 28 (stV a) (stV b) : Sem Value).run Tryz.prog w = .ok (.bool (!decide (a = b))) w := by
  rw [show decide (a = b) = decide (a.mo = b.mo ∧ a.ar = b.ar ∧ a.ho = b.ho ∧ a.la = b.la ∧ a.lo = b.lo ∧ a.iso = b.iso) from decide_eq_decide.2 (st_dec a b)]
  go_simp
  (repeat' split) <;> simp_all
end Go.Proofs.YtjibbchfndhhpaaGreatDoor
namespace Go.Proofs.YtjibbchfndhhpaaGreatDoor
open Go.RowKit Go.Shelf
end Go.Proofs.YtjibbchfndhhpaaGreatDoor
