/- What the statement's proof stands on, part 28: EqV, Aid20. -/
import Derived.Test.YtcadgecnlahkgaaGreatDoorAj27
import Derived.Laws.StructEq
set_option linter.unusedSimpArgs false
set_option linter.unusedVariables false
set_option maxRecDepth 100000
set_option maxHeartbeats 4000000
namespace Go.Proofs.YtcadgecnlahkgaaGreatDoor
open Go.RowKit Go.Shelf
attribute [local go_sem] Oper.semAt_some
theorem eqI (d : Nat) (a b c e : Int) (w : World) : (Op.equalIn (d + 2) 25 (.agg #[.int .i64 a, .int .i64 b]) (.agg #[.int .i64 c, .int .i64 e])).run Tryz.prog w = .ok (a == c && b == e) w := by
  have u3 := Tryz.underlying3
  have a3 := Tryz.isAgg3
  have z3 := Tryz.sizeOf3
  rw [Op.equalIn]
  simp only [Sem.run_bind, run_underlying Tryz.underlying25, Result.andThen_ok]
  simp only [Std.Legacy.Range.forIn_eq_forIn_range', Std.Legacy.Range.size, Nat.sub_zero, Nat.add_sub_cancel, Nat.div_one, List.range'_succ, List.range'_zero, List.forIn_cons, List.forIn_nil]
  go_simp
  by_cases h1 : a = c <;> by_cases h2 : b = e <;> simp [h1, h2]
theorem ba_tl (a c : ByteArray) : (a == c) = decide (a.toList = c.toList) := by
  rw [beq_toListBytes, Bool.eq_iff_iff]
  simp
theorem eqS (d : Nat) (a b c e : ByteArray) (w : World) : (Op.equalIn (d + 2) 24 (.agg #[.string a, .string b]) (.agg #[.string c, .string e])).run Tryz.prog w = .ok (a == c && b == e) w := by
  have u3 := Tryz.underlying9
  have a3 := Tryz.isAgg9
  have z3 := Tryz.sizeOf9
  rw [Op.equalIn]
  simp only [Sem.run_bind, run_underlying Tryz.underlying24, Result.andThen_ok]
  simp only [Std.Legacy.Range.forIn_eq_forIn_range', Std.Legacy.Range.size, Nat.sub_zero, Nat.add_sub_cancel, Nat.div_one, List.range'_succ, List.range'_zero, List.forIn_cons, List.forIn_nil]
  rw [ba_tl a c, ba_tl b e]
  go_simp
  by_cases h1 : a.toList = c.toList <;> by_cases h2 : b.toList = e.toList <;> simp [h1, h2]
@[go_sem] theorem eqI9 (a b c e : Int) (w : World) : (Op.equalIn 9999 25 (.agg #[.int .i64 a, .int .i64 b]) (.agg #[.int .i64 c, .int .i64 e])).run Tryz.prog w = .ok (a == c && b == e) w := eqI 9997 a b c e w
@[go_sem] theorem eqI8 (a b c e : Int) (w : World) : (Op.equalIn 9998 25 (.agg #[.int .i64 a, .int .i64 b]) (.agg #[.int .i64 c, .int .i64 e])).run Tryz.prog w = .ok (a == c && b == e) w := eqI 9996 a b c e w
@[go_sem] theorem eqS9 (a b c e : ByteArray) (w : World) : (Op.equalIn 9999 24 (.agg #[.string a, .string b]) (.agg #[.string c, .string e])).run Tryz.prog w = .ok (a == c && b == e) w := eqS 9997 a b c e w
@[go_sem] theorem eqS8 (a b c e : ByteArray) (w : World) : (Op.equalIn 9998 24 (.agg #[.string a, .string b]) (.agg #[.string c, .string e])).run Tryz.prog w = .ok (a == c && b == e) w := eqS 9996 a b c e w
theorem wpList_bin {P : Program} {w : World} {ops : Array Oper} {rest : List Oper} {o : Oper} {a : Act} {Q : Exit → Act → World → Prop} (hg : o.guard = none) (op : BinOp) (t t2 : TypeId) (x y : Operand) (hop : o.op = .binOp op t x y t2)
    (vx vy v : Value) (hx : a.eval x = vx) (hy : a.eval y = vy) (hr : (do eqGuard op t x y vx vy; binOp op t vx vy : Sem Value).run P w = .ok v w)
    (h : wpList P ops Q rest (a.put o.dst v) w) : wpList P ops Q (o :: rest) a w := by
  refine wpList_plain hg fun K hK => ?_
  unfold Oper.wp
  have e : (execOp a.eval o).run P w = .ok (.value v) w := by
    unfold execOp
    rw [hop]
    simp only [hx, hy]
    rw [Sem.run_bind] at hr
    cases hq : (eqGuard op t x y vx vy).run P w with
    | ok u w1 =>
      rw [hq] at hr
      have hr' : (binOp op t vx vy).run P w1 = .ok v w := hr
      simp [Sem.run_bind, hq, hr', Result.andThen]
    | halt h w1 =>
      rw [hq] at hr
      cases hr
  rw [e]
  exact hK _ _ h
theorem st_dec (a b : Dw.St) : a = b ↔ a.mo = b.mo ∧ a.ar = b.ar ∧ a.ho = b.ho ∧ a.la = b.la ∧ a.lo = b.lo ∧ a.iso = b.iso := by
  obtain ⟨a0, a1, a2, a3, a4, a5⟩ := a
  obtain ⟨b0, b1, b2, b3, b4, b5⟩ := b
  simp
theorem st_neq (x y : Operand) (a b : Dw.St) (w : World) : (do eqGuard .neq 29 x y (stV a) (stV b); binOp .neq 29 (stV a) (stV b) : Sem Value).run Tryz.prog w = .ok (.bool (!decide (a = b))) w := by
  rw [show decide (a = b) = decide (a.mo = b.mo ∧ a.ar = b.ar ∧ a.ho = b.ho ∧ a.la = b.la ∧ a.lo = b.lo ∧ a.iso = b.iso) from decide_eq_decide.2 (st_dec a b)]
  go_simp
  (repeat' split) <;> simp_all
theorem rst_eq (x y : Operand) (a b : Dw.St) (w : World) : (do eqGuard .eql 38 x y (stV a) (stV b); binOp .eql 38 (stV a) (stV b) : Sem Value).run Tryz.prog w = .ok (.bool (decide (a = b))) w := by
  rw [show decide (a = b) = decide (a.mo = b.mo ∧ a.ar = b.ar ∧ a.ho = b.ho ∧ a.la = b.la ∧ a.lo = b.lo ∧ a.iso = b.iso) from decide_eq_decide.2 (st_dec a b)]
  go_simp
  (repeat' split) <;> simp_all
theorem st_eq (x y : Operand) (a b : Dw.St) (w : World) : (do eqGuard .eql 29 x y (stV a) (stV b); binOp .eql 29 (stV a) (stV b) : Sem Value).run Tryz.prog w = .ok (.bool (decide (a = b))) w := by
  rw [show decide (a = b) = decide (a.mo = b.mo ∧ a.ar = b.ar ∧ a.ho = b.ho ∧ a.la = b.la ∧ a.lo = b.lo ∧ a.iso = b.iso) from decide_eq_decide.2 (st_dec a b)]
  go_simp
  (repeat' split) <;> simp_all
end Go.Proofs.YtcadgecnlahkgaaGreatDoor
namespace Go.Proofs.YtcadgecnlahkgaaGreatDoor
open Go.RowKit Go.Shelf
theorem wpList_load_part_on {P : Program} {w : World} {ops : Array Oper} {rest : List Oper} {o : Oper} {a : Act} {Q : Exit → Act → World → Prop} (hg : Region.wanted o (yielded ops a.tmps) = true) (t : TypeId) (p : Operand) (hop : o.op = .load t p)
    (off : Nat) (part : Array Value) {b : Nat} {c : Array Value} {t' : TypeId} {fr : Nat × Nat} {d : TypeDesc} (hp : a.eval p = .pointer (some ⟨b, off, none⟩)) (hb : w.heap[b]? = some (.cells c t' fr))
    (hu : P.underlying t = some d) (hd : (match d with | .struct _ | .array _ _ => true | _ => false) = true) (hi : (P.info? t).map (·.size) = some part.size) (hc : (c.toList.drop off).take part.size = part.toList)
    (h : wpList P ops Q rest (a.put o.dst (.agg part)) w) : wpList P ops Q (o :: rest) a w := by
  refine BigFrame.wpList_want hg fun K hK => ?_
  unfold Oper.wp
  have hl := run_loadVar_part (P := P) w b off t' t c part fr d hb hu hd hi hc
  simp [execOp, hop, hp, Instr.loadAt, Instr.sureAddr, hl, Result.andThen]
  exact hK _ _ h
theorem wpList_bin_on {P : Program} {w : World} {ops : Array Oper} {rest : List Oper} {o : Oper} {a : Act} {Q : Exit → Act → World → Prop} (hg : Region.wanted o (yielded ops a.tmps) = true) (op : BinOp) (t t2 : TypeId) (x y : Operand) (hop : o.op = .binOp op t x y t2)
    (vx vy v : Value) (hx : a.eval x = vx) (hy : a.eval y = vy) (hr : (do eqGuard op t x y vx vy; binOp op t vx vy : Sem Value).run P w = .ok v w)
    (h : wpList P ops Q rest (a.put o.dst v) w) : wpList P ops Q (o :: rest) a w := by
  refine BigFrame.wpList_want hg fun K hK => ?_
  unfold Oper.wp
  have e : (execOp a.eval o).run P w = .ok (.value v) w := by
    unfold execOp
    rw [hop]
    simp only [hx, hy]
    rw [Sem.run_bind] at hr
    cases hq : (eqGuard op t x y vx vy).run P w with
    | ok u w1 =>
      rw [hq] at hr
      have hr' : (binOp op t vx vy).run P w1 = .ok v w := hr
      simp [Sem.run_bind, hq, hr', Result.andThen]
    | halt h w1 =>
      rw [hq] at hr
      cases hr
  rw [e]
  exact hK _ _ h
end Go.Proofs.YtcadgecnlahkgaaGreatDoor
