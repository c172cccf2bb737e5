/- What the statement's proof stands on, part 35: Law20, Stood20, Shown20, Show20, LawB20, Nb. -/
import Derived.Test.YtnaokijcggbfdaaGreatDoorBe29
import Derived.Test.YtnaokijcggbfdaaGreatDoorBe32
import Derived.Test.YtnaokijcggbfdaaGreatDoorBe34
import Derived.Test.YtnaokijcggbfdaaGreatDoorBe28
import Derived.Test.YtnaokijcggbfdaaGreatDoorBe12
import Derived.Test.YtnaokijcggbfdaaGreatDoorBe20
set_option linter.unusedSimpArgs false
set_option linter.unusedVariables false
set_option maxRecDepth 100000
set_option maxHeartbeats 4000000
namespace Go.Proofs.YtnaokijcggbfdaaGreatDoor
open Go.RowKit Go.Shelf
attribute [local go_sem] Oper.semAt_some
theorem scommand_any (x : Dw.Su) (c : Dw.Cmd) (p : Dw.Pw) (hf : Dw.FlOk x.f) (hl : Dw.legal x.s = true) (hla : c.la < 18446744073709551616) (hlo : c.lo < 18446744073709551616) (w : World) (hn : NoneAt w) :
    Calls Tryz.prog 12 #[suV x, cmV c, pwV p] w fun e w' => e = .returned (.tuple #[suV (Dw.commandX x c p), .int .i64 (Dw.commandE x c p)]) ∧ Below w.heap.size w w' :=
  scommand_core x c p hf w hn (fun w => delta_any x.s (Dw.legal_iso hl) c hla hlo w) (fun _ => Dw.deltaS_legal hl c)
namespace Dw
def suEq (a b : Su) : Bool := decide (a.f.a = b.f.a ∧ a.f.b = b.f.b ∧ a.f.e0 = b.f.e0 ∧ a.f.e1 = b.f.e1 ∧ a.f.li = b.f.li ∧ a.s = b.s ∧ a.ph = b.ph ∧ a.vo = b.vo ∧ a.n = b.n)
theorem suEq_iff (a b : Su) : suEq a b = true ↔ a = b := by
  obtain ⟨⟨_, _, _, _, _⟩, _, _, _, _⟩ := a
  obtain ⟨⟨_, _, _, _, _⟩, _, _, _, _⟩ := b
  unfold suEq
  simp [and_assoc]
theorem suEq_refl (a : Su) : suEq a a = true := (suEq_iff a a).2 rfl
end Dw
theorem ba_list (x y : List UInt8) : ((⟨x.toArray⟩ : ByteArray) == ⟨y.toArray⟩) = decide (x = y) := by
  rw [ba_tl]
  refine decide_eq_decide.2 ?_
  rw [ByteArray.toList_mk, ByteArray.toList_mk]
theorem suEq_parts (a b : Dw.Su) : Dw.suEq a b = decide (a.f.a = b.f.a ∧ a.f.b = b.f.b ∧ a.f.e0 = b.f.e0 ∧ a.f.e1 = b.f.e1 ∧ a.f.li = b.f.li ∧ (a.s.mo = b.s.mo ∧ a.s.ar = b.s.ar ∧ a.s.ho = b.s.ho ∧ a.s.la = b.s.la ∧ a.s.lo = b.s.lo ∧ a.s.iso = b.s.iso) ∧ a.ph = b.ph ∧ a.vo = b.vo ∧ a.n = b.n) := by
  unfold Dw.suEq
  exact decide_eq_decide.2 (by rw [st_dec])
theorem su_eq (x y : Operand) (a b : Dw.Su) (w : World) : (do eqGuard .eql 31 x y (suV a) (suV b); binOp .eql 31 (suV a) (suV b) : Sem Value).run Tryz.prog w = .ok (.bool (Dw.suEq a b)) w := by
  rw [suEq_parts]
  go_simp
  simp only [ba_list]
  by_cases q0 : a.n = b.n
  rotate_left
  · simp [q0]
  by_cases q1 : a.vo = b.vo
  rotate_left
  · simp [q1]
  by_cases q2 : a.ph = b.ph
  rotate_left
  · simp [q2]
  by_cases q3 : a.s.iso = b.s.iso
  rotate_left
  · simp [q3]
  by_cases q4 : a.s.lo = b.s.lo
  rotate_left
  · simp [q4]
  by_cases q5 : a.s.la = b.s.la
  rotate_left
  · simp [q5]
  by_cases q6 : a.s.ho = b.s.ho
  rotate_left
  · simp [q6]
  by_cases q7 : a.s.ar = b.s.ar
  rotate_left
  · simp [q7]
  by_cases q8 : a.s.mo = b.s.mo
  rotate_left
  · simp [q8]
  by_cases q9 : a.f.li = b.f.li
  rotate_left
  · simp [q9]
  by_cases q10 : a.f.e1 = b.f.e1
  rotate_left
  · simp [q10]
  by_cases q11 : a.f.e0 = b.f.e0
  rotate_left
  · simp [q11]
  by_cases q12 : a.f.b = b.f.b
  rotate_left
  · simp [q12]
  by_cases q13 : a.f.a = b.f.a
  rotate_left
  · simp [q13]
  simp [q0, q1, q2, q3, q4, q5, q6, q7, q8, q9, q10, q11, q12, q13]
end Go.Proofs.YtnaokijcggbfdaaGreatDoor
namespace Go.Proofs.YtnaokijcggbfdaaGreatDoor
open Go.RowKit Go.Shelf
attribute [local go_sem] Oper.semAt_some
namespace Dw
end Dw
end Go.Proofs.YtnaokijcggbfdaaGreatDoor
namespace Go.Proofs.YtnaokijcggbfdaaGreatDoor
open Go.RowKit Go.Shelf
attribute [local go_sem] Oper.semAt_some
end Go.Proofs.YtnaokijcggbfdaaGreatDoor
namespace Go.Proofs.YtnaokijcggbfdaaGreatDoor
open Go.RowKit Go.Shelf
end Go.Proofs.YtnaokijcggbfdaaGreatDoor
namespace Go.Proofs.YtnaokijcggbfdaaGreatDoor
open Go.RowKit Go.Shelf
namespace Dw
structure FlR (f : Fl) : Prop where
  li : f.li ≤ 9223372036854775807
  e0 : -9223372036854775808 ≤ f.e0
  e1 : -9223372036854775808 ≤ f.e1
theorem flOk_of {f : Fl} (h : FlR f) (hb : big f.a f.b = false) : FlOk f := by
  unfold big at hb
  have := of_decide_eq_false hb
  exact ⟨by omega, by omega, h.li, h.e0, h.e1⟩
end Dw
theorem exec_bin {P : Program} {w : World} {o : Oper} {a : Act} {op : BinOp} {t t2 : TypeId} {x y : Operand} (hop : o.op = .binOp op t x y t2)
    {vx vy v : Value} (hx : a.eval x = vx) (hy : a.eval y = vy) (hr : (do eqGuard op t x y vx vy; binOp op t vx vy : Sem Value).run P w = .ok v w) : (execOp a.eval o).run P w = .ok (.value v) w := by
  unfold execOp
  rw [hop]
  simp only [hx, hy]
  rw [Sem.run_bind] at hr
  cases hq : (eqGuard op t x y vx vy).run P w with
  | ok u w1 =>
    rw [hq] at hr
    have hr' : (binOp op t vx vy).run P w1 = .ok v w := hr
    simp [Sem.run_bind, hq, hr', Result.andThen]
  | halt h w1 =>
    rw [hq] at hr
    cases hr
end Go.Proofs.YtnaokijcggbfdaaGreatDoor
namespace Go.Proofs.YtnaokijcggbfdaaGreatDoor
open Go.RowKit Go.Shelf
attribute [local go_sem] Oper.semAt_some
theorem setRow_alloc (w : World) (z c : Array Value) (t : TypeId) (fr : Nat × Nat) : (w.alloc (.cells z t fr)).setRow w.heap.size c = w.alloc (.cells c t fr) := by
  unfold World.setRow World.alloc
  congr 1
  apply Array.ext
  · simp
  · intro i h1 h2
    simp only [Array.size_modify, Array.size_push] at h1
    rw [Array.getElem_modify, Array.getElem_push, Array.getElem_push]
    by_cases e : i < w.heap.size
    · rw [dif_pos e, dif_pos e, if_neg (by omega)]
    · rw [dif_neg e, dif_neg e, if_pos (by omega)]
section
variable {P : Program} {ops : Array Oper} {rest : List Oper} {o o2 : Oper} {a : Act} {w : World} {Q : Exit → Act → World → Prop} {z c : Array Value} {t : TypeId} {v : Operand} {d : Tmp}
theorem nb (hg : o.guard = none) (hd : o.dst = some d) (hop : o2.op = .store t (.tmp d) v) (hg2 : o2.guard = none) (ha : (execOp a.eval o).run P w = .ok (.value (.pointer (some ⟨w.heap.size, 0, none⟩))) (w.alloc (.cells z t)))
    (hp : (a.put (some d) (.pointer (some ⟨w.heap.size, 0, none⟩))).eval (.tmp d) = .pointer (some ⟨w.heap.size, 0, none⟩)) (hv : (a.put (some d) (.pointer (some ⟨w.heap.size, 0, none⟩))).eval v = .agg c) (hi : fits P t z c = true)
    (h : wpList P ops Q rest ((a.put (some d) (.pointer (some ⟨w.heap.size, 0, none⟩))).put o2.dst undef) (w.alloc (.cells c t))) : wpList P ops Q (o :: o2 :: rest) a w := by
  obtain ⟨h1, h2, h3⟩ := fits_spec hi
  refine wpList_plain hg fun K hK => ?_
  unfold Oper.wp
  rw [ha]
  show K (a.put o.dst (.pointer (some ⟨w.heap.size, 0, none⟩))) (w.alloc (.cells z t))
  rw [hd]
  exact hK _ _ (wpList_store_block hg2 t (.tmp d) v hop hp hv (han w (.cells z t)) h1 h2 h3 (by rw [setRow_alloc]; exact h))
theorem lbo {b : Nat} {t' : TypeId} {fr : Nat × Nat} {p : Operand} (hb : w.heap[b]? = some (.cells c t' fr)) (hg : Region.wanted o (yielded ops a.tmps) = true) (hop : o.op = .load t' p) (hp : a.eval p = .pointer (some ⟨b, 0, none⟩)) (hd : rowOk P t' c.size = true) (h : wpList P ops Q rest (a.put o.dst (.agg c)) w) : wpList P ops Q (o :: rest) a w := by
  obtain ⟨d, hu, ⟨_, rfl⟩ | ⟨_, _, rfl⟩, hi⟩ := rowOk_spec hd <;> exact wpList_load_block_on hg t' p hop hp hb hu rfl hi h
end
theorem fl_self (f : Dw.Fl) (u v : Operand) (w : World) : (do eqGuard .eql 25 u v (flV f) (flV f); binOp .eql 25 (flV f) (flV f) : Sem Value).run Tryz.prog w = .ok (.bool true) w := by
  go_simp
  simp [ba_list]
theorem su_self (y : Dw.Su) (u v : Operand) (w : World) : (do eqGuard .eql 31 u v (suV y) (suV y); binOp .eql 31 (suV y) (suV y) : Sem Value).run Tryz.prog w = .ok (.bool true) w := by
  rw [su_eq, Dw.suEq_refl]
end Go.Proofs.YtnaokijcggbfdaaGreatDoor
