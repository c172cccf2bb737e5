/- What the statement's proof stands on, part 39: Scr1. -/
import Derived.Test.YtjibbchfndhhpaaGreatDoorRc37
import Derived.Test.YtjibbchfndhhpaaGreatDoorRc38
import Derived.Test.YtjibbchfndhhpaaGreatDoorRc36
set_option linter.unusedSimpArgs false
set_option linter.unusedVariables false
set_option maxRecDepth 100000
set_option maxHeartbeats 4000000
namespace Go.Proofs.YtjibbchfndhhpaaGreatDoor
open Go.RowKit Go.Shelf
attribute [local go_sem] Oper.semAt_some
def actV (e : Dw.En) : Value :=
  if e.ki = 1 then .iface 224 (cmV e.c) else if e.ki = 2 then .iface 226 (smV e.va e.vb e.vc) else if e.ki = 3 then .iface 220 (.agg #[]) else if e.ki = 4 then .iface 222 (.int .i64 e.at_) else .nilIface
theorem find4 (k : Int) (a b c d : Value) : Instr.findNow (.int .i64) (.int .i64 k) [⟨.int .i64 1, a, 0⟩, ⟨.int .i64 2, b, 1⟩, ⟨.int .i64 3, c, 2⟩, ⟨.int .i64 4, d, 3⟩] 0 =
    some (if k = 1 then some (0, a) else if k = 2 then some (1, b) else if k = 3 then some (2, c) else if k = 4 then some (3, d) else none) := by
  have step : ∀ (j : Int) (v : Value) (b : Nat) (es : List MapEntry) (i : Nat), Instr.findNow (.int .i64) (.int .i64 k) (⟨.int .i64 j, v, b⟩ :: es) i = if k = j then some (some (i, v)) else Instr.findNow (.int .i64) (.int .i64 k) es (i + 1) := fun j v b es i => by
    by_cases h : k = j
    · subst h
      rw [if_pos rfl]
      simp [Instr.findNow, Instr.sameNow]
    · rw [if_neg h]
      have e : (k == j) = false := by simpa using h
      simp [Instr.findNow, Instr.sameNow, e]
  rw [step, step, step, step]
  by_cases h1 : k = 1
  · subst h1; rfl
  by_cases h2 : k = 2
  · subst h2; rfl
  by_cases h3 : k = 3
  · subst h3; rfl
  by_cases h4 : k = 4
  · subst h4; rfl
  rw [if_neg h1, if_neg h2, if_neg h3, if_neg h4, if_neg h1, if_neg h2, if_neg h3, if_neg h4]
  rfl
theorem act_eq (e : Dw.En) : actV e = gotV false .nilIface (if e.ki = 1 then some (0, Value.iface 224 (cmV e.c)) else if e.ki = 2 then some (1, .iface 226 (smV e.va e.vb e.vc)) else if e.ki = 3 then some (2, .iface 220 (.agg #[])) else if e.ki = 4 then some (3, .iface 222 (.int .i64 e.at_)) else none) := by
  unfold actV
  (repeat' split) <;> rfl
theorem look4map (e : Dw.En) (b : Nat) (W : World) (h : W.heap[b]? = some (.map (((((#[] : Array MapEntry).push ⟨.int .i64 1, .iface 224 (cmV e.c), 0⟩).push ⟨.int .i64 2, .iface 226 (smV e.va e.vb e.vc), 0 + 1⟩).push ⟨.int .i64 3, .iface 220 (.agg #[]), 0 + 1 + 1⟩).push ⟨.int .i64 4, .iface 222 (.int .i64 e.at_), 0 + 1 + 1 + 1⟩) (0 + 1 + 1 + 1 + 1))) : (Instr.lookup 269 (.map (some b)) (.int .i64 e.ki) false).run Tryz.prog W = .ok (actV e) W :=
  run_mget (P := Tryz.prog) (kv := .int .i64 e.ki) (x := actV e) (ok := false) h Tryz.underlying269 Tryz.underlying3 rfl (find4 e.ki (.iface 224 (cmV e.c)) (.iface 226 (smV e.va e.vb e.vc)) (.iface 220 (.agg #[])) (.iface 222 (.int .i64 e.at_))) (by kernel_rfl) (act_eq e)
theorem act_any (e : Dw.En) (w : World) :
    Calls Tryz.prog 153 #[enV e] w fun en w' => en = .returned (actV e) ∧ Below w.heap.size w w' := by
  have hmm := @run_makeMap Tryz.prog
  obtain ⟨V, hV⟩ : ∃ V, (w.alloc (.cells (enC e) 136)).alloc (.map #[] 0) = V := ⟨_, rfl⟩
  have b0 : V.heap[w.heap.size]? = some (.cells (enC e) 136) := by rw [← hV]; exact heap_alloc2_old _ _ _
  have bM : V.heap[w.heap.size + 1]? = some (.map #[] 0) := by rw [← hV]; exact heap_alloc2_new _ _ _
  have hB : Below w.heap.size w V := by rw [← hV]; exact ((Below.refl _ w).alloc (Nat.le_refl _) _).alloc (by simp) _
  have hz : ∀ W, (zeroValue 20).run Tryz.prog W = .ok .nilIface W := fun W => by kernel_rfl
  have hne : w.heap.size ≠ w.heap.size + 1 := by omega
  have hle : w.heap.size ≤ w.heap.size + 1 := by omega
  have HB := Lib.hid hB
  clear hB
  go_enter Tryz.func153, Tryz.ntmps153
  go_wp2_with (first | (refine lpf (t := 67) rfl 1 (cmC e.c) b0 rfl rfl (by kernel_rfl) (by rfl) ?_) | (refine mput (k := .const (.int .i64 1)) (kv := .int .i64 1) (vv := .iface 224 (cmV e.c)) rfl bM rfl rfl rfl rfl Tryz.underlying269 Tryz.underlying3 rfl rfl ?_; intro W1 p1 m1; have b1 := p1.block b0 hne; have HB1 := Lib.hid (p1.below HB.out hle); clear p1 b0 bM HB hV) | (refine lpf (t := 72) rfl 5 (smC e.va e.vb e.vc) b1 rfl rfl (by kernel_rfl) (by rfl) ?_) | (refine mput (k := .const (.int .i64 2)) (kv := .int .i64 2) (vv := .iface 226 (smV e.va e.vb e.vc)) rfl m1 rfl rfl rfl rfl Tryz.underlying269 Tryz.underlying3 rfl rfl ?_; intro W2 p2 m2; have b2 := p2.block b1 hne; have HB2 := Lib.hid (p2.below HB1.out hle); clear p2 b1 m1 HB1) | (refine mput (k := .const (.int .i64 3)) (kv := .int .i64 3) (vv := .iface 220 (.agg #[])) rfl m2 rfl rfl rfl rfl Tryz.underlying269 Tryz.underlying3 rfl rfl ?_; intro W3 p3 m3; have b3 := p3.block b2 hne; have HB3 := Lib.hid (p3.below HB2.out hle); have c10 : W3.cell? ⟨w.heap.size, 10, none⟩ = some (.int .i64 e.at_) := cell_of_row _ _ _ _ _ _ b3; clear p3 b2 m2 HB2) | (refine mput (k := .const (.int .i64 4)) (kv := .int .i64 4) (vv := .iface 222 (.int .i64 e.at_)) rfl m3 rfl rfl rfl rfl Tryz.underlying269 Tryz.underlying3 rfl rfl ?_; intro W4 p4 m4; have b4 := p4.block b3 hne; have HB4 := Lib.hid (p4.below HB3.out hle); have c0 : W4.cell? ⟨w.heap.size, 0, none⟩ = some (.int .i64 e.ki) := cell_of_row _ _ _ _ _ _ b4; have hlk := look4map e _ W4 m4; clear p4 b3 m3 HB3 c10 m4))
  trace_state
  go_ret
  exact ⟨rfl, HB4.out⟩
end Go.Proofs.YtjibbchfndhhpaaGreatDoor
