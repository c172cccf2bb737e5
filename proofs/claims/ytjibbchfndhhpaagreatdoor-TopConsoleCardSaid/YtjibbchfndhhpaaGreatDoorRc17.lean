/- What the statement's proof stands on, part 17: St, Part, St2, St3, St4. -/
import Derived.Test.YtjibbchfndhhpaaGreatDoorRc5
import Derived.Test.YtjibbchfndhhpaaGreatDoorRc16
import Derived.Test.YtjibbchfndhhpaaGreatDoorRc13
set_option linter.unusedSimpArgs false
set_option linter.unusedVariables false
set_option maxRecDepth 100000
set_option maxHeartbeats 4000000
namespace Go.Proofs.YtjibbchfndhhpaaGreatDoor
open Go.RowKit Go.Shelf
attribute [local go_sem] Oper.semAt_some
theorem wpList_load_block_on {P : Program} {w : World} {ops : Array Oper} {rest : List Oper} {o : Oper} {a : Act} {Q : Exit → Act → World → Prop} (hg : Region.wanted o (yielded ops a.tmps) = true) (t : TypeId) (p : Operand) (hop : o.op = .load t p)
    {b : Nat} {c : Array Value} {t' : TypeId} {fr : Nat × Nat} {d : TypeDesc} (hp : a.eval p = .pointer (some ⟨b, 0, none⟩)) (hb : w.heap[b]? = some (.cells c t' fr))
    (hu : P.underlying t = some d) (hd : (match d with | .struct _ | .array _ _ => true | _ => false) = true) (hi : (P.info? t).map (·.size) = some c.size)
    (h : wpList P ops Q rest (a.put o.dst (.agg c)) w) : wpList P ops Q (o :: rest) a w := by
  refine BigFrame.wpList_want hg fun K hK => ?_
  unfold Oper.wp
  have hl := run_loadVar_row (P := P) w b t' t c fr d hb hu hd hi
  simp [execOp, hop, hp, Instr.loadAt, Instr.sureAddr, hl, Result.andThen]
  exact hK _ _ h
theorem within_any (n m : Int) (hm : 0 ≤ m ∧ m ≤ 10000000) (w : World) :
    Calls Tryz.prog 141 #[.int .i64 n, .int .i64 m] w fun e w' => e = .returned (.bool (decide (-m ≤ n ∧ n ≤ m))) ∧ Below w.heap.size w w' := by
  have hw : IntKind.i64.wrap (-m) = -m := IntWalk.i64_in _ (by omega)
  by_cases h1 : -m ≤ n
  · by_cases h2 : n ≤ m
    · rw [decide_eq_true ⟨h1, h2⟩]
      go_enter Tryz.func141, Tryz.ntmps141
      go_wp2_with fail
      go_ret
      exact ⟨rfl, Below.refl _ _⟩
    · rw [decide_eq_false (fun h => h2 h.2)]
      go_enter Tryz.func141, Tryz.ntmps141
      go_wp2_with fail
      go_ret
      exact ⟨rfl, Below.refl _ _⟩
  · rw [decide_eq_false (fun h => h1 h.1)]
    go_enter Tryz.func141, Tryz.ntmps141
    go_wp2_with fail
    go_ret
    exact ⟨rfl, Below.refl _ _⟩
theorem when_any (b : Bool) (n : Int) (w : World) :
    Calls Tryz.prog 130 #[.bool b, .int .i64 n] w fun e w' => e = .returned (.int .i64 (if b then n else 0)) ∧ Below w.heap.size w w' := by
  cases b
  · go_enter Tryz.func130, Tryz.ntmps130
    go_wp2_with fail
    go_ret
    exact ⟨rfl, Below.refl _ _⟩
  · go_enter Tryz.func130, Tryz.ntmps130
    go_wp2_with fail
    go_ret
    exact ⟨rfl, Below.refl _ _⟩
theorem andNot15 (k : Int) (h : 0 ≤ k ∧ k < 256) : bits .andNot .i64 k 15 = k / 16 * 16 := by
  have : ∀ k : Fin 256, bits .andNot .i64 ((k.val : Nat) : Int) 15 = ((k.val : Nat) : Int) / 16 * 16 := by decide +kernel
  have := this ⟨k.toNat, by omega⟩
  rwa [show ((k.toNat : Nat) : Int) = k from by omega] at this
def legalB (s : Dw.St) : Bool := decide (0 ≤ s.mo ∧ s.mo ≤ 5) && decide (s.iso < 16) && decide (-737280 ≤ s.la ∧ s.la ≤ 737280) && decide (-1474560 ≤ s.lo ∧ s.lo ≤ 1474560) && (s.ho || decide (s.la = 0 ∧ s.lo = 0))
theorem legalB_eq {s : Dw.St} (h : 0 ≤ s.iso) : legalB s = Dw.legal s := by
  unfold legalB Dw.legal
  rw [show decide (0 ≤ s.mo ∧ s.mo ≤ 5 ∧ 0 ≤ s.iso ∧ s.iso ≤ 15) = (decide (0 ≤ s.mo ∧ s.mo ≤ 5) && decide (s.iso < 16)) from by
      rw [Bool.eq_iff_iff]; simp only [Bool.and_eq_true, decide_eq_true_eq]; omega,
    show decide (-737280 ≤ s.la ∧ s.la ≤ 737280 ∧ -1474560 ≤ s.lo ∧ s.lo ≤ 1474560) = (decide (-737280 ≤ s.la ∧ s.la ≤ 737280) && decide (-1474560 ≤ s.lo ∧ s.lo ≤ 1474560)) from by
      rw [Bool.eq_iff_iff]; simp only [Bool.and_eq_true, decide_eq_true_eq]; omega]
  simp only [Bool.and_assoc]
theorem legal_any (s : Dw.St) (hi : 0 ≤ s.iso ∧ s.iso < 256) (w : World) :
    Calls Tryz.prog 101 #[stV s] w fun e w' => e = .returned (.bool (Dw.legal s)) ∧ Below w.heap.size w w' := by
  have HL := Lib.hid (legalB_eq hi.1)
  rw [← HL.out]
  have hB0 := (Below.refl w.heap.size w).alloc (Nat.le_refl _) (.cells (stC s) 28)
  have hC0 := han w (.cells (stC s) 28)
  have ha := andNot15 s.iso hi
  clear HL
  unfold legalB
  obtain ⟨mo, ar, ho, la, lo, iso⟩ := s
  dsimp only at *
  obtain ⟨c0, c1, c2, c3, c4, c5⟩ := cells6 hC0
  have HC := Lib.hid hC0
  clear hC0
  by_cases h1 : mo < 0
  · rw [show decide (0 ≤ mo ∧ mo ≤ 5) = false from decide_eq_false (by omega)]
    go_enter Tryz.func101, Tryz.ntmps101
    go_wp2_with fail
    go_ret
    exact ⟨rfl, hB0⟩
  by_cases h2 : 5 < mo
  · rw [show decide (0 ≤ mo ∧ mo ≤ 5) = false from decide_eq_false (by omega)]
    go_enter Tryz.func101, Tryz.ntmps101
    go_wp2_with fail
    go_ret
    exact ⟨rfl, hB0⟩
  rw [show decide (0 ≤ mo ∧ mo ≤ 5) = true from decide_eq_true (by omega)]
  by_cases h3 : iso < 16
  · rw [show iso / 16 * 16 = 0 from by omega] at ha
    rw [show decide (iso < 16) = true from decide_eq_true h3]
    have HW1 := Lib.hid (fun w => within_any la 737280 (by decide) w)
    have HW2 := Lib.hid (fun w => within_any lo 1474560 (by decide) w)
    generalize decide (-737280 ≤ la ∧ la ≤ 737280) = bl at *
    generalize decide (-1474560 ≤ lo ∧ lo ≤ 1474560) = bo at *
    go_enter Tryz.func101, Tryz.ntmps101
    go_wp2_with fail
    refine cb (HW1.out _) fun w1 hb => ?_
    have hC1 := kp hb HC.out
    replace hB0 := tr hB0 hb
    clear hb HC c0 c1 c2 c3 c4 c5
    obtain ⟨c0, c1, c2, c3, c4, c5⟩ := cells6 hC1
    have HC := Lib.hid hC1
    clear hC1
    cases bl
    · go_wp2_with fail
      go_ret
      exact ⟨rfl, hB0⟩
    go_wp2_with fail
    refine cb (HW2.out _) fun w2 hb => ?_
    have hC1 := kp hb HC.out
    replace hB0 := tr hB0 hb
    clear hb HC c0 c1 c2 c3 c4 c5
    obtain ⟨c0, c1, c2, c3, c4, c5⟩ := cells6 hC1
    have hC2 := hC1
    clear hC1
    cases bo
    · go_wp2_with fail
      go_ret
      exact ⟨rfl, hB0⟩
    cases ho
    · have hB1 := hB0.alloc hB0.size (.cells #[.int .i64 0, .bool false, .bool false, .int .i64 0, .int .i64 0, .int .i64 0] 28)
      have hZ := han w2 (.cells #[.int .i64 0, .bool false, .bool false, .int .i64 0, .int .i64 0, .int .i64 0] 28)
      have hO := hao w2 (.cells #[.int .i64 0, .bool false, .bool false, .int .i64 0, .int .i64 0, .int .i64 0] 28) hC2
      have hne : w2.heap.size ≠ w.heap.size := by have := block_lt hC2; omega
      have hle : w.heap.size ≤ w2.heap.size := hB0.size
      have HB := Lib.hid hB1; have HO := Lib.hid hO; have HZ := Lib.hid hZ
      clear hB1 hB0 hO hZ hC2
      go_wp2_with (first | ((refine sb HZ.out rfl rfl rfl rfl (by kernel_rfl) ?_); have hC3 := setRow_heap _ _ _ #[.int .i64 0, .bool false, .bool false, .int .i64 la, .int .i64 lo, .int .i64 0] _ _ HZ.out; have hB3 := below_setRow HB.out hle #[.int .i64 0, .bool false, .bool false, .int .i64 la, .int .i64 lo, .int .i64 0]; have hO3 := (setRow_other (w2.alloc (.cells #[.int .i64 0, .bool false, .bool false, .int .i64 0, .int .i64 0, .int .i64 0] 28)) w2.heap.size w.heap.size #[.int .i64 0, .bool false, .bool false, .int .i64 la, .int .i64 lo, .int .i64 0] hne.symm).trans HO.out; generalize World.setRow _ _ _ = W3 at *; generalize w2.heap.size = g2 at *; clear HZ HB HO c0 c1 c2 c3 c4 c5; obtain ⟨c0, c1, c2, c3, c4, c5⟩ := cells6 hO3; clear hO3) | (refine wpList_load_block_on (by rfl) 28 (.tmp 3) rfl rfl hC3 Tryz.underlying28 rfl (by kernel_rfl) ?_))
      all_goals
        go_ret
        exact ⟨rfl, hB3⟩
    · have hB1 := hB0.alloc hB0.size (.cells #[.int .i64 0, .bool false, .bool false, .int .i64 0, .int .i64 0, .int .i64 0] 28)
      have hZ := han w2 (.cells #[.int .i64 0, .bool false, .bool false, .int .i64 0, .int .i64 0, .int .i64 0] 28)
      have hO := hao w2 (.cells #[.int .i64 0, .bool false, .bool false, .int .i64 0, .int .i64 0, .int .i64 0] 28) hC2
      have hne : w2.heap.size ≠ w.heap.size := by have := block_lt hC2; omega
      have hle : w.heap.size ≤ w2.heap.size := hB0.size
      have HB := Lib.hid hB1; have HO := Lib.hid hO; have HZ := Lib.hid hZ
      clear hB1 hB0 hO hZ hC2
      go_wp2_with (first | ((refine sb HZ.out rfl rfl rfl rfl (by kernel_rfl) ?_); have hC3 := setRow_heap _ _ _ #[.int .i64 0, .bool false, .bool true, .int .i64 la, .int .i64 lo, .int .i64 0] _ _ HZ.out; have hB3 := below_setRow HB.out hle #[.int .i64 0, .bool false, .bool true, .int .i64 la, .int .i64 lo, .int .i64 0]; have hO3 := (setRow_other (w2.alloc (.cells #[.int .i64 0, .bool false, .bool false, .int .i64 0, .int .i64 0, .int .i64 0] 28)) w2.heap.size w.heap.size #[.int .i64 0, .bool false, .bool true, .int .i64 la, .int .i64 lo, .int .i64 0] hne.symm).trans HO.out; generalize World.setRow _ _ _ = W3 at *; generalize w2.heap.size = g2 at *; clear HZ HB HO c0 c1 c2 c3 c4 c5; obtain ⟨c0, c1, c2, c3, c4, c5⟩ := cells6 hO3; clear hO3) | (refine wpList_load_block_on (by rfl) 28 (.tmp 3) rfl rfl hC3 Tryz.underlying28 rfl (by kernel_rfl) ?_))
      all_goals
        go_ret
        exact ⟨rfl, hB3⟩
  · rw [show decide (iso < 16) = false from decide_eq_false h3]
    have ha2 : ¬ iso / 16 * 16 = 0 := by omega
    go_enter Tryz.func101, Tryz.ntmps101
    go_wp2_with fail
    go_ret
    exact ⟨rfl, hB0⟩
end Go.Proofs.YtjibbchfndhhpaaGreatDoor
namespace Go.Proofs.YtjibbchfndhhpaaGreatDoor
open Go.RowKit Go.Shelf
def storeL (l : List Value) (k : Nat) : List Value → List Value
  | [] => l
  | v :: r => storeL (l.set k v) (k + 1) r
def storeA (cur : Array Value) (k : Nat) (vs : List Value) : Array Value := (storeL cur.toList k vs).toArray
theorem storeA_nil (cur : Array Value) (k : Nat) : storeA cur k [] = cur := by simp [storeA, storeL]
theorem storeA_cons (cur : Array Value) (k : Nat) (v : Value) (r : List Value) : storeA (cur.setIfInBounds k v) (k + 1) r = storeA cur k (v :: r) := by simp [storeA, storeL]
theorem add_off (g off i : Nat) : (⟨g, off, none⟩ : Addr).add i = ⟨g, off + i, none⟩ := by unfold Addr.add; split <;> simp_all
theorem run_storeCells_mid {P : Program} (g off : Nat) (t : TypeId) : ∀ (vs : List Value) (i : Nat) (cur : Array Value) (w : World), w.heap[g]? = some (.cells cur t (0, 0)) → off + i + vs.length ≤ cur.size → (∀ v ∈ vs, v.oneCell' = true) →
    (storeCells ⟨g, off, none⟩ vs i).run P w = .ok () (w.setRow g (storeA cur (off + i) vs))
  | [], i, cur, w, hg, _, _ => by
    show Result.ok () w = _
    rw [storeA_nil, setRow_self w g cur t _ hg]
  | v :: rest, i, cur, w, hg, hl, h1 => by
    have hi : off + i < cur.size := by simp at hl; omega
    have hcell : w.cell? ⟨g, off + i, none⟩ = some cur[off + i] := by simp [World.cell?, hg, hi]
    have hfro : w.frozen? ⟨g, off + i, none⟩ = false := by simp [World.frozen?, hg]
    have hst : (store ((⟨g, off, none⟩ : Addr).add i) v).run P w = .ok () (w.setRow g (cur.setIfInBounds (off + i) v)) := by
      rw [add_off, run_store P w _ v _ (h1 v (by simp)), hcell]
      simp [hfro, setCell_eq_setRow w g (off + i) cur t (0, 0) v hg]
    have ih := run_storeCells_mid (P := P) g off t rest (i + 1) (cur.setIfInBounds (off + i) v) (w.setRow g (cur.setIfInBounds (off + i) v)) (setRow_heap w g cur _ t _ hg) (by simp at hl ⊢; omega) (fun x hx => h1 x (by simp [hx]))
    simp only [storeCells, Sem.run_bind, hst, Result.andThen_ok, ih, setRow_setRow]
    rw [← Nat.add_assoc, storeA_cons]
theorem run_storeVar_part {P : Program} (w : World) (g off : Nat) (t ty : TypeId) (cur part : Array Value) (hg : w.heap[g]? = some (.cells cur t (0, 0))) (hi : (P.info? ty).map (·.size) = some part.size)
    (ho : off + part.size ≤ cur.size) (h1 : part.all (·.oneCell') = true) :
    (storeVar ty ⟨g, off, none⟩ (.agg part)).run P w = .ok () (w.setRow g (storeA cur off part.toList)) := by
  have := run_storeCells_mid (P := P) g off t part.toList 0 cur w hg (by simpa using ho) (fun v hv => (Array.all_eq_true_iff_forall_mem.1 h1) v (by simpa using hv))
  cases hq : P.info? ty with
  | none => simp [hq] at hi
  | some i =>
    have hs : part.size = i.size := by simp [hq] at hi; omega
    simp [storeVar, sizeOf, typeInfo, hq, Value.cells, hs, this]
theorem wpList_store_part {P : Program} {w : World} {ops : Array Oper} {rest : List Oper} {o : Oper} {a : Act} {Q : Exit → Act → World → Prop} (hg : o.guard = none) (t : TypeId) (p v : Operand) (hop : o.op = .store t p v)
    (off : Nat) (part c' : Array Value) {b : Nat} {c : Array Value} {t' : TypeId} (hp : a.eval p = .pointer (some ⟨b, off, none⟩)) (hv : a.eval v = .agg part) (hb : w.heap[b]? = some (.cells c t' (0, 0)))
    (hi : (P.info? t).map (·.size) = some part.size) (ho : off + part.size ≤ c.size) (h1 : part.all (·.oneCell') = true) (hc : storeA c off part.toList = c')
    (h : wpList P ops Q rest (a.put o.dst undef) (w.setRow b c')) : wpList P ops Q (o :: rest) a w := by
  refine wpList_plain hg fun K hK => ?_
  unfold Oper.wp
  have hl := run_storeVar_part (P := P) w b off t' t c part hb hi ho h1
  rw [hc] at hl
  simp [execOp, hop, hp, hv, Instr.storeAt, Instr.sureAddr, hl, Result.andThen]
  exact hK _ _ h
theorem run_loadVar_part {P : Program} (w : World) (g off : Nat) (t ty : TypeId) (cs part : Array Value) (fr : Nat × Nat) (d : TypeDesc) (hg : w.heap[g]? = some (.cells cs t fr))
    (hu : P.underlying ty = some d) (hd : (match d with | .struct _ | .array _ _ => true | _ => false) = true) (hi : (P.info? ty).map (·.size) = some part.size) (hp : (cs.toList.drop off).take part.size = part.toList) :
    (loadVar ty ⟨g, off, none⟩).run P w = .ok (.agg part) w := by
  have hl : (loadCells ⟨g, off, none⟩ part.toList.length).run P w = .ok part.toList.toArray w :=
    run_loadCells_list (P := P) w ⟨g, off, none⟩ part.toList (fun j v hv => by
      rw [add_off, cell_of_row w g (off + j) cs t fr hg]
      rw [← hp, List.getElem?_take] at hv
      split at hv
      · rw [List.getElem?_drop] at hv
        simpa using hv
      · cases hv)
  cases hq : P.info? ty with
  | none => simp [hq] at hi
  | some i =>
    have hs : i.size = part.size := by simpa [hq] using hi
    have hagg : (isAgg ty).run P w = .ok true w := by
      unfold isAgg
      rw [Sem.run_bind, run_underlying hu w]
      cases d <;> simp_all
    simp only [Array.length_toList, Array.toArray_toList] at hl
    simp [loadVar, Sem.run_bind, hagg, sizeOf, typeInfo, hq, hs, hl]
theorem wpList_load_part {P : Program} {w : World} {ops : Array Oper} {rest : List Oper} {o : Oper} {a : Act} {Q : Exit → Act → World → Prop} (hg : o.guard = none) (t : TypeId) (p : Operand) (hop : o.op = .load t p)
    (off : Nat) (part : Array Value) {b : Nat} {c : Array Value} {t' : TypeId} {fr : Nat × Nat} {d : TypeDesc} (hp : a.eval p = .pointer (some ⟨b, off, none⟩)) (hb : w.heap[b]? = some (.cells c t' fr))
    (hu : P.underlying t = some d) (hd : (match d with | .struct _ | .array _ _ => true | _ => false) = true) (hi : (P.info? t).map (·.size) = some part.size) (hc : (c.toList.drop off).take part.size = part.toList)
    (h : wpList P ops Q rest (a.put o.dst (.agg part)) w) : wpList P ops Q (o :: rest) a w := by
  refine wpList_plain hg fun K hK => ?_
  unfold Oper.wp
  have hl := run_loadVar_part (P := P) w b off t' t c part fr d hb hu hd hi hc
  simp [execOp, hop, hp, Instr.loadAt, Instr.sureAddr, hl, Result.andThen]
  exact hK _ _ h
theorem KeepBut.row {X : Nat → Prop} {w w' : World} (h : KeepBut X w w') {g : Nat} (hX : X g) (cs : Array Value) : KeepBut X w (w'.setRow g cs) :=
  ⟨h.os, h.tape, h.output, by rw [setRow_size]; exact h.size, fun k hk hx => by rw [setRow_other w' g k cs (fun e => hx (by rw [e]; exact hX))]; exact h.block k hk hx⟩
theorem cells14 {w : World} {b : Nat} {x0 x1 x2 x3 x4 x5 x6 x7 x8 x9 x10 x11 x12 x13 : Value} {t : TypeId} {fr : Nat × Nat} (h : w.heap[b]? = some (.cells #[x0, x1, x2, x3, x4, x5, x6, x7, x8, x9, x10, x11, x12, x13] t fr)) :
    (w.cell? ⟨b, 0, none⟩ = some x0 ∧ w.cell? ⟨b, 1, none⟩ = some x1 ∧ w.cell? ⟨b, 2, none⟩ = some x2 ∧ w.cell? ⟨b, 3, none⟩ = some x3 ∧ w.cell? ⟨b, 4, none⟩ = some x4) ∧
    (w.cell? ⟨b, 5, none⟩ = some x5 ∧ w.cell? ⟨b, 6, none⟩ = some x6 ∧ w.cell? ⟨b, 7, none⟩ = some x7 ∧ w.cell? ⟨b, 8, none⟩ = some x8 ∧ w.cell? ⟨b, 9, none⟩ = some x9 ∧ w.cell? ⟨b, 10, none⟩ = some x10) ∧
    w.cell? ⟨b, 11, none⟩ = some x11 ∧ w.cell? ⟨b, 12, none⟩ = some x12 ∧ w.cell? ⟨b, 13, none⟩ = some x13 := by
  simp [cell_of_row _ _ _ _ _ _ h]
section
variable {P : Program} {w : World} {ops : Array Oper} {rest : List Oper} {o : Oper} {a : Act} {Q : Exit → Act → World → Prop} {b : Nat} {c : Array Value} {t' : TypeId} {p v : Operand} {fr : Nat × Nat}
theorem lp (t : TypeId) (off : Nat) (part : Array Value) (hb : w.heap[b]? = some (.cells c t' fr)) (hg : o.guard = none) (hop : o.op = .load t p) (hp : a.eval p = .pointer (some ⟨b, off, none⟩)) (hd : rowOk P t part.size = true) (hc : (c.toList.drop off).take part.size = part.toList)
    (h : wpList P ops Q rest (a.put o.dst (.agg part)) w) : wpList P ops Q (o :: rest) a w := by
  obtain ⟨d, hu, ⟨_, rfl⟩ | ⟨_, _, rfl⟩, hi⟩ := rowOk_spec hd <;> exact wpList_load_part hg t p hop off part hp hb hu rfl hi hc h
theorem sp (t : TypeId) (off : Nat) (part c' : Array Value) (hb : w.heap[b]? = some (.cells c t' (0, 0))) (hg : o.guard = none) (hop : o.op = .store t p v) (hp : a.eval p = .pointer (some ⟨b, off, none⟩)) (hv : a.eval v = .agg part) (hi : fits P t part part = true) (ho : Nat.ble (off + part.size) c.size = true) (hc : storeA c off part.toList = c')
    (h : wpList P ops Q rest (a.put o.dst undef) (w.setRow b c')) : wpList P ops Q (o :: rest) a w :=
  have ⟨h1, _, h3⟩ := fits_spec hi
  wpList_store_part hg t p v hop off part c' hp hv hb h1 (Nat.le_of_ble_eq_true ho) h3 hc h
end
end Go.Proofs.YtjibbchfndhhpaaGreatDoor
namespace Go.Proofs.YtjibbchfndhhpaaGreatDoor
open Go.RowKit Go.Shelf
attribute [local go_sem] Oper.semAt_some
theorem spare_any (b : Nat) (w : World) (hc : w.cell? ⟨b, 0, none⟩ = some (.int .i64 3)) :
    Calls Tryz.prog 140 #[.pointer (some ⟨b, 0, none⟩)] w fun e w' => e = .returned (.int .i64 40) ∧ Below w.heap.size w w' := by
  have hm : min (3 : Int) 8 = 3 := by decide
  go_enter Tryz.func140, Tryz.ntmps140
  go_wp2_with fail
  go_ret
  exact ⟨rfl, Below.refl _ _⟩
theorem sg24_shift (n : Nat) (_ : n < 18446744073709551616) : IntKind.i64.wrap (IntKind.u64.wrap ((n : Int) * 1099511627776)) / 1099511627776 = Dw.sg24 (n % 16777216) := by
  have h1 : IntKind.u64.wrap ((n : Int) * 1099511627776) = (((n % 16777216 : Nat) : Int)) * 1099511627776 := by
    have : IntKind.u64.wrap ((n : Int) * 1099511627776) = ((n : Int) * 1099511627776) % 18446744073709551616 := by simp [IntKind.wrap, IntKind.bits, IntKind.signed]
    omega
  rw [h1]
  have h2 : n % 16777216 < 16777216 := Nat.mod_lt _ (by decide)
  generalize n % 16777216 = m at *
  unfold Dw.sg24
  by_cases hs : m < 8388608
  · rw [if_pos hs, IntWalk.i64_in _ (by omega)]
    omega
  · rw [if_neg hs]
    have h3 : IntKind.i64.wrap ((m : Int) * 1099511627776) = (m : Int) * 1099511627776 - 18446744073709551616 := by
      have : IntKind.i64.wrap ((m : Int) * 1099511627776) = ((m : Int) * 1099511627776 - 18446744073709551616) := by
        have e : IntKind.i64.wrap ((m : Int) * 1099511627776) = IntKind.i64.wrap ((m : Int) * 1099511627776 - 18446744073709551616) := by
          simp [IntKind.wrap, IntKind.bits, IntKind.signed]
        rw [e]
        exact IntWalk.i64_in _ (by omega)
      exact this
    rw [h3]
    omega
theorem signed_any (n : Nat) (h : n < 18446744073709551616) (w : World) :
    Calls Tryz.prog 100 #[.int .u64 n, .int .i64 3] w fun e w' => e = .returned (.int .i64 (Dw.sg24 (n % 16777216))) ∧ Below w.heap.size w w' := by
  have HS := Lib.hid (sg24_shift n h)
  have hB0 := (Below.refl w.heap.size w).alloc (Nat.le_refl _) (.cells #[.int .i64 3] 3)
  have hC0 := han w (.cells #[.int .i64 3] 3)
  have c0 : (w.alloc (.cells #[.int .i64 3] 3)).cell? ⟨w.heap.size, 0, none⟩ = some (.int .i64 3) := by rw [cell_of_row _ _ _ _ _ _ hC0]; rfl
  have hmf : ∀ (fn : Fn) (first cap : Array Value) (w : World), (Instr.makeFunc fn first cap).run Tryz.prog w = .ok (.func fn first cap) w := fun _ _ _ _ => rfl
  go_enter Tryz.func100, Tryz.ntmps100
  go_wp2_with fail
  generalize w.alloc _ = W at *
  refine wp_pure [0,1,2,3,4,5,6,7,8] 9 (by kernel_rfl) (by kernel_rfl) rfl ?_
  (apply rat; (focus (intro w' hk; have k0 := look hk c0; repeat' (first | exact rn | ((first | refine' rv ?_ rfl rfl (by go_simp; first | done | with_reducible rfl | exact rfl) | refine' rc ?_ (by exact rfl) (by exact rfl) (by go_simp; first | done | (constructor <;> with_reducible rfl) | with_reducible rfl) (by exact spare_any _ w' (look hk c0)) | refine' rs ?_ rfl rfl); try simp only [Act.put, List.setIfInBounds_toArray, List.set_cons_zero, List.set_cons_succ])))))
  intro w2 hk2
  simp only [List.drop_succ_cons, List.drop_zero]
  have hB := hB0.trans (hk2.whole.mono hB0.size)
  clear hk2 c0 hB0
  go_wp2_with fail
  go_ret
  exact ⟨ret_int HS.out, hB⟩
theorem ones_cases (k : Int) (h : 0 ≤ k ∧ k ≤ 15) : k = 0 ∨ k = 1 ∨ k = 2 ∨ k = 3 ∨ k = 4 ∨ k = 5 ∨ k = 6 ∨ k = 7 ∨ k = 8 ∨ k = 9 ∨ k = 10 ∨ k = 11 ∨ k = 12 ∨ k = 13 ∨ k = 14 ∨ k = 15 := by omega
def ones4 (k : Int) : Int := k % 2 + k / 2 % 2 + k / 4 % 2 + k / 8 % 2
theorem ones64_any (k : Int) (h : 0 ≤ k ∧ k ≤ 15) (w : World) :
    Calls Tryz.prog 208 #[.int .u64 k] w fun e w' => e = .returned (.int .i64 (ones4 k)) ∧ Below w.heap.size w w' := by
  rcases ones_cases k h with rfl | rfl | rfl | rfl | rfl | rfl | rfl | rfl | rfl | rfl | rfl | rfl | rfl | rfl | rfl | rfl
  all_goals
    go_enter Tryz.func208, Tryz.ntmps208
    go_wp2_with fail
    go_ret
    exact ⟨by kernel_rfl, Below.refl _ _⟩
theorem xor15 (k : Int) (h : 0 ≤ k ∧ k ≤ 15) : IntKind.u64.wrap (bits .and .i64 (bits .xor .i64 (-1) k) 15) = 15 - k := by
  rcases ones_cases k h with rfl | rfl | rfl | rfl | rfl | rfl | rfl | rfl | rfl | rfl | rfl | rfl | rfl | rfl | rfl | rfl <;> decide +kernel
theorem ones_sound (k : Int) (h : 0 ≤ k ∧ k ≤ 15) : ones4 (15 - k) = Dw.soundN k := by
  rcases ones_cases k h with rfl | rfl | rfl | rfl | rfl | rfl | rfl | rfl | rfl | rfl | rfl | rfl | rfl | rfl | rfl | rfl <;> decide
theorem ones_any (k : Int) (h : 0 ≤ k ∧ k ≤ 15) (w : World) :
    Calls Tryz.prog 183 #[.int .u64 k] w fun e w' => e = .returned (.int .i64 (ones4 k)) ∧ Below w.heap.size w w' := by
  have HO := Lib.hid (fun w => ones64_any k h w)
  clear h
  go_enter Tryz.func183, Tryz.ntmps183
  go_wp2_with fail
  refine cb (HO.out _) fun w1 hb => ?_
  go_wp2_with fail
  go_ret
  exact ⟨rfl, hb⟩
theorem sound_any (s : Dw.St) (h : 0 ≤ s.iso ∧ s.iso ≤ 15) (w : World) :
    Calls Tryz.prog 156 #[stV s] w fun e w' => e = .returned (.int .i64 (Dw.soundN s.iso)) ∧ Below w.heap.size w w' := by
  have hB0 := (Below.refl w.heap.size w).alloc (Nat.le_refl _) (.cells (stC s) 28)
  have hC0 := han w (.cells (stC s) 28)
  obtain ⟨c0, c1, c2, c3, c4, c5⟩ := cells6 hC0
  have HX := Lib.hid (xor15 s.iso h)
  have HS := Lib.hid (ones_sound s.iso h)
  have HO := Lib.hid (fun w => ones_any (15 - s.iso) (by omega) w)
  clear h
  go_enter Tryz.func156, Tryz.ntmps156
  go_wp2_with fail
  rw [HX.out]
  refine cb (HO.out _) fun w1 hb => ?_
  have hB := tr hB0 hb
  clear hb hB0 hC0 c0 c1 c2 c3 c4 c5
  go_wp2_with fail
  go_ret
  exact ⟨ret_int HS.out, hB⟩
theorem u64_join3 (c b : Nat) (h : c * 16777216 + b < 18446744073709551616) (hb : b < 16777216) : bits .or .u64 ((c : Int) * 16777216) (b : Int) = (c : Int) * 16777216 + (b : Int) := by
  have e := u64_or_nat (c * 16777216) b (Nat.lt_of_le_of_lt (Nat.le_add_right _ _) h) (Nat.lt_of_le_of_lt (Nat.le_add_left _ _) h)
  have j := nat_join 24 (c * 16777216) b (by simp) (by simpa using hb)
  rw [j] at e
  simpa using e
theorem first_or (mo : Int) (h : 0 ≤ mo ∧ mo ≤ 5) (a b : Bool) : bits .or .i64 (bits .or .i64 mo (if a then 8 else 0)) (if b then 16 else 0) = ((mo.toNat + (if a then 8 else 0) + (if b then 16 else 0) : Nat) : Int) := by
  rcases (by omega : mo = 0 ∨ mo = 1 ∨ mo = 2 ∨ mo = 3 ∨ mo = 4 ∨ mo = 5) with rfl | rfl | rfl | rfl | rfl | rfl <;> cases a <;> cases b <;> decide +kernel
theorem u64_nat (n : Int) : IntKind.u64.wrap n = (((n % 18446744073709551616).toNat : Nat) : Int) := by
  have : IntKind.u64.wrap n = n % 18446744073709551616 := by simp [IntKind.wrap, IntKind.bits, IntKind.signed]
  omega
theorem m24_u64 (n : Int) : (n % 18446744073709551616).toNat % 16777216 = Dw.m24 n := by unfold Dw.m24; omega
theorem getput_any (m n : Nat) (hm : m ≤ 8) (w : World) :
    Calls Tryz.prog 131 #[.string ⟨(Dw.put m n).toArray⟩] w fun e w' => e = .returned (.int .u64 ((n % 256 ^ m : Nat) : Int)) ∧ Below w.heap.size w w' := by
  have := fget_any ⟨(Dw.put m n).toArray⟩ (by show (Dw.put m n).toArray.size ≤ 8; simp [Dw.put_length, hm]) w
  rw [show (⟨(Dw.put m n).toArray⟩ : ByteArray).data.toList = Dw.put m n from rfl, Dw.get_put] at this
  exact this
def packAcc (F I A B : Nat) : Nat → Nat
  | 0 => 0
  | 1 => F
  | 2 => F * 256 + I
  | 3 => (F * 256 + I) * 16777216 + A
  | _ => ((F * 256 + I) * 16777216 + A) * 16777216 + B
theorem pack_any (s : Dw.St) (h : Dw.legal s = true) (w : World) :
    Calls Tryz.prog 93 #[stV s] w fun e w' => e = .returned (.int .u64 (Dw.pack s : Nat)) ∧ Below w.heap.size w w' := by
  obtain ⟨⟨m0, m1, i0, i1⟩, _⟩ := (Dw.legal_iff s).1 h
  have HP := Lib.hid (show Dw.pack s = packAcc (Dw.firstN s) s.iso.toNat (Dw.m24 s.la) (Dw.m24 s.lo) 4 from by unfold Dw.pack; rw [if_pos h]; show _ = ((_ * 256 + _) * 16777216 + _) * 16777216 + _; omega)
  have HL := Lib.hid (fun w => legal_any s ⟨i0, by omega⟩ w)
  rw [h] at HL
  have hF : Dw.firstN s < 32 := Dw.firstN_lt h
  have HF := Lib.hid (show bits .or .i64 (bits .or .i64 s.mo (if s.ar then 8 else 0)) (if s.ho then 16 else 0) = ((Dw.firstN s : Nat) : Int) from first_or s.mo ⟨m0, m1⟩ s.ar s.ho)
  have hI : s.iso.toNat < 16 := by omega
  have hIe : IntKind.u64.wrap s.iso = ((s.iso.toNat : Nat) : Int) := by rw [u64_nat]; omega
  have hA := Dw.m24_lt s.la; have hB := Dw.m24_lt s.lo
  have eA := m24_u64 s.la; have eB := m24_u64 s.lo
  have wA := u64_nat s.la; have wB := u64_nat s.lo
  have lA : (s.la % 18446744073709551616).toNat < 18446744073709551616 := by omega
  have lB : (s.lo % 18446744073709551616).toNat < 18446744073709551616 := by omega
  have hB0 := (Below.refl w.heap.size w).alloc (Nat.le_refl _) (.cells (stC s) 28)
  have hC0 := han w (.cells (stC s) 28)
  generalize Dw.firstN s = F at *
  generalize Dw.m24 s.la = A at *
  generalize Dw.m24 s.lo = B at *
  generalize (s.la % 18446744073709551616).toNat = NA at *
  generalize (s.lo % 18446744073709551616).toNat = NB at *
  generalize s.iso.toNat = I at *
  obtain ⟨mo, ar, ho, la, lo, iso⟩ := s
  dsimp only at *
  clear h m0 m1 i0 i1
  obtain ⟨c0, c1, c2, c3, c4, c5⟩ := cells6 hC0
  have HA := Lib.hid wA; have HB := Lib.hid wB; have HI := Lib.hid hIe
  have HW1 := Lib.hid (fun w => when_any ar 8 w); have HW2 := Lib.hid (fun w => when_any ho 16 w)
  clear wA wB hIe
  generalize (if ar = true then (8 : Int) else 0) = wa at *
  generalize (if ho = true then (16 : Int) else 0) = wo at *
  go_enter Tryz.func93, Tryz.ntmps93
  go_wp2_with (first | (refine lb hC0 rfl rfl rfl (by kernel_rfl) ?_))
  refine cb (HL.out _) fun w1 hb => ?_
  replace hC0 := kp hb hC0
  have hB1 := tr hB0 hb
  clear hb c0 c1 c2 c3 c4 c5 hB0
  obtain ⟨c0, c1, c2, c3, c4, c5⟩ := cells6 hC0
  go_wp2_with fail
  refine wp_pure [0,1,2,3,4,5,6,7,8,9,10,11,12,13,14,15,16,17,18,19,20,21] 22 (by kernel_rfl) (by kernel_rfl) rfl ?_
  (apply rat; (focus (intro w' hk; obtain ⟨k0,k1,k2,k3,k4,k5⟩ := look6 hk c0 c1 c2 c3 c4 c5; repeat' (first | exact rn | ((first | refine' rv ?_ rfl rfl (by go_simp; first | done | with_reducible rfl | exact rfl) | refine' rc ?_ (by exact rfl) (by exact rfl) (by go_simp; first | done | (constructor <;> with_reducible rfl) | with_reducible rfl) (by first | first | exact HW1.out w' | exact HW2.out w') | refine' rs ?_ rfl rfl); try simp only [Act.put, List.setIfInBounds_toArray, List.set_cons_zero, List.set_cons_succ])))))
  intro w2 hk2
  simp only [List.drop_succ_cons, List.drop_zero]
  have hB2 := hB1.trans (hk2.whole.mono hB1.size)
  clear hk2 c0 c1 c2 c3 c4 c5 hC0 hB1
  rw [HF.out]
  clear HF HW1 HW2 HL
  have hi0 : ∀ w, (Instr.index 191 (.agg #[.int .i64 (F : Nat), .int .i64 1, .int .i64 iso, .int .i64 1, .int .i64 la, .int .i64 3, .int .i64 lo, .int .i64 3]) (.int .i64 0)).run Tryz.prog w = .ok (.agg #[.int .i64 (F : Nat), .int .i64 1]) w := fun w => by kernel_rfl
  have hi1 : ∀ w, (Instr.index 191 (.agg #[.int .i64 (F : Nat), .int .i64 1, .int .i64 iso, .int .i64 1, .int .i64 la, .int .i64 3, .int .i64 lo, .int .i64 3]) (.int .i64 1)).run Tryz.prog w = .ok (.agg #[.int .i64 iso, .int .i64 1]) w := fun w => by kernel_rfl
  have hi2 : ∀ w, (Instr.index 191 (.agg #[.int .i64 (F : Nat), .int .i64 1, .int .i64 iso, .int .i64 1, .int .i64 la, .int .i64 3, .int .i64 lo, .int .i64 3]) (.int .i64 2)).run Tryz.prog w = .ok (.agg #[.int .i64 la, .int .i64 3]) w := fun w => by kernel_rfl
  have hi3 : ∀ w, (Instr.index 191 (.agg #[.int .i64 (F : Nat), .int .i64 1, .int .i64 iso, .int .i64 1, .int .i64 la, .int .i64 3, .int .i64 lo, .int .i64 3]) (.int .i64 3)).run Tryz.prog w = .ok (.agg #[.int .i64 lo, .int .i64 3]) w := fun w => by kernel_rfl
  go_wp2_with fail
  go_loopw [2, 29] (fun n i wr => ∃ k : Nat, k ≤ 4 ∧ i = .int .i64 k ∧ n = .int .u64 ((packAcc F I A B k : Nat) : Int) ∧ Below w.heap.size w wr) (fun _ i _ => 4 - (intOf i).toNat)
  case atStart => exact ⟨0, Nat.zero_le _, rfl, rfl, hB2⟩
  case round =>
    clear hB2
    obtain ⟨k, hk, rfl, rfl, hBr⟩ := hrel
    have hBz := hBr.alloc hBr.size (.cells #[.int .i64 0, .int .i64 0] 190)
    have hZ := han wr (.cells #[.int .i64 0, .int .i64 0] 190)
    have hsz := hBr.size
    rcases (by omega : k = 0 ∨ k = 1 ∨ k = 2 ∨ k = 3 ∨ k = 4) with rfl | rfl | rfl | rfl | rfl
    · rw [show packAcc F I A B 0 = 0 from rfl]
      have m1 : IntKind.u64.wrap (((0 : Nat) : Int) * 256) = ((0 : Nat) : Int) * 256 := u64_id (by omega) (by omega)
      have m2 : IntKind.u64.wrap ((F : Nat) : Int) = ((F : Nat) : Int) := u64_id (by omega) (by omega)
      have m3 := u64_join 0 F (by omega) (by omega)
      have m4 : F % 256 ^ 1 = F := by omega
      have HP1 := Lib.hid (fun w => put_any F 1 (by omega) (by decide) w)
      have HG1 := Lib.hid (fun w => getput_any 1 F (by decide) w)
      rw [m4] at HG1
      have M1 := Lib.hid m1; have M2 := Lib.hid m2; have M3 := Lib.hid m3
      clear m1 m2 m3 m4
      have hrow : #[Value.int .i64 (F : Int), .int .i64 1].size = 2 := rfl
      go_wp2_with (first | (refine wpList_store_block rfl 190 (.tmp 4) (.tmp 31) rfl rfl rfl hZ (by kernel_rfl) rfl (by simp [Value.oneCell']) ?_))
      have hR := setRow_heap _ _ _ #[.int .i64 (F : Int), .int .i64 1] _ _ hZ
      have hBR := below_setRow hBz hsz #[.int .i64 (F : Int), .int .i64 1]
      generalize World.setRow _ _ _ = W3 at *
      generalize wr.heap.size = g4 at *
      clear hZ hBz hBr
      obtain ⟨d0, d1⟩ := cells2 hR
      refine wp_pure [0,1,2,3,4,5,6,7,8,9,10,11,12,13] 14 (by kernel_rfl) (by kernel_rfl) rfl ?_
      (apply rat; (focus (intro w' hk; obtain ⟨k0,k1⟩ := look2 hk d0 d1; have m1 := M1.out; have m2 := M2.out; have m3 := M3.out; repeat' (first | exact rn | ((first | refine' rv ?_ rfl rfl (by go_simp; first | done | with_reducible rfl | exact rfl) | refine' rc ?_ (by exact rfl) (by exact rfl) (by go_simp; first | done | (constructor <;> with_reducible rfl) | with_reducible rfl) (by first | first | exact HP1.out w' | exact HG1.out w') | refine' rs ?_ rfl rfl); try simp only [Act.put, List.setIfInBounds_toArray, List.set_cons_zero, List.set_cons_succ])))))
      intro w4 hk4
      simp only [List.drop_succ_cons, List.drop_zero]
      have hB4 := hBR.trans (hk4.whole.mono hBR.size)
      clear hk4 d0 d1 hR hBR M2 HP1 HG1
      go_wp2_with fail
      go_roundw
      case rel => exact ⟨1, by decide, by rfl, int_val (by show _ = ((F : Nat) : Int); have h3 := M3.out; rw [show ((0 : Nat) : Int) * 256 = IntKind.u64.wrap 0 from rfl] at h3; rw [h3, show IntKind.u64.wrap 0 = 0 from by decide]; omega), hB4⟩
      case measure => first | done | (simp [intOf]; done) | (simp [intOf]; omega)
    · rw [show packAcc F I A B 1 = F from rfl]
      have m1 : IntKind.u64.wrap (((F : Nat) : Int) * 256) = ((F : Nat) : Int) * 256 := u64_id (by omega) (by omega)
      have m2 : IntKind.u64.wrap iso = ((I : Nat) : Int) := HI.out
      have m3 := u64_join F I (by omega) (by omega)
      have m4 : I % 256 ^ 1 = I := by omega
      have HP1 := Lib.hid (fun w => put_any I 1 (by omega) (by decide) w)
      have HG1 := Lib.hid (fun w => getput_any 1 I (by decide) w)
      rw [m4] at HG1
      have M1 := Lib.hid m1; have M2 := Lib.hid m2; have M3 := Lib.hid m3
      clear m1 m2 m3 m4
      have hrow : #[Value.int .i64 iso, .int .i64 1].size = 2 := rfl
      go_wp2_with (first | (refine wpList_store_block rfl 190 (.tmp 4) (.tmp 31) rfl rfl rfl hZ (by kernel_rfl) rfl (by simp [Value.oneCell']) ?_))
      have hR := setRow_heap _ _ _ #[.int .i64 iso, .int .i64 1] _ _ hZ
      have hBR := below_setRow hBz hsz #[.int .i64 iso, .int .i64 1]
      generalize World.setRow _ _ _ = W3 at *
      generalize wr.heap.size = g4 at *
      clear hZ hBz hBr
      obtain ⟨d0, d1⟩ := cells2 hR
      refine wp_pure [0,1,2,3,4,5,6,7,8,9,10,11,12,13] 14 (by kernel_rfl) (by kernel_rfl) rfl ?_
      (apply rat; (focus (intro w' hk; obtain ⟨k0,k1⟩ := look2 hk d0 d1; have m1 := M1.out; have m2 := M2.out; have m3 := M3.out; repeat' (first | exact rn | ((first | refine' rv ?_ rfl rfl (by go_simp; first | done | with_reducible rfl | exact rfl) | refine' rc ?_ (by exact rfl) (by exact rfl) (by go_simp; first | done | (constructor <;> with_reducible rfl) | with_reducible rfl) (by first | first | exact HP1.out w' | exact HG1.out w') | refine' rs ?_ rfl rfl); try simp only [Act.put, List.setIfInBounds_toArray, List.set_cons_zero, List.set_cons_succ])))))
      intro w4 hk4
      simp only [List.drop_succ_cons, List.drop_zero]
      have hB4 := hBR.trans (hk4.whole.mono hBR.size)
      clear hk4 d0 d1 hR hBR M2 HP1 HG1
      go_wp2_with fail
      go_roundw
      case rel => exact ⟨2, by decide, by rfl, int_val (by show _ = ((F * 256 + I : Nat) : Int); have h3 := M3.out; have h1 := M1.out;  rw [show (2 : Int) ^ min (IntKind.i64.wrap 8).toNat 64 = 256 from by decide, h1, h3]; omega), hB4⟩
      case measure => first | done | (simp [intOf]; done) | (simp [intOf]; omega)
    · rw [show packAcc F I A B 2 = (F * 256 + I) from rfl]
      have m1 : IntKind.u64.wrap ((((F * 256 + I) : Nat) : Int) * 16777216) = (((F * 256 + I) : Nat) : Int) * 16777216 := u64_id (by omega) (by omega)
      have m2 : IntKind.u64.wrap la = ((NA : Nat) : Int) := HA.out
      have m3 := u64_join3 (F * 256 + I) A (by omega) (by omega)
      have m4 : NA % 256 ^ 3 = A := eA
      have HP1 := Lib.hid (fun w => put_any NA 3 (by omega) (by decide) w)
      have HG1 := Lib.hid (fun w => getput_any 3 NA (by decide) w)
      rw [m4] at HG1
      have M1 := Lib.hid m1; have M2 := Lib.hid m2; have M3 := Lib.hid m3
      clear m1 m2 m3 m4
      have hrow : #[Value.int .i64 la, .int .i64 3].size = 2 := rfl
      go_wp2_with (first | (refine wpList_store_block rfl 190 (.tmp 4) (.tmp 31) rfl rfl rfl hZ (by kernel_rfl) rfl (by simp [Value.oneCell']) ?_))
      have hR := setRow_heap _ _ _ #[.int .i64 la, .int .i64 3] _ _ hZ
      have hBR := below_setRow hBz hsz #[.int .i64 la, .int .i64 3]
      generalize World.setRow _ _ _ = W3 at *
      generalize wr.heap.size = g4 at *
      clear hZ hBz hBr
      obtain ⟨d0, d1⟩ := cells2 hR
      refine wp_pure [0,1,2,3,4,5,6,7,8,9,10,11,12,13] 14 (by kernel_rfl) (by kernel_rfl) rfl ?_
      (apply rat; (focus (intro w' hk; obtain ⟨k0,k1⟩ := look2 hk d0 d1; have m1 := M1.out; have m2 := M2.out; have m3 := M3.out; repeat' (first | exact rn | ((first | refine' rv ?_ rfl rfl (by go_simp; first | done | with_reducible rfl | exact rfl) | refine' rc ?_ (by exact rfl) (by exact rfl) (by go_simp; first | done | (constructor <;> with_reducible rfl) | with_reducible rfl) (by first | first | exact HP1.out w' | exact HG1.out w') | refine' rs ?_ rfl rfl); try simp only [Act.put, List.setIfInBounds_toArray, List.set_cons_zero, List.set_cons_succ])))))
      intro w4 hk4
      simp only [List.drop_succ_cons, List.drop_zero]
      have hB4 := hBR.trans (hk4.whole.mono hBR.size)
      clear hk4 d0 d1 hR hBR M2 HP1 HG1
      go_wp2_with fail
      go_roundw
      case rel => exact ⟨3, by decide, by rfl, int_val (by show _ = (((F * 256 + I) * 16777216 + A : Nat) : Int); have h3 := M3.out; have h1 := M1.out; rw [show ((F : Int) * 256 + (I : Int)) = ((F * 256 + I : Nat) : Int) from by omega]; rw [show (2 : Int) ^ min (IntKind.i64.wrap 24).toNat 64 = 16777216 from by decide, h1, h3]; omega), hB4⟩
      case measure => first | done | (simp [intOf]; done) | (simp [intOf]; omega)
    · rw [show packAcc F I A B 3 = ((F * 256 + I) * 16777216 + A) from rfl]
      have m1 : IntKind.u64.wrap (((((F * 256 + I) * 16777216 + A) : Nat) : Int) * 16777216) = ((((F * 256 + I) * 16777216 + A) : Nat) : Int) * 16777216 := u64_id (by omega) (by omega)
      have m2 : IntKind.u64.wrap lo = ((NB : Nat) : Int) := HB.out
      have m3 := u64_join3 ((F * 256 + I) * 16777216 + A) B (by omega) (by omega)
      have m4 : NB % 256 ^ 3 = B := eB
      have HP1 := Lib.hid (fun w => put_any NB 3 (by omega) (by decide) w)
      have HG1 := Lib.hid (fun w => getput_any 3 NB (by decide) w)
      rw [m4] at HG1
      have M1 := Lib.hid m1; have M2 := Lib.hid m2; have M3 := Lib.hid m3
      clear m1 m2 m3 m4
      have hrow : #[Value.int .i64 lo, .int .i64 3].size = 2 := rfl
      go_wp2_with (first | (refine wpList_store_block rfl 190 (.tmp 4) (.tmp 31) rfl rfl rfl hZ (by kernel_rfl) rfl (by simp [Value.oneCell']) ?_))
      have hR := setRow_heap _ _ _ #[.int .i64 lo, .int .i64 3] _ _ hZ
      have hBR := below_setRow hBz hsz #[.int .i64 lo, .int .i64 3]
      generalize World.setRow _ _ _ = W3 at *
      generalize wr.heap.size = g4 at *
      clear hZ hBz hBr
      obtain ⟨d0, d1⟩ := cells2 hR
      refine wp_pure [0,1,2,3,4,5,6,7,8,9,10,11,12,13] 14 (by kernel_rfl) (by kernel_rfl) rfl ?_
      (apply rat; (focus (intro w' hk; obtain ⟨k0,k1⟩ := look2 hk d0 d1; have m1 := M1.out; have m2 := M2.out; have m3 := M3.out; repeat' (first | exact rn | ((first | refine' rv ?_ rfl rfl (by go_simp; first | done | with_reducible rfl | exact rfl) | refine' rc ?_ (by exact rfl) (by exact rfl) (by go_simp; first | done | (constructor <;> with_reducible rfl) | with_reducible rfl) (by first | first | exact HP1.out w' | exact HG1.out w') | refine' rs ?_ rfl rfl); try simp only [Act.put, List.setIfInBounds_toArray, List.set_cons_zero, List.set_cons_succ])))))
      intro w4 hk4
      simp only [List.drop_succ_cons, List.drop_zero]
      have hB4 := hBR.trans (hk4.whole.mono hBR.size)
      clear hk4 d0 d1 hR hBR M2 HP1 HG1
      go_wp2_with fail
      go_roundw
      case rel => exact ⟨4, by decide, by rfl, int_val (by show _ = ((((F * 256 + I) * 16777216 + A) * 16777216 + B : Nat) : Int); have h3 := M3.out; have h1 := M1.out; rw [show (((F : Int) * 256 + (I : Int)) * 16777216 + (A : Int)) = (((F * 256 + I) * 16777216 + A : Nat) : Int) from by omega]; rw [show (2 : Int) ^ min (IntKind.i64.wrap 24).toNat 64 = 16777216 from by decide, h1, h3]; omega), hB4⟩
      case measure => first | done | (simp [intOf]; done) | (simp [intOf]; omega)
    · go_wp2_with fail
      go_ret
      exact ⟨by rw [HP.out]; rfl, hBr⟩
theorem and7 (F : Nat) (h : F < 256) : bits .and .i64 (F : Int) 7 = ((F % 8 : Nat) : Int) := by
  have : ∀ k : Fin 256, bits .and .i64 ((k.val : Nat) : Int) 7 = ((k.val % 8 : Nat) : Int) := by decide +kernel
  exact this ⟨F, h⟩
theorem and8 (F : Nat) (h : F < 256) : bits .and .i64 (F : Int) 8 = if (F / 8 % 2 == 1) = true then 8 else 0 := by
  have : ∀ k : Fin 256, bits .and .i64 ((k.val : Nat) : Int) 8 = if (k.val / 8 % 2 == 1) = true then 8 else 0 := by decide +kernel
  exact this ⟨F, h⟩
theorem and16 (F : Nat) (h : F < 256) : bits .and .i64 (F : Int) 16 = if (F / 16 % 2 == 1) = true then 16 else 0 := by
  have : ∀ k : Fin 256, bits .and .i64 ((k.val : Nat) : Int) 16 = if (k.val / 16 % 2 == 1) = true then 16 else 0 := by decide +kernel
  exact this ⟨F, h⟩
theorem and255 (n : Nat) (h : n < 18446744073709551616) : bits .and .u64 (n : Int) 255 = ((n % 256 : Nat) : Int) := by
  have e := u64_and_nat n 255 h (by decide)
  rw [show n &&& 255 = n % 256 from Nat.and_two_pow_sub_one_eq_mod n 8] at e
  exact e
theorem unpack_any (n : Nat) (h : n < 18446744073709551616) (w : World) :
    Calls Tryz.prog 58 #[.int .u64 n] w fun e w' => e = .returned (.tuple #[stV (Dw.unP n), .int .i64 (Dw.unE n)]) ∧ Below w.heap.size w w' := by
  obtain ⟨F, hF⟩ : ∃ F, n / 72057594037927936 = F := ⟨_, rfl⟩
  have hF256 : F < 256 := by omega
  have har : n / 576460752303423488 = F / 8 := by omega
  have hho : n / 1152921504606846976 = F / 16 := by omega
  have hU : Dw.unS n = ⟨((F % 8 : Nat) : Int), F / 8 % 2 == 1, F / 16 % 2 == 1, Dw.sg24 (n / 16777216 % 16777216), Dw.sg24 (n % 16777216), ((n / 281474976710656 % 256 : Nat) : Int)⟩ := by
    unfold Dw.unS; rw [hF, har, hho]
  have HS1 := Lib.hid (fun w => signed_any (n / 16777216) (by omega) w)
  have HS2 := Lib.hid (fun w => signed_any n h w)
  have HL := Lib.hid (fun w => legal_any (Dw.unS n) ⟨by show (0 : Int) ≤ ((n / 281474976710656 % 256 : Nat) : Int); omega, by show ((n / 281474976710656 % 256 : Nat) : Int) < 256; omega⟩ w)
  have HE := Lib.hid (show Dw.unE n = if (Dw.legal (Dw.unS n) && decide (F < 32)) then 0 else 13 from by
    unfold Dw.unE Dw.unOk; rw [show decide (n < 2305843009213693952) = decide (F < 32) from decide_eq_decide.2 (by omega)])
  have HP := Lib.hid (show Dw.unP n = if (Dw.legal (Dw.unS n) && decide (F < 32)) then Dw.unS n else Dw.st0 from by
    unfold Dw.unP Dw.unOk; rw [show decide (n < 2305843009213693952) = decide (F < 32) from decide_eq_decide.2 (by omega)])
  have b1 := and7 F hF256; have b2 := and8 F hF256; have b3 := and16 F hF256
  have b4 := and255 (n / 281474976710656) (by omega)
  have e1 : wrap64 ((n : Int) / 72057594037927936) = (F : Int) := by rw [IntWalk.wrap64_in _ (by omega)]; omega
  have e2 : wrap64 (((n / 281474976710656 % 256 : Nat) : Int)) = ((n / 281474976710656 % 256 : Nat) : Int) := IntWalk.wrap64_in _ (by omega)
  have e3 : ((n : Int) / 281474976710656) = ((n / 281474976710656 : Nat) : Int) := by omega
  have e4 : ((n : Int) / 16777216) = ((n / 16777216 : Nat) : Int) := by omega
  rw [hU] at HL HE HP
  have hB0 := (Below.refl w.heap.size w).alloc (Nat.le_refl _) (.cells (stC Dw.st0) 28)
  have hC0 := han w (.cells (stC Dw.st0) 28)
  generalize Dw.sg24 (n / 16777216 % 16777216) = L1 at *
  generalize Dw.sg24 (n % 16777216) = L2 at *
  generalize hb1 : (F / 8 % 2 == 1) = a8 at *
  generalize hb2 : (F / 16 % 2 == 1) = a16 at *
  generalize ((F % 8 : Nat) : Int) = M at *
  generalize ((n / 281474976710656 % 256 : Nat) : Int) = I at *
  have B1 := Lib.hid b1; have B2 := Lib.hid b2; have B3 := Lib.hid b3; have B4 := Lib.hid b4; have E1 := Lib.hid e1; have E2 := Lib.hid e2; have E3 := Lib.hid e3; have E4 := Lib.hid e4
  have H256 := Lib.hid hF256
  clear b1 b2 b3 b4 e1 e2 e3 e4 hF har hho hU hF256 h hb1 hb2
  go_enter Tryz.func58, Tryz.ntmps58
  go_wp2_with fail
  rw [E1.out, B1.out, B2.out, B3.out, E4.out, show ((if a8 = true then (8 : Int) else 0) != 0) = a8 from by cases a8 <;> rfl, show ((if a16 = true then (16 : Int) else 0) != 0) = a16 from by cases a16 <;> rfl]
  clear B2 B3
  generalize (if a8 = true then (8 : Int) else 0) = z8 at *
  generalize (if a16 = true then (16 : Int) else 0) = z16 at *
  refine cb (HS1.out _) fun w1 hb => ?_
  replace hC0 := kp hb hC0
  replace hB0 := tr hB0 hb
  clear hb
  go_wp2_with fail
  refine cb (HS2.out _) fun w2 hb => ?_
  replace hC0 := kp hb hC0
  replace hB0 := tr hB0 hb
  clear hb
  have hZ := han w2 (.cells (stC ⟨M, a8, a16, L1, L2, I⟩) 28)
  have hB1 := hB0.alloc hB0.size (.cells (stC ⟨M, a8, a16, L1, L2, I⟩) 28)
  have hO := hao w2 (.cells (stC ⟨M, a8, a16, L1, L2, I⟩) 28) hC0
  clear hC0 hB0
  go_wp2_with fail
  rw [E3.out, B4.out, E2.out]
  refine cb (HL.out _) fun w3 hb => ?_
  replace hZ := kp hb hZ
  replace hO := kp hb hO
  replace hB1 := tr hB1 hb
  clear hb HL HS1 HS2
  generalize w2.heap.size = g2 at *
  generalize hl : Dw.legal ⟨M, a8, a16, L1, L2, I⟩ = lb at *
  have H32 := H256.out
  clear hl E1 E2 E3 E4 B1 B4 H256
  cases lb
  · have HE1 := HE.out; have HP1 := HP.out
    rw [Bool.false_and, if_neg (by decide)] at HE1 HP1
    have HE2 := Lib.hid HE1; have HP2 := Lib.hid HP1
    clear HE HP HE1 HP1 H32
    go_wp2_with (first | (refine lb hZ rfl rfl rfl (by kernel_rfl) ?_) | (refine sb hZ rfl rfl rfl rfl (by kernel_rfl) ?_) | (refine lb hO rfl rfl rfl (by kernel_rfl) ?_) | (refine sb hO rfl rfl rfl rfl (by kernel_rfl) ?_))
    refine bodyPost_ret (rct rfl (srh hO) (by rfl) (by kernel_rfl)) rfl ⟨?_, below_setRow hB1 (Nat.le_refl _) _⟩
    rw [HE2.out, HP2.out]; rfl
  · by_cases hf : F < 32
    · have hf1 : ¬ (32 : Int) ≤ (F : Int) := by omega
      have HE1 := HE.out; have HP1 := HP.out
      rw [Bool.true_and, decide_eq_true hf, if_pos rfl] at HE1 HP1
      have HE2 := Lib.hid HE1; have HP2 := Lib.hid HP1
      clear HE HP HE1 HP1
      go_wp2_with (first | (refine lb hZ rfl rfl rfl (by kernel_rfl) ?_) | (refine sb hZ rfl rfl rfl rfl (by kernel_rfl) ?_) | (refine lb hO rfl rfl rfl (by kernel_rfl) ?_) | (refine sb hO rfl rfl rfl rfl (by kernel_rfl) ?_))
      refine bodyPost_ret (rct rfl (srh hO) (by rfl) (by kernel_rfl)) rfl ⟨?_, below_setRow hB1 (Nat.le_refl _) _⟩
      rw [HE2.out, HP2.out]; rfl
    · have hf1 : (32 : Int) ≤ (F : Int) := by omega
      have HE1 := HE.out; have HP1 := HP.out
      rw [Bool.true_and, decide_eq_false hf, if_neg (by decide)] at HE1 HP1
      have HE2 := Lib.hid HE1; have HP2 := Lib.hid HP1
      clear HE HP HE1 HP1
      go_wp2_with (first | (refine lb hZ rfl rfl rfl (by kernel_rfl) ?_) | (refine sb hZ rfl rfl rfl rfl (by kernel_rfl) ?_) | (refine lb hO rfl rfl rfl (by kernel_rfl) ?_) | (refine sb hO rfl rfl rfl rfl (by kernel_rfl) ?_))
      refine bodyPost_ret (rct rfl (srh hO) (by rfl) (by kernel_rfl)) rfl ⟨?_, below_setRow hB1 (Nat.le_refl _) _⟩
      rw [HE2.out, HP2.out]; rfl
theorem default_any (w : World) :
    Calls Tryz.prog 56 #[] w fun e w' => e = .returned (stV Dw.st0) ∧ Below w.heap.size w w' := by
  have hB0 := (Below.refl w.heap.size w).alloc (Nat.le_refl _) (.cells (stC Dw.st0) 28)
  have hC0 := han w (.cells (stC Dw.st0) 28)
  go_enter Tryz.func56, Tryz.ntmps56
  go_wp2_with (first | (refine lb hC0 rfl rfl rfl (by kernel_rfl) ?_) | (refine sb hC0 rfl rfl rfl rfl (by kernel_rfl) ?_))
  refine bodyPost_ret (rcr rfl (srh hC0) (by rfl) (by kernel_rfl)) rfl ⟨rfl, below_setRow hB0 (Nat.le_refl _) _⟩
end Go.Proofs.YtjibbchfndhhpaaGreatDoor
