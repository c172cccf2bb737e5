/- What the statement's proof stands on, part 33: Cmd4, Ev20, PlainFly, EvT. -/
import Derived.Test.YtcadgecnlahkgaaGreatDoorAj31
import Derived.Test.YtcadgecnlahkgaaGreatDoorAj13
set_option linter.unusedSimpArgs false
set_option linter.unusedVariables false
set_option maxRecDepth 100000
set_option maxHeartbeats 4000000
namespace Go.Proofs.YtcadgecnlahkgaaGreatDoor
open Go.RowKit Go.Shelf
attribute [local go_sem] Oper.semAt_some
theorem run_upd {P : Program} {T K E : TypeId} {r : Nat} {es : Array MapEntry} {clock : Nat} {k : Int} {v : Value} {w : World} (hT : P.underlying T = some (.map K E)) (hK : P.underlying K = some (.int .i64)) (hr : w.heap[r]? = some (.map es clock))
    (hn : Instr.findNow (.int .i64) (.int .i64 k) es.toList 0 = some none) :
    (Instr.mapUpdate T (.map (some r)) (.int .i64 k) v).run P w = .ok () (w.putObj r (.map (es.push { key := .int .i64 k, val := v, born := clock }) (clock + 1))) := by
  have h1 : (getObj r).run P w = .ok (.map es clock) w := by simp [getObj, Sem.run, hr]
  have h2 : ∀ o, (setObj r o).run P w = .ok () (w.putObj r o) := fun o => by simp [setObj, Sem.run, hr, World.putObj]
  have hc : ∀ b, (Instr.checkKey b 10000 K (.int .i64 k)).run P w = .ok () w := fun b => by
    show (Instr.checkKey b (9999 + 1) K (.int .i64 k)).run P w = _
    rw [Instr.checkKey]
    simp [Sem.run_bind, run_underlying hK w]
  simp [Instr.mapUpdate, Sem.run_bind, run_underlying hT w, run_underlying hK w, h1, h2, hc, Instr.findKey, hn]
theorem run_look {P : Program} {T K E : TypeId} {r : Nat} {es : Array MapEntry} {clock : Nat} {k : Int} {i : Nat} {v : Value} {w : World} (hT : P.underlying T = some (.map K E)) (hK : P.underlying K = some (.int .i64)) (hr : w.heap[r]? = some (.map es clock))
    (hn : Instr.findNow (.int .i64) (.int .i64 k) es.toList 0 = some (some (i, v))) :
    (Instr.lookup T (.map (some r)) (.int .i64 k) true).run P w = .ok (.tuple #[v, .bool true]) w := by
  have h1 : (getObj r).run P w = .ok (.map es clock) w := by simp [getObj, Sem.run, hr]
  have hc : ∀ b, (Instr.checkKey b 10000 K (.int .i64 k)).run P w = .ok () w := fun b => by
    show (Instr.checkKey b (9999 + 1) K (.int .i64 k)).run P w = _
    rw [Instr.checkKey]
    simp [Sem.run_bind, run_underlying hK w]
  simp [Instr.lookup, Sem.run_bind, run_underlying hT w, run_underlying hK w, h1, hc, Instr.findKey, hn]
theorem run_lookno {P : Program} {T K E : TypeId} {r : Nat} {es : Array MapEntry} {clock : Nat} {k : Int} {z : Value} {w : World} (hT : P.underlying T = some (.map K E)) (hK : P.underlying K = some (.int .i64)) (hr : w.heap[r]? = some (.map es clock))
    (hn : Instr.findNow (.int .i64) (.int .i64 k) es.toList 0 = some none) (hz : (zeroValue E).run P w = .ok z w) :
    (Instr.lookup T (.map (some r)) (.int .i64 k) true).run P w = .ok (.tuple #[z, .bool false]) w := by
  have h1 : (getObj r).run P w = .ok (.map es clock) w := by simp [getObj, Sem.run, hr]
  have hc : ∀ b, (Instr.checkKey b 10000 K (.int .i64 k)).run P w = .ok () w := fun b => by
    show (Instr.checkKey b (9999 + 1) K (.int .i64 k)).run P w = _
    rw [Instr.checkKey]
    simp [Sem.run_bind, run_underlying hK w]
  simp [Instr.lookup, Sem.run_bind, run_underlying hT w, run_underlying hK w, h1, hc, Instr.findKey, hn, hz]
theorem wpList_insert {P : Program} {w : World} {ops : Array Oper} {rest : List Oper} {o : Oper} {a : Act} {Q : Exit → Act → World → Prop} (hg : o.guard = none) (T : TypeId) (m k x : Operand) (hop : o.op = .insert T m k x)
    {r : Nat} {n : Int} {v : Value} {K E : TypeId} {es es' : Array MapEntry} {clock : Nat} (hm : a.eval m = .map (some r)) (hk : a.eval k = .int .i64 n) (hx : a.eval x = v)
    (hT : P.underlying T = some (.map K E)) (hK : P.underlying K = some (.int .i64)) (hr : w.heap[r]? = some (.map es clock)) (hn : Instr.findNow (.int .i64) (.int .i64 n) es.toList 0 = some none) (he : es.push { key := .int .i64 n, val := v, born := clock } = es')
    (h : wpList P ops Q rest (a.put o.dst undef) (w.putObj r (.map es' (clock + 1)))) : wpList P ops Q (o :: rest) a w := by
  refine wpList_plain hg fun KK hKK => ?_
  unfold Oper.wp
  have hl := run_upd (v := v) hT hK hr hn
  rw [he] at hl
  have e : (execOp a.eval o).run P w = .ok .skip (w.putObj r (.map es' (clock + 1))) := by
    unfold execOp
    rw [hop]
    simp only [hm, hk, hx]
    simp [hl, Result.andThen]
  rw [e]
  exact hKK _ _ h
theorem wpList_lookup {P : Program} {w : World} {ops : Array Oper} {rest : List Oper} {o : Oper} {a : Act} {Q : Exit → Act → World → Prop} (hg : o.guard = none) (T : TypeId) (m k : Operand) (hop : o.op = .lookup T m k true)
    {vm vk v : Value} (hm : a.eval m = vm) (hk : a.eval k = vk) (hl : (Instr.lookup T vm vk true).run P w = .ok v w)
    (h : wpList P ops Q rest (a.put o.dst v) w) : wpList P ops Q (o :: rest) a w := by
  refine wpList_plain hg fun KK hKK => ?_
  unfold Oper.wp
  have e : (execOp a.eval o).run P w = .ok (.value v) w := by
    unfold execOp
    rw [hop]
    simp only [hm, hk]
    simp [hl, Result.andThen]
  rw [e]
  exact hKK _ _ h
abbrev mth (g f : Nat) : Value := .func (.func f) #[.pointer (some ⟨g, 0, none⟩)] #[]
abbrev ent (g : Nat) (k : Int) (f b : Nat) : MapEntry := { key := .int .i64 k, val := mth g f, born := b }
abbrev es1 (g : Nat) : Array MapEntry := #[ent g 1 74 0]
abbrev es2 (g : Nat) : Array MapEntry := #[ent g 1 74 0, ent g 2 75 1]
abbrev es3 (g : Nat) : Array MapEntry := #[ent g 1 74 0, ent g 2 75 1, ent g 3 76 2]
abbrev es4 (g : Nat) : Array MapEntry := #[ent g 1 74 0, ent g 2 75 1, ent g 3 76 2, ent g 4 77 3]
abbrev es5 (g : Nat) : Array MapEntry := #[ent g 1 74 0, ent g 2 75 1, ent g 3 76 2, ent g 4 77 3, ent g 5 78 4]
abbrev es6 (g : Nat) : Array MapEntry := #[ent g 1 74 0, ent g 2 75 1, ent g 3 76 2, ent g 4 77 3, ent g 5 78 4, ent g 6 78 5]
theorem mapT : Tryz.prog.underlying 146 = some (.map 3 144) := Tryz.underlying146
theorem mapK : Tryz.prog.underlying 3 = some (.int .i64) := Tryz.underlying3
theorem delta_core (s : Dw.St) (c : Dw.Cmd) (F i : Nat) (T : Dw.St) (er : Int) (w : World) (hcf : ∀ args w, (callFunc F args).run Tryz.prog w = .ok (.enter F args) w)
    (hki : ∀ g, Instr.findNow (.int .i64) (.int .i64 c.ki) (es6 g).toList 0 = some (some (i, mth g F)))
    (HM : ∀ (g : Nat) (w' : World), w'.heap[g]? = some (.cells (stC s) 143 (0, 0)) → Calls Tryz.prog F #[.pointer (some ⟨g, 0, none⟩), cmV c] w' (CEnd T er g w')) :
    Calls Tryz.prog 57 #[stV s, cmV c] w fun e w' => e = .returned (.tuple #[stV (if er = 0 then T else s), .int .i64 er]) ∧ Below w.heap.size w w' := by
  have hmf : ∀ (fn : Fn) (first cap : Array Value) (w : World), (Instr.makeFunc fn first cap).run Tryz.prog w = .ok (.func fn first cap) w := fun _ _ _ _ => rfl
  have hmm : ∀ (t : TypeId) (w : World), (Instr.makeMap t none).run Tryz.prog w = .ok (.map (some w.heap.size)) (w.alloc (.map #[] 0)) := fun _ _ => rfl
  obtain ⟨V, hV⟩ : ∃ V, ((((w.alloc (.cells (stC s) 29)).alloc (.cells (cmC c) 42)).alloc (.cells Z6 29)).alloc (.cells (stC s) 143)).alloc (.map #[] 0) = V := ⟨_, rfl⟩
  obtain ⟨vz, vB, b0, b1, b2, b3, b4⟩ := alloc5 w _ _ _ _ _ V hV
  obtain ⟨M1, h1⟩ : ∃ M, V.putObj (w.heap.size + 4) (.map (es1 (w.heap.size + 3)) 1) = M := ⟨_, rfl⟩
  have k1 : KeepBut (fun k => k = w.heap.size + 4) V M1 := by rw [← h1]; exact (KeepBut.putObj _ rfl)
  have r1 : M1.heap[w.heap.size + 4]? = some (.map (es1 (w.heap.size + 3)) 1) := by rw [← h1]; exact World.putObj_heap_same (by have := vz; omega)
  obtain ⟨M2, h2⟩ : ∃ M, M1.putObj (w.heap.size + 4) (.map (es2 (w.heap.size + 3)) 2) = M := ⟨_, rfl⟩
  have k2 : KeepBut (fun k => k = w.heap.size + 4) V M2 := by rw [← h2]; exact k1.trans (KeepBut.putObj _ rfl)
  have r2 : M2.heap[w.heap.size + 4]? = some (.map (es2 (w.heap.size + 3)) 2) := by rw [← h2]; exact World.putObj_heap_same (by have := k1.size; omega)
  obtain ⟨M3, h3⟩ : ∃ M, M2.putObj (w.heap.size + 4) (.map (es3 (w.heap.size + 3)) 3) = M := ⟨_, rfl⟩
  have k3 : KeepBut (fun k => k = w.heap.size + 4) V M3 := by rw [← h3]; exact k2.trans (KeepBut.putObj _ rfl)
  have r3 : M3.heap[w.heap.size + 4]? = some (.map (es3 (w.heap.size + 3)) 3) := by rw [← h3]; exact World.putObj_heap_same (by have := k2.size; omega)
  obtain ⟨M4, h4⟩ : ∃ M, M3.putObj (w.heap.size + 4) (.map (es4 (w.heap.size + 3)) 4) = M := ⟨_, rfl⟩
  have k4 : KeepBut (fun k => k = w.heap.size + 4) V M4 := by rw [← h4]; exact k3.trans (KeepBut.putObj _ rfl)
  have r4 : M4.heap[w.heap.size + 4]? = some (.map (es4 (w.heap.size + 3)) 4) := by rw [← h4]; exact World.putObj_heap_same (by have := k3.size; omega)
  obtain ⟨M5, h5⟩ : ∃ M, M4.putObj (w.heap.size + 4) (.map (es5 (w.heap.size + 3)) 5) = M := ⟨_, rfl⟩
  have k5 : KeepBut (fun k => k = w.heap.size + 4) V M5 := by rw [← h5]; exact k4.trans (KeepBut.putObj _ rfl)
  have r5 : M5.heap[w.heap.size + 4]? = some (.map (es5 (w.heap.size + 3)) 5) := by rw [← h5]; exact World.putObj_heap_same (by have := k4.size; omega)
  obtain ⟨M6, h6⟩ : ∃ M, M5.putObj (w.heap.size + 4) (.map (es6 (w.heap.size + 3)) 6) = M := ⟨_, rfl⟩
  have k6 : KeepBut (fun k => k = w.heap.size + 4) V M6 := by rw [← h6]; exact k5.trans (KeepBut.putObj _ rfl)
  have r6 : M6.heap[w.heap.size + 4]? = some (.map (es6 (w.heap.size + 3)) 6) := by rw [← h6]; exact World.putObj_heap_same (by have := k5.size; omega)
  have hB := vB.trans (k6.below vB.size (fun k hk => by omega))
  have hLK : (Instr.lookup 146 (.map (some (w.heap.size + 4))) (.int .i64 c.ki) true).run Tryz.prog M6 = .ok (.tuple #[mth (w.heap.size + 3) F, .bool true]) M6 := run_look mapT mapK r6 (hki _)
  have e0 := (k6.block _ (block_lt b0) (by omega)).trans b0
  have e1 := (k6.block _ (block_lt b1) (by omega)).trans b1
  have e2 := (k6.block _ (block_lt b2) (by omega)).trans b2
  have e3 := (k6.block _ (block_lt b3) (by omega)).trans b3
  have HLK := Lib.hid hLK
  obtain ⟨x0, x1, -⟩ := cells4 e1
  clear hLK k1 k2 k3 k4 k5 k6 vB b1 b2 b3 r6
  go_enter Tryz.func57, Tryz.ntmps57
  go_wp2_with (first | (refine lb b0 rfl rfl rfl (by kernel_rfl) ?_) | (refine sb b0 rfl rfl rfl rfl (by kernel_rfl) ?_) | (refine wpList_insert rfl 146 _ _ _ rfl (es' := es1 (w.heap.size + 3)) rfl rfl rfl mapT mapK b4 (by rfl) (by rfl) ?_) | (refine wpList_insert rfl 146 _ _ _ rfl (es' := es2 (w.heap.size + 3)) rfl rfl rfl mapT mapK r1 (by rfl) (by rfl) ?_) | (refine wpList_insert rfl 146 _ _ _ rfl (es' := es3 (w.heap.size + 3)) rfl rfl rfl mapT mapK r2 (by rfl) (by rfl) ?_) | (refine wpList_insert rfl 146 _ _ _ rfl (es' := es4 (w.heap.size + 3)) rfl rfl rfl mapT mapK r3 (by rfl) (by rfl) ?_) | (refine wpList_insert rfl 146 _ _ _ rfl (es' := es5 (w.heap.size + 3)) rfl rfl rfl mapT mapK r4 (by rfl) (by rfl) ?_) | (refine wpList_insert rfl 146 _ _ _ rfl (es' := es6 (w.heap.size + 3)) rfl rfl rfl mapT mapK r5 (by rfl) (by rfl) ?_) | (refine wpList_lookup rfl 146 _ _ rfl rfl rfl HLK.out ?_) | (refine lb e1 rfl rfl rfl (by kernel_rfl) ?_) | (refine sb e1 rfl rfl rfl rfl (by kernel_rfl) ?_))
  refine (HM _ _ e3).mono ?_
  rintro e w7 ⟨rfl, hk, s', hs', hT⟩
  have f0 := (hk.block _ (block_lt e0) (by omega)).trans e0
  have f2 := (hk.block _ (block_lt e2) (by omega)).trans e2
  have hB7 := hB.trans (hk.below hB.size (fun k hk => by omega))
  clear hk HM e0 e1 e2 e3 x0 x1 hV h1 h2 h3 h4 h5 h6 HLK hki hcf
  by_cases her : er = 0
  · subst her
    obtain rfl := hT rfl
    go_wp2_with (first | (refine lp 29 0 (stC s') hs' rfl rfl rfl (by kernel_rfl) (by rfl) ?_) | (refine lb f2 rfl rfl rfl (by kernel_rfl) ?_) | (refine sb f2 rfl rfl rfl rfl (by kernel_rfl) ?_))
    refine bodyPost_ret (rct rfl (srh f2) (by rfl) (by kernel_rfl)) rfl ⟨?_, below_setRow hB7 (by omega) _⟩
    first | rfl | (rw [if_pos rfl]; rfl)
  · have her' : (er == 0) = false := by simpa using her
    go_wp2_with (first | (refine lb f0 rfl rfl rfl (by kernel_rfl) ?_) | (refine sb f0 rfl rfl rfl rfl (by kernel_rfl) ?_) | (refine lb f2 rfl rfl rfl (by kernel_rfl) ?_) | (refine sb f2 rfl rfl rfl rfl (by kernel_rfl) ?_))
    refine bodyPost_ret (rct rfl (srh f2) (by rfl) (by kernel_rfl)) rfl ⟨?_, below_setRow hB7 (by omega) _⟩
    first | (rw [if_neg her]; rfl) | rfl
theorem delta_none (s : Dw.St) (c : Dw.Cmd) (w : World)
    (hki : ∀ g, Instr.findNow (.int .i64) (.int .i64 c.ki) (es6 g).toList 0 = some none) :
    Calls Tryz.prog 57 #[stV s, cmV c] w fun e w' => e = .returned (.tuple #[stV s, .int .i64 1]) ∧ Below w.heap.size w w' := by
  have hmf : ∀ (fn : Fn) (first cap : Array Value) (w : World), (Instr.makeFunc fn first cap).run Tryz.prog w = .ok (.func fn first cap) w := fun _ _ _ _ => rfl
  have hmm : ∀ (t : TypeId) (w : World), (Instr.makeMap t none).run Tryz.prog w = .ok (.map (some w.heap.size)) (w.alloc (.map #[] 0)) := fun _ _ => rfl
  obtain ⟨V, hV⟩ : ∃ V, ((((w.alloc (.cells (stC s) 29)).alloc (.cells (cmC c) 42)).alloc (.cells Z6 29)).alloc (.cells (stC s) 143)).alloc (.map #[] 0) = V := ⟨_, rfl⟩
  obtain ⟨vz, vB, b0, b1, b2, b3, b4⟩ := alloc5 w _ _ _ _ _ V hV
  obtain ⟨M1, h1⟩ : ∃ M, V.putObj (w.heap.size + 4) (.map (es1 (w.heap.size + 3)) 1) = M := ⟨_, rfl⟩
  have k1 : KeepBut (fun k => k = w.heap.size + 4) V M1 := by rw [← h1]; exact (KeepBut.putObj _ rfl)
  have r1 : M1.heap[w.heap.size + 4]? = some (.map (es1 (w.heap.size + 3)) 1) := by rw [← h1]; exact World.putObj_heap_same (by have := vz; omega)
  obtain ⟨M2, h2⟩ : ∃ M, M1.putObj (w.heap.size + 4) (.map (es2 (w.heap.size + 3)) 2) = M := ⟨_, rfl⟩
  have k2 : KeepBut (fun k => k = w.heap.size + 4) V M2 := by rw [← h2]; exact k1.trans (KeepBut.putObj _ rfl)
  have r2 : M2.heap[w.heap.size + 4]? = some (.map (es2 (w.heap.size + 3)) 2) := by rw [← h2]; exact World.putObj_heap_same (by have := k1.size; omega)
  obtain ⟨M3, h3⟩ : ∃ M, M2.putObj (w.heap.size + 4) (.map (es3 (w.heap.size + 3)) 3) = M := ⟨_, rfl⟩
  have k3 : KeepBut (fun k => k = w.heap.size + 4) V M3 := by rw [← h3]; exact k2.trans (KeepBut.putObj _ rfl)
  have r3 : M3.heap[w.heap.size + 4]? = some (.map (es3 (w.heap.size + 3)) 3) := by rw [← h3]; exact World.putObj_heap_same (by have := k2.size; omega)
  obtain ⟨M4, h4⟩ : ∃ M, M3.putObj (w.heap.size + 4) (.map (es4 (w.heap.size + 3)) 4) = M := ⟨_, rfl⟩
  have k4 : KeepBut (fun k => k = w.heap.size + 4) V M4 := by rw [← h4]; exact k3.trans (KeepBut.putObj _ rfl)
  have r4 : M4.heap[w.heap.size + 4]? = some (.map (es4 (w.heap.size + 3)) 4) := by rw [← h4]; exact World.putObj_heap_same (by have := k3.size; omega)
  obtain ⟨M5, h5⟩ : ∃ M, M4.putObj (w.heap.size + 4) (.map (es5 (w.heap.size + 3)) 5) = M := ⟨_, rfl⟩
  have k5 : KeepBut (fun k => k = w.heap.size + 4) V M5 := by rw [← h5]; exact k4.trans (KeepBut.putObj _ rfl)
  have r5 : M5.heap[w.heap.size + 4]? = some (.map (es5 (w.heap.size + 3)) 5) := by rw [← h5]; exact World.putObj_heap_same (by have := k4.size; omega)
  obtain ⟨M6, h6⟩ : ∃ M, M5.putObj (w.heap.size + 4) (.map (es6 (w.heap.size + 3)) 6) = M := ⟨_, rfl⟩
  have k6 : KeepBut (fun k => k = w.heap.size + 4) V M6 := by rw [← h6]; exact k5.trans (KeepBut.putObj _ rfl)
  have r6 : M6.heap[w.heap.size + 4]? = some (.map (es6 (w.heap.size + 3)) 6) := by rw [← h6]; exact World.putObj_heap_same (by have := k5.size; omega)
  have hB := vB.trans (k6.below vB.size (fun k hk => by omega))
  have hLK : (Instr.lookup 146 (.map (some (w.heap.size + 4))) (.int .i64 c.ki) true).run Tryz.prog M6 = .ok (.tuple #[.nilFunc, .bool false]) M6 := run_lookno mapT mapK r6 (hki _) (by go_simp)
  have e0 := (k6.block _ (block_lt b0) (by omega)).trans b0
  have e1 := (k6.block _ (block_lt b1) (by omega)).trans b1
  have e2 := (k6.block _ (block_lt b2) (by omega)).trans b2
  have e3 := (k6.block _ (block_lt b3) (by omega)).trans b3
  have HLK := Lib.hid hLK
  obtain ⟨x0, x1, -⟩ := cells4 e1
  clear hLK k1 k2 k3 k4 k5 k6 vB b1 b2 b3 r6
  go_enter Tryz.func57, Tryz.ntmps57
  go_wp2_with (first | (refine lb b0 rfl rfl rfl (by kernel_rfl) ?_) | (refine sb b0 rfl rfl rfl rfl (by kernel_rfl) ?_) | (refine wpList_insert rfl 146 _ _ _ rfl (es' := es1 (w.heap.size + 3)) rfl rfl rfl mapT mapK b4 (by rfl) (by rfl) ?_) | (refine wpList_insert rfl 146 _ _ _ rfl (es' := es2 (w.heap.size + 3)) rfl rfl rfl mapT mapK r1 (by rfl) (by rfl) ?_) | (refine wpList_insert rfl 146 _ _ _ rfl (es' := es3 (w.heap.size + 3)) rfl rfl rfl mapT mapK r2 (by rfl) (by rfl) ?_) | (refine wpList_insert rfl 146 _ _ _ rfl (es' := es4 (w.heap.size + 3)) rfl rfl rfl mapT mapK r3 (by rfl) (by rfl) ?_) | (refine wpList_insert rfl 146 _ _ _ rfl (es' := es5 (w.heap.size + 3)) rfl rfl rfl mapT mapK r4 (by rfl) (by rfl) ?_) | (refine wpList_insert rfl 146 _ _ _ rfl (es' := es6 (w.heap.size + 3)) rfl rfl rfl mapT mapK r5 (by rfl) (by rfl) ?_) | (refine wpList_lookup rfl 146 _ _ rfl rfl rfl HLK.out ?_) | (refine lb e0 rfl rfl rfl (by kernel_rfl) ?_) | (refine sb e0 rfl rfl rfl rfl (by kernel_rfl) ?_) | (refine lb e2 rfl rfl rfl (by kernel_rfl) ?_) | (refine sb e2 rfl rfl rfl rfl (by kernel_rfl) ?_))
  refine bodyPost_ret (rct rfl (srh e2) (by rfl) (by kernel_rfl)) rfl ⟨?_, below_setRow hB (by omega) _⟩
  rfl
theorem delta_go (s : Dw.St) (hi : 0 ≤ s.iso ∧ s.iso ≤ 15) (c : Dw.Cmd) (h : c.ki = 1) (w : World) :
    Calls Tryz.prog 57 #[stV s, cmV c] w fun e w' => e = .returned (.tuple #[stV (Dw.deltaS s c), .int .i64 (Dw.deltaE s c)]) ∧ Below w.heap.size w w' := by
  have h1 : Dw.deltaE s c = Dw.goesE s c.n := by unfold Dw.deltaE; rw [if_pos h]
  have h2 : Dw.deltaS s c = if Dw.goesE s c.n = 0 then { s with mo := c.n } else s := by unfold Dw.deltaS; rw [h1]; unfold Dw.deltaT; rw [if_pos h]
  rw [h1, h2]
  exact delta_core s c 74 0 _ _ w (fun args w => by go_simp) (fun g => by rw [h]; rfl) (fun g w' hg => goes_any s hi c g w' hg)
theorem delta_arm (s : Dw.St) (hi : 0 ≤ s.iso ∧ s.iso ≤ 15) (c : Dw.Cmd) (h : c.ki = 2) (w : World) :
    Calls Tryz.prog 57 #[stV s, cmV c] w fun e w' => e = .returned (.tuple #[stV (Dw.deltaS s c), .int .i64 (Dw.deltaE s c)]) ∧ Below w.heap.size w w' := by
  have h0 : ¬ c.ki = 1 := by omega
  have h1 : Dw.deltaE s c = Dw.armE s := by unfold Dw.deltaE; rw [if_neg h0, if_pos h]
  have h2 : Dw.deltaS s c = if Dw.armE s = 0 then { s with ar := true, mo := 1 } else s := by unfold Dw.deltaS; rw [h1]; unfold Dw.deltaT; rw [if_neg h0, if_pos h]
  rw [h1, h2]
  exact delta_core s c 75 1 _ _ w (fun args w => by go_simp) (fun g => by rw [h]; rfl) (fun g w' hg => arm_any s hi c g w' hg)
end Go.Proofs.YtcadgecnlahkgaaGreatDoor
namespace Go.Proofs.YtcadgecnlahkgaaGreatDoor
open Go.RowKit Go.Shelf
namespace Dw
def g20 : Fl := ⟨ffs 72, ffs 72, 0, 0, 5⟩
abbrev arm20 : Cmd := ⟨2, 0, 0, 0⟩
abbrev go20 : Cmd := ⟨1, 2, 0, 0⟩
abbrev cut20 : Pw := ⟨0, []⟩
def y20 : Su := seen3 (boot g20) 1
def z20 : Su := commandX y20 arm20 whole
def u20 : Su := commandX z20 go20 cut20
def v20 : Su := seen3 (boot u20.f) 2
theorem vote20 : voteI 0 0 0 = 1 := by decide +kernel
end Dw
end Go.Proofs.YtcadgecnlahkgaaGreatDoor
namespace Go.Proofs.YtcadgecnlahkgaaGreatDoor
open Go.RowKit Go.Shelf
namespace Dw
structure En where
  ki : Int
  c : Cmd
  va : Nat
  vb : Nat
  vc : Nat
  p : Pw
  at_ : Int
structure Rep where
  e : Int
  ph : Int
  s : St
structure Fli where
  x : Su
  out : List Rep
def turnB (s : List UInt8) (i b : Nat) : List UInt8 := s.set i (s.getD i 0 ^^^ UInt8.ofNat (2 ^ b))
def flip (f : Fl) (at_ : Int) : Fl :=
  if at_ < 0 then f else
  if at_ / 8 < (f.a.length : Int) then { f with a := turnB f.a (at_ / 8).toNat (at_ % 8).toNat } else
  if at_ / 8 < (f.a.length + f.b.length : Nat) then { f with b := turnB f.b (at_ / 8 - (f.a.length : Int)).toNat (at_ % 8).toNat } else f
theorem turnB_length (s : List UInt8) (i b : Nat) : (turnB s i b).length = s.length := by simp [turnB]
theorem flip_ok {f : Fl} (h : FlOk f) (k : Int) : FlOk (flip f k) := by
  unfold flip
  (repeat' split)
  · exact h
  · exact ⟨by show (turnB _ _ _).length ≤ 400; rw [turnB_length]; exact h.a, h.b, h.li, h.e0, h.e1⟩
  · exact ⟨h.a, by show (turnB _ _ _).length ≤ 400; rw [turnB_length]; exact h.b, h.li, h.e0, h.e1⟩
  · exact h
theorem flip_neg (f : Fl) {k : Int} (h : k < 0) : flip f k = f := by unfold flip; rw [if_pos h]
abbrev En.v (e : En) : Int := voteI e.va e.vb e.vc
def stepX (x : Su) (e : En) : Su :=
  if e.ki = 1 then commandX x e.c e.p else if e.ki = 2 then sampleX x e.v e.p else if e.ki = 3 then boot x.f else if e.ki = 4 then boot (flip x.f e.at_) else x
def stepE (x : Su) (e : En) : Int := if e.ki = 1 then commandE x e.c e.p else if e.ki = 2 then sampleE x e.v e.p else 0
def isK (e : En) : Bool := decide (1 ≤ e.ki) && decide (e.ki ≤ 4)
def repOf (x : Su) (e : En) : Rep := ⟨stepE x e, (stepX x e).ph, (stepX x e).s⟩
def stepF (f : Fli) (e : En) : Fli := if isK e then ⟨stepX f.x e, f.out ++ [repOf f.x e]⟩ else f
def runF (f : Fli) (l : List En) : Fli := l.foldl stepF f
theorem isK_no {e : En} (h : isK e = false) : e.ki ≠ 1 ∧ e.ki ≠ 2 ∧ e.ki ≠ 3 ∧ e.ki ≠ 4 := by
  unfold isK at h
  simp at h
  omega
theorem step_no {e : En} (h : isK e = false) (x : Su) : stepX x e = x := by
  obtain ⟨a, b, c, d⟩ := isK_no h
  unfold stepX
  rw [if_neg a, if_neg b, if_neg c, if_neg d]
theorem stepF_x (f : Fli) (e : En) : (stepF f e).x = stepX f.x e := by
  unfold stepF
  cases h : isK e
  · rw [if_neg (by decide)]; exact (step_no h _).symm
  · rw [if_pos rfl]
theorem stepX_ok {x : Su} (h : FlOk x.f) (e : En) : FlOk (stepX x e).f := by
  unfold stepX
  (repeat' split)
  · exact commandX_ok h _ _
  · exact sampleX_ok h _ _
  · exact h
  · exact flip_ok h _
  · exact h
theorem stepX_legal {x : Su} (h : legal x.s = true) (e : En) : legal (stepX x e).s = true := by
  unfold stepX
  (repeat' split)
  · exact command_legal h _ _
  · exact sample_legal h _ _
  · exact boot_legal _
  · exact boot_legal _
  · exact h
theorem stepF_ok {f : Fli} (h : FlOk f.x.f) (e : En) : FlOk (stepF f e).x.f := by rw [stepF_x]; exact stepX_ok h e
theorem stepF_legal {f : Fli} (h : legal f.x.s = true) (e : En) : legal (stepF f e).x.s = true := by rw [stepF_x]; exact stepX_legal h e
theorem runF_ok : ∀ (l : List En) (f : Fli), FlOk f.x.f → FlOk (runF f l).x.f
  | [], _, h => h
  | e :: l, f, h => runF_ok l (stepF f e) (stepF_ok h e)
theorem runF_legal : ∀ (l : List En) (f : Fli), legal f.x.s = true → legal (runF f l).x.s = true
  | [], _, h => h
  | e :: l, f, h => runF_legal l (stepF f e) (stepF_legal h e)
theorem runF_snoc (f : Fli) (l : List En) (e : En) : runF f (l ++ [e]) = stepF (runF f l) e := by unfold runF; rw [List.foldl_append]; rfl
theorem take_snoc {α : Type} {l : List α} {k : Nat} {e : α} (h : l[k]? = some e) : l.take (k + 1) = l.take k ++ [e] := by
  obtain ⟨hk, he⟩ := List.getElem?_eq_some_iff.1 h
  rw [← List.take_append_getElem hk, he]
theorem run_take {f : Fli} {l : List En} {k : Nat} {e : En} (h : l[k]? = some e) : runF f (l.take (k + 1)) = stepF (runF f (l.take k)) e := by rw [take_snoc h, runF_snoc]
theorem out_len (l : List En) : ∀ f : Fli, (runF f l).out.length = f.out.length + (l.filter isK).length := by
  induction l with
  | nil => intro f; rfl
  | cons e l ih =>
    intro f
    show (runF (stepF f e) l).out.length = _
    rw [ih, List.filter_cons]
    unfold stepF
    cases h : isK e
    · simp
    · simp; omega
structure Aud where
  ack : List St
  fly : Bool
  fs : St
def flE (f g : Fl) : Bool := decide (f.a = g.a ∧ f.b = g.b ∧ f.e0 = g.e0 ∧ f.e1 = g.e1 ∧ f.li = g.li)
theorem flE_iff (f g : Fl) : flE f g = true ↔ f = g := by
  obtain ⟨a, b, c, d, e⟩ := f
  obtain ⟨a', b', c', d', e'⟩ := g
  unfold flE
  simp
def aud0 : Aud := ⟨[], false, st0⟩
def audS (x y : Su) (e : En) (er : Int) (a : Aud) : Aud :=
  if e.ki = 1 ∨ e.ki = 2 then
    if er = 0 then (if flE x.f y.f then a else ⟨a.ack ++ [y.s], false, st0⟩)
    else (if x.ph ≠ 3 ∧ y.ph = 3 ∧ seenEq y.f.a y.f.b x.f.a x.f.b = false ∧ unE (readS y.f.a y.f.b).data = 0 then ⟨a.ack, true, unP (readS y.f.a y.f.b).data⟩ else a)
  else a
def audF : Fli → Aud → List En → Aud
  | _, a, [] => a
  | f, a, e :: l => audF (stepF f e) (audS f.x (stepF f e).x e (stepE f.x e) a) l
def lastA (l : List St) : St := l.getLastD st0
def saysA (a : Aud) : St := if a.fly then a.fs else lastA a.ack
def knownB (a : Aud) (s : St) : Bool := decide (s = st0) || (a.fly && decide (a.fs = s)) || decide (s ∈ a.ack)
theorem audS_else {x y : Su} {e : En} {er : Int} {a : Aud} (h1 : e.ki ≠ 1) (h2 : e.ki ≠ 2) : audS x y e er a = a := by unfold audS; rw [if_neg (by omega)]
theorem audS_same {x y : Su} {e : En} {er : Int} {a : Aud} (hf : y.f = x.f) (hp : x.ph = 3 ∨ y.ph ≠ 3) : audS x y e er a = a := by
  unfold audS
  split
  · split
    · rw [if_pos ((flE_iff _ _).2 hf.symm)]
    · rw [if_neg (fun q => by rcases hp with hp | hp; exact q.1 hp; exact hp q.2.1)]
  · rfl
theorem audS_ack {x y : Su} {e : En} {a : Aud} (he : e.ki = 1 ∨ e.ki = 2) (hn : x.f ≠ y.f) : audS x y e 0 a = ⟨a.ack ++ [y.s], false, st0⟩ := by
  unfold audS
  rw [if_pos he, if_pos rfl, if_neg (fun h => hn ((flE_iff _ _).1 h))]
theorem audS_off {x y : Su} {e : En} {er : Int} {a : Aud} (he : e.ki = 1 ∨ e.ki = 2) (h0 : er ≠ 0) (h1 : x.ph ≠ 3) (h2 : y.ph = 3) :
    audS x y e er a = if seenEq y.f.a y.f.b x.f.a x.f.b = false ∧ unE (readS y.f.a y.f.b).data = 0 then ⟨a.ack, true, unP (readS y.f.a y.f.b).data⟩ else a := by
  unfold audS
  rw [if_pos he, if_neg h0]
  by_cases h : seenEq y.f.a y.f.b x.f.a x.f.b = false ∧ unE (readS y.f.a y.f.b).data = 0
  · rw [if_pos h, if_pos ⟨h1, h2, h⟩]
  · rw [if_neg h, if_neg (fun q => h q.2.2)]
theorem lastA_snoc (l : List St) (s : St) : lastA (l ++ [s]) = s := by simp [lastA]
theorem unE_pack {t : St} (h : legal t = true) : unE (pack t) = 0 := by unfold unE; rw [if_pos (unOk_pack h)]
def saysC (c : Option Cur) : St := match c with | none => st0 | some k => unP k.data
theorem inv_bootT {n N : Nat} {f : Fl} {c : Option Cur} (h : Inv n N f c) : bootT f = saysC c := by
  have hr := inv_read h
  unfold bootT
  cases c with
  | none => rw [if_neg (by rw [hr.2]; decide)]; rfl
  | some k => rw [if_pos hr.2, hr.1]; rfl
structure Wrote2 (n N : Nat) (x : Su) (c : Option Cur) (t : St) (p : Pw) : Prop where
  res : (writeE x t p = 26 ∧ writeX x t p = { x with ph := 2 } ∧ x.f.li ≤ N) ∨
    (writeE x t p = 0 ∧ ∃ g k, writeX x t p = { x with f := g, s := t } ∧ g.li = x.f.li ∧ k.data = pack t ∧ k.seq = seqOf c + 1 ∧ Inv n (N + 1) g (some k)) ∨
    (writeE x t p = 26 ∧ 0 ≤ p.cut ∧ ∃ g, writeX x t p = { x with f := g, ph := 3 } ∧ g.li = x.f.li ∧ (Inv n (N + 1) g c ∨ ∃ k, k.data = pack t ∧ k.seq = seqOf c + 1 ∧ Inv n (N + 1) g (some k)))
theorem inv_write {n N : Nat} {x : Su} {c : Option Cur} (h : Inv n N x.f c) (hN : N + 1 < 18446744073709551615) (t : St) (p : Pw) : Wrote2 n N x c t p := by
  rcases step_done h hN (pack t) p.cut p.mask (pack_lt64 t) with ⟨h4, _, hli⟩ | hD
  · obtain ⟨e1, e2⟩ := write_no (x := x) (t := t) (p := p) (by rw [h4]; decide)
    exact ⟨.inl ⟨e2, e1, hli⟩⟩
  · have hg : putG x.f (wStp t p) = playL x.f (plan x.f (pack t)).1 0 p.cut p.mask := rfl
    have hli := hD.li
    rw [← hg] at hli
    rcases hD.res with ⟨_, hn, c', hs, hda, hI'⟩ | ⟨h0, h1, hn, hrest⟩
    · rw [← hg] at hn hI'
      have ha := ack_true (s := wStp t p) hn hda hI'
      obtain ⟨e1, e2⟩ := write_ack (x := x) (t := t) (p := p) hD.ok ha
      exact ⟨.inr (.inl ⟨e2, _, c', e1, hli, hda, hs, hI'⟩)⟩
    · rw [← hg] at hn hrest
      have ha := ack_false (s := wStp t p) hn
      obtain ⟨e1, e2⟩ := write_off (x := x) (t := t) (p := p) hD.ok ha
      refine ⟨.inr (.inr ⟨e2, h0, _, e1, hli, ?_⟩)⟩
      rcases hrest with hI' | ⟨c', hs, hda, hI'⟩
      · exact .inl hI'
      · exact .inr ⟨c', hda, hs, hI'⟩
theorem none_write {x : Su} (ha : x.f.a = []) (hb : x.f.b = []) (t : St) (p : Pw) : writeE x t p = 26 ∧ writeX x t p = { x with ph := 2 } := by
  have : (plan x.f (pack t)).2 ≠ 0 := by
    have e : even x.f.a x.f.b = false := by rw [ha, hb]; decide +kernel
    unfold plan
    rw [if_pos (by rw [e])]
    decide
  obtain ⟨e1, e2⟩ := write_no (x := x) (t := t) (p := p) this
  exact ⟨e2, e1⟩
theorem none_boot {f : Fl} (ha : f.a = []) (hb : f.b = []) : bootT f = st0 := by
  obtain ⟨_, r⟩ := rdN f.a f.b (by rw [ha]; exact sound_nil) (by rw [hb]; exact sound_nil)
  unfold bootT
  rw [if_neg (by rw [r]; decide)]
structure Fly (N : Nat) (x : Su) (a : Aud) : Prop where
  leg : legal x.s = true
  okf : FlOk x.f
  st : (x.f.a = [] ∧ x.f.b = []) ∨ ∃ n c, Inv n N x.f c
  is : x.ph ≠ 3 → x.s = bootT x.f
  now : bootT x.f = saysA a
theorem fly_mono {N : Nat} {x : Su} {a : Aud} (h : Fly N x a) : Fly (N + 1) x a := ⟨h.leg, h.okf, h.st.imp id fun ⟨n, c, q⟩ => ⟨n, c, inv_mono q (Nat.le_succ N)⟩, h.is, h.now⟩
theorem fly_write {N : Nat} {x : Su} {a : Aud} (h : Fly N x a) (hN : N + 1 < 18446744073709551615) (hp : x.ph ≠ 3) {t : St} (ht : legal t = true) (p : Pw) {e : En} (he : e.ki = 1 ∨ e.ki = 2) :
    Fly (N + 1) (writeX x t p) (audS x (writeX x t p) e (writeE x t p) a) ∧ (p.cut = -1 → (writeX x t p).ph ≠ 3 ∧ (a.fly = false → (audS x (writeX x t p) e (writeE x t p) a).fly = false)) ∧ (writeE x t p = 0 → (writeX x t p).ph = x.ph ∧ (writeX x t p).s = t) := by
  have hl := write_legal h.leg ht p
  have ho := write_okf h.okf t p
  have no : writeE x t p = 26 → writeX x t p = { x with ph := 2 } → _ := fun e1 e2 => by
    have hs : audS x (writeX x t p) e (writeE x t p) a = a := audS_same (by rw [e2]) (.inr (by rw [e2]; exact (by decide : (2 : Int) ≠ 3)))
    have q : Fly (N + 1) (writeX x t p) a := ⟨hl, ho, by rw [e2]; exact (fly_mono h).st, fun _ => by rw [e2]; exact h.is hp, by rw [e2]; exact h.now⟩
    exact (⟨by rw [hs]; exact q, fun _ => ⟨by rw [e2]; exact (by decide : (2 : Int) ≠ 3), fun q => by rw [hs]; exact q⟩, fun q => by rw [e1] at q; exact absurd q (by decide)⟩ :
      Fly (N + 1) (writeX x t p) (audS x (writeX x t p) e (writeE x t p) a) ∧ (p.cut = -1 → (writeX x t p).ph ≠ 3 ∧ (a.fly = false → (audS x (writeX x t p) e (writeE x t p) a).fly = false)) ∧ (writeE x t p = 0 → (writeX x t p).ph = x.ph ∧ (writeX x t p).s = t))
  rcases h.st with ⟨ha, hb⟩ | ⟨n, c, hI⟩
  · obtain ⟨e1, e2⟩ := none_write ha hb t p
    exact no e1 e2
  · rcases (inv_write hI hN t p).res with ⟨e1, e2, _⟩ | ⟨e1, g, k, e2, _, hd, _, hI'⟩ | ⟨e1, h0, g, e2, _, hI'⟩
    · exact no e1 e2
    · have hb : bootT g = t := by rw [inv_bootT hI']; show unP k.data = t; rw [hd, unP_pack ht]
      have hf : (writeX x t p).f = g := by rw [e2]
      have hs : (writeX x t p).s = t := by rw [e2]
      have hph : (writeX x t p).ph = x.ph := by rw [e2]
      rw [e1]
      by_cases hfg : x.f = g
      · have ea : audS x (writeX x t p) e 0 a = a := audS_same (by rw [hf, hfg]) (.inr (by rw [hph]; exact hp))
        rw [ea]
        exact ⟨⟨hl, ho, .inr ⟨n, _, by rw [hf]; exact hI'⟩, fun _ => by rw [hs, hf, hb], by rw [hf, ← hfg]; exact h.now⟩, fun _ => ⟨by rw [hph]; exact hp, id⟩, fun _ => ⟨hph, hs⟩⟩
      · have ea : audS x (writeX x t p) e 0 a = ⟨a.ack ++ [(writeX x t p).s], false, st0⟩ := audS_ack he (by rw [hf]; exact hfg)
        rw [ea]
        refine ⟨⟨hl, ho, .inr ⟨n, _, by rw [hf]; exact hI'⟩, fun _ => by rw [hs, hf, hb], ?_⟩, fun _ => ⟨by rw [hph]; exact hp, fun _ => rfl⟩, fun _ => ⟨hph, hs⟩⟩
        show _ = lastA (a.ack ++ [(writeX x t p).s])
        rw [lastA_snoc, hf, hb, hs]
    · have hf : (writeX x t p).f = g := by rw [e2]
      have hph : (writeX x t p).ph = 3 := by rw [e2]
      have hcut : p.cut = -1 → False := fun q => by omega
      refine ⟨?_, fun q => (hcut q).elim, fun q => by rw [e1] at q; exact absurd q (by decide)⟩
      rw [e1, audS_off he (by decide) hp hph, hf]
      rcases hI' with hI' | ⟨k, hd, hq, hI'⟩
      · rw [if_neg (fun q => by rw [seen_same hI hI'] at q; exact absurd q.1 (by decide))]
        exact ⟨hl, ho, .inr ⟨n, c, by rw [hf]; exact hI'⟩, fun q => absurd hph q, by rw [hf, inv_bootT hI', ← inv_bootT hI]; exact h.now⟩
      · obtain ⟨r1, r2⟩ := inv_read hI'
        have hda : (readS g.a g.b).data = pack t := by rw [r1]; exact hd
        rw [if_pos ⟨seen_new hI hI' hq, by rw [hda]; exact unE_pack ht⟩]
        refine ⟨hl, ho, .inr ⟨n, _, by rw [hf]; exact hI'⟩, fun q => absurd hph q, ?_⟩
        show _ = unP (readS g.a g.b).data
        rw [hf, inv_bootT hI', hda]
        show unP k.data = _
        rw [hd]
theorem fly_same {N : Nat} {x y : Su} {a : Aud} {e : En} {er : Int} (h : Fly N x a) (hf : y.f = x.f) (hs : y.s = x.s) (hp : y.ph = 3 ↔ x.ph = 3) : Fly (N + 1) y (audS x y e er a) ∧ audS x y e er a = a := by
  have ea : audS x y e er a = a := audS_same hf (by by_cases q : y.ph = 3; exact .inl (hp.1 q); exact .inr q)
  rw [ea]
  exact ⟨⟨by rw [hs]; exact h.leg, by rw [hf]; exact h.okf, by rw [hf]; exact (fly_mono h).st, fun q => by rw [hs, hf]; exact h.is (fun r => q (hp.2 r)), by rw [hf]; exact h.now⟩, rfl⟩
structure Next (N : Nat) (x y : Su) (a b : Aud) (p : Pw) : Prop where
  fly : Fly (N + 1) y b
  un : p.cut = -1 → x.ph ≠ 3 → a.fly = false → y.ph ≠ 3 ∧ b.fly = false
theorem next_same {N : Nat} {x y : Su} {a : Aud} {e : En} {er : Int} {p : Pw} (h : Fly N x a) (hf : y.f = x.f) (hs : y.s = x.s) (hp : y.ph = 3 ↔ x.ph = 3) : Next N x y a (audS x y e er a) p := by
  obtain ⟨q, ea⟩ := fly_same (e := e) (er := er) h hf hs hp
  exact ⟨q, fun _ h1 h2 => ⟨fun r => h1 (hp.1 r), by rw [ea]; exact h2⟩⟩
theorem fly_command {N : Nat} {x : Su} {a : Aud} (h : Fly N x a) (hN : N + 1 < 18446744073709551615) {e : En} (he : e.ki = 1) (c : Cmd) (p : Pw) : Next N x (commandX x c p) a (audS x (commandX x c p) e (commandE x c p) a) p := by
  by_cases hc : refusedE x c = 0 ∧ deltaT x.s c ≠ x.s
  · have e1 : commandX x c p = writeX x (deltaT x.s c) p := by unfold commandX; rw [if_pos hc]
    have e2 : commandE x c p = writeE x (deltaT x.s c) p := by unfold commandE; rw [if_pos hc]
    have h2 : ¬ (x.ph = 2 ∨ x.ph = 3) := fun q => by have := hc.1; rw [refused_two q] at this; exact absurd this (by decide)
    have h3 : ¬ (x.ph = 0 ∧ 1 ≤ c.ki ∧ c.ki ≤ 3) := fun q => by have := hc.1; rw [refused_hold q.1 q.2] at this; exact absurd this (by decide)
    have hd : deltaE x.s c = 0 := by rw [← refused_else h2 h3]; exact hc.1
    obtain ⟨f1, f2, -⟩ := fly_write h hN (fun q => h2 (.inr q)) (delta_legal h.leg hd) p (e := e) (.inl he)
    rw [e1, e2]
    exact ⟨f1, fun q _ r => ⟨(f2 q).1, (f2 q).2 r⟩⟩
  · have e1 : commandX x c p = x := by unfold commandX; rw [if_neg hc]
    rw [e1]
    exact next_same h rfl rfl Iff.rfl
theorem audS_ph {x y : Su} {e : En} {a : Aud} (k : Int) : audS x { y with ph := k } e 0 a = audS x y e 0 a := by
  unfold audS
  simp only [if_pos]
theorem fly_sample {N : Nat} {x : Su} {a : Aud} (h : Fly N x a) (hN : N + 1 < 18446744073709551615) {e : En} (he : e.ki = 2) (v : Int) (p : Pw) : Next N x (sampleX x v p) a (audS x (sampleX x v p) e (sampleE x v p) a) p := by
  by_cases h3 : x.ph = 3
  · rw [(sample_off h3 v p).1]
    exact next_same h rfl rfl Iff.rfl
  by_cases h2 : x.ph ≠ 0 ∨ verdC (addV x.vo v) (addN x.vo x.n v) = 0
  · rw [(sample_still h3 p h2).1]
    exact next_same h rfl rfl Iff.rfl
  have h0 : x.ph = 0 := Decidable.byContradiction fun q => h2 (.inl q)
  have hd : verdC (addV x.vo v) (addN x.vo x.n v) ≠ 0 := fun q => h2 (.inr q)
  by_cases hk : resolveS x.s (verdC (addV x.vo v) (addN x.vo x.n v)) = x.s ∧ kept x = true
  · rw [(sample_kept h0 p rfl hd hk.1 hk.2).1]
    exact next_same h rfl rfl (by show (1 : Int) = 3 ↔ x.ph = 3; omega)
  · obtain ⟨e1, e2⟩ := sample_writes h0 p rfl hd hk
    have ht := resolve_legal h.leg (verdC (addV x.vo v) (addN x.vo x.n v))
    generalize resolveS x.s (verdC (addV x.vo v) (addN x.vo x.n v)) = t at *
    have hy : Fly N (voted x v) a := ⟨h.leg, h.okf, h.st, h.is, h.now⟩
    obtain ⟨f1, f2, f3⟩ := fly_write hy hN (show x.ph ≠ 3 from h3) ht p (e := e) (.inr he)
    have ex : ∀ y er, audS (voted x v) y e er a = audS x y e er a := fun _ _ => rfl
    rw [ex] at f1 f2
    rw [e1, e2]
    by_cases hw : writeE (voted x v) t p = 0
    · rw [if_pos hw]
      obtain ⟨g1, g2⟩ := f3 hw
      rw [hw] at f1 f2 ⊢
      rw [audS_ph]
      have hz : (writeX (voted x v) t p).ph ≠ 3 := by rw [g1]; exact h3
      exact ⟨⟨f1.leg, f1.okf, f1.st, fun _ => f1.is hz, f1.now⟩, fun q _ r => ⟨(by decide : (1 : Int) ≠ 3), (f2 q).2 r⟩⟩
    · rw [if_neg hw]
      exact ⟨f1, fun q _ r => ⟨(f2 q).1, (f2 q).2 r⟩⟩
theorem fly_step {N : Nat} {x : Su} {a : Aud} (h : Fly N x a) (hN : N + 1 < 18446744073709551615) (e : En) (h4 : e.ki ≠ 4) : Next N x (stepX x e) a (audS x (stepX x e) e (stepE x e) a) e.p := by
  by_cases h1 : e.ki = 1
  · have e1 : stepX x e = commandX x e.c e.p := by unfold stepX; rw [if_pos h1]
    have e2 : stepE x e = commandE x e.c e.p := by unfold stepE; rw [if_pos h1]
    rw [e1, e2]
    exact fly_command h hN h1 _ _
  by_cases h2 : e.ki = 2
  · have e1 : stepX x e = sampleX x e.v e.p := by unfold stepX; rw [if_neg h1, if_pos h2]
    have e2 : stepE x e = sampleE x e.v e.p := by unfold stepE; rw [if_neg h1, if_pos h2]
    rw [e1, e2]
    exact fly_sample h hN h2 _ _
  rw [audS_else h1 h2]
  have hm := fly_mono h
  by_cases h3 : e.ki = 3
  · have e1 : stepX x e = boot x.f := by unfold stepX; rw [if_neg h1, if_neg h2, if_pos h3]
    rw [e1]
    exact ⟨⟨boot_legal _, hm.okf, hm.st, fun _ => rfl, hm.now⟩, fun _ _ r => ⟨(by decide : (0 : Int) ≠ 3), r⟩⟩
  · have e1 : stepX x e = x := by unfold stepX; rw [if_neg h1, if_neg h2, if_neg h3, if_neg h4]
    rw [e1]
    exact ⟨hm, fun _ q r => ⟨q, r⟩⟩
theorem audF_snoc : ∀ (l : List En) (f : Fli) (a : Aud) (e : En), audF f a (l ++ [e]) = audS (runF f l).x (stepF (runF f l) e).x e (stepE (runF f l).x e) (audF f a l)
  | [], _, _, _ => rfl
  | d :: l, f, a, e => audF_snoc l (stepF f d) (audS f.x (stepF f d).x d (stepE f.x d) a) e
theorem aud_take {f : Fli} {a : Aud} {l : List En} {k : Nat} {e : En} (h : l[k]? = some e) : audF f a (l.take (k + 1)) = audS (runF f (l.take k)).x (stepF (runF f (l.take k)) e).x e (stepE (runF f (l.take k)).x e) (audF f a (l.take k)) := by rw [take_snoc h, audF_snoc]
theorem fly_run : ∀ (l : List En) (N : Nat) (f : Fli) (a : Aud), Fly N f.x a → N + l.length < 18446744073709551615 → (∀ e ∈ l, e.ki ≠ 4) → Fly (N + l.length) (runF f l).x (audF f a l) ∧ ((∀ e ∈ l, e.p.cut = -1) → f.x.ph ≠ 3 → a.fly = false → (runF f l).x.ph ≠ 3 ∧ (audF f a l).fly = false)
  | [], _, _, _, h, _, _ => ⟨h, fun _ q r => ⟨q, r⟩⟩
  | e :: l, N, f, a, h, hN, h4 => by
    simp only [List.length_cons] at hN ⊢
    have hs := fly_step h (by omega) e (h4 e (List.mem_cons_self ..))
    rw [← stepF_x] at hs
    obtain ⟨r1, r2⟩ := fly_run l (N + 1) (stepF f e) _ hs.fly (by omega) fun x hx => h4 x (List.mem_cons_of_mem _ hx)
    refine ⟨?_, fun hc q r => ?_⟩
    · rw [show N + (l.length + 1) = N + 1 + l.length by omega]
      exact r1
    · obtain ⟨s1, s2⟩ := hs.un (hc e (List.mem_cons_self ..)) q r
      exact r2 (fun x hx => hc x (List.mem_cons_of_mem _ hx)) s1 s2
def newF (n li : Int) : Fl :=
  if li < 0 ∨ 1000 < li then ⟨[], [], 0, 0, 0⟩ else if 1 ≤ n ∧ n ≤ 12 then fNew n.toNat li else ⟨[], [], 0, 0, li⟩
def beginF (n li : Int) : Fli := ⟨boot (newF n li), []⟩
theorem newF_ok (n li : Int) : FlOk (newF n li) := by
  unfold newF
  split
  · exact ⟨by decide, by decide, by decide, by decide, by decide⟩
  · rename_i h
    split
    · exact new_ok (by omega) (by omega)
    · exact ⟨(by decide : 0 ≤ 400), (by decide : 0 ≤ 400), by show li ≤ 9223372036854775807; omega, (by decide : (-9223372036854775808 : Int) ≤ 0), (by decide : (-9223372036854775808 : Int) ≤ 0)⟩
theorem fly_begin (n li : Int) : Fly 0 (boot (newF n li)) aud0 := by
  refine ⟨boot_legal _, newF_ok n li, ?_, fun _ => rfl, ?_⟩
  · show ((newF n li).a = [] ∧ (newF n li).b = []) ∨ ∃ m c, Inv m 0 (newF n li) c
    unfold newF
    split
    · exact .inl ⟨rfl, rfl⟩
    · split
      · exact .inr ⟨_, _, new_inv (by omega) (by omega) li⟩
      · exact .inl ⟨rfl, rfl⟩
  · show bootT (newF n li) = st0
    unfold newF
    split
    · exact none_boot rfl rfl
    · split
      · exact inv_bootT (new_inv (by omega) (by omega) li)
      · exact none_boot rfl rfl
def well (o : List Rep) : List St := (o.filter fun r => decide (r.e = 0)).map (·.s)
theorem well_snoc (o : List Rep) (r : Rep) : well (o ++ [r]) = if r.e = 0 then well o ++ [r.s] else well o := by
  unfold well
  rw [List.filter_append, List.map_append]
  by_cases h : r.e = 0
  · rw [if_pos h]; simp [h]
  · rw [if_neg h]; simp [h]
theorem acks_step {f : Fli} {a : Aud} (h : a.ack.Sublist (well f.out)) (e : En) : (audS f.x (stepF f e).x e (stepE f.x e) a).ack.Sublist (well (stepF f e).out) := by
  cases hk : isK e
  · obtain ⟨a1, a2, _⟩ := isK_no hk
    rw [audS_else a1 a2]
    unfold stepF
    rw [hk]
    exact h
  · have ho : (stepF f e).out = f.out ++ [repOf f.x e] := by unfold stepF; rw [hk]; rfl
    rw [ho, well_snoc, stepF_x]
    have h0 : a.ack.Sublist (if (repOf f.x e).e = 0 then well f.out ++ [(repOf f.x e).s] else well f.out) := by
      split
      · exact h.trans (List.sublist_append_left _ _)
      · exact h
    unfold audS
    split
    · split
      · rename_i he
        split
        · exact h0
        · rw [if_pos (show (repOf f.x e).e = 0 from he)]
          exact List.Sublist.append h (List.Sublist.refl _)
      · split
        · exact h0
        · exact h0
    · exact h0
theorem acks_run : ∀ (l : List En) (f : Fli) (a : Aud), a.ack.Sublist (well f.out) → (audF f a l).ack.Sublist (well (runF f l).out)
  | [], _, _, h => h
  | e :: l, f, a, h => acks_run l (stepF f e) _ (acks_step h e)
def greedy : List Rep → List St → List St
  | [], l => l
  | _ :: _, [] => []
  | r :: rs, s :: l => if r.s = s ∧ r.e = 0 then greedy rs l else greedy rs (s :: l)
theorem well_cons (r : Rep) (rs : List Rep) : well (r :: rs) = if r.e = 0 then r.s :: well rs else well rs := by
  unfold well
  by_cases h : r.e = 0
  · rw [if_pos h]; simp [h]
  · rw [if_neg h]; simp [h]
theorem greedy_all : ∀ (rs : List Rep) (l : List St), l.Sublist (well rs) → greedy rs l = []
  | [], l, h => by
    have : well [] = [] := rfl
    rw [this, List.sublist_nil] at h
    rw [h]; rfl
  | _ :: _, [], _ => rfl
  | r :: rs, s :: l, h => by
    unfold greedy
    rw [well_cons] at h
    by_cases h0 : r.e = 0
    · rw [if_pos h0] at h
      by_cases h1 : r.s = s
      · rw [if_pos ⟨h1, h0⟩]
        rw [h1] at h
        exact greedy_all rs l (List.cons_sublist_cons.1 h)
      · rw [if_neg (fun q => h1 q.1)]
        refine greedy_all rs (s :: l) ?_
        rcases List.sublist_cons_iff.1 h with h | ⟨r', hr, h⟩
        · exact h
        · cases hr; exact absurd rfl h1
    · rw [if_neg h0] at h
      rw [if_neg (fun q => h0 q.2)]
      exact greedy_all rs (s :: l) h
end Dw
end Go.Proofs.YtcadgecnlahkgaaGreatDoor
namespace Go.Proofs.YtcadgecnlahkgaaGreatDoor
open Go.RowKit Go.Shelf
namespace Dw
abbrev goT : Cmd := ⟨1, 2, 0, 0⟩
def xT : Su := seen3 (boot (newF 4 9)) 1
def aT : Su := commandX xT arm20 whole
def bT : Su := commandX aT goT whole
def yT : Su := seen3 (boot bT.f) 2
def zT : Su := seen3 (boot bT.f) 1
theorem evTa : commandE xT arm20 whole = 0 := by decide +kernel
theorem evTb : commandE aT goT whole = 0 := by decide +kernel
theorem evTc : yT.ph = 1 ∧ yT.s.mo = 2 ∧ yT.s.ar = true := by decide +kernel
theorem evTd : zT.ph = 1 ∧ zT.s.mo = 0 ∧ zT.s.ar = false := by decide +kernel
theorem voteT : voteI 4621819117588971520 4621819117588971520 0 = 2 := by decide +kernel
end Dw
end Go.Proofs.YtcadgecnlahkgaaGreatDoor
