/- What the statement's proof stands on, part 34: Cmd4. -/
import Derived.Test.YtjonoojhdifjiaaGreatDoorBb33
set_option linter.unusedSimpArgs false
set_option linter.unusedVariables false
set_option maxRecDepth 100000
set_option maxHeartbeats 4000000
namespace Go.Proofs.YtjonoojhdifjiaaGreatDoor
open Go.RowKit Go.Shelf
attribute [local go_sem] Oper.semAt_some
theorem run_upd {P : Program} {T K E : TypeId} {r : Nat} {es : Array MapEntry} {clock : Nat} {k : Int} {v : Value} {w : World} (hT : P.underlying T = some (.map K E)) (hK : P.underlying K = some (.int .i64)) (hr : w.heap[r]? = some (.map es clock))
    (hn : Instr.findNow (.int .i64) (.int .i64 k) es.toList 0 = some none) :
    (Instr.mapUpdate T (.map (some r)) (.int .i64 k) v).run P w = .ok () (w.putObj r (.map (es.push { key := .int .i64 k, val := v, born := clock }) (clock + 1))) := by
  have h1 : (getObj r).run P w = .ok (.map es clock) w := by simp [getObj, Sem.run, hr]
  have h2 : ∀ o, (setObj r o).run P w = .ok () (w.putObj r o) := fun o => by simp [setObj, Sem.run, hr, World.putObj]
  have hc : ∀ b, (Instr.checkKey b 10000 K (.int .i64 k)).run P w = .ok () w := fun b => by
    show (Instr.checkKey b (9999 + 1) K (.int .i64 k)).run P w = _
    rw [Instr.checkKey]
    simp [Sem.run_bind, run_underlying hK w]
  simp [Instr.mapUpdate, Sem.run_bind, run_underlying hT w, run_underlying hK w, h1, h2, hc, Instr.findKey, hn]
theorem run_look {P : Program} {T K E : TypeId} {r : Nat} {es : Array MapEntry} {clock : Nat} {k : Int} {i : Nat} {v : Value} {w : World} (hT : P.underlying T = some (.map K E)) (hK : P.underlying K = some (.int .i64)) (hr : w.heap[r]? = some (.map es clock))
    (hn : Instr.findNow (.int .i64) (.int .i64 k) es.toList 0 = some (some (i, v))) :
    (Instr.lookup T (.map (some r)) (.int .i64 k) true).run P w = .ok (.tuple #[v, .bool true]) w := by
  have h1 : (getObj r).run P w = .ok (.map es clock) w := by simp [getObj, Sem.run, hr]
  have hc : ∀ b, (Instr.checkKey b 10000 K (.int .i64 k)).run P w = .ok () w := fun b => by
    show (Instr.checkKey b (9999 + 1) K (.int .i64 k)).run P w = _
    rw [Instr.checkKey]
    simp [Sem.run_bind, run_underlying hK w]
  simp [Instr.lookup, Sem.run_bind, run_underlying hT w, run_underlying hK w, h1, hc, Instr.findKey, hn]
theorem run_lookno {P : Program} {T K E : TypeId} {r : Nat} {es : Array MapEntry} {clock : Nat} {k : Int} {z : Value} {w : World} (hT : P.underlying T = some (.map K E)) (hK : P.underlying K = some (.int .i64)) (hr : w.heap[r]? = some (.map es clock))
    (hn : Instr.findNow (.int .i64) (.int .i64 k) es.toList 0 = some none) (hz : (zeroValue E).run P w = .ok z w) :
    (Instr.lookup T (.map (some r)) (.int .i64 k) true).run P w = .ok (.tuple #[z, .bool false]) w := by
  have h1 : (getObj r).run P w = .ok (.map es clock) w := by simp [getObj, Sem.run, hr]
  have hc : ∀ b, (Instr.checkKey b 10000 K (.int .i64 k)).run P w = .ok () w := fun b => by
    show (Instr.checkKey b (9999 + 1) K (.int .i64 k)).run P w = _
    rw [Instr.checkKey]
    simp [Sem.run_bind, run_underlying hK w]
  simp [Instr.lookup, Sem.run_bind, run_underlying hT w, run_underlying hK w, h1, hc, Instr.findKey, hn, hz]
theorem wpList_insert {P : Program} {w : World} {ops : Array Oper} {rest : List Oper} {o : Oper} {a : Act} {Q : Exit → Act → World → Prop} (hg : o.guard = none) (T : TypeId) (m k x : Operand) (hop : o.op = .insert T m k x)
    {r : Nat} {n : Int} {v : Value} {K E : TypeId} {es es' : Array MapEntry} {clock : Nat} (hm : a.eval m = .map (some r)) (hk : a.eval k = .int .i64 n) (hx : a.eval x = v)
    (hT : P.underlying T = some (.map K E)) (hK : P.underlying K = some (.int .i64)) (hr : w.heap[r]? = some (.map es clock)) (hn : Instr.findNow (.int .i64) (.int .i64 n) es.toList 0 = some none) (he : es.push { key := .int .i64 n, val := v, born := clock } = es')
    (h : wpList P ops Q rest (a.put o.dst undef) (w.putObj r (.map es' (clock + 1)))) : wpList P ops Q (o :: rest) a w := by
  refine wpList_plain hg fun KK hKK => ?_
  unfold Oper.wp
  have hl := run_upd (v := v) hT hK hr hn
  rw [he] at hl
  have e : (execOp a.eval o).run P w = .ok .skip (w.putObj r (.map es' (clock + 1))) := by
    unfold execOp
    rw [hop]
    simp only [hm, hk, hx]
    simp [hl, Result.andThen]
  rw [e]
  exact hKK _ _ h
theorem wpList_lookup {P : Program} {w : World} {ops : Array Oper} {rest : List Oper} {o : Oper} {a : Act} {Q : Exit → Act → World → Prop} (hg : o.guard = none) (T : TypeId) (m k : Operand) (hop : o.op = .lookup T m k true)
    {vm vk v : Value} (hm : a.eval m = vm) (hk : a.eval k = vk) (hl : (Instr.lookup T vm vk true).run P w = .ok v w)
    (h : wpList P ops Q rest (a.put o.dst v) w) : wpList P ops Q (o :: rest) a w := by
  refine wpList_plain hg fun KK hKK => ?_
  unfold Oper.wp
  have e : (execOp a.eval o).run P w = .ok (.value v) w := by
    unfold execOp
    rw [hop]
    simp only [hm, hk]
    simp [hl, Result.andThen]
  rw [e]
  exact hKK _ _ h
abbrev mth (g f : Nat) : Value := .func (.func f) #[.pointer (some ⟨g, 0, none⟩)] #[]
abbrev ent (g : Nat) (k : Int) (f b : Nat) : MapEntry := { key := .int .i64 k, val := mth g f, born := b }
abbrev es1 (g : Nat) : Array MapEntry := #[ent g 1 84 0]
abbrev es2 (g : Nat) : Array MapEntry := #[ent g 1 84 0, ent g 2 85 1]
abbrev es3 (g : Nat) : Array MapEntry := #[ent g 1 84 0, ent g 2 85 1, ent g 3 86 2]
abbrev es4 (g : Nat) : Array MapEntry := #[ent g 1 84 0, ent g 2 85 1, ent g 3 86 2, ent g 4 87 3]
abbrev es5 (g : Nat) : Array MapEntry := #[ent g 1 84 0, ent g 2 85 1, ent g 3 86 2, ent g 4 87 3, ent g 5 88 4]
abbrev es6 (g : Nat) : Array MapEntry := #[ent g 1 84 0, ent g 2 85 1, ent g 3 86 2, ent g 4 87 3, ent g 5 88 4, ent g 6 88 5]
theorem mapT : Tryz.prog.underlying 154 = some (.map 3 152) := Tryz.underlying154
theorem mapK : Tryz.prog.underlying 3 = some (.int .i64) := Tryz.underlying3
theorem delta_core (s : Dw.St) (c : Dw.Cmd) (F i : Nat) (T : Dw.St) (er : Int) (w : World) (hcf : ∀ args w, (callFunc F args).run Tryz.prog w = .ok (.enter F args) w)
    (hki : ∀ g, Instr.findNow (.int .i64) (.int .i64 c.ki) (es6 g).toList 0 = some (some (i, mth g F)))
    (HM : ∀ (g : Nat) (w' : World), w'.heap[g]? = some (.cells (stC s) 151 (0, 0)) → Calls Tryz.prog F #[.pointer (some ⟨g, 0, none⟩), cmV c] w' (CEnd T er g w')) :
    Calls Tryz.prog 56 #[stV s, cmV c] w fun e w' => e = .returned (.tuple #[stV (if er = 0 then T else s), .int .i64 er]) ∧ Below w.heap.size w w' := by
  have hmf : ∀ (fn : Fn) (first cap : Array Value) (w : World), (Instr.makeFunc fn first cap).run Tryz.prog w = .ok (.func fn first cap) w := fun _ _ _ _ => rfl
  have hmm : ∀ (t : TypeId) (w : World), (Instr.makeMap t none).run Tryz.prog w = .ok (.map (some w.heap.size)) (w.alloc (.map #[] 0)) := fun _ _ => rfl
  obtain ⟨V, hV⟩ : ∃ V, ((((w.alloc (.cells (stC s) 27)).alloc (.cells (cmC c) 65)).alloc (.cells Z6 27)).alloc (.cells (stC s) 151)).alloc (.map #[] 0) = V := ⟨_, rfl⟩
  obtain ⟨vz, vB, b0, b1, b2, b3, b4⟩ := alloc5 w _ _ _ _ _ V hV
  obtain ⟨M1, h1⟩ : ∃ M, V.putObj (w.heap.size + 4) (.map (es1 (w.heap.size + 3)) 1) = M := ⟨_, rfl⟩
  have k1 : KeepBut (fun k => k = w.heap.size + 4) V M1 := by rw [← h1]; exact (KeepBut.putObj _ rfl)
  have r1 : M1.heap[w.heap.size + 4]? = some (.map (es1 (w.heap.size + 3)) 1) := by rw [← h1]; exact World.putObj_heap_same (by have := vz; omega)
  obtain ⟨M2, h2⟩ : ∃ M, M1.putObj (w.heap.size + 4) (.map (es2 (w.heap.size + 3)) 2) = M := ⟨_, rfl⟩
  have k2 : KeepBut (fun k => k = w.heap.size + 4) V M2 := by rw [← h2]; exact k1.trans (KeepBut.putObj _ rfl)
  have r2 : M2.heap[w.heap.size + 4]? = some (.map (es2 (w.heap.size + 3)) 2) := by rw [← h2]; exact World.putObj_heap_same (by have := k1.size; omega)
  obtain ⟨M3, h3⟩ : ∃ M, M2.putObj (w.heap.size + 4) (.map (es3 (w.heap.size + 3)) 3) = M := ⟨_, rfl⟩
  have k3 : KeepBut (fun k => k = w.heap.size + 4) V M3 := by rw [← h3]; exact k2.trans (KeepBut.putObj _ rfl)
  have r3 : M3.heap[w.heap.size + 4]? = some (.map (es3 (w.heap.size + 3)) 3) := by rw [← h3]; exact World.putObj_heap_same (by have := k2.size; omega)
  obtain ⟨M4, h4⟩ : ∃ M, M3.putObj (w.heap.size + 4) (.map (es4 (w.heap.size + 3)) 4) = M := ⟨_, rfl⟩
  have k4 : KeepBut (fun k => k = w.heap.size + 4) V M4 := by rw [← h4]; exact k3.trans (KeepBut.putObj _ rfl)
  have r4 : M4.heap[w.heap.size + 4]? = some (.map (es4 (w.heap.size + 3)) 4) := by rw [← h4]; exact World.putObj_heap_same (by have := k3.size; omega)
  obtain ⟨M5, h5⟩ : ∃ M, M4.putObj (w.heap.size + 4) (.map (es5 (w.heap.size + 3)) 5) = M := ⟨_, rfl⟩
  have k5 : KeepBut (fun k => k = w.heap.size + 4) V M5 := by rw [← h5]; exact k4.trans (KeepBut.putObj _ rfl)
  have r5 : M5.heap[w.heap.size + 4]? = some (.map (es5 (w.heap.size + 3)) 5) := by rw [← h5]; exact World.putObj_heap_same (by have := k4.size; omega)
  obtain ⟨M6, h6⟩ : ∃ M, M5.putObj (w.heap.size + 4) (.map (es6 (w.heap.size + 3)) 6) = M := ⟨_, rfl⟩
  have k6 : KeepBut (fun k => k = w.heap.size + 4) V M6 := by rw [← h6]; exact k5.trans (KeepBut.putObj _ rfl)
  have r6 : M6.heap[w.heap.size + 4]? = some (.map (es6 (w.heap.size + 3)) 6) := by rw [← h6]; exact World.putObj_heap_same (by have := k5.size; omega)
  have hB := vB.trans (k6.below vB.size (fun k hk => by omega))
  have hLK : (Instr.lookup 154 (.map (some (w.heap.size + 4))) (.int .i64 c.ki) true).run Tryz.prog M6 = .ok (.tuple #[mth (w.heap.size + 3) F, .bool true]) M6 := run_look mapT mapK r6 (hki _)
  have e0 := (k6.block _ (block_lt b0) (by omega)).trans b0
  have e1 := (k6.block _ (block_lt b1) (by omega)).trans b1
  have e2 := (k6.block _ (block_lt b2) (by omega)).trans b2
  have e3 := (k6.block _ (block_lt b3) (by omega)).trans b3
  have HLK := Lib.hid hLK
  obtain ⟨x0, x1, -⟩ := cells4 e1
  clear hLK k1 k2 k3 k4 k5 k6 vB b1 b2 b3 r6
  go_enter Tryz.func56, Tryz.ntmps56
  go_wp2_with (first | (refine lb b0 rfl rfl rfl (by kernel_rfl) ?_) | (refine sb b0 rfl rfl rfl rfl (by kernel_rfl) ?_) | (refine wpList_insert rfl 154 _ _ _ rfl (es' := es1 (w.heap.size + 3)) rfl rfl rfl mapT mapK b4 (by rfl) (by rfl) ?_) | (refine wpList_insert rfl 154 _ _ _ rfl (es' := es2 (w.heap.size + 3)) rfl rfl rfl mapT mapK r1 (by rfl) (by rfl) ?_) | (refine wpList_insert rfl 154 _ _ _ rfl (es' := es3 (w.heap.size + 3)) rfl rfl rfl mapT mapK r2 (by rfl) (by rfl) ?_) | (refine wpList_insert rfl 154 _ _ _ rfl (es' := es4 (w.heap.size + 3)) rfl rfl rfl mapT mapK r3 (by rfl) (by rfl) ?_) | (refine wpList_insert rfl 154 _ _ _ rfl (es' := es5 (w.heap.size + 3)) rfl rfl rfl mapT mapK r4 (by rfl) (by rfl) ?_) | (refine wpList_insert rfl 154 _ _ _ rfl (es' := es6 (w.heap.size + 3)) rfl rfl rfl mapT mapK r5 (by rfl) (by rfl) ?_) | (refine wpList_lookup rfl 154 _ _ rfl rfl rfl HLK.out ?_) | (refine lb e1 rfl rfl rfl (by kernel_rfl) ?_) | (refine sb e1 rfl rfl rfl rfl (by kernel_rfl) ?_))
  refine (HM _ _ e3).mono ?_
  rintro e w7 ⟨rfl, hk, s', hs', hT⟩
  have f0 := (hk.block _ (block_lt e0) (by omega)).trans e0
  have f2 := (hk.block _ (block_lt e2) (by omega)).trans e2
  have hB7 := hB.trans (hk.below hB.size (fun k hk => by omega))
  clear hk HM e0 e1 e2 e3 x0 x1 hV h1 h2 h3 h4 h5 h6 HLK hki hcf
  by_cases her : er = 0
  · subst her
    obtain rfl := hT rfl
    go_wp2_with (first | (refine lp 27 0 (stC s') hs' rfl rfl rfl (by kernel_rfl) (by rfl) ?_) | (refine lb f2 rfl rfl rfl (by kernel_rfl) ?_) | (refine sb f2 rfl rfl rfl rfl (by kernel_rfl) ?_))
    refine bodyPost_ret (rct rfl (srh f2) (by rfl) (by kernel_rfl)) rfl ⟨?_, below_setRow hB7 (by omega) _⟩
    first | rfl | (rw [if_pos rfl]; rfl)
  · have her' : (er == 0) = false := by simpa using her
    go_wp2_with (first | (refine lb f0 rfl rfl rfl (by kernel_rfl) ?_) | (refine sb f0 rfl rfl rfl rfl (by kernel_rfl) ?_) | (refine lb f2 rfl rfl rfl (by kernel_rfl) ?_) | (refine sb f2 rfl rfl rfl rfl (by kernel_rfl) ?_))
    refine bodyPost_ret (rct rfl (srh f2) (by rfl) (by kernel_rfl)) rfl ⟨?_, below_setRow hB7 (by omega) _⟩
    first | (rw [if_neg her]; rfl) | rfl
theorem delta_none (s : Dw.St) (c : Dw.Cmd) (w : World)
    (hki : ∀ g, Instr.findNow (.int .i64) (.int .i64 c.ki) (es6 g).toList 0 = some none) :
    Calls Tryz.prog 56 #[stV s, cmV c] w fun e w' => e = .returned (.tuple #[stV s, .int .i64 1]) ∧ Below w.heap.size w w' := by
  have hmf : ∀ (fn : Fn) (first cap : Array Value) (w : World), (Instr.makeFunc fn first cap).run Tryz.prog w = .ok (.func fn first cap) w := fun _ _ _ _ => rfl
  have hmm : ∀ (t : TypeId) (w : World), (Instr.makeMap t none).run Tryz.prog w = .ok (.map (some w.heap.size)) (w.alloc (.map #[] 0)) := fun _ _ => rfl
  obtain ⟨V, hV⟩ : ∃ V, ((((w.alloc (.cells (stC s) 27)).alloc (.cells (cmC c) 65)).alloc (.cells Z6 27)).alloc (.cells (stC s) 151)).alloc (.map #[] 0) = V := ⟨_, rfl⟩
  obtain ⟨vz, vB, b0, b1, b2, b3, b4⟩ := alloc5 w _ _ _ _ _ V hV
  obtain ⟨M1, h1⟩ : ∃ M, V.putObj (w.heap.size + 4) (.map (es1 (w.heap.size + 3)) 1) = M := ⟨_, rfl⟩
  have k1 : KeepBut (fun k => k = w.heap.size + 4) V M1 := by rw [← h1]; exact (KeepBut.putObj _ rfl)
  have r1 : M1.heap[w.heap.size + 4]? = some (.map (es1 (w.heap.size + 3)) 1) := by rw [← h1]; exact World.putObj_heap_same (by have := vz; omega)
  obtain ⟨M2, h2⟩ : ∃ M, M1.putObj (w.heap.size + 4) (.map (es2 (w.heap.size + 3)) 2) = M := ⟨_, rfl⟩
  have k2 : KeepBut (fun k => k = w.heap.size + 4) V M2 := by rw [← h2]; exact k1.trans (KeepBut.putObj _ rfl)
  have r2 : M2.heap[w.heap.size + 4]? = some (.map (es2 (w.heap.size + 3)) 2) := by rw [← h2]; exact World.putObj_heap_same (by have := k1.size; omega)
  obtain ⟨M3, h3⟩ : ∃ M, M2.putObj (w.heap.size + 4) (.map (es3 (w.heap.size + 3)) 3) = M := ⟨_, rfl⟩
  have k3 : KeepBut (fun k => k = w.heap.size + 4) V M3 := by rw [← h3]; exact k2.trans (KeepBut.putObj _ rfl)
  have r3 : M3.heap[w.heap.size + 4]? = some (.map (es3 (w.heap.size + 3)) 3) := by rw [← h3]; exact World.putObj_heap_same (by have := k2.size; omega)
  obtain ⟨M4, h4⟩ : ∃ M, M3.putObj (w.heap.size + 4) (.map (es4 (w.heap.size + 3)) 4) = M := ⟨_, rfl⟩
  have k4 : KeepBut (fun k => k = w.heap.size + 4) V M4 := by rw [← h4]; exact k3.trans (KeepBut.putObj _ rfl)
  have r4 : M4.heap[w.heap.size + 4]? = some (.map (es4 (w.heap.size + 3)) 4) := by rw [← h4]; exact World.putObj_heap_same (by have := k3.size; omega)
  obtain ⟨M5, h5⟩ : ∃ M, M4.putObj (w.heap.size + 4) (.map (es5 (w.heap.size + 3)) 5) = M := ⟨_, rfl⟩
  have k5 : KeepBut (fun k => k = w.heap.size + 4) V M5 := by rw [← h5]; exact k4.trans (KeepBut.putObj _ rfl)
  have r5 : M5.heap[w.heap.size + 4]? = some (.map (es5 (w.heap.size + 3)) 5) := by rw [← h5]; exact World.putObj_heap_same (by have := k4.size; omega)
  obtain ⟨M6, h6⟩ : ∃ M, M5.putObj (w.heap.size + 4) (.map (es6 (w.heap.size + 3)) 6) = M := ⟨_, rfl⟩
  have k6 : KeepBut (fun k => k = w.heap.size + 4) V M6 := by rw [← h6]; exact k5.trans (KeepBut.putObj _ rfl)
  have r6 : M6.heap[w.heap.size + 4]? = some (.map (es6 (w.heap.size + 3)) 6) := by rw [← h6]; exact World.putObj_heap_same (by have := k5.size; omega)
  have hB := vB.trans (k6.below vB.size (fun k hk => by omega))
  have hLK : (Instr.lookup 154 (.map (some (w.heap.size + 4))) (.int .i64 c.ki) true).run Tryz.prog M6 = .ok (.tuple #[.nilFunc, .bool false]) M6 := run_lookno mapT mapK r6 (hki _) (by go_simp)
  have e0 := (k6.block _ (block_lt b0) (by omega)).trans b0
  have e1 := (k6.block _ (block_lt b1) (by omega)).trans b1
  have e2 := (k6.block _ (block_lt b2) (by omega)).trans b2
  have e3 := (k6.block _ (block_lt b3) (by omega)).trans b3
  have HLK := Lib.hid hLK
  obtain ⟨x0, x1, -⟩ := cells4 e1
  clear hLK k1 k2 k3 k4 k5 k6 vB b1 b2 b3 r6
  go_enter Tryz.func56, Tryz.ntmps56
  go_wp2_with (first | (refine lb b0 rfl rfl rfl (by kernel_rfl) ?_) | (refine sb b0 rfl rfl rfl rfl (by kernel_rfl) ?_) | (refine wpList_insert rfl 154 _ _ _ rfl (es' := es1 (w.heap.size + 3)) rfl rfl rfl mapT mapK b4 (by rfl) (by rfl) ?_) | (refine wpList_insert rfl 154 _ _ _ rfl (es' := es2 (w.heap.size + 3)) rfl rfl rfl mapT mapK r1 (by rfl) (by rfl) ?_) | (refine wpList_insert rfl 154 _ _ _ rfl (es' := es3 (w.heap.size + 3)) rfl rfl rfl mapT mapK r2 (by rfl) (by rfl) ?_) | (refine wpList_insert rfl 154 _ _ _ rfl (es' := es4 (w.heap.size + 3)) rfl rfl rfl mapT mapK r3 (by rfl) (by rfl) ?_) | (refine wpList_insert rfl 154 _ _ _ rfl (es' := es5 (w.heap.size + 3)) rfl rfl rfl mapT mapK r4 (by rfl) (by rfl) ?_) | (refine wpList_insert rfl 154 _ _ _ rfl (es' := es6 (w.heap.size + 3)) rfl rfl rfl mapT mapK r5 (by rfl) (by rfl) ?_) | (refine wpList_lookup rfl 154 _ _ rfl rfl rfl HLK.out ?_) | (refine lb e0 rfl rfl rfl (by kernel_rfl) ?_) | (refine sb e0 rfl rfl rfl rfl (by kernel_rfl) ?_) | (refine lb e2 rfl rfl rfl (by kernel_rfl) ?_) | (refine sb e2 rfl rfl rfl rfl (by kernel_rfl) ?_))
  refine bodyPost_ret (rct rfl (srh e2) (by rfl) (by kernel_rfl)) rfl ⟨?_, below_setRow hB (by omega) _⟩
  rfl
theorem delta_go (s : Dw.St) (hi : 0 ≤ s.iso ∧ s.iso ≤ 15) (c : Dw.Cmd) (h : c.ki = 1) (w : World) :
    Calls Tryz.prog 56 #[stV s, cmV c] w fun e w' => e = .returned (.tuple #[stV (Dw.deltaS s c), .int .i64 (Dw.deltaE s c)]) ∧ Below w.heap.size w w' := by
  have h1 : Dw.deltaE s c = Dw.goesE s c.n := by unfold Dw.deltaE; rw [if_pos h]
  have h2 : Dw.deltaS s c = if Dw.goesE s c.n = 0 then { s with mo := c.n } else s := by unfold Dw.deltaS; rw [h1]; unfold Dw.deltaT; rw [if_pos h]
  rw [h1, h2]
  exact delta_core s c 84 0 _ _ w (fun args w => by go_simp) (fun g => by rw [h]; rfl) (fun g w' hg => goes_any s hi c g w' hg)
theorem delta_arm (s : Dw.St) (hi : 0 ≤ s.iso ∧ s.iso ≤ 15) (c : Dw.Cmd) (h : c.ki = 2) (w : World) :
    Calls Tryz.prog 56 #[stV s, cmV c] w fun e w' => e = .returned (.tuple #[stV (Dw.deltaS s c), .int .i64 (Dw.deltaE s c)]) ∧ Below w.heap.size w w' := by
  have h0 : ¬ c.ki = 1 := by omega
  have h1 : Dw.deltaE s c = Dw.armE s := by unfold Dw.deltaE; rw [if_neg h0, if_pos h]
  have h2 : Dw.deltaS s c = if Dw.armE s = 0 then { s with ar := true, mo := 1 } else s := by unfold Dw.deltaS; rw [h1]; unfold Dw.deltaT; rw [if_neg h0, if_pos h]
  rw [h1, h2]
  exact delta_core s c 85 1 _ _ w (fun args w => by go_simp) (fun g => by rw [h]; rfl) (fun g w' hg => arm_any s hi c g w' hg)
end Go.Proofs.YtjonoojhdifjiaaGreatDoor
