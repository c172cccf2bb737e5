/- What the statement's proof stands on, part 43: Scr4f, Scr5, Shown21, Sts22, Look22. -/
import Derived.Test.YtcadgecnlahkgaaGreatDoorAh42
import Derived.Test.YtcadgecnlahkgaaGreatDoorAh36
import Derived.Test.YtcadgecnlahkgaaGreatDoorAh4
import Derived.Test.YtcadgecnlahkgaaGreatDoorAh28
import Derived.Test.YtcadgecnlahkgaaGreatDoorAh2
import Derived.Test.YtcadgecnlahkgaaGreatDoorAh35
set_option linter.unusedSimpArgs false
set_option linter.unusedVariables false
set_option maxRecDepth 100000
set_option maxHeartbeats 4000000
namespace Go.Proofs.YtcadgecnlahkgaaGreatDoor
open Go.RowKit Go.Shelf
theorem fstep_any (f : Dw.Fli) (e : Dw.En) (hf : Dw.FlOk f.x.f) (hl : Dw.legal f.x.s = true) (he : enOk e) (hln : f.out.length ≤ 1000000) (v : Value) (w : World) (hn : NoneAt w) (hv : RepsAt w v f.out) :
    Calls Tryz.prog 18 #[fliV f.x v, enV e] w fun en w' => (∃ v', en = .returned (fliV (Dw.stepF f e).x v') ∧ RepsAt w' v' (Dw.stepF f e).out) ∧ Below w.heap.size w w' := by
  by_cases h1 : e.ki = 1
  · exact fstep_ask f e h1 hf hl he hln v w hn hv
  by_cases h2 : e.ki = 2
  · exact fstep_see f e h1 h2 hf hl he hln v w hn hv
  by_cases h3 : e.ki = 3
  · exact fstep_reset f e h1 h2 h3 hf hl he hln v w hn hv
  by_cases h4 : e.ki = 4
  · exact fstep_turn f e h1 h2 h3 h4 hf hl he hln v w hn hv
  · exact fstep_none f e h1 h2 h3 h4 hf hl he hln v w hn hv
end Go.Proofs.YtcadgecnlahkgaaGreatDoor
namespace Go.Proofs.YtcadgecnlahkgaaGreatDoor
open Go.RowKit Go.Shelf
attribute [local go_sem] Oper.semAt_some
theorem Dw.out_le (l : List Dw.En) (f : Dw.Fli) : (Dw.runF f l).out.length ≤ f.out.length + l.length := by
  rw [Dw.out_len]
  have := List.length_filter_le Dw.isK l
  omega
theorem reps_shape {w : World} {v : Value} {l : List Dw.Rep} (h : RepsAt w v l) : ∃ p q, v = .slice p l.length q := by
  obtain ⟨p, q, e, -⟩ := slAt_own h
  exact ⟨p, q, e⟩
def Dw.sA : Dw.En := ⟨1, ⟨2, 0, 0, 0⟩, 0, 0, 0, ⟨-1, []⟩, 0⟩
def Dw.sS : Dw.En := ⟨2, ⟨0, 0, 0, 0⟩, 0, 0, 0, ⟨-1, []⟩, 0⟩
theorem cells_of {w : World} {b : Nat} {c : Array Value} {t : TypeId} {fr : Nat × Nat} (h : w.heap[b]? = some (.cells c t fr)) (i : Nat) (u : Value) (hi : c.toList[i]? = some u) : w.cell? ⟨b, 0 + i, none⟩ = some u := by
  rw [Nat.zero_add, cell_of_row _ _ i _ _ _ h]
  simpa using hi
theorem flat_get {α : Type} {enc : α → List Value} {k : Nat} (hk : ∀ a, (enc a).length = k) : ∀ (l : List α) (j : Nat) (x : α) (i : Nat), l[j]? = some x → i < k → (l.flatMap enc)[j * k + i]? = (enc x)[i]?
  | [], j, x, i, h, _ => by simp at h
  | a :: l, 0, x, i, h, hi => by
    simp at h
    subst h
    rw [List.flatMap_cons, Nat.zero_mul, Nat.zero_add, List.getElem?_append_left (by rw [hk]; exact hi)]
  | a :: l, j + 1, x, i, h, hi => by
    rw [List.flatMap_cons, List.getElem?_append_right (by rw [hk, Nat.succ_mul]; omega), hk, show (j + 1) * k + i - k = j * k + i by rw [Nat.succ_mul]; omega]
    exact flat_get hk l j x i (by simpa using h) hi
abbrev audC (a : Dw.Aud) (s : Dw.St) (v : Value) : Array Value := #[v, .bool a.fly, .int .i64 a.fs.mo, .bool a.fs.ar, .bool a.fs.ho, .int .i64 a.fs.la, .int .i64 a.fs.lo, .int .i64 a.fs.iso, .int .i64 s.mo, .bool s.ar, .bool s.ho, .int .i64 s.la, .int .i64 s.lo, .int .i64 s.iso]
abbrev audV (a : Dw.Aud) (s : Dw.St) (v : Value) : Value := .agg #[v, .bool a.fly, .int .i64 a.fs.mo, .bool a.fs.ar, .bool a.fs.ho, .int .i64 a.fs.la, .int .i64 a.fs.lo, .int .i64 a.fs.iso, .int .i64 s.mo, .bool s.ar, .bool s.ho, .int .i64 s.la, .int .i64 s.lo, .int .i64 s.iso]
def stCells (l : List Dw.St) : List Value := l.flatMap fun s => (stC s).toList
theorem stCells_snoc (l : List Dw.St) (s : Dw.St) : stCells (l ++ [s]) = stCells l ++ (stC s).toList := by unfold stCells; simp
theorem stC_one (s : Dw.St) : (stC s).all (·.oneCell') = true := by simp [stC, Value.oneCell']
abbrev StsAt (w : World) (v : Value) (l : List Dw.St) : Prop := RowsAt (fun s : Dw.St => (stC s).toList) 6 (fun _ => True) w v l
theorem StsAt.get {w : World} {sa : Option Addr} {len cap k : Nat} {l : List Dw.St} {s : Dw.St} (h : StsAt w (.slice sa len cap) l) (hk : l[k]? = some s) :
    ∃ b off, sa = some ⟨b, off, none⟩ ∧ ∀ i u, (stC s).toList[i]? = some u → w.cell? ⟨b, off + k * 6 + i, none⟩ = some u := by
  obtain ⟨sa', cap', he, hd, hs⟩ := h
  cases he
  rcases hs with rfl | ⟨b, off, h, hc⟩
  · simp at hk
  · exact ⟨b, off, h, fun i u hi => hc k s hk i u hi⟩
theorem StsAt.shape {w : World} {v : Value} {l : List Dw.St} (h : StsAt w v l) : ∃ p q, v = .slice p l.length q := by
  obtain ⟨sa, cap, rfl, -, -⟩ := h
  exact ⟨_, _, rfl⟩
theorem sts_own {w : World} {B n : Nat} {e : TypeId} {v : Value} {l : List Dw.St} (h : w.ownsRow B e 6 v n (stCells l)) (hn : n = l.length) : StsAt w v l := by
  subst hn
  obtain ⟨ao, cap, rfl, -, -, hc⟩ := slAt_own h
  refine ⟨ao, cap, rfl, fun _ _ => trivial, ?_⟩
  obtain ⟨hl, ⟨h0, hn⟩ | ⟨g, _, _, h0, _⟩⟩ := h
  · left; exact List.eq_nil_of_length_eq_zero hn
  · injection h0 with h1
    subst h1
    refine .inr ⟨g, 0, rfl, fun j s hj i u hi => ?_⟩
    have hi6 : i < 6 := (List.getElem?_eq_some_iff.1 hi).1
    have h1 := hc _ rfl (j * 6 + i) u (by
      show (l.flatMap fun s => (stC s).toList)[j * 6 + i]? = _
      rw [flat_get (k := 6) (fun _ => rfl) l j s i hj hi6]
      exact hi)
    rw [addr0] at h1
    rw [Nat.zero_add]
    exact h1
theorem own_next {w w' : World} {B n k : Nat} {e : TypeId} {v : Value} {xs : List Value} (h : w.ownsRow B e k v n xs) (hb : Below w.heap.size w w') : w'.ownsRow B e k v n xs := by
  obtain ⟨hl, h | ⟨g, cap, cur, he, h0, hg, hr⟩⟩ := h
  · exact ⟨hl, .inl h⟩
  · exact ⟨hl, .inr ⟨g, cap, cur, he, h0, kp hb hg, hr⟩⟩
theorem own_shape22 {w : World} {B n k : Nat} {e : TypeId} {v : Value} {xs : List Value} (h : w.ownsRow B e k v n xs) : ∃ p q, v = .slice p n q := by
  obtain ⟨p, q, e, -⟩ := slAt_own h
  exact ⟨p, q, e⟩
theorem own_blk {w : World} {B n k : Nat} {e : TypeId} {v : Value} {xs : List Value} (h : w.ownsRow B e k v n xs) {j : Nat} (hj : v.ownBlock = some j) : B ≤ j ∧ ∃ c, w.heap[j]? = some (.cells c e (0, 0)) := by
  rcases h.2 with ⟨h1, _⟩ | ⟨g', cap, cur, h1, h2, h3, _⟩
  · rw [h1] at hj; cases hj
  · rw [h1] at hj
    obtain rfl : g' = j := by simpa [Value.ownBlock] using hj
    exact ⟨h2, _, h3⟩
theorem own_but {w w' : World} {B n k : Nat} {e : TypeId} {v : Value} {xs : List Value} {X : Nat → Prop} (h : w.ownsRow B e k v n xs) (hk : KeepBut X w w') (hX : ∀ j, X j → ∃ c T fr, w.heap[j]? = some (.cells c T fr) ∧ T ≠ e) : w'.ownsRow B e k v n xs := by
  obtain ⟨hl, h | ⟨b, cap, cur, he, h0, hb, hr⟩⟩ := h
  · exact ⟨hl, .inl h⟩
  · refine ⟨hl, .inr ⟨b, cap, cur, he, h0, (hk.block b (block_lt hb) fun hx => ?_).trans hb, hr⟩⟩
    obtain ⟨c, T, fr, h1, h2⟩ := hX b hx
    rw [hb] at h1
    have := Option.some.inj h1
    injection this with _ h3 _
    exact h2 h3.symm
theorem kpt {w w' : World} {X : Nat → Prop} {g : Nat} {c : Array Value} {T : TypeId} {fr : Nat × Nat} (hk : KeepBut X w w') (hg : w.heap[g]? = some (.cells c T fr)) (hX : ∀ j, X j → ∃ c T' fr, w.heap[j]? = some (.cells c T' fr) ∧ T' ≠ T) : w'.heap[g]? = some (.cells c T fr) := by
  refine (hk.block g (block_lt hg) fun hx => ?_).trans hg
  obtain ⟨c, T', fr, h1, h2⟩ := hX g hx
  rw [hg] at h1
  have := Option.some.inj h1
  injection this with _ h3 _
  exact h2 h3.symm
theorem infoSt : (Tryz.prog.info? 29).map (fun i => (i.zero, i.size, i.bytes)) = some (some (.agg #[.int .i64 0, .bool false, .bool false, .int .i64 0, .int .i64 0, .int .i64 0]), 6, 40) := by kernel_rfl
section
variable {P : Program} {ops : Array Oper} {rest : List Oper} {o : Oper} {a : Act} {w : World} {Q : Exit → Act → World → Prop} {t e : TypeId}
theorem append_own22 (hg : o.guard = none) {s x : Operand} (hop : o.op = .call { callee := .builtin .append, args := #[s, x], argTypes := #[t, t] }) {z : Value} {k bytes : Nat} (hu : P.underlying t = some (.slice e))
    (hi : (P.info? e).map (fun i => (i.zero, i.size, i.bytes)) = some (some z, k, bytes)) (hz : z.cells.size = k) (hk : 0 < k) (hby : bytes ≤ 1000) {B n : Nat} {cs : List Value} {v0 : Value} (how : w.ownsRow B e k v0 n cs) (hn : n ≤ 1000000) (hBw : B ≤ w.heap.size)
    (hs : a.eval s = v0) {b : Nat} {c : Array Value} {T : TypeId} {fr : Nat × Nat} (hb : w.heap[b]? = some (.cells c T fr)) (hx : a.eval x = .slice (some ⟨b, 0, none⟩) 1 1) (hc : c.size = k) (h1 : c.all (·.oneCell') = true)
    (h : ∀ v' w', w'.ownsRow B e k v' (n + 1) (cs ++ c.toList) → KeepBut (fun j => v0.ownBlock = some j) w w' → wpList P ops Q rest (a.put o.dst v') w') : wpList P ops Q (o :: rest) a w := by
  obtain ⟨i, hi1, hi2, hi3, hi4⟩ := info_parts hi
  refine wpList_append_own w hg s x t hop B e i z k bytes hu hi1 hi2 hi3 hi4 hz hk v0 n cs hs how ⟨b, 0, none⟩ 1 1 c.toList hx (by simp [hc]) (fun j u hj => ?_) (fun u hu => (Array.all_eq_true_iff_forall_mem.1 h1) u (by simpa using hu)) (by simp only [maxLen]; omega) ?_ hBw fun v' w' ho hgr _ => h v' w' ho ((KeepBut.refl _ w).grown hgr (fun g e => e))
  · rw [addr0, cell_of_row _ _ j _ _ _ hb]
    simpa using hj
  · have : (n + 1) * bytes ≤ 1000001 * 1000 := Nat.mul_le_mul (by omega) hby
    omega
theorem exec_sp {p v : Operand} {b : Nat} {c : Array Value} {t' : TypeId} (t : TypeId) (off : Nat) (part c' : Array Value) (hb : w.heap[b]? = some (.cells c t' (0, 0))) (hop : o.op = .store t p v) (hp : a.eval p = .pointer (some ⟨b, off, none⟩)) (hv : a.eval v = .agg part) (hi : fits P t part part = true) (ho : Nat.ble (off + part.size) c.size = true) (hc : storeA c off part.toList = c') :
    (execOp a.eval o).run P w = .ok .skip (w.setRow b c') := by
  obtain ⟨h1, _, h3⟩ := fits_spec hi
  have hl := run_storeVar_part (P := P) w b off t' t c part hb h1 (Nat.le_of_ble_eq_true ho) h3
  rw [hc] at hl
  simp [execOp, hop, hp, hv, Instr.storeAt, Instr.sureAddr, hl, Result.andThen]
end
theorem At1.row {w A : World} {b : Nat} {c c' : Array Value} {t : TypeId} (h : At1 w b c t A) : At1 w b c' t (A.setRow b c') := ⟨h.1.setRow (g := b) (X := fun k => k = b) rfl c', srh h.2⟩
abbrev psC (p : Dw.PS) : Array Value := #[.int .i64 p.bank, .int .u64 p.gen, .int .u64 p.seq, .int .u64 p.data]
abbrev lookC (p : Dw.PS) (e : Int) : Array Value := #[.int .i64 p.bank, .int .u64 p.gen, .int .u64 p.seq, .int .u64 p.data, .int .i64 e]
abbrev lookV (p : Dw.PS) (e : Int) : Value := .agg #[.int .i64 p.bank, .int .u64 p.gen, .int .u64 p.seq, .int .u64 p.data, .int .i64 e]
namespace Dw
def ackA (a : Aud) (x y : Su) : Aud := if flE x.f y.f then a else ⟨a.ack ++ [y.s], false, st0⟩
def cutA (a : Aud) (x y : Su) : Aud := if x.ph ≠ 3 ∧ y.ph = 3 ∧ seenEq y.f.a y.f.b x.f.a x.f.b = false ∧ unE (readS y.f.a y.f.b).data = 0 then ⟨a.ack, true, unP (readS y.f.a y.f.b).data⟩ else a
end Dw
theorem fl_neq22 (a b : Dw.Fl) (u v : Operand) (w : World) : (do eqGuard .neq 27 u v (flV a) (flV b); binOp .neq 27 (flV a) (flV b) : Sem Value).run Tryz.prog w = .ok (.bool (!Dw.flE a b)) w := by
  unfold Dw.flE
  go_simp
  simp only [ba_list]
  by_cases q9 : a.li = b.li
  rotate_left
  · simp [q9]
  by_cases q10 : a.e1 = b.e1
  rotate_left
  · simp [q10]
  by_cases q11 : a.e0 = b.e0
  rotate_left
  · simp [q11]
  by_cases q12 : a.b = b.b
  rotate_left
  · simp [q12]
  by_cases q13 : a.a = b.a
  rotate_left
  · simp [q13]
  simp [q9, q10, q11, q12, q13]
theorem seen_neq (p q : Dw.PS) (e f : Int) (u v : Operand) (w : World) : (do eqGuard .neq 112 u v (lookV p e) (lookV q f); binOp .neq 112 (lookV p e) (lookV q f) : Sem Value).run Tryz.prog w = .ok (.bool (!decide (p.bank = q.bank ∧ p.gen = q.gen ∧ p.seq = q.seq ∧ p.data = q.data ∧ e = f))) w := by
  go_simp
  (repeat' split) <;> first | (simp_all; done) | (simp; omega)
theorem slook_any (x : Dw.Su) (hf : Dw.FlOk x.f) (w : World) (hn : NoneAt w) :
    Calls Tryz.prog 53 #[suV x] w fun e w' => e = .returned (lookV (Dw.readS x.f.a x.f.b) (Dw.readE x.f.a x.f.b)) ∧ Below w.heap.size w w' := by
  obtain ⟨V, hV⟩ : ∃ V, (w.alloc (.cells (suC x) 33)).alloc (.cells #[.int .i64 0, .int .u64 0, .int .u64 0, .int .u64 0, .int .i64 0] 112) = V := ⟨_, rfl⟩
  obtain ⟨b1, b2, hB⟩ := allocs2 _ _ _ _ hV
  have HR := Lib.hid (fun w hn => read_any x.f.a x.f.b hf.a hf.b x.f.e0 x.f.e1 x.f.li w hn)
  generalize Dw.readS x.f.a x.f.b = p at *
  generalize Dw.readE x.f.a x.f.b = er at *
  go_enter Tryz.func53, Tryz.ntmps53
  go_wp2_with (first | (refine lp 27 0 (flC x.f) b1 rfl rfl rfl (by kernel_rfl) (by rfl) ?_))
  try rw [hV]
  clear hV
  refine cb (HR.out _ (hn.next hB)) fun w1 hb => ?_
  replace b2 := kp hb b2; replace hB := tr hB hb
  clear hb HR b1
  obtain ⟨V2, hV2⟩ : ∃ V, w1.alloc (.cells (psC p) 110) = V := ⟨_, rfl⟩
  have b3 : V2.heap[w1.heap.size]? = some (.cells (psC p) 110) := by rw [← hV2]; exact han _ _
  have hb : Below w1.heap.size w1 V2 := by rw [← hV2]; exact (Below.refl _ w1).alloc (Nat.le_refl _) _
  replace b2 := kp hb b2; replace hB := tr hB hb
  clear hb
  go_wp2_with (first | (refine lb b3 rfl rfl rfl (by kernel_rfl) ?_) | (refine sb (c' := lookC p er) b2 rfl rfl rfl rfl (by kernel_rfl) ?_))
  exact bodyPost_ret (rcr rfl (srh b2) (by rfl) (by kernel_rfl)) rfl ⟨rfl, below_setRow hB (by omega) _⟩
def AudAt (w : World) (X : Nat → Prop) (N : Nat) (a : Dw.Aud) (now : Dw.St) (w' : World) : Prop := ∃ va', KeepBut X w w' ∧ w'.heap[N]? = some (.cells (audC a now va') 66 (0, 0)) ∧ w'.ownsRow (N + 1) 29 6 va' a.ack.length (stCells a.ack)
theorem fack_any (x y : Dw.Su) (a : Dw.Aud) (now : Dw.St) (va : Value) (N : Nat) (w : World) (hN : w.heap[N]? = some (.cells (audC a now va) 66 (0, 0))) (how : w.ownsRow (N + 1) 29 6 va a.ack.length (stCells a.ack)) (hl : a.ack.length ≤ 1000) :
    Calls Tryz.prog 51 #[suV x, suV y, .pointer (some ⟨N, 0, none⟩)] w fun e w' => e = .returned (.tuple #[]) ∧ AudAt w (fun j => j = N ∨ va.ownBlock = some j) N (Dw.ackA a x y) now w' := by
  obtain ⟨V, hV⟩ : ∃ V, (w.alloc (.cells (suC x) 33)).alloc (.cells (suC y) 33) = V := ⟨_, rfl⟩
  obtain ⟨b3, b4, hB⟩ := allocs2 _ _ _ _ hV
  have bN := kp hB hN
  have howV := own_next how hB
  have zN := block_lt hN
  have HNE := Lib.hid (fun u v w => fl_neq22 x.f y.f u v w)
  obtain ⟨p, q, rfl⟩ := own_shape22 how
  obtain ⟨ack, fly, fs⟩ := a
  dsimp only at *
  cases hfe : Dw.flE x.f y.f
  · have HA := Lib.hid (show Dw.ackA ⟨ack, fly, fs⟩ x y = ⟨ack ++ [y.s], false, Dw.st0⟩ by unfold Dw.ackA; rw [if_neg (by rw [hfe]; decide)])
    rw [hfe] at HNE
    have HB := Lib.hid hB; have HN := Lib.hid bN; have HO := Lib.hid howV
    have c0 : V.cell? ⟨N, 0, none⟩ = some (.slice p ack.length q) := by rw [cell_of_row _ _ 0 _ _ _ bN]; rfl
    obtain ⟨V2, hV2⟩ : ∃ W, V.alloc (.cells (stC y.s) 29) = W := ⟨_, rfl⟩
    have b2 : V2.heap[V.heap.size]? = some (.cells (stC y.s) 29) := by rw [← hV2]; exact han _ _
    have hb2 : Below V.heap.size V V2 := by rw [← hV2]; exact (Below.refl _ V).alloc (Nat.le_refl _) _
    have HB2 := Lib.hid hb2
    have HV2 := Lib.hid hV2
    have how2 := own_next HO.out HB2.out
    have z2 : N + 1 ≤ V2.heap.size := by have := hB.size; have := hb2.size; omega
    clear hfe hN how hB bN howV hb2 hV2 HO
    go_enter Tryz.func51, Tryz.ntmps51
    go_wp2_with (first | (refine lp 27 0 (flC x.f) b3 rfl rfl rfl (by kernel_rfl) (by rfl) ?_) | (refine lp 27 0 (flC y.f) b4 rfl rfl rfl (by kernel_rfl) (by rfl) ?_) | (refine lp 29 5 (stC y.s) b4 rfl rfl rfl (by kernel_rfl) (by rfl) ?_) | (refine bno (HNE.out _ _ _) rfl rfl rfl rfl ?_) | (at_builtin; (try rw [HV2.out]); refine append_own22 (by rfl) (by rfl) Tryz.underlying64 infoSt rfl (by decide) (by decide) how2 (by omega) z2 rfl b2 rfl rfl (stC_one _) ?_; intro v1 w1 how1 hk1))
    have hne : ∀ j, (Value.slice p ack.length q).ownBlock = some j → N + 1 ≤ j := fun j hj => (own_blk how2 hj).1
    have bN0 := kp HB2.out HN.out
    have bN1 := (hk1.block N (block_lt bN0) (fun h => by have := hne N h; omega)).trans bN0
    obtain ⟨p1, q1, rfl⟩ := own_shape22 how1
    have hK1 : KeepBut (fun j => j = N ∨ (Value.slice p ack.length q).ownBlock = some j) w w1 := ((keepB (HB.out.trans (HB2.out.mono HB.out.size))).mono fun _ _ h => h.elim).trans (hk1.mono fun _ _ h => .inr h)
    clear hk1 b2 b3 b4 c0 how2 HB HN HB2 HV2 HNE bN0 hne
    go_wp2_with fail
    refine cb (default_any _) fun w2 hb => ?_
    have bN2 := kp hb bN1
    have how3 := own_next how1 hb
    have hK2 := hK1.trans ((keepB hb).mono (Y := fun j => j = N ∨ (Value.slice p ack.length q).ownBlock = some j) fun _ _ h => h.elim)
    have d1 := heap_setCell_same w2 N 0 _ _ (.slice p1 (ack.length + 1) q1) bN2
    have d2 := heap_setCell_same _ N 1 _ _ (.bool false) d1
    have f0 := frozen0 bN2 0
    have f1 := frozen0 d1 1
    have k0 : w2.cell? ⟨N, 0, none⟩ = some (.slice p ack.length q) := by rw [cell_of_row _ _ 0 _ _ _ bN2]; rfl
    have k1 : (w2.setCell ⟨N, 0, none⟩ (.slice p1 (ack.length + 1) q1)).cell? ⟨N, 1, none⟩ = some (.bool fly) := by rw [cell_of_row _ _ 1 _ _ _ d1]; rfl
    clear hb bN1 how1 hK1
    go_wp2_with (first | (refine sp 29 2 (stC Dw.st0) (audC ⟨ack ++ [y.s], false, Dw.st0⟩ now (.slice p1 (ack.length + 1) q1)) d2 rfl rfl rfl rfl (by kernel_rfl) (by rfl) (by rfl) ?_))
    go_end0
    rw [HA.out]
    refine ⟨rfl, .slice p1 (ack.length + 1) q1, ((hK2.setCell (p := ⟨N, 0, none⟩) (.inl rfl) _).setCell (p := ⟨N, 1, none⟩) (.inl rfl) _).setRow (g := N) (.inl rfl) _, srh d2, ?_⟩
    have h := own_setRow (own_setCell (own_setCell how3 (Nat.lt_succ_self N) 0 (.slice p1 (ack.length + 1) q1)) (Nat.lt_succ_self N) 1 (.bool false)) (Nat.lt_succ_self N) (audC ⟨ack ++ [y.s], false, Dw.st0⟩ now (.slice p1 (ack.length + 1) q1))
    show World.ownsRow _ _ _ _ _ (ack ++ [y.s]).length (stCells (ack ++ [y.s]))
    rw [List.length_append, stCells_snoc]
    exact h
  · have HA := Lib.hid (show Dw.ackA ⟨ack, fly, fs⟩ x y = ⟨ack, fly, fs⟩ by unfold Dw.ackA; rw [if_pos hfe])
    rw [hfe] at HNE
    have HB := Lib.hid hB; have HN := Lib.hid bN; have HO := Lib.hid howV
    clear hfe hN how hB bN howV
    go_enter Tryz.func51, Tryz.ntmps51
    go_wp2_with (first | (refine lp 27 0 (flC x.f) b3 rfl rfl rfl (by kernel_rfl) (by rfl) ?_) | (refine lp 27 0 (flC y.f) b4 rfl rfl rfl (by kernel_rfl) (by rfl) ?_) | (refine bno (HNE.out _ _ _) rfl rfl rfl rfl ?_))
    go_end0
    rw [HA.out]
    refine ⟨rfl, .slice p ack.length q, ?_, ?_, ?_⟩
    · exact (keepB HB.out).mono fun _ _ h => h.elim
    · exact HN.out
    · exact HO.out
theorem cut_r3 {t0 t1 t2 t6 t8 t9 t10 t11 t12 t13 t14 t15 t16 t17 t18 t19 t20 t21 t22 t23 t24 t25 t26 t27 t28 t29 t30 t31 t32 t33 t34 t35 t36 t37 : Value} {R : Exit → Act → World → Prop} {w : World} {g3 g4 g5 : Nat} {ue : Int} {c sq : Bool} {x y : Dw.Su} {p q : Dw.PS} {pe qe : Int} (b3 : w.heap[g3]? = some (.cells (suC x) 33)) (b4 : w.heap[g4]? = some (.cells (suC y) 33)) (b5 : w.heap[g5]? = some (.cells (lookC p pe) 112)) (hn : NoneAt w)
    (HL : Hid (∀ w, NoneAt w → Calls Tryz.prog 53 #[suV x] w fun e w' => e = .returned (lookV q qe) ∧ Below w.heap.size w w'))
    (HE : Hid (∀ u v w, (do eqGuard .neq 112 u v (lookV p pe) (lookV q qe); binOp .neq 112 (lookV p pe) (lookV q qe) : Sem Value).run Tryz.prog w = .ok (.bool (!sq)) w))
    (hc : x.ph = 3 ∧ c = false ∨ x.ph ≠ 3 ∧ y.ph ≠ 3 ∧ c = false ∨ x.ph ≠ 3 ∧ y.ph = 3 ∧ sq = true ∧ c = false ∨ x.ph ≠ 3 ∧ y.ph = 3 ∧ sq = false ∧ ue ≠ 0 ∧ c = false ∨ x.ph ≠ 3 ∧ y.ph = 3 ∧ sq = false ∧ ue = 0 ∧ c = true)
    (hR : ∀ (v17 v18 v19 v20 v21 v22 v23 v24 v25 v26 v27 v28 v29 v30 v31 v32 v33 : Value) (w' : World), Keep w w' → wpList Tryz.prog (opsR 3 Tryz.f52) R [] { tmps := #[t0, t1, t2, .pointer (some ⟨g3, 0, none⟩), .pointer (some ⟨g4, 0, none⟩), .pointer (some ⟨g5, 0, none⟩), t6, .int .i64 ue, t8, t9, t10, t11, t12, t13, t14, t15, t16, v17, v18, v19, v20, v21, v22, v23, v24, v25, v26, v27, v28, v29, v30, v31, v32, v33, .bool c, t35, t36, t37], defers := [] } w') :
    (Code.region 3 (opsR 3 Tryz.f52) true).wp Tryz.prog R { tmps := #[t0, t1, t2, .pointer (some ⟨g3, 0, none⟩), .pointer (some ⟨g4, 0, none⟩), .pointer (some ⟨g5, 0, none⟩), t6, .int .i64 ue, t8, t9, t10, t11, t12, t13, t14, t15, t16, t17, t18, t19, t20, t21, t22, t23, t24, t25, t26, t27, t28, t29, t30, t31, t32, t33, t34, t35, t36, t37], defers := [] } w := by
  have e : findR 3 Tryz.f52.body.get! = findR 3 Tryz.f52.body.get! := rfl
  conv at e => rhs; whnf
  unfold opsR
  rw [e, Option.getD_some]
  clear e
  have HR := Lib.hid hR
  clear hR
  obtain ⟨-, -, x11, -, -⟩ := cells14 b3
  obtain ⟨-, -, y11, -, -⟩ := cells14 b4
  obtain ⟨xf, xs, xp, xv, xn⟩ := x
  obtain ⟨yf, ys, yp, yv, yn⟩ := y
  dsimp only at hc x11 y11
  rcases hc with ⟨rfl, rfl⟩ | ⟨h1, h2, rfl⟩ | ⟨h1, rfl, rfl, rfl⟩ | ⟨h1, rfl, rfl, h2, rfl⟩ | ⟨h1, rfl, rfl, rfl, rfl⟩
  · refine wp_pure [0, 1, 2, 3, 4, 5, 6, 7, 8, 9, 10, 11, 12, 13, 14, 15, 16, 17] 18 (by kernel_rfl) (by kernel_rfl) rfl ?_
    (apply rat; (focus (intro w' hk; obtain ⟨k0,k1⟩ := look2 hk x11 y11; repeat' (first | exact rn | ((first | refine' rv ?_ rfl rfl (by exact exec_cells (lookC p pe) (cells_of (kpi hk b5)) rfl rfl (by kernel_rfl)) | refine' rv ?_ rfl rfl (by exact exec_cells (suC ⟨xf, xs, 3, xv, xn⟩) (cells_of (kpi hk b3)) rfl rfl (by kernel_rfl)) | refine' rv ?_ rfl rfl (by exact exec_bin rfl rfl rfl (HE.out _ _ _)) | refine' rv ?_ rfl rfl (by go_simp; first | done | with_reducible rfl | exact rfl) | refine' rc ?_ (by exact rfl) (by exact rfl) (by go_simp; first | done | (constructor <;> with_reducible rfl) | with_reducible rfl) (by exact HL.out w' (hn.next hk.whole)) | refine' rs ?_ rfl rfl); try simp only [Act.put, List.setIfInBounds_toArray, List.set_cons_zero, List.set_cons_succ])))))
    intro w9 hk9
    exact HR.out _ _ _ _ _ _ _ _ _ _ _ _ _ _ _ _ _ w9 hk9
  · have q1 : (xp != 3) = true := by simp [h1]
    have q2 : (yp == 3) = false := by simp [h2]
    refine wp_pure [0, 1, 2, 3, 4, 5, 6, 7, 8, 9, 10, 11, 12, 13, 14, 15, 16, 17] 18 (by kernel_rfl) (by kernel_rfl) rfl ?_
    (apply rat; (focus (intro w' hk; obtain ⟨k0,k1⟩ := look2 hk x11 y11; repeat' (first | exact rn | ((first | refine' rv ?_ rfl rfl (by exact exec_cells (lookC p pe) (cells_of (kpi hk b5)) rfl rfl (by kernel_rfl)) | refine' rv ?_ rfl rfl (by exact exec_cells (suC ⟨xf, xs, xp, xv, xn⟩) (cells_of (kpi hk b3)) rfl rfl (by kernel_rfl)) | refine' rv ?_ rfl rfl (by exact exec_bin rfl rfl rfl (HE.out _ _ _)) | refine' rv ?_ rfl rfl (by go_simp; first | done | with_reducible rfl | exact rfl) | refine' rc ?_ (by exact rfl) (by exact rfl) (by go_simp; first | done | (constructor <;> with_reducible rfl) | with_reducible rfl) (by exact HL.out w' (hn.next hk.whole)) | refine' rs ?_ rfl rfl); try simp only [Act.put, List.setIfInBounds_toArray, List.set_cons_zero, List.set_cons_succ])))))
    intro w9 hk9
    exact HR.out _ _ _ _ _ _ _ _ _ _ _ _ _ _ _ _ _ w9 hk9
  · have q1 : (xp != 3) = true := by simp [h1]
    refine wp_pure [0, 1, 2, 3, 4, 5, 6, 7, 8, 9, 10, 11, 12, 13, 14, 15, 16, 17] 18 (by kernel_rfl) (by kernel_rfl) rfl ?_
    (apply rat; (focus (intro w' hk; obtain ⟨k0,k1⟩ := look2 hk x11 y11; repeat' (first | exact rn | ((first | refine' rv ?_ rfl rfl (by exact exec_cells (lookC p pe) (cells_of (kpi hk b5)) rfl rfl (by kernel_rfl)) | refine' rv ?_ rfl rfl (by exact exec_cells (suC ⟨xf, xs, xp, xv, xn⟩) (cells_of (kpi hk b3)) rfl rfl (by kernel_rfl)) | refine' rv ?_ rfl rfl (by exact exec_bin rfl rfl rfl (HE.out _ _ _)) | refine' rv ?_ rfl rfl (by go_simp; first | done | with_reducible rfl | exact rfl) | refine' rc ?_ (by exact rfl) (by exact rfl) (by go_simp; first | done | (constructor <;> with_reducible rfl) | with_reducible rfl) (by exact HL.out w' (hn.next hk.whole)) | refine' rs ?_ rfl rfl); try simp only [Act.put, List.setIfInBounds_toArray, List.set_cons_zero, List.set_cons_succ])))))
    intro w9 hk9
    exact HR.out _ _ _ _ _ _ _ _ _ _ _ _ _ _ _ _ _ w9 hk9
  · have q1 : (xp != 3) = true := by simp [h1]
    have q3 : (ue == 0) = false := by simp [h2]
    refine wp_pure [0, 1, 2, 3, 4, 5, 6, 7, 8, 9, 10, 11, 12, 13, 14, 15, 16, 17] 18 (by kernel_rfl) (by kernel_rfl) rfl ?_
    (apply rat; (focus (intro w' hk; obtain ⟨k0,k1⟩ := look2 hk x11 y11; repeat' (first | exact rn | ((first | refine' rv ?_ rfl rfl (by exact exec_cells (lookC p pe) (cells_of (kpi hk b5)) rfl rfl (by kernel_rfl)) | refine' rv ?_ rfl rfl (by exact exec_cells (suC ⟨xf, xs, xp, xv, xn⟩) (cells_of (kpi hk b3)) rfl rfl (by kernel_rfl)) | refine' rv ?_ rfl rfl (by exact exec_bin rfl rfl rfl (HE.out _ _ _)) | refine' rv ?_ rfl rfl (by go_simp; first | done | with_reducible rfl | exact rfl) | refine' rc ?_ (by exact rfl) (by exact rfl) (by go_simp; first | done | (constructor <;> with_reducible rfl) | with_reducible rfl) (by exact HL.out w' (hn.next hk.whole)) | refine' rs ?_ rfl rfl); try simp only [Act.put, List.setIfInBounds_toArray, List.set_cons_zero, List.set_cons_succ])))))
    intro w9 hk9
    exact HR.out _ _ _ _ _ _ _ _ _ _ _ _ _ _ _ _ _ w9 hk9
  · have q1 : (xp != 3) = true := by simp [h1]
    refine wp_pure [0, 1, 2, 3, 4, 5, 6, 7, 8, 9, 10, 11, 12, 13, 14, 15, 16, 17] 18 (by kernel_rfl) (by kernel_rfl) rfl ?_
    (apply rat; (focus (intro w' hk; obtain ⟨k0,k1⟩ := look2 hk x11 y11; repeat' (first | exact rn | ((first | refine' rv ?_ rfl rfl (by exact exec_cells (lookC p pe) (cells_of (kpi hk b5)) rfl rfl (by kernel_rfl)) | refine' rv ?_ rfl rfl (by exact exec_cells (suC ⟨xf, xs, xp, xv, xn⟩) (cells_of (kpi hk b3)) rfl rfl (by kernel_rfl)) | refine' rv ?_ rfl rfl (by exact exec_bin rfl rfl rfl (HE.out _ _ _)) | refine' rv ?_ rfl rfl (by go_simp; first | done | with_reducible rfl | exact rfl) | refine' rc ?_ (by exact rfl) (by exact rfl) (by go_simp; first | done | (constructor <;> with_reducible rfl) | with_reducible rfl) (by exact HL.out w' (hn.next hk.whole)) | refine' rs ?_ rfl rfl); try simp only [Act.put, List.setIfInBounds_toArray, List.set_cons_zero, List.set_cons_succ])))))
    intro w9 hk9
    exact HR.out _ _ _ _ _ _ _ _ _ _ _ _ _ _ _ _ _ w9 hk9
theorem fcut_any (x y : Dw.Su) (hx : Dw.FlOk x.f) (hy : Dw.FlOk y.f) (a : Dw.Aud) (now : Dw.St) (va : Value) (N : Nat) (w : World) (hn : NoneAt w) (hN : w.heap[N]? = some (.cells (audC a now va) 66 (0, 0))) :
    Calls Tryz.prog 52 #[suV x, suV y, .pointer (some ⟨N, 0, none⟩)] w fun e w' => e = .returned (.tuple #[]) ∧ At1 w N (audC (Dw.cutA a x y) now va) 66 w' := by
  obtain ⟨V, hV⟩ : ∃ V, (w.alloc (.cells (suC x) 33)).alloc (.cells (suC y) 33) = V := ⟨_, rfl⟩
  obtain ⟨b3, b4, hB⟩ := allocs2 _ _ _ _ hV
  have bN := kp hB hN
  have HLX := Lib.hid (fun w hn => slook_any x hx w hn)
  have HLY := Lib.hid (fun w hn => slook_any y hy w hn)
  have HU := Lib.hid (fun w => unpack_any (Dw.readS y.f.a y.f.b).data (Dw.readS_lt _ _) w)
  have HE := Lib.hid (fun u v w => seen_neq (Dw.readS y.f.a y.f.b) (Dw.readS x.f.a x.f.b) (Dw.readE y.f.a y.f.b) (Dw.readE x.f.a x.f.b) u v w)
  have key : ∃ c : Bool, (x.ph = 3 ∧ c = false ∨ x.ph ≠ 3 ∧ y.ph ≠ 3 ∧ c = false ∨ x.ph ≠ 3 ∧ y.ph = 3 ∧ Dw.seenEq y.f.a y.f.b x.f.a x.f.b = true ∧ c = false ∨ x.ph ≠ 3 ∧ y.ph = 3 ∧ Dw.seenEq y.f.a y.f.b x.f.a x.f.b = false ∧ Dw.unE (Dw.readS y.f.a y.f.b).data ≠ 0 ∧ c = false ∨ x.ph ≠ 3 ∧ y.ph = 3 ∧ Dw.seenEq y.f.a y.f.b x.f.a x.f.b = false ∧ Dw.unE (Dw.readS y.f.a y.f.b).data = 0 ∧ c = true) ∧ Dw.cutA a x y = if c then ⟨a.ack, true, Dw.unP (Dw.readS y.f.a y.f.b).data⟩ else a := by
    unfold Dw.cutA
    by_cases h1 : x.ph = 3
    · exact ⟨false, .inl ⟨h1, rfl⟩, by rw [if_neg (fun q => q.1 h1)]; rfl⟩
    by_cases h2 : y.ph = 3
    rotate_left
    · exact ⟨false, .inr (.inl ⟨h1, h2, rfl⟩), by rw [if_neg (fun q => h2 q.2.1)]; rfl⟩
    cases h3 : Dw.seenEq y.f.a y.f.b x.f.a x.f.b
    rotate_left
    · exact ⟨false, .inr (.inr (.inl ⟨h1, h2, rfl, rfl⟩)), by rw [if_neg (fun q => by have := q.2.2.1; cases this)]; rfl⟩
    by_cases h4 : Dw.unE (Dw.readS y.f.a y.f.b).data = 0
    · exact ⟨true, .inr (.inr (.inr (.inr ⟨h1, h2, rfl, h4, rfl⟩))), by rw [if_pos ⟨h1, h2, rfl, h4⟩]; rfl⟩
    · exact ⟨false, .inr (.inr (.inr (.inl ⟨h1, h2, rfl, h4, rfl⟩))), by rw [if_neg (fun q => h4 q.2.2.2)]; rfl⟩
  obtain ⟨c, hc, hA⟩ := key
  unfold Dw.seenEq at hc
  generalize decide ((Dw.readS y.f.a y.f.b).bank = (Dw.readS x.f.a x.f.b).bank ∧ (Dw.readS y.f.a y.f.b).gen = (Dw.readS x.f.a x.f.b).gen ∧ (Dw.readS y.f.a y.f.b).seq = (Dw.readS x.f.a x.f.b).seq ∧ (Dw.readS y.f.a y.f.b).data = (Dw.readS x.f.a x.f.b).data ∧ Dw.readE y.f.a y.f.b = Dw.readE x.f.a x.f.b) = sq at *
  generalize Dw.readS y.f.a y.f.b = p at *
  generalize Dw.readS x.f.a x.f.b = q at *
  generalize Dw.readE y.f.a y.f.b = pe at *
  generalize Dw.readE x.f.a x.f.b = qe at *
  generalize Dw.unP p.data = US at *
  generalize Dw.unE p.data = ue at *
  have HA := Lib.hid hA; have HC := Lib.hid hc
  clear hA hc hx hy hN
  go_enter Tryz.func52, Tryz.ntmps52
  go_wp2_with (first | (refine lb b4 rfl rfl rfl (by kernel_rfl) ?_))
  try rw [hV]
  clear hV
  refine cb (HLY.out _ (hn.next hB)) fun w1 hb => ?_
  replace b3 := kp hb b3; replace b4 := kp hb b4; replace bN := kp hb bN; replace hB := tr hB hb
  clear hb HLY
  obtain ⟨V2, hV2⟩ : ∃ V, w1.alloc (.cells (lookC p pe) 112) = V := ⟨_, rfl⟩
  have b5 : V2.heap[w1.heap.size]? = some (.cells (lookC p pe) 112) := by rw [← hV2]; exact han _ _
  have hb : Below w1.heap.size w1 V2 := by rw [← hV2]; exact (Below.refl _ w1).alloc (Nat.le_refl _) _
  have k3 : V2.cell? ⟨w1.heap.size, 3, none⟩ = some (.int .u64 (p.data : Nat)) := by rw [cell_of_row _ _ 3 _ _ _ b5]; rfl
  replace b3 := kp hb b3; replace b4 := kp hb b4; replace bN := kp hb bN; replace hB := tr hB hb
  have H3 := Lib.hid b3; have H4 := Lib.hid b4; have H5 := Lib.hid b5; have HN := Lib.hid bN; have HB := Lib.hid hB
  clear hb b3 b4 b5 bN hB
  go_wp2_with fail
  try rw [hV2]
  clear hV2
  refine cb (HU.out _) fun w2 hb => ?_
  have b3 := kp hb H3.out; have b4 := kp hb H4.out; have b5 := kp hb H5.out; have bN := kp hb HN.out; have hB := tr HB.out hb
  clear hb H3 H4 H5 HN HB k3 HU
  obtain ⟨V3, hV3⟩ : ∃ V, w2.alloc (.cells (stC US) 29) = V := ⟨_, rfl⟩
  have b6 : V3.heap[w2.heap.size]? = some (.cells (stC US) 29) := by rw [← hV3]; exact han _ _
  have hb : Below w2.heap.size w2 V3 := by rw [← hV3]; exact (Below.refl _ w2).alloc (Nat.le_refl _) _
  have zN := block_lt bN
  replace b3 := kp hb b3; replace b4 := kp hb b4; replace b5 := kp hb b5; replace bN := kp hb bN; replace hB := tr hB hb
  have H3 := Lib.hid b3; have H4 := Lib.hid b4; have H5 := Lib.hid b5; have H6 := Lib.hid b6; have HN := Lib.hid bN; have HB := Lib.hid hB
  clear hb b3 b4 b5 b6 bN hB
  go_wp2_with fail
  try rw [hV3]
  clear hV3
  refine reg_swap (n := 3) (ops := opsR 3 Tryz.f52) ?_ (by kernel_rfl)
  refine cut_r3 H3.out H4.out H5.out (hn.next HB.out) HLX HE HC.out ?_
  intro v17 v18 v19 v20 v21 v22 v23 v24 v25 v26 v27 v28 v29 v30 v31 v32 v33 w5 hk5
  have b6 := kpi hk5 H6.out; have bN := kpi hk5 HN.out
  have HB5 := Lib.hid (HB.out.trans (hk5.whole.mono HB.out.size))
  clear HC H3 H4 H5 H6 HN HB hk5 HLX HE
  cases c
  · go_wp2_with fail
    go_end0
    rw [HA.out]
    exact ⟨rfl, (keepB HB5.out).mono fun _ _ h => h.elim, bN⟩
  · go_wp2_with fail
    obtain ⟨g6, hg6⟩ : ∃ x, w2.heap.size = x := ⟨_, rfl⟩
    rw [hg6] at b6 zN ⊢
    refine RC.wp_chain [0, 1, 2, 3, 4] [2, 4] (fun k => k == 0) 5 (stF w5 N 66 (audC a now va) (audC ⟨a.ack, true, a.fs⟩ now va) (audC ⟨a.ack, true, US⟩ now va) #[] #[]) rfl (by kernel_rfl) (by kernel_rfl) rfl stF_keep ⟨KeepBut.refl _ _, bN⟩ ?_
    (refine RC.cl_late (v := stV US) rfl (by rfl) rfl ?_ ?_; (focus (intro m w' hst; exact exec_cells (stC US) (cells_of (((stF_kb _ _ hst).block g6 (block_lt b6) (by omega)).trans b6)) rfl rfl (by kernel_rfl))); (try simp only [Act.put, List.setIfInBounds_toArray, List.set_cons_zero, List.set_cons_succ]))
    (refine RC.cl_value (v := ?_) rfl rfl (by rfl) rfl ?_ ?_; rotate_left 1; (focus (intro w' hst; go_simp; (first | done | with_reducible rfl | exact rfl))); (try simp only [Act.put, List.setIfInBounds_toArray, List.set_cons_zero, List.set_cons_succ]))
    (refine RC.cl_store rfl (by rfl) rfl (fun w' hst => ⟨w'.setCell ⟨N, 1, none⟩ (.bool true), ?_, At1.set hst (.bool true)⟩) ?_; (focus (have hx := (show At1 w5 N _ _ w' from hst).2; have k1 : w'.cell? ⟨N, 1, none⟩ = some (.bool a.fly) := (by rw [cell_of_row _ _ 1 _ _ _ hx]; rfl); have fz := frozen0 hx 1; go_simp)); (try simp only [Act.put]))
    (refine RC.cl_value (v := ?_) rfl rfl (by rfl) rfl ?_ ?_; rotate_left 1; (focus (intro w' hst; go_simp; (first | done | with_reducible rfl | exact rfl))); (try simp only [Act.put, List.setIfInBounds_toArray, List.set_cons_zero, List.set_cons_succ]))
    (refine RC.cl_store rfl (by rfl) rfl (fun w' hst => ⟨w'.setRow N (audC ⟨a.ack, true, US⟩ now va), ?_, At1.row hst⟩) ?_; (focus (have hx := (show At1 w5 N _ _ w' from hst).2; exact exec_sp 29 2 (stC US) (audC ⟨a.ack, true, US⟩ now va) hx rfl rfl rfl (by kernel_rfl) (by rfl) (by rfl))); (try simp only [Act.put]))
    refine RC.cl_nil ?_
    intro w6 hst
    simp only [List.drop_succ_cons, List.drop_zero]
    go_wp2_with fail
    go_end0
    rw [HA.out]
    have h6 : At1 w5 N (audC ⟨a.ack, true, US⟩ now va) 66 w6 := hst
    exact ⟨rfl, ((keepB HB5.out).mono fun _ _ h => h.elim).trans h6.1, h6.2⟩
end Go.Proofs.YtcadgecnlahkgaaGreatDoor
