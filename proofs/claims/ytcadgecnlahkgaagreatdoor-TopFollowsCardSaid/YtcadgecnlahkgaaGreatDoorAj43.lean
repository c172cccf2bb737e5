/- What the statement's proof stands on, part 43: Scr4f, Scr5, Shown21, Sts22, Look22, Says22, Known22. -/
import Derived.Test.YtcadgecnlahkgaaGreatDoorAj42
import Derived.Test.YtcadgecnlahkgaaGreatDoorAj36
import Derived.Test.YtcadgecnlahkgaaGreatDoorAj4
import Derived.Test.YtcadgecnlahkgaaGreatDoorAj30
import Derived.Test.YtcadgecnlahkgaaGreatDoorAj2
import Derived.Test.YtcadgecnlahkgaaGreatDoorAj35
set_option linter.unusedSimpArgs false
set_option linter.unusedVariables false
set_option maxRecDepth 100000
set_option maxHeartbeats 4000000
namespace Go.Proofs.YtcadgecnlahkgaaGreatDoor
open Go.RowKit Go.Shelf
theorem fstep_any (f : Dw.Fli) (e : Dw.En) (hf : Dw.FlOk f.x.f) (hl : Dw.legal f.x.s = true) (he : enOk e) (hln : f.out.length ≤ 1000000) (v : Value) (w : World) (hn : NoneAt w) (hv : RepsAt w v f.out) :
    Calls Tryz.prog 18 #[fliV f.x v, enV e] w fun en w' => (∃ v', en = .returned (fliV (Dw.stepF f e).x v') ∧ RepsAt w' v' (Dw.stepF f e).out) ∧ Below w.heap.size w w' := by
  by_cases h1 : e.ki = 1
  · exact fstep_ask f e h1 hf hl he hln v w hn hv
  by_cases h2 : e.ki = 2
  · exact fstep_see f e h1 h2 hf hl he hln v w hn hv
  by_cases h3 : e.ki = 3
  · exact fstep_reset f e h1 h2 h3 hf hl he hln v w hn hv
  by_cases h4 : e.ki = 4
  · exact fstep_turn f e h1 h2 h3 h4 hf hl he hln v w hn hv
  · exact fstep_none f e h1 h2 h3 h4 hf hl he hln v w hn hv
end Go.Proofs.YtcadgecnlahkgaaGreatDoor
namespace Go.Proofs.YtcadgecnlahkgaaGreatDoor
open Go.RowKit Go.Shelf
attribute [local go_sem] Oper.semAt_some
theorem Dw.out_le (l : List Dw.En) (f : Dw.Fli) : (Dw.runF f l).out.length ≤ f.out.length + l.length := by
  rw [Dw.out_len]
  have := List.length_filter_le Dw.isK l
  omega
theorem reps_shape {w : World} {v : Value} {l : List Dw.Rep} (h : RepsAt w v l) : ∃ p q, v = .slice p l.length q := by
  obtain ⟨p, q, e, -⟩ := slAt_own h
  exact ⟨p, q, e⟩
theorem frun_any (f : Dw.Fli) (l : List Dw.En) (hf : Dw.FlOk f.x.f) (hl : Dw.legal f.x.s = true) (hlen : l.length ≤ 1000) (hln : f.out.length ≤ 1000) (v v2 : Value) (w : World) (hn : NoneAt w) (hv : RepsAt w v f.out) (hv2 : EnsAt w v2 l) :
    Calls Tryz.prog 31 #[fliV f.x v, v2] w fun en w' => (∃ v', en = .returned (fliV (Dw.runF f l).x v') ∧ RepsAt w' v' (Dw.runF f l).out) ∧ Below w.heap.size w w' := by
  have HV := Lib.hid hv2
  obtain ⟨sa, cap, rfl, -, -⟩ := id hv2
  obtain ⟨V, hV⟩ : ∃ V, (w.alloc (.cells (fliC f.x v) 36)).alloc (.cells Z15 36) = V := ⟨_, rfl⟩
  obtain ⟨bF, bR, hB⟩ := allocs2 _ _ _ _ hV
  have HR0 := Lib.hid (reps_next hv hB)
  clear hv hv2
  have hll : (0 : Int) ≤ (l.length : Int) := by omega
  go_enter Tryz.func31, Tryz.ntmps31
  go_wp2_with fail
  try rw [hV]
  clear hV
  go_loopw [9] (fun i wr => ∃ (k : Nat) (g : Dw.Fli) (v' : Value), k ≤ l.length ∧ i = .int .i64 k ∧ g = Dw.runF f (l.take k) ∧ wr.heap[w.heap.size]? = some (.cells (fliC g.x v') 36 (0, 0)) ∧ wr.heap[w.heap.size + 1]? = some (.cells Z15 36 (0, 0)) ∧ RepsAt wr v' g.out ∧ Below w.heap.size w wr) (fun i _ => l.length - (intOf i).toNat)
  case atStart => exact ⟨0, f, v, Nat.zero_le _, rfl, rfl, bF, bR, HR0.out, hB⟩
  case round =>
    clear bF bR hB HR0
    obtain ⟨k, g, v', hk, rfl, hg, bF, bR, hR, hB⟩ := hrel
    obtain ⟨p0, q0, rfl⟩ := reps_shape hR
    by_cases hlt : k < l.length
    · have hlt' : (k : Int) < (l.length : Int) := by omega
      obtain ⟨e, hce⟩ : ∃ e, l[k]? = some e := ⟨l[k], List.getElem?_eq_getElem hlt⟩
      obtain ⟨he, bb, off, hsa, kc⟩ := EnsAt.get (HV.out.next hB) hce
      subst hsa
      have hgo : Dw.FlOk g.x.f := by rw [hg]; exact Dw.runF_ok _ _ hf
      have hgl : Dw.legal g.x.s = true := by rw [hg]; exact Dw.runF_legal _ _ hl
      have hgn : g.out.length ≤ 1000000 := by
        rw [hg]
        have h1 := Dw.out_le (l.take k) f
        have h2 := List.length_take_le k l
        omega
      have HG := Lib.hid (show Dw.stepF g e = Dw.runF f (l.take (k + 1)) by rw [hg]; exact (Dw.run_take hce).symm)
      obtain ⟨V2, hV2⟩ : ∃ V, wr.alloc (.cells (enC e) 48) = V := ⟨_, rfl⟩
      have hb : Below wr.heap.size wr V2 := by rw [← hV2]; exact (Below.refl _ wr).alloc (Nat.le_refl _) _
      have bE : V2.heap[wr.heap.size]? = some (.cells (enC e) 48) := by rw [← hV2]; exact han _ _
      have HS := Lib.hid (fun w hn hv => fstep_any g e hgo hgl he hgn (.slice p0 g.out.length q0) w hn hv)
      have HR2 := Lib.hid (reps_next hR hb)
      have bF2 := kp hb bF; have bR2 := kp hb bR; have hB2 := tr hB hb
      have HV2 := Lib.hid hV2
      have zz := block_lt bR
      clear hb hV2 hg hR hgo hgl hgn hce he bF bR
      go_wp2_with (first | (refine lr (enC e).toList.toArray kc rfl rfl rfl (by kernel_rfl) ?_) | (refine nb rfl rfl rfl rfl (by go_simp; first | done | with_reducible rfl | exact rfl) rfl rfl (by kernel_rfl) ?_; first | rw [HV2.out] | skip) | (refine lb bF2 rfl rfl rfl (by kernel_rfl) ?_) | (refine lb bE rfl rfl rfl (by kernel_rfl) ?_))
      refine (HS.out _ (hn.next hB2) HR2.out).mono ?_
      rintro en w5 ⟨⟨v5, rfl, hR5⟩, hb⟩
      obtain ⟨p5, q5, rfl⟩ := reps_shape hR5
      have bF5 := kp hb bF2; have bR5 := kp hb bR2; have hB5 := tr hB2 hb
      have HR5 := Lib.hid hR5; have HB5 := Lib.hid hB5; have HBR := Lib.hid bR5
      clear hb bF2 bR2 hB2 bE HV2 HS HR2 hR5 hB5 bR5 kc
      go_wp2_with (first | (refine sb bF5 rfl rfl rfl rfl (by kernel_rfl) ?_))
      go_roundw
      case rel => exact ⟨k + 1, Dw.stepF g e, _, hlt, by go_num, HG.out, srh bF5, (setRow_other _ _ _ _ (by omega)).trans HBR.out, reps_row HR5.out bF5 _, below_setRow HB5.out (Nat.le_refl _) _⟩
      case measure => first | done | (simp [intOf]; done) | (simp [intOf]; omega)
    · have hge : ¬ (k : Int) < (l.length : Int) := by omega
      obtain rfl : k = l.length := by omega
      rw [List.take_length] at hg
      subst hg
      have HB := Lib.hid hB; have HRR := Lib.hid hR
      clear hB hR hk
      go_wp2_with (first | (refine lb bF rfl rfl rfl (by kernel_rfl) ?_) | (refine sb bR rfl rfl rfl rfl (by kernel_rfl) ?_))
      refine bodyPost_ret (rcr rfl (srh bR) (by rfl) (by kernel_rfl)) rfl ⟨⟨_, rfl, ?_⟩, below_setRow HB.out (by omega) _⟩
      exact reps_row HRR.out bR _
def Dw.sA : Dw.En := ⟨1, ⟨2, 0, 0, 0⟩, 0, 0, 0, ⟨-1, []⟩, 0⟩
def Dw.sS : Dw.En := ⟨2, ⟨0, 0, 0, 0⟩, 0, 0, 0, ⟨-1, []⟩, 0⟩
def Dw.sK (k : Int) : Dw.En := ⟨k, ⟨0, 0, 0, 0⟩, 0, 0, 0, ⟨0, []⟩, 0⟩
theorem cells_of {w : World} {b : Nat} {c : Array Value} {t : TypeId} {fr : Nat × Nat} (h : w.heap[b]? = some (.cells c t fr)) (i : Nat) (u : Value) (hi : c.toList[i]? = some u) : w.cell? ⟨b, 0 + i, none⟩ = some u := by
  rw [Nat.zero_add, cell_of_row _ _ i _ _ _ h]
  simpa using hi
theorem flat_get {α : Type} {enc : α → List Value} {k : Nat} (hk : ∀ a, (enc a).length = k) : ∀ (l : List α) (j : Nat) (x : α) (i : Nat), l[j]? = some x → i < k → (l.flatMap enc)[j * k + i]? = (enc x)[i]?
  | [], j, x, i, h, _ => by simp at h
  | a :: l, 0, x, i, h, hi => by
    simp at h
    subst h
    rw [List.flatMap_cons, Nat.zero_mul, Nat.zero_add, List.getElem?_append_left (by rw [hk]; exact hi)]
  | a :: l, j + 1, x, i, h, hi => by
    rw [List.flatMap_cons, List.getElem?_append_right (by rw [hk, Nat.succ_mul]; omega), hk, show (j + 1) * k + i - k = j * k + i by rw [Nat.succ_mul]; omega]
    exact flat_get hk l j x i (by simpa using h) hi
abbrev audC (a : Dw.Aud) (s : Dw.St) (v : Value) : Array Value := #[v, .bool a.fly, .int .i64 a.fs.mo, .bool a.fs.ar, .bool a.fs.ho, .int .i64 a.fs.la, .int .i64 a.fs.lo, .int .i64 a.fs.iso, .int .i64 s.mo, .bool s.ar, .bool s.ho, .int .i64 s.la, .int .i64 s.lo, .int .i64 s.iso]
abbrev audV (a : Dw.Aud) (s : Dw.St) (v : Value) : Value := .agg #[v, .bool a.fly, .int .i64 a.fs.mo, .bool a.fs.ar, .bool a.fs.ho, .int .i64 a.fs.la, .int .i64 a.fs.lo, .int .i64 a.fs.iso, .int .i64 s.mo, .bool s.ar, .bool s.ho, .int .i64 s.la, .int .i64 s.lo, .int .i64 s.iso]
def stCells (l : List Dw.St) : List Value := l.flatMap fun s => (stC s).toList
theorem stCells_snoc (l : List Dw.St) (s : Dw.St) : stCells (l ++ [s]) = stCells l ++ (stC s).toList := by unfold stCells; simp
theorem stC_one (s : Dw.St) : (stC s).all (·.oneCell') = true := by simp [stC, Value.oneCell']
abbrev StsAt (w : World) (v : Value) (l : List Dw.St) : Prop := RowsAt (fun s : Dw.St => (stC s).toList) 6 (fun _ => True) w v l
theorem StsAt.get {w : World} {sa : Option Addr} {len cap k : Nat} {l : List Dw.St} {s : Dw.St} (h : StsAt w (.slice sa len cap) l) (hk : l[k]? = some s) :
    ∃ b off, sa = some ⟨b, off, none⟩ ∧ ∀ i u, (stC s).toList[i]? = some u → w.cell? ⟨b, off + k * 6 + i, none⟩ = some u := by
  obtain ⟨sa', cap', he, hd, hs⟩ := h
  cases he
  rcases hs with rfl | ⟨b, off, h, hc⟩
  · simp at hk
  · exact ⟨b, off, h, fun i u hi => hc k s hk i u hi⟩
theorem StsAt.shape {w : World} {v : Value} {l : List Dw.St} (h : StsAt w v l) : ∃ p q, v = .slice p l.length q := by
  obtain ⟨sa, cap, rfl, -, -⟩ := h
  exact ⟨_, _, rfl⟩
theorem sts_own {w : World} {B n : Nat} {e : TypeId} {v : Value} {l : List Dw.St} (h : w.ownsRow B e 6 v n (stCells l)) (hn : n = l.length) : StsAt w v l := by
  subst hn
  obtain ⟨ao, cap, rfl, -, -, hc⟩ := slAt_own h
  refine ⟨ao, cap, rfl, fun _ _ => trivial, ?_⟩
  obtain ⟨hl, ⟨h0, hn⟩ | ⟨g, _, _, h0, _⟩⟩ := h
  · left; exact List.eq_nil_of_length_eq_zero hn
  · injection h0 with h1
    subst h1
    refine .inr ⟨g, 0, rfl, fun j s hj i u hi => ?_⟩
    have hi6 : i < 6 := (List.getElem?_eq_some_iff.1 hi).1
    have h1 := hc _ rfl (j * 6 + i) u (by
      show (l.flatMap fun s => (stC s).toList)[j * 6 + i]? = _
      rw [flat_get (k := 6) (fun _ => rfl) l j s i hj hi6]
      exact hi)
    rw [addr0] at h1
    rw [Nat.zero_add]
    exact h1
theorem own_next {w w' : World} {B n k : Nat} {e : TypeId} {v : Value} {xs : List Value} (h : w.ownsRow B e k v n xs) (hb : Below w.heap.size w w') : w'.ownsRow B e k v n xs := by
  obtain ⟨hl, h | ⟨g, cap, cur, he, h0, hg, hr⟩⟩ := h
  · exact ⟨hl, .inl h⟩
  · exact ⟨hl, .inr ⟨g, cap, cur, he, h0, kp hb hg, hr⟩⟩
theorem own_shape22 {w : World} {B n k : Nat} {e : TypeId} {v : Value} {xs : List Value} (h : w.ownsRow B e k v n xs) : ∃ p q, v = .slice p n q := by
  obtain ⟨p, q, e, -⟩ := slAt_own h
  exact ⟨p, q, e⟩
theorem own_blk {w : World} {B n k : Nat} {e : TypeId} {v : Value} {xs : List Value} (h : w.ownsRow B e k v n xs) {j : Nat} (hj : v.ownBlock = some j) : B ≤ j ∧ ∃ c, w.heap[j]? = some (.cells c e (0, 0)) := by
  rcases h.2 with ⟨h1, _⟩ | ⟨g', cap, cur, h1, h2, h3, _⟩
  · rw [h1] at hj; cases hj
  · rw [h1] at hj
    obtain rfl : g' = j := by simpa [Value.ownBlock] using hj
    exact ⟨h2, _, h3⟩
theorem own_but {w w' : World} {B n k : Nat} {e : TypeId} {v : Value} {xs : List Value} {X : Nat → Prop} (h : w.ownsRow B e k v n xs) (hk : KeepBut X w w') (hX : ∀ j, X j → ∃ c T fr, w.heap[j]? = some (.cells c T fr) ∧ T ≠ e) : w'.ownsRow B e k v n xs := by
  obtain ⟨hl, h | ⟨b, cap, cur, he, h0, hb, hr⟩⟩ := h
  · exact ⟨hl, .inl h⟩
  · refine ⟨hl, .inr ⟨b, cap, cur, he, h0, (hk.block b (block_lt hb) fun hx => ?_).trans hb, hr⟩⟩
    obtain ⟨c, T, fr, h1, h2⟩ := hX b hx
    rw [hb] at h1
    have := Option.some.inj h1
    injection this with _ h3 _
    exact h2 h3.symm
theorem kpt {w w' : World} {X : Nat → Prop} {g : Nat} {c : Array Value} {T : TypeId} {fr : Nat × Nat} (hk : KeepBut X w w') (hg : w.heap[g]? = some (.cells c T fr)) (hX : ∀ j, X j → ∃ c T' fr, w.heap[j]? = some (.cells c T' fr) ∧ T' ≠ T) : w'.heap[g]? = some (.cells c T fr) := by
  refine (hk.block g (block_lt hg) fun hx => ?_).trans hg
  obtain ⟨c, T', fr, h1, h2⟩ := hX g hx
  rw [hg] at h1
  have := Option.some.inj h1
  injection this with _ h3 _
  exact h2 h3.symm
theorem infoSt : (Tryz.prog.info? 29).map (fun i => (i.zero, i.size, i.bytes)) = some (some (.agg #[.int .i64 0, .bool false, .bool false, .int .i64 0, .int .i64 0, .int .i64 0]), 6, 40) := by kernel_rfl
section
variable {P : Program} {ops : Array Oper} {rest : List Oper} {o : Oper} {a : Act} {w : World} {Q : Exit → Act → World → Prop} {t e : TypeId}
theorem append_own22 (hg : o.guard = none) {s x : Operand} (hop : o.op = .call { callee := .builtin .append, args := #[s, x], argTypes := #[t, t] }) {z : Value} {k bytes : Nat} (hu : P.underlying t = some (.slice e))
    (hi : (P.info? e).map (fun i => (i.zero, i.size, i.bytes)) = some (some z, k, bytes)) (hz : z.cells.size = k) (hk : 0 < k) (hby : bytes ≤ 1000) {B n : Nat} {cs : List Value} {v0 : Value} (how : w.ownsRow B e k v0 n cs) (hn : n ≤ 1000000) (hBw : B ≤ w.heap.size)
    (hs : a.eval s = v0) {b : Nat} {c : Array Value} {T : TypeId} {fr : Nat × Nat} (hb : w.heap[b]? = some (.cells c T fr)) (hx : a.eval x = .slice (some ⟨b, 0, none⟩) 1 1) (hc : c.size = k) (h1 : c.all (·.oneCell') = true)
    (h : ∀ v' w', w'.ownsRow B e k v' (n + 1) (cs ++ c.toList) → KeepBut (fun j => v0.ownBlock = some j) w w' → wpList P ops Q rest (a.put o.dst v') w') : wpList P ops Q (o :: rest) a w := by
  obtain ⟨i, hi1, hi2, hi3, hi4⟩ := info_parts hi
  refine wpList_append_own w hg s x t hop B e i z k bytes hu hi1 hi2 hi3 hi4 hz hk v0 n cs hs how ⟨b, 0, none⟩ 1 1 c.toList hx (by simp [hc]) (fun j u hj => ?_) (fun u hu => (Array.all_eq_true_iff_forall_mem.1 h1) u (by simpa using hu)) (by simp only [maxLen]; omega) ?_ hBw fun v' w' ho hgr _ => h v' w' ho ((KeepBut.refl _ w).grown hgr (fun g e => e))
  · rw [addr0, cell_of_row _ _ j _ _ _ hb]
    simpa using hj
  · have : (n + 1) * bytes ≤ 1000001 * 1000 := Nat.mul_le_mul (by omega) hby
    omega
theorem exec_sp {p v : Operand} {b : Nat} {c : Array Value} {t' : TypeId} (t : TypeId) (off : Nat) (part c' : Array Value) (hb : w.heap[b]? = some (.cells c t' (0, 0))) (hop : o.op = .store t p v) (hp : a.eval p = .pointer (some ⟨b, off, none⟩)) (hv : a.eval v = .agg part) (hi : fits P t part part = true) (ho : Nat.ble (off + part.size) c.size = true) (hc : storeA c off part.toList = c') :
    (execOp a.eval o).run P w = .ok .skip (w.setRow b c') := by
  obtain ⟨h1, _, h3⟩ := fits_spec hi
  have hl := run_storeVar_part (P := P) w b off t' t c part hb h1 (Nat.le_of_ble_eq_true ho) h3
  rw [hc] at hl
  simp [execOp, hop, hp, hv, Instr.storeAt, Instr.sureAddr, hl, Result.andThen]
end
theorem At1.row {w A : World} {b : Nat} {c c' : Array Value} {t : TypeId} (h : At1 w b c t A) : At1 w b c' t (A.setRow b c') := ⟨h.1.setRow (g := b) (X := fun k => k = b) rfl c', srh h.2⟩
abbrev psC (p : Dw.PS) : Array Value := #[.int .i64 p.bank, .int .u64 p.gen, .int .u64 p.seq, .int .u64 p.data]
abbrev lookC (p : Dw.PS) (e : Int) : Array Value := #[.int .i64 p.bank, .int .u64 p.gen, .int .u64 p.seq, .int .u64 p.data, .int .i64 e]
abbrev lookV (p : Dw.PS) (e : Int) : Value := .agg #[.int .i64 p.bank, .int .u64 p.gen, .int .u64 p.seq, .int .u64 p.data, .int .i64 e]
namespace Dw
def ackA (a : Aud) (x y : Su) : Aud := if flE x.f y.f then a else ⟨a.ack ++ [y.s], false, st0⟩
def cutA (a : Aud) (x y : Su) : Aud := if x.ph ≠ 3 ∧ y.ph = 3 ∧ seenEq y.f.a y.f.b x.f.a x.f.b = false ∧ unE (readS y.f.a y.f.b).data = 0 then ⟨a.ack, true, unP (readS y.f.a y.f.b).data⟩ else a
end Dw
theorem fl_neq22 (a b : Dw.Fl) (u v : Operand) (w : World) : (do eqGuard .neq 27 u v (flV a) (flV b); binOp .neq 27 (flV a) (flV b) : Sem Value).run Tryz.prog w = .ok (.bool (!Dw.flE a b)) w := by
  unfold Dw.flE
  go_simp
  simp only [ba_list]
  by_cases q9 : a.li = b.li
  rotate_left
  · simp [q9]
  by_cases q10 : a.e1 = b.e1
  rotate_left
  · simp [q10]
  by_cases q11 : a.e0 = b.e0
  rotate_left
  · simp [q11]
  by_cases q12 : a.b = b.b
  rotate_left
  · simp [q12]
  by_cases q13 : a.a = b.a
  rotate_left
  · simp [q13]
  simp [q9, q10, q11, q12, q13]
theorem seen_neq (p q : Dw.PS) (e f : Int) (u v : Operand) (w : World) : (do eqGuard .neq 112 u v (lookV p e) (lookV q f); binOp .neq 112 (lookV p e) (lookV q f) : Sem Value).run Tryz.prog w = .ok (.bool (!decide (p.bank = q.bank ∧ p.gen = q.gen ∧ p.seq = q.seq ∧ p.data = q.data ∧ e = f))) w := by
  go_simp
  (repeat' split) <;> first | (simp_all; done) | (simp; omega)
theorem slook_any (x : Dw.Su) (hf : Dw.FlOk x.f) (w : World) (hn : NoneAt w) :
    Calls Tryz.prog 53 #[suV x] w fun e w' => e = .returned (lookV (Dw.readS x.f.a x.f.b) (Dw.readE x.f.a x.f.b)) ∧ Below w.heap.size w w' := by
  obtain ⟨V, hV⟩ : ∃ V, (w.alloc (.cells (suC x) 33)).alloc (.cells #[.int .i64 0, .int .u64 0, .int .u64 0, .int .u64 0, .int .i64 0] 112) = V := ⟨_, rfl⟩
  obtain ⟨b1, b2, hB⟩ := allocs2 _ _ _ _ hV
  have HR := Lib.hid (fun w hn => read_any x.f.a x.f.b hf.a hf.b x.f.e0 x.f.e1 x.f.li w hn)
  generalize Dw.readS x.f.a x.f.b = p at *
  generalize Dw.readE x.f.a x.f.b = er at *
  go_enter Tryz.func53, Tryz.ntmps53
  go_wp2_with (first | (refine lp 27 0 (flC x.f) b1 rfl rfl rfl (by kernel_rfl) (by rfl) ?_))
  try rw [hV]
  clear hV
  refine cb (HR.out _ (hn.next hB)) fun w1 hb => ?_
  replace b2 := kp hb b2; replace hB := tr hB hb
  clear hb HR b1
  obtain ⟨V2, hV2⟩ : ∃ V, w1.alloc (.cells (psC p) 110) = V := ⟨_, rfl⟩
  have b3 : V2.heap[w1.heap.size]? = some (.cells (psC p) 110) := by rw [← hV2]; exact han _ _
  have hb : Below w1.heap.size w1 V2 := by rw [← hV2]; exact (Below.refl _ w1).alloc (Nat.le_refl _) _
  replace b2 := kp hb b2; replace hB := tr hB hb
  clear hb
  go_wp2_with (first | (refine lb b3 rfl rfl rfl (by kernel_rfl) ?_) | (refine sb (c' := lookC p er) b2 rfl rfl rfl rfl (by kernel_rfl) ?_))
  exact bodyPost_ret (rcr rfl (srh b2) (by rfl) (by kernel_rfl)) rfl ⟨rfl, below_setRow hB (by omega) _⟩
def AudAt (w : World) (X : Nat → Prop) (N : Nat) (a : Dw.Aud) (now : Dw.St) (w' : World) : Prop := ∃ va', KeepBut X w w' ∧ w'.heap[N]? = some (.cells (audC a now va') 66 (0, 0)) ∧ w'.ownsRow (N + 1) 29 6 va' a.ack.length (stCells a.ack)
theorem fack_any (x y : Dw.Su) (a : Dw.Aud) (now : Dw.St) (va : Value) (N : Nat) (w : World) (hN : w.heap[N]? = some (.cells (audC a now va) 66 (0, 0))) (how : w.ownsRow (N + 1) 29 6 va a.ack.length (stCells a.ack)) (hl : a.ack.length ≤ 1000) :
    Calls Tryz.prog 51 #[suV x, suV y, .pointer (some ⟨N, 0, none⟩)] w fun e w' => e = .returned (.tuple #[]) ∧ AudAt w (fun j => j = N ∨ va.ownBlock = some j) N (Dw.ackA a x y) now w' := by
  obtain ⟨V, hV⟩ : ∃ V, (w.alloc (.cells (suC x) 33)).alloc (.cells (suC y) 33) = V := ⟨_, rfl⟩
  obtain ⟨b3, b4, hB⟩ := allocs2 _ _ _ _ hV
  have bN := kp hB hN
  have howV := own_next how hB
  have zN := block_lt hN
  have HNE := Lib.hid (fun u v w => fl_neq22 x.f y.f u v w)
  obtain ⟨p, q, rfl⟩ := own_shape22 how
  obtain ⟨ack, fly, fs⟩ := a
  dsimp only at *
  cases hfe : Dw.flE x.f y.f
  · have HA := Lib.hid (show Dw.ackA ⟨ack, fly, fs⟩ x y = ⟨ack ++ [y.s], false, Dw.st0⟩ by unfold Dw.ackA; rw [if_neg (by rw [hfe]; decide)])
    rw [hfe] at HNE
    have HB := Lib.hid hB; have HN := Lib.hid bN; have HO := Lib.hid howV
    have c0 : V.cell? ⟨N, 0, none⟩ = some (.slice p ack.length q) := by rw [cell_of_row _ _ 0 _ _ _ bN]; rfl
    obtain ⟨V2, hV2⟩ : ∃ W, V.alloc (.cells (stC y.s) 29) = W := ⟨_, rfl⟩
    have b2 : V2.heap[V.heap.size]? = some (.cells (stC y.s) 29) := by rw [← hV2]; exact han _ _
    have hb2 : Below V.heap.size V V2 := by rw [← hV2]; exact (Below.refl _ V).alloc (Nat.le_refl _) _
    have HB2 := Lib.hid hb2
    have HV2 := Lib.hid hV2
    have how2 := own_next HO.out HB2.out
    have z2 : N + 1 ≤ V2.heap.size := by have := hB.size; have := hb2.size; omega
    clear hfe hN how hB bN howV hb2 hV2 HO
    go_enter Tryz.func51, Tryz.ntmps51
    go_wp2_with (first | (refine lp 27 0 (flC x.f) b3 rfl rfl rfl (by kernel_rfl) (by rfl) ?_) | (refine lp 27 0 (flC y.f) b4 rfl rfl rfl (by kernel_rfl) (by rfl) ?_) | (refine lp 29 5 (stC y.s) b4 rfl rfl rfl (by kernel_rfl) (by rfl) ?_) | (refine bno (HNE.out _ _ _) rfl rfl rfl rfl ?_) | (at_builtin; (try rw [HV2.out]); refine append_own22 (by rfl) (by rfl) Tryz.underlying64 infoSt rfl (by decide) (by decide) how2 (by omega) z2 rfl b2 rfl rfl (stC_one _) ?_; intro v1 w1 how1 hk1))
    have hne : ∀ j, (Value.slice p ack.length q).ownBlock = some j → N + 1 ≤ j := fun j hj => (own_blk how2 hj).1
    have bN0 := kp HB2.out HN.out
    have bN1 := (hk1.block N (block_lt bN0) (fun h => by have := hne N h; omega)).trans bN0
    obtain ⟨p1, q1, rfl⟩ := own_shape22 how1
    have hK1 : KeepBut (fun j => j = N ∨ (Value.slice p ack.length q).ownBlock = some j) w w1 := ((keepB (HB.out.trans (HB2.out.mono HB.out.size))).mono fun _ _ h => h.elim).trans (hk1.mono fun _ _ h => .inr h)
    clear hk1 b2 b3 b4 c0 how2 HB HN HB2 HV2 HNE bN0 hne
    go_wp2_with fail
    refine cb (default_any _) fun w2 hb => ?_
    have bN2 := kp hb bN1
    have how3 := own_next how1 hb
    have hK2 := hK1.trans ((keepB hb).mono (Y := fun j => j = N ∨ (Value.slice p ack.length q).ownBlock = some j) fun _ _ h => h.elim)
    have d1 := heap_setCell_same w2 N 0 _ _ (.slice p1 (ack.length + 1) q1) bN2
    have d2 := heap_setCell_same _ N 1 _ _ (.bool false) d1
    have f0 := frozen0 bN2 0
    have f1 := frozen0 d1 1
    have k0 : w2.cell? ⟨N, 0, none⟩ = some (.slice p ack.length q) := by rw [cell_of_row _ _ 0 _ _ _ bN2]; rfl
    have k1 : (w2.setCell ⟨N, 0, none⟩ (.slice p1 (ack.length + 1) q1)).cell? ⟨N, 1, none⟩ = some (.bool fly) := by rw [cell_of_row _ _ 1 _ _ _ d1]; rfl
    clear hb bN1 how1 hK1
    go_wp2_with (first | (refine sp 29 2 (stC Dw.st0) (audC ⟨ack ++ [y.s], false, Dw.st0⟩ now (.slice p1 (ack.length + 1) q1)) d2 rfl rfl rfl rfl (by kernel_rfl) (by rfl) (by rfl) ?_))
    go_end0
    rw [HA.out]
    refine ⟨rfl, .slice p1 (ack.length + 1) q1, ((hK2.setCell (p := ⟨N, 0, none⟩) (.inl rfl) _).setCell (p := ⟨N, 1, none⟩) (.inl rfl) _).setRow (g := N) (.inl rfl) _, srh d2, ?_⟩
    have h := own_setRow (own_setCell (own_setCell how3 (Nat.lt_succ_self N) 0 (.slice p1 (ack.length + 1) q1)) (Nat.lt_succ_self N) 1 (.bool false)) (Nat.lt_succ_self N) (audC ⟨ack ++ [y.s], false, Dw.st0⟩ now (.slice p1 (ack.length + 1) q1))
    show World.ownsRow _ _ _ _ _ (ack ++ [y.s]).length (stCells (ack ++ [y.s]))
    rw [List.length_append, stCells_snoc]
    exact h
  · have HA := Lib.hid (show Dw.ackA ⟨ack, fly, fs⟩ x y = ⟨ack, fly, fs⟩ by unfold Dw.ackA; rw [if_pos hfe])
    rw [hfe] at HNE
    have HB := Lib.hid hB; have HN := Lib.hid bN; have HO := Lib.hid howV
    clear hfe hN how hB bN howV
    go_enter Tryz.func51, Tryz.ntmps51
    go_wp2_with (first | (refine lp 27 0 (flC x.f) b3 rfl rfl rfl (by kernel_rfl) (by rfl) ?_) | (refine lp 27 0 (flC y.f) b4 rfl rfl rfl (by kernel_rfl) (by rfl) ?_) | (refine bno (HNE.out _ _ _) rfl rfl rfl rfl ?_))
    go_end0
    rw [HA.out]
    refine ⟨rfl, .slice p ack.length q, ?_, ?_, ?_⟩
    · exact (keepB HB.out).mono fun _ _ h => h.elim
    · exact HN.out
    · exact HO.out
theorem cut_r3 {t0 t1 t2 t6 t8 t9 t10 t11 t12 t13 t14 t15 t16 t17 t18 t19 t20 t21 t22 t23 t24 t25 t26 t27 t28 t29 t30 t31 t32 t33 t34 t35 t36 t37 : Value} {R : Exit → Act → World → Prop} {w : World} {g3 g4 g5 : Nat} {ue : Int} {c sq : Bool} {x y : Dw.Su} {p q : Dw.PS} {pe qe : Int} (b3 : w.heap[g3]? = some (.cells (suC x) 33)) (b4 : w.heap[g4]? = some (.cells (suC y) 33)) (b5 : w.heap[g5]? = some (.cells (lookC p pe) 112)) (hn : NoneAt w)
    (HL : Hid (∀ w, NoneAt w → Calls Tryz.prog 53 #[suV x] w fun e w' => e = .returned (lookV q qe) ∧ Below w.heap.size w w'))
    (HE : Hid (∀ u v w, (do eqGuard .neq 112 u v (lookV p pe) (lookV q qe); binOp .neq 112 (lookV p pe) (lookV q qe) : Sem Value).run Tryz.prog w = .ok (.bool (!sq)) w))
    (hc : x.ph = 3 ∧ c = false ∨ x.ph ≠ 3 ∧ y.ph ≠ 3 ∧ c = false ∨ x.ph ≠ 3 ∧ y.ph = 3 ∧ sq = true ∧ c = false ∨ x.ph ≠ 3 ∧ y.ph = 3 ∧ sq = false ∧ ue ≠ 0 ∧ c = false ∨ x.ph ≠ 3 ∧ y.ph = 3 ∧ sq = false ∧ ue = 0 ∧ c = true)
    (hR : ∀ (v17 v18 v19 v20 v21 v22 v23 v24 v25 v26 v27 v28 v29 v30 v31 v32 v33 : Value) (w' : World), Keep w w' → wpList Tryz.prog (opsR 3 Tryz.f52) R [] { tmps := #[t0, t1, t2, .pointer (some ⟨g3, 0, none⟩), .pointer (some ⟨g4, 0, none⟩), .pointer (some ⟨g5, 0, none⟩), t6, .int .i64 ue, t8, t9, t10, t11, t12, t13, t14, t15, t16, v17, v18, v19, v20, v21, v22, v23, v24, v25, v26, v27, v28, v29, v30, v31, v32, v33, .bool c, t35, t36, t37], defers := [] } w') :
    (Code.region 3 (opsR 3 Tryz.f52) true).wp Tryz.prog R { tmps := #[t0, t1, t2, .pointer (some ⟨g3, 0, none⟩), .pointer (some ⟨g4, 0, none⟩), .pointer (some ⟨g5, 0, none⟩), t6, .int .i64 ue, t8, t9, t10, t11, t12, t13, t14, t15, t16, t17, t18, t19, t20, t21, t22, t23, t24, t25, t26, t27, t28, t29, t30, t31, t32, t33, t34, t35, t36, t37], defers := [] } w := by
  have e : findR 3 Tryz.f52.body.get! = findR 3 Tryz.f52.body.get! := rfl
  conv at e => rhs; whnf
  unfold opsR
  rw [e, Option.getD_some]
  clear e
  have HR := Lib.hid hR
  clear hR
  obtain ⟨-, -, x11, -, -⟩ := cells14 b3
  obtain ⟨-, -, y11, -, -⟩ := cells14 b4
  obtain ⟨xf, xs, xp, xv, xn⟩ := x
  obtain ⟨yf, ys, yp, yv, yn⟩ := y
  dsimp only at hc x11 y11
  rcases hc with ⟨rfl, rfl⟩ | ⟨h1, h2, rfl⟩ | ⟨h1, rfl, rfl, rfl⟩ | ⟨h1, rfl, rfl, h2, rfl⟩ | ⟨h1, rfl, rfl, rfl, rfl⟩
  · refine wp_pure [0, 1, 2, 3, 4, 5, 6, 7, 8, 9, 10, 11, 12, 13, 14, 15, 16, 17] 18 (by kernel_rfl) (by kernel_rfl) rfl ?_
    (apply rat; (focus (intro w' hk; obtain ⟨k0,k1⟩ := look2 hk x11 y11; repeat' (first | exact rn | ((first | refine' rv ?_ rfl rfl (by exact exec_cells (lookC p pe) (cells_of (kpi hk b5)) rfl rfl (by kernel_rfl)) | refine' rv ?_ rfl rfl (by exact exec_cells (suC ⟨xf, xs, 3, xv, xn⟩) (cells_of (kpi hk b3)) rfl rfl (by kernel_rfl)) | refine' rv ?_ rfl rfl (by exact exec_bin rfl rfl rfl (HE.out _ _ _)) | refine' rv ?_ rfl rfl (by go_simp; first | done | with_reducible rfl | exact rfl) | refine' rc ?_ (by exact rfl) (by exact rfl) (by go_simp; first | done | (constructor <;> with_reducible rfl) | with_reducible rfl) (by exact HL.out w' (hn.next hk.whole)) | refine' rs ?_ rfl rfl); try simp only [Act.put, List.setIfInBounds_toArray, List.set_cons_zero, List.set_cons_succ])))))
    intro w9 hk9
    exact HR.out _ _ _ _ _ _ _ _ _ _ _ _ _ _ _ _ _ w9 hk9
  · have q1 : (xp != 3) = true := by simp [h1]
    have q2 : (yp == 3) = false := by simp [h2]
    refine wp_pure [0, 1, 2, 3, 4, 5, 6, 7, 8, 9, 10, 11, 12, 13, 14, 15, 16, 17] 18 (by kernel_rfl) (by kernel_rfl) rfl ?_
    (apply rat; (focus (intro w' hk; obtain ⟨k0,k1⟩ := look2 hk x11 y11; repeat' (first | exact rn | ((first | refine' rv ?_ rfl rfl (by exact exec_cells (lookC p pe) (cells_of (kpi hk b5)) rfl rfl (by kernel_rfl)) | refine' rv ?_ rfl rfl (by exact exec_cells (suC ⟨xf, xs, xp, xv, xn⟩) (cells_of (kpi hk b3)) rfl rfl (by kernel_rfl)) | refine' rv ?_ rfl rfl (by exact exec_bin rfl rfl rfl (HE.out _ _ _)) | refine' rv ?_ rfl rfl (by go_simp; first | done | with_reducible rfl | exact rfl) | refine' rc ?_ (by exact rfl) (by exact rfl) (by go_simp; first | done | (constructor <;> with_reducible rfl) | with_reducible rfl) (by exact HL.out w' (hn.next hk.whole)) | refine' rs ?_ rfl rfl); try simp only [Act.put, List.setIfInBounds_toArray, List.set_cons_zero, List.set_cons_succ])))))
    intro w9 hk9
    exact HR.out _ _ _ _ _ _ _ _ _ _ _ _ _ _ _ _ _ w9 hk9
  · have q1 : (xp != 3) = true := by simp [h1]
    refine wp_pure [0, 1, 2, 3, 4, 5, 6, 7, 8, 9, 10, 11, 12, 13, 14, 15, 16, 17] 18 (by kernel_rfl) (by kernel_rfl) rfl ?_
    (apply rat; (focus (intro w' hk; obtain ⟨k0,k1⟩ := look2 hk x11 y11; repeat' (first | exact rn | ((first | refine' rv ?_ rfl rfl (by exact exec_cells (lookC p pe) (cells_of (kpi hk b5)) rfl rfl (by kernel_rfl)) | refine' rv ?_ rfl rfl (by exact exec_cells (suC ⟨xf, xs, xp, xv, xn⟩) (cells_of (kpi hk b3)) rfl rfl (by kernel_rfl)) | refine' rv ?_ rfl rfl (by exact exec_bin rfl rfl rfl (HE.out _ _ _)) | refine' rv ?_ rfl rfl (by go_simp; first | done | with_reducible rfl | exact rfl) | refine' rc ?_ (by exact rfl) (by exact rfl) (by go_simp; first | done | (constructor <;> with_reducible rfl) | with_reducible rfl) (by exact HL.out w' (hn.next hk.whole)) | refine' rs ?_ rfl rfl); try simp only [Act.put, List.setIfInBounds_toArray, List.set_cons_zero, List.set_cons_succ])))))
    intro w9 hk9
    exact HR.out _ _ _ _ _ _ _ _ _ _ _ _ _ _ _ _ _ w9 hk9
  · have q1 : (xp != 3) = true := by simp [h1]
    have q3 : (ue == 0) = false := by simp [h2]
    refine wp_pure [0, 1, 2, 3, 4, 5, 6, 7, 8, 9, 10, 11, 12, 13, 14, 15, 16, 17] 18 (by kernel_rfl) (by kernel_rfl) rfl ?_
    (apply rat; (focus (intro w' hk; obtain ⟨k0,k1⟩ := look2 hk x11 y11; repeat' (first | exact rn | ((first | refine' rv ?_ rfl rfl (by exact exec_cells (lookC p pe) (cells_of (kpi hk b5)) rfl rfl (by kernel_rfl)) | refine' rv ?_ rfl rfl (by exact exec_cells (suC ⟨xf, xs, xp, xv, xn⟩) (cells_of (kpi hk b3)) rfl rfl (by kernel_rfl)) | refine' rv ?_ rfl rfl (by exact exec_bin rfl rfl rfl (HE.out _ _ _)) | refine' rv ?_ rfl rfl (by go_simp; first | done | with_reducible rfl | exact rfl) | refine' rc ?_ (by exact rfl) (by exact rfl) (by go_simp; first | done | (constructor <;> with_reducible rfl) | with_reducible rfl) (by exact HL.out w' (hn.next hk.whole)) | refine' rs ?_ rfl rfl); try simp only [Act.put, List.setIfInBounds_toArray, List.set_cons_zero, List.set_cons_succ])))))
    intro w9 hk9
    exact HR.out _ _ _ _ _ _ _ _ _ _ _ _ _ _ _ _ _ w9 hk9
  · have q1 : (xp != 3) = true := by simp [h1]
    refine wp_pure [0, 1, 2, 3, 4, 5, 6, 7, 8, 9, 10, 11, 12, 13, 14, 15, 16, 17] 18 (by kernel_rfl) (by kernel_rfl) rfl ?_
    (apply rat; (focus (intro w' hk; obtain ⟨k0,k1⟩ := look2 hk x11 y11; repeat' (first | exact rn | ((first | refine' rv ?_ rfl rfl (by exact exec_cells (lookC p pe) (cells_of (kpi hk b5)) rfl rfl (by kernel_rfl)) | refine' rv ?_ rfl rfl (by exact exec_cells (suC ⟨xf, xs, xp, xv, xn⟩) (cells_of (kpi hk b3)) rfl rfl (by kernel_rfl)) | refine' rv ?_ rfl rfl (by exact exec_bin rfl rfl rfl (HE.out _ _ _)) | refine' rv ?_ rfl rfl (by go_simp; first | done | with_reducible rfl | exact rfl) | refine' rc ?_ (by exact rfl) (by exact rfl) (by go_simp; first | done | (constructor <;> with_reducible rfl) | with_reducible rfl) (by exact HL.out w' (hn.next hk.whole)) | refine' rs ?_ rfl rfl); try simp only [Act.put, List.setIfInBounds_toArray, List.set_cons_zero, List.set_cons_succ])))))
    intro w9 hk9
    exact HR.out _ _ _ _ _ _ _ _ _ _ _ _ _ _ _ _ _ w9 hk9
theorem fcut_any (x y : Dw.Su) (hx : Dw.FlOk x.f) (hy : Dw.FlOk y.f) (a : Dw.Aud) (now : Dw.St) (va : Value) (N : Nat) (w : World) (hn : NoneAt w) (hN : w.heap[N]? = some (.cells (audC a now va) 66 (0, 0))) :
    Calls Tryz.prog 52 #[suV x, suV y, .pointer (some ⟨N, 0, none⟩)] w fun e w' => e = .returned (.tuple #[]) ∧ At1 w N (audC (Dw.cutA a x y) now va) 66 w' := by
  obtain ⟨V, hV⟩ : ∃ V, (w.alloc (.cells (suC x) 33)).alloc (.cells (suC y) 33) = V := ⟨_, rfl⟩
  obtain ⟨b3, b4, hB⟩ := allocs2 _ _ _ _ hV
  have bN := kp hB hN
  have HLX := Lib.hid (fun w hn => slook_any x hx w hn)
  have HLY := Lib.hid (fun w hn => slook_any y hy w hn)
  have HU := Lib.hid (fun w => unpack_any (Dw.readS y.f.a y.f.b).data (Dw.readS_lt _ _) w)
  have HE := Lib.hid (fun u v w => seen_neq (Dw.readS y.f.a y.f.b) (Dw.readS x.f.a x.f.b) (Dw.readE y.f.a y.f.b) (Dw.readE x.f.a x.f.b) u v w)
  have key : ∃ c : Bool, (x.ph = 3 ∧ c = false ∨ x.ph ≠ 3 ∧ y.ph ≠ 3 ∧ c = false ∨ x.ph ≠ 3 ∧ y.ph = 3 ∧ Dw.seenEq y.f.a y.f.b x.f.a x.f.b = true ∧ c = false ∨ x.ph ≠ 3 ∧ y.ph = 3 ∧ Dw.seenEq y.f.a y.f.b x.f.a x.f.b = false ∧ Dw.unE (Dw.readS y.f.a y.f.b).data ≠ 0 ∧ c = false ∨ x.ph ≠ 3 ∧ y.ph = 3 ∧ Dw.seenEq y.f.a y.f.b x.f.a x.f.b = false ∧ Dw.unE (Dw.readS y.f.a y.f.b).data = 0 ∧ c = true) ∧ Dw.cutA a x y = if c then ⟨a.ack, true, Dw.unP (Dw.readS y.f.a y.f.b).data⟩ else a := by
    unfold Dw.cutA
    by_cases h1 : x.ph = 3
    · exact ⟨false, .inl ⟨h1, rfl⟩, by rw [if_neg (fun q => q.1 h1)]; rfl⟩
    by_cases h2 : y.ph = 3
    rotate_left
    · exact ⟨false, .inr (.inl ⟨h1, h2, rfl⟩), by rw [if_neg (fun q => h2 q.2.1)]; rfl⟩
    cases h3 : Dw.seenEq y.f.a y.f.b x.f.a x.f.b
    rotate_left
    · exact ⟨false, .inr (.inr (.inl ⟨h1, h2, rfl, rfl⟩)), by rw [if_neg (fun q => by have := q.2.2.1; cases this)]; rfl⟩
    by_cases h4 : Dw.unE (Dw.readS y.f.a y.f.b).data = 0
    · exact ⟨true, .inr (.inr (.inr (.inr ⟨h1, h2, rfl, h4, rfl⟩))), by rw [if_pos ⟨h1, h2, rfl, h4⟩]; rfl⟩
    · exact ⟨false, .inr (.inr (.inr (.inl ⟨h1, h2, rfl, h4, rfl⟩))), by rw [if_neg (fun q => h4 q.2.2.2)]; rfl⟩
  obtain ⟨c, hc, hA⟩ := key
  unfold Dw.seenEq at hc
  generalize decide ((Dw.readS y.f.a y.f.b).bank = (Dw.readS x.f.a x.f.b).bank ∧ (Dw.readS y.f.a y.f.b).gen = (Dw.readS x.f.a x.f.b).gen ∧ (Dw.readS y.f.a y.f.b).seq = (Dw.readS x.f.a x.f.b).seq ∧ (Dw.readS y.f.a y.f.b).data = (Dw.readS x.f.a x.f.b).data ∧ Dw.readE y.f.a y.f.b = Dw.readE x.f.a x.f.b) = sq at *
  generalize Dw.readS y.f.a y.f.b = p at *
  generalize Dw.readS x.f.a x.f.b = q at *
  generalize Dw.readE y.f.a y.f.b = pe at *
  generalize Dw.readE x.f.a x.f.b = qe at *
  generalize Dw.unP p.data = US at *
  generalize Dw.unE p.data = ue at *
  have HA := Lib.hid hA; have HC := Lib.hid hc
  clear hA hc hx hy hN
  go_enter Tryz.func52, Tryz.ntmps52
  go_wp2_with (first | (refine lb b4 rfl rfl rfl (by kernel_rfl) ?_))
  try rw [hV]
  clear hV
  refine cb (HLY.out _ (hn.next hB)) fun w1 hb => ?_
  replace b3 := kp hb b3; replace b4 := kp hb b4; replace bN := kp hb bN; replace hB := tr hB hb
  clear hb HLY
  obtain ⟨V2, hV2⟩ : ∃ V, w1.alloc (.cells (lookC p pe) 112) = V := ⟨_, rfl⟩
  have b5 : V2.heap[w1.heap.size]? = some (.cells (lookC p pe) 112) := by rw [← hV2]; exact han _ _
  have hb : Below w1.heap.size w1 V2 := by rw [← hV2]; exact (Below.refl _ w1).alloc (Nat.le_refl _) _
  have k3 : V2.cell? ⟨w1.heap.size, 3, none⟩ = some (.int .u64 (p.data : Nat)) := by rw [cell_of_row _ _ 3 _ _ _ b5]; rfl
  replace b3 := kp hb b3; replace b4 := kp hb b4; replace bN := kp hb bN; replace hB := tr hB hb
  have H3 := Lib.hid b3; have H4 := Lib.hid b4; have H5 := Lib.hid b5; have HN := Lib.hid bN; have HB := Lib.hid hB
  clear hb b3 b4 b5 bN hB
  go_wp2_with fail
  try rw [hV2]
  clear hV2
  refine cb (HU.out _) fun w2 hb => ?_
  have b3 := kp hb H3.out; have b4 := kp hb H4.out; have b5 := kp hb H5.out; have bN := kp hb HN.out; have hB := tr HB.out hb
  clear hb H3 H4 H5 HN HB k3 HU
  obtain ⟨V3, hV3⟩ : ∃ V, w2.alloc (.cells (stC US) 29) = V := ⟨_, rfl⟩
  have b6 : V3.heap[w2.heap.size]? = some (.cells (stC US) 29) := by rw [← hV3]; exact han _ _
  have hb : Below w2.heap.size w2 V3 := by rw [← hV3]; exact (Below.refl _ w2).alloc (Nat.le_refl _) _
  have zN := block_lt bN
  replace b3 := kp hb b3; replace b4 := kp hb b4; replace b5 := kp hb b5; replace bN := kp hb bN; replace hB := tr hB hb
  have H3 := Lib.hid b3; have H4 := Lib.hid b4; have H5 := Lib.hid b5; have H6 := Lib.hid b6; have HN := Lib.hid bN; have HB := Lib.hid hB
  clear hb b3 b4 b5 b6 bN hB
  go_wp2_with fail
  try rw [hV3]
  clear hV3
  refine reg_swap (n := 3) (ops := opsR 3 Tryz.f52) ?_ (by kernel_rfl)
  refine cut_r3 H3.out H4.out H5.out (hn.next HB.out) HLX HE HC.out ?_
  intro v17 v18 v19 v20 v21 v22 v23 v24 v25 v26 v27 v28 v29 v30 v31 v32 v33 w5 hk5
  have b6 := kpi hk5 H6.out; have bN := kpi hk5 HN.out
  have HB5 := Lib.hid (HB.out.trans (hk5.whole.mono HB.out.size))
  clear HC H3 H4 H5 H6 HN HB hk5 HLX HE
  cases c
  · go_wp2_with fail
    go_end0
    rw [HA.out]
    exact ⟨rfl, (keepB HB5.out).mono fun _ _ h => h.elim, bN⟩
  · go_wp2_with fail
    obtain ⟨g6, hg6⟩ : ∃ x, w2.heap.size = x := ⟨_, rfl⟩
    rw [hg6] at b6 zN ⊢
    refine RC.wp_chain [0, 1, 2, 3, 4] [2, 4] (fun k => k == 0) 5 (stF w5 N 66 (audC a now va) (audC ⟨a.ack, true, a.fs⟩ now va) (audC ⟨a.ack, true, US⟩ now va) #[] #[]) rfl (by kernel_rfl) (by kernel_rfl) rfl stF_keep ⟨KeepBut.refl _ _, bN⟩ ?_
    (refine RC.cl_late (v := stV US) rfl (by rfl) rfl ?_ ?_; (focus (intro m w' hst; exact exec_cells (stC US) (cells_of (((stF_kb _ _ hst).block g6 (block_lt b6) (by omega)).trans b6)) rfl rfl (by kernel_rfl))); (try simp only [Act.put, List.setIfInBounds_toArray, List.set_cons_zero, List.set_cons_succ]))
    (refine RC.cl_value (v := ?_) rfl rfl (by rfl) rfl ?_ ?_; rotate_left 1; (focus (intro w' hst; go_simp; (first | done | with_reducible rfl | exact rfl))); (try simp only [Act.put, List.setIfInBounds_toArray, List.set_cons_zero, List.set_cons_succ]))
    (refine RC.cl_store rfl (by rfl) rfl (fun w' hst => ⟨w'.setCell ⟨N, 1, none⟩ (.bool true), ?_, At1.set hst (.bool true)⟩) ?_; (focus (have hx := (show At1 w5 N _ _ w' from hst).2; have k1 : w'.cell? ⟨N, 1, none⟩ = some (.bool a.fly) := (by rw [cell_of_row _ _ 1 _ _ _ hx]; rfl); have fz := frozen0 hx 1; go_simp)); (try simp only [Act.put]))
    (refine RC.cl_value (v := ?_) rfl rfl (by rfl) rfl ?_ ?_; rotate_left 1; (focus (intro w' hst; go_simp; (first | done | with_reducible rfl | exact rfl))); (try simp only [Act.put, List.setIfInBounds_toArray, List.set_cons_zero, List.set_cons_succ]))
    (refine RC.cl_store rfl (by rfl) rfl (fun w' hst => ⟨w'.setRow N (audC ⟨a.ack, true, US⟩ now va), ?_, At1.row hst⟩) ?_; (focus (have hx := (show At1 w5 N _ _ w' from hst).2; exact exec_sp 29 2 (stC US) (audC ⟨a.ack, true, US⟩ now va) hx rfl rfl rfl (by kernel_rfl) (by rfl) (by rfl))); (try simp only [Act.put]))
    refine RC.cl_nil ?_
    intro w6 hst
    simp only [List.drop_succ_cons, List.drop_zero]
    go_wp2_with fail
    go_end0
    rw [HA.out]
    have h6 : At1 w5 N (audC ⟨a.ack, true, US⟩ now va) 66 w6 := hst
    exact ⟨rfl, ((keepB HB5.out).mono fun _ _ h => h.elim).trans h6.1, h6.2⟩
theorem last_cases (l : List Dw.St) : l = [] ∨ ∃ m s, l.length = m + 1 ∧ l[m]? = some s ∧ Dw.lastA l = s := by
  rcases List.eq_nil_or_concat l with h | ⟨p, s, h⟩
  · exact .inl h
  · refine .inr ⟨p.length, s, ?_, ?_, ?_⟩
    · rw [h]; simp
    · rw [h]; simp
    · rw [h]; simp [Dw.lastA]
theorem alast_any (a : Dw.Aud) (now : Dw.St) (va : Value) (w : World) (hs : StsAt w va a.ack) (hl : a.ack.length ≤ 1000) :
    Calls Tryz.prog 24 #[audV a now va] w fun e w' => e = .returned (stV (Dw.lastA a.ack)) ∧ Below w.heap.size w w' := by
  obtain ⟨p, q, rfl⟩ := StsAt.shape hs
  obtain ⟨V, hV⟩ : ∃ V, (w.alloc (.cells (audC a now (.slice p a.ack.length q)) 66)).alloc (.cells #[.int .i64 0, .bool false, .bool false, .int .i64 0, .int .i64 0, .int .i64 0] 29) = V := ⟨_, rfl⟩
  obtain ⟨b1, b2, hB⟩ := allocs2 _ _ _ _ hV
  have c0 : V.cell? ⟨w.heap.size, 0, none⟩ = some (.slice p a.ack.length q) := by rw [cell_of_row _ _ 0 _ _ _ b1]; rfl
  have hsV := hs.next hB
  rcases last_cases a.ack with h | ⟨m, s, hlm, hm, hls⟩
  · have HL := Lib.hid (show Dw.lastA a.ack = Dw.st0 by rw [h]; rfl)
    have h0 : a.ack.length = 0 := by rw [h]; rfl
    rw [h0] at c0 hV ⊢
    clear hs hsV h h0 b1
    go_enter Tryz.func24, Tryz.ntmps24
    go_wp2_with (first | (refine lb b2 rfl rfl rfl (by kernel_rfl) ?_) | (refine sb (c' := stC Dw.st0) b2 rfl rfl rfl rfl (by kernel_rfl) ?_))
    rw [HL.out]
    exact bodyPost_ret (rcr rfl (srh b2) (by rfl) (by kernel_rfl)) rfl ⟨rfl, below_setRow hB (by omega) _⟩
  · have HL := Lib.hid hls
    obtain ⟨b, off, hp, hc⟩ := StsAt.get hsV hm
    subst hp
    have hm1 : m ≤ 1000 := by omega
    rw [hlm] at c0 hV ⊢
    have a1 : IntKind.i64.wrap (m : Int) = (m : Int) := IntWalk.i64_in _ (by omega)
    have a2 : wrap64 (m : Int) = (m : Int) := by clear a1; exact IntWalk.wrap64_in _ (by omega)
    have a4 : (0 : Int) ≤ (m : Int) := by clear a1 a2; omega
    have a5 : (m : Int) < (m : Int) + 1 := by clear a1 a2; omega
    have a6 : (0 : Int) < (m : Int) + 1 := by clear a1 a2; omega
    clear hs hsV hlm hm hls b1 hl hm1
    go_enter Tryz.func24, Tryz.ntmps24
    go_wp2_with (first | (refine lr (stC s) hc rfl rfl rfl (by kernel_rfl) ?_) | (refine lb (srh (c' := stC s) b2) rfl rfl rfl (by kernel_rfl) ?_) | (refine sb (c' := stC s) (srh (c' := stC s) b2) rfl rfl rfl rfl (by kernel_rfl) ?_) | (refine sb (c' := stC s) b2 rfl rfl rfl rfl (by kernel_rfl) ?_))
    rw [HL.out]
    exact bodyPost_ret (rcr rfl (srh (srh b2)) (by rfl) (by kernel_rfl)) rfl ⟨rfl, below_setRow (below_setRow hB (by omega) _) (by omega) _⟩
theorem holds_any (a : Dw.Aud) (now : Dw.St) (va : Value) (w : World) (hs : StsAt w va a.ack) (hl : a.ack.length ≤ 1000) :
    Calls Tryz.prog 22 #[audV a now va] w fun e w' => e = .returned (.bool (decide (now = Dw.saysA a))) ∧ Below w.heap.size w w' := by
  obtain ⟨V, hV⟩ : ∃ V, w.alloc (.cells (audC a now va) 66) = V := ⟨_, rfl⟩
  have b1 : V.heap[w.heap.size]? = some (.cells (audC a now va) 66) := by rw [← hV]; exact han _ _
  have hB : Below w.heap.size w V := by rw [← hV]; exact (Below.refl _ w).alloc (Nat.le_refl _) _
  have HL := Lib.hid (fun w h => alast_any a now va w h hl)
  have HS := Lib.hid (hs.next hB)
  have HQ := Lib.hid (fun (p q : Dw.St) (u v : Operand) (w : World) => st_eq u v p q w)
  obtain ⟨ack, fly, fs⟩ := a
  dsimp only at *
  have HY := Lib.hid (show Dw.saysA ⟨ack, fly, fs⟩ = if fly then fs else Dw.lastA ack from rfl)
  generalize Dw.saysA ⟨ack, fly, fs⟩ = Y at *
  generalize Dw.lastA ack = L at *
  clear hs hl
  go_enter Tryz.func22, Tryz.ntmps22
  go_wp2_with (first | (refine lb b1 rfl rfl rfl (by kernel_rfl) ?_))
  try rw [hV]
  clear hV
  refine cb (HL.out _ HS.out) fun w1 hb => ?_
  have bA := kp hb b1
  replace hB := tr hB hb
  clear hb b1 HL HS
  obtain ⟨V2, hV2⟩ : ∃ V, w1.alloc (.cells (stC L) 29) = V := ⟨_, rfl⟩
  have b3 : V2.heap[w1.heap.size]? = some (.cells (stC L) 29) := by rw [← hV2]; exact han _ _
  have hb : Below w1.heap.size w1 V2 := by rw [← hV2]; exact (Below.refl _ w1).alloc (Nat.le_refl _) _
  have z := block_lt bA
  have b1 := kp hb bA
  replace hB := tr hB hb
  have c1 : V2.cell? ⟨w.heap.size, 1, none⟩ = some (.bool fly) := by rw [cell_of_row _ _ 1 _ _ _ b1]; rfl
  have HV2 := Lib.hid hV2
  clear hb hV2 bA
  cases fly
  · go_wp2_with (first | (refine nb rfl rfl rfl rfl (by go_simp; first | done | with_reducible rfl | exact rfl) rfl rfl (by kernel_rfl) ?_; rw [HV2.out]) | (refine lp 29 8 (stC now) b1 rfl rfl rfl (by kernel_rfl) (by rfl) ?_) | (refine lb b3 rfl rfl rfl (by kernel_rfl) ?_) | (refine bno (HQ.out now L _ _ _) rfl rfl rfl rfl ?_))
    go_ret
    exact ⟨by rw [HY.out]; rfl, hB⟩
  · have b1' := (setRow_other V2 w1.heap.size w.heap.size (stC fs) (by omega)).trans b1
    have b3' := srh (c' := stC fs) b3
    have hB' := below_setRow hB (show w.heap.size ≤ w1.heap.size by omega) (stC fs)
    go_wp2_with (first | (refine nb rfl rfl rfl rfl (by go_simp; first | done | with_reducible rfl | exact rfl) rfl rfl (by kernel_rfl) ?_; rw [HV2.out]) | (refine lp 29 2 (stC fs) b1 rfl rfl rfl (by kernel_rfl) (by rfl) ?_) | (refine sb (c' := stC fs) b3 rfl rfl rfl rfl (by kernel_rfl) ?_) | (refine lp 29 8 (stC now) b1' rfl rfl rfl (by kernel_rfl) (by rfl) ?_) | (refine lb b3' rfl rfl rfl (by kernel_rfl) ?_) | (refine bno (HQ.out now fs _ _ _) rfl rfl rfl rfl ?_))
    go_ret
    exact ⟨by rw [HY.out]; rfl, hB'⟩
def IdxSaid (l : List Dw.St) (s : Dw.St) (en : Ending) : Prop := ∃ r : Int, en = .returned (.int .i64 r) ∧ decide (0 ≤ r) = decide (s ∈ l)
theorem idx22_any (l : List Dw.St) (hlen : l.length ≤ 1000) (s : Dw.St) (v : Value) (w : World) (hs : StsAt w v l) :
    Calls Tryz.prog 71 #[v, stV s] w fun en w' => IdxSaid l s en ∧ Below w.heap.size w w' := by
  obtain ⟨p, q, rfl⟩ := StsAt.shape hs
  obtain ⟨V, hV⟩ : ∃ V, w.alloc (.cells (stC s) 29) = V := ⟨_, rfl⟩
  have b1 : V.heap[w.heap.size]? = some (.cells (stC s) 29) := by rw [← hV]; exact han _ _
  have hB : Below w.heap.size w V := by rw [← hV]; exact (Below.refl _ w).alloc (Nat.le_refl _) _
  have HS := Lib.hid (hs.next hB)
  have hll : (0 : Int) ≤ (l.length : Int) := by omega
  clear hs
  go_enter Tryz.func71, Tryz.ntmps71
  go_wp2_with fail
  try rw [hV]
  clear hV
  go_loopw [8] (fun i wr => ∃ k : Nat, k ≤ l.length ∧ i = .int .i64 k ∧ s ∉ l.take k ∧ Keep V wr) (fun i _ => l.length - (intOf i).toNat)
  case atStart => exact ⟨0, Nat.zero_le _, rfl, by simp, KeepBut.refl _ _⟩
  case round =>
    obtain ⟨k, hk, rfl, hno, hkv⟩ := hrel
    by_cases hlt : k < l.length
    · have hlt' : (k : Int) < (l.length : Int) := by omega
      obtain ⟨e, hce⟩ : ∃ e, l[k]? = some e := ⟨l[k], List.getElem?_eq_getElem hlt⟩
      obtain ⟨b, off, hp, hc⟩ := StsAt.get (HS.out.next hkv.whole) hce
      subst hp
      have b1' := kpi hkv b1
      have HK := Lib.hid hkv
      have hmem : s ∈ l.take (k + 1) ↔ s = e := by
        rw [Dw.take_snoc hce, List.mem_append, List.mem_singleton]
        exact ⟨fun h => h.resolve_left hno, .inr⟩
      have hin : s = e → s ∈ l := fun h => by rw [h]; exact List.mem_of_getElem? hce
      have HM := Lib.hid hmem; have HI := Lib.hid hin
      have h0k : (0 : Int) ≤ (k : Int) := by omega
      clear hkv hce hno hmem hin
      by_cases hse : s = e
      · have HQ := Lib.hid (fun (u v : Operand) (w : World) => show _ = Result.ok (Value.bool true) w from (st_eq u v s e w).trans (by rw [decide_eq_true hse]))
        have HIN := Lib.hid (HI.out hse)
        clear hse
        go_wp2_with fail
        refine wp_pure [0, 1, 2, 3, 4, 5] 6 (by kernel_rfl) (by kernel_rfl) rfl ?_
        (apply rat; (focus (intro w' hk; (refine' rv ?_ rfl rfl (by exact exec_cells (stC s) (cells_of (kpi hk b1')) rfl rfl (by kernel_rfl)); try simp only [Act.put, List.setIfInBounds_toArray, List.set_cons_zero, List.set_cons_succ]); (iterate 3 (refine' rv ?_ rfl rfl (by go_simp; first | done | with_reducible rfl | exact rfl); try simp only [Act.put, List.setIfInBounds_toArray, List.set_cons_zero, List.set_cons_succ])); (refine' rv ?_ rfl rfl (by exact exec_cells (b := b) (off := off + k * 6) (stC e) (fun i u hi => look hk (hc i u hi)) rfl rfl (by kernel_rfl)); try simp only [Act.put, List.setIfInBounds_toArray, List.set_cons_zero, List.set_cons_succ]); (refine' rv ?_ rfl rfl (by exact exec_bin rfl rfl rfl (HQ.out _ _ w')); try simp only [Act.put, List.setIfInBounds_toArray, List.set_cons_zero, List.set_cons_succ]); (exact rn))))
        intro w9 hk9
        simp only [List.drop_succ_cons, List.drop_zero]
        go_wp2_with fail
        go_ret
        exact ⟨⟨_, rfl, by rw [decide_eq_true HIN.out]; exact decide_eq_true h0k⟩, hB.trans ((HK.out.trans hk9).whole.mono hB.size)⟩
      · have HQ := Lib.hid (fun (u v : Operand) (w : World) => show _ = Result.ok (Value.bool false) w from (st_eq u v s e w).trans (by rw [decide_eq_false hse]))
        have HNO := Lib.hid (show s ∉ l.take (k + 1) from fun h => hse (HM.out.1 h))
        clear hse
        go_wp2_with fail
        refine wp_pure [0, 1, 2, 3, 4, 5] 6 (by kernel_rfl) (by kernel_rfl) rfl ?_
        (apply rat; (focus (intro w' hk; (refine' rv ?_ rfl rfl (by exact exec_cells (stC s) (cells_of (kpi hk b1')) rfl rfl (by kernel_rfl)); try simp only [Act.put, List.setIfInBounds_toArray, List.set_cons_zero, List.set_cons_succ]); (iterate 3 (refine' rv ?_ rfl rfl (by go_simp; first | done | with_reducible rfl | exact rfl); try simp only [Act.put, List.setIfInBounds_toArray, List.set_cons_zero, List.set_cons_succ])); (refine' rv ?_ rfl rfl (by exact exec_cells (b := b) (off := off + k * 6) (stC e) (fun i u hi => look hk (hc i u hi)) rfl rfl (by kernel_rfl)); try simp only [Act.put, List.setIfInBounds_toArray, List.set_cons_zero, List.set_cons_succ]); (refine' rv ?_ rfl rfl (by exact exec_bin rfl rfl rfl (HQ.out _ _ w')); try simp only [Act.put, List.setIfInBounds_toArray, List.set_cons_zero, List.set_cons_succ]); (exact rn))))
        intro w9 hk9
        simp only [List.drop_succ_cons, List.drop_zero]
        have HK9 := Lib.hid (HK.out.trans hk9)
        clear hk9 HK hc
        go_wp2_with fail
        go_roundw
        case rel => exact ⟨k + 1, hlt, by go_num, HNO.out, HK9.out⟩
        case measure => first | done | (simp [intOf]; done) | (simp [intOf]; omega)
    · have hge : ¬ (k : Int) < (l.length : Int) := by omega
      obtain rfl : k = l.length := by omega
      rw [List.take_length] at hno
      have HNO := Lib.hid hno
      have HB := Lib.hid (hB.trans (hkv.whole.mono hB.size))
      clear hkv hno
      go_wp2_with fail
      go_ret
      exact ⟨⟨-1, rfl, by rw [decide_eq_false HNO.out]; rfl⟩, HB.out⟩
theorem cont22_any (l : List Dw.St) (hlen : l.length ≤ 1000) (s : Dw.St) (v : Value) (w : World) (hs : StsAt w v l) :
    Calls Tryz.prog 50 #[v, stV s] w fun en w' => en = .returned (.bool (decide (s ∈ l))) ∧ Below w.heap.size w w' := by
  obtain ⟨p, q, rfl⟩ := StsAt.shape hs
  obtain ⟨V, hV⟩ : ∃ V, w.alloc (.cells (stC s) 29) = V := ⟨_, rfl⟩
  have b1 : V.heap[w.heap.size]? = some (.cells (stC s) 29) := by rw [← hV]; exact han _ _
  have hB : Below w.heap.size w V := by rw [← hV]; exact (Below.refl _ w).alloc (Nat.le_refl _) _
  have HI := Lib.hid (fun w h => idx22_any l hlen s (.slice p l.length q) w h)
  have HS := Lib.hid (hs.next hB)
  clear hs
  go_enter Tryz.func50, Tryz.ntmps50
  go_wp2_with (first | (refine lb b1 rfl rfl rfl (by kernel_rfl) ?_))
  try rw [hV]
  clear hV
  refine (HI.out _ HS.out).mono ?_
  rintro en w1 ⟨⟨r, rfl, hr⟩, hb⟩
  replace hB := tr hB hb
  have HR := Lib.hid hr
  clear hb b1 hr HI HS
  go_wp2_with fail
  go_ret
  exact ⟨ret_bool HR.out, hB⟩
theorem cells_part {w : World} {b : Nat} {c : Array Value} {t : TypeId} {fr : Nat × Nat} (h : w.heap[b]? = some (.cells c t fr)) (off : Nat) (part : Array Value) (hp : (c.toList.drop off).take part.size = part.toList) (i : Nat) (u : Value) (hi : part.toList[i]? = some u) : w.cell? ⟨b, off + i, none⟩ = some u := by
  have hn : i < part.size := by simpa using (List.getElem?_eq_some_iff.1 hi).1
  rw [cell_of_row _ _ (off + i) _ _ _ h]
  rw [← hp, List.getElem?_take_of_lt hn, List.getElem?_drop] at hi
  simpa using hi
theorem known_any (a : Dw.Aud) (now s : Dw.St) (va : Value) (w : World) (hs : StsAt w va a.ack) (hl : a.ack.length ≤ 1000) :
    Calls Tryz.prog 26 #[audV a now va, stV s] w fun en w' => en = .returned (.bool (Dw.knownB a s)) ∧ Below w.heap.size w w' := by
  obtain ⟨p, q, rfl⟩ := StsAt.shape hs
  obtain ⟨V, hV⟩ : ∃ V, (w.alloc (.cells (audC a now (.slice p a.ack.length q)) 66)).alloc (.cells (stC s) 29) = V := ⟨_, rfl⟩
  obtain ⟨b2, b3, hB⟩ := allocs2 _ _ _ _ hV
  have HC := Lib.hid (fun w h => cont22_any a.ack hl s (.slice p a.ack.length q) w h)
  have HS := Lib.hid (hs.next hB)
  have HD := Lib.hid (fun w => default_any w)
  obtain ⟨ack, fly, fs⟩ := a
  dsimp only at *
  have x0 : V.cell? ⟨w.heap.size, 0, none⟩ = some (.slice p ack.length q) := by rw [cell_of_row _ _ 0 _ _ _ b2]; rfl
  have x1 : V.cell? ⟨w.heap.size, 1, none⟩ = some (.bool fly) := by rw [cell_of_row _ _ 1 _ _ _ b2]; rfl
  have HY := Lib.hid (show Dw.knownB ⟨ack, fly, fs⟩ s = (decide (s = Dw.st0) || (fly && decide (fs = s)) || decide (s ∈ ack)) from rfl)
  generalize Dw.knownB ⟨ack, fly, fs⟩ s = Y at *
  clear hs hl
  go_enter Tryz.func26, Tryz.ntmps26
  go_wp2_with fail
  try rw [hV]
  clear hV
  by_cases h0 : s = Dw.st0
  · have HQ := Lib.hid (fun (u v : Operand) (w : World) => show _ = Result.ok (Value.bool true) w from (st_eq u v s Dw.st0 w).trans (by rw [decide_eq_true h0]))
    have HF := HQ
    have HZ := Lib.hid (show Y = true by rw [HY.out, decide_eq_true h0]; rfl)
    clear h0
    refine wp_pure [0, 1, 2, 3, 4, 5, 6, 7, 8, 9, 10, 11, 12, 13, 14, 15, 16, 17, 18] 19 (by kernel_rfl) (by kernel_rfl) rfl ?_
    (apply rat; (focus (intro w' hk; obtain ⟨k0,k1⟩ := look2 hk x0 x1; repeat' (first | exact rn | ((first | refine' rv ?_ rfl rfl (by exact exec_cells (stC s) (cells_of (kpi hk b3)) rfl rfl (by kernel_rfl)) | refine' rv ?_ rfl rfl (by exact exec_cells (b := w.heap.size) (off := 2) (stC fs) (cells_part (kpi hk b2) 2 (stC fs) rfl) rfl rfl (by kernel_rfl)) | refine' rv ?_ rfl rfl (by exact exec_bin rfl rfl rfl (HQ.out _ _ _)) | refine' rv ?_ rfl rfl (by exact exec_bin rfl rfl rfl (HF.out _ _ _)) | refine' rv ?_ rfl rfl (by go_simp; first | done | with_reducible rfl | exact rfl) | refine' rc ?_ (by exact rfl) (by exact rfl) (by go_simp; first | done | (constructor <;> with_reducible rfl) | with_reducible rfl) (by first | exact HD.out w' | exact HC.out w' (RowsAt.next HS.out hk.whole)) | refine' rs ?_ rfl rfl); try simp only [Act.put, List.setIfInBounds_toArray, List.set_cons_zero, List.set_cons_succ])))))
    intro w9 hk9
    simp only [List.drop_succ_cons, List.drop_zero]
    have HB9 := Lib.hid (hB.trans (hk9.whole.mono hB.size))
    clear hk9
    go_wp2_with fail
    go_ret
    exact ⟨ret_bool HZ.out.symm, HB9.out⟩
  · have HQ := Lib.hid (fun (u v : Operand) (w : World) => show _ = Result.ok (Value.bool false) w from (st_eq u v s Dw.st0 w).trans (by rw [decide_eq_false h0]))
    have HZ0 := Lib.hid (decide_eq_false h0)
    clear h0
    cases fly
    · have HF := HQ
      have HZ := Lib.hid (show Y = decide (s ∈ ack) by rw [HY.out, HZ0.out]; simp)
      refine wp_pure [0, 1, 2, 3, 4, 5, 6, 7, 8, 9, 10, 11, 12, 13, 14, 15, 16, 17, 18] 19 (by kernel_rfl) (by kernel_rfl) rfl ?_
      (apply rat; (focus (intro w' hk; obtain ⟨k0,k1⟩ := look2 hk x0 x1; repeat' (first | exact rn | ((first | refine' rv ?_ rfl rfl (by exact exec_cells (stC s) (cells_of (kpi hk b3)) rfl rfl (by kernel_rfl)) | refine' rv ?_ rfl rfl (by exact exec_cells (b := w.heap.size) (off := 2) (stC fs) (cells_part (kpi hk b2) 2 (stC fs) rfl) rfl rfl (by kernel_rfl)) | refine' rv ?_ rfl rfl (by exact exec_bin rfl rfl rfl (HQ.out _ _ _)) | refine' rv ?_ rfl rfl (by exact exec_bin rfl rfl rfl (HF.out _ _ _)) | refine' rv ?_ rfl rfl (by go_simp; first | done | with_reducible rfl | exact rfl) | refine' rc ?_ (by exact rfl) (by exact rfl) (by go_simp; first | done | (constructor <;> with_reducible rfl) | with_reducible rfl) (by first | exact HD.out w' | exact HC.out w' (RowsAt.next HS.out hk.whole)) | refine' rs ?_ rfl rfl); try simp only [Act.put, List.setIfInBounds_toArray, List.set_cons_zero, List.set_cons_succ])))))
      intro w9 hk9
      simp only [List.drop_succ_cons, List.drop_zero]
      have HB9 := Lib.hid (hB.trans (hk9.whole.mono hB.size))
      clear hk9
      go_wp2_with fail
      go_ret
      exact ⟨ret_bool HZ.out.symm, HB9.out⟩
    · by_cases h1 : fs = s
      · have HF := Lib.hid (fun (u v : Operand) (w : World) => show _ = Result.ok (Value.bool true) w from (st_eq u v fs s w).trans (by rw [decide_eq_true h1]))
        have HZ := Lib.hid (show Y = true by rw [HY.out, decide_eq_true h1]; simp)
        clear h1
        refine wp_pure [0, 1, 2, 3, 4, 5, 6, 7, 8, 9, 10, 11, 12, 13, 14, 15, 16, 17, 18] 19 (by kernel_rfl) (by kernel_rfl) rfl ?_
        (apply rat; (focus (intro w' hk; obtain ⟨k0,k1⟩ := look2 hk x0 x1; repeat' (first | exact rn | ((first | refine' rv ?_ rfl rfl (by exact exec_cells (stC s) (cells_of (kpi hk b3)) rfl rfl (by kernel_rfl)) | refine' rv ?_ rfl rfl (by exact exec_cells (b := w.heap.size) (off := 2) (stC fs) (cells_part (kpi hk b2) 2 (stC fs) rfl) rfl rfl (by kernel_rfl)) | refine' rv ?_ rfl rfl (by exact exec_bin rfl rfl rfl (HQ.out _ _ _)) | refine' rv ?_ rfl rfl (by exact exec_bin rfl rfl rfl (HF.out _ _ _)) | refine' rv ?_ rfl rfl (by go_simp; first | done | with_reducible rfl | exact rfl) | refine' rc ?_ (by exact rfl) (by exact rfl) (by go_simp; first | done | (constructor <;> with_reducible rfl) | with_reducible rfl) (by first | exact HD.out w' | exact HC.out w' (RowsAt.next HS.out hk.whole)) | refine' rs ?_ rfl rfl); try simp only [Act.put, List.setIfInBounds_toArray, List.set_cons_zero, List.set_cons_succ])))))
        intro w9 hk9
        simp only [List.drop_succ_cons, List.drop_zero]
        have HB9 := Lib.hid (hB.trans (hk9.whole.mono hB.size))
        clear hk9
        go_wp2_with fail
        go_ret
        exact ⟨ret_bool HZ.out.symm, HB9.out⟩
      · have HF := Lib.hid (fun (u v : Operand) (w : World) => show _ = Result.ok (Value.bool false) w from (st_eq u v fs s w).trans (by rw [decide_eq_false h1]))
        have HZ := Lib.hid (show Y = decide (s ∈ ack) by rw [HY.out, HZ0.out, decide_eq_false h1]; simp)
        clear h1
        refine wp_pure [0, 1, 2, 3, 4, 5, 6, 7, 8, 9, 10, 11, 12, 13, 14, 15, 16, 17, 18] 19 (by kernel_rfl) (by kernel_rfl) rfl ?_
        (apply rat; (focus (intro w' hk; obtain ⟨k0,k1⟩ := look2 hk x0 x1; repeat' (first | exact rn | ((first | refine' rv ?_ rfl rfl (by exact exec_cells (stC s) (cells_of (kpi hk b3)) rfl rfl (by kernel_rfl)) | refine' rv ?_ rfl rfl (by exact exec_cells (b := w.heap.size) (off := 2) (stC fs) (cells_part (kpi hk b2) 2 (stC fs) rfl) rfl rfl (by kernel_rfl)) | refine' rv ?_ rfl rfl (by exact exec_bin rfl rfl rfl (HQ.out _ _ _)) | refine' rv ?_ rfl rfl (by exact exec_bin rfl rfl rfl (HF.out _ _ _)) | refine' rv ?_ rfl rfl (by go_simp; first | done | with_reducible rfl | exact rfl) | refine' rc ?_ (by exact rfl) (by exact rfl) (by go_simp; first | done | (constructor <;> with_reducible rfl) | with_reducible rfl) (by first | exact HD.out w' | exact HC.out w' (RowsAt.next HS.out hk.whole)) | refine' rs ?_ rfl rfl); try simp only [Act.put, List.setIfInBounds_toArray, List.set_cons_zero, List.set_cons_succ])))))
        intro w9 hk9
        simp only [List.drop_succ_cons, List.drop_zero]
        have HB9 := Lib.hid (hB.trans (hk9.whole.mono hB.size))
        clear hk9
        go_wp2_with fail
        go_ret
        exact ⟨ret_bool HZ.out.symm, HB9.out⟩
end Go.Proofs.YtcadgecnlahkgaaGreatDoor
