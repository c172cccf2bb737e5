/- What the statement's proof stands on, part 43: Scr4, Scr4b, Scr4c, Scr4d, Scr4e, Scr4f, Scr5, Shown21, OwnGet, Sts22. -/
import Derived.Test.YtjibbchfndhhpaaGreatDoorRc39
import Derived.Test.YtjibbchfndhhpaaGreatDoorRc42
import Derived.Test.YtjibbchfndhhpaaGreatDoorRc36
import Derived.Test.YtjibbchfndhhpaaGreatDoorRc37
import Derived.Test.YtjibbchfndhhpaaGreatDoorRc4
import Derived.Test.YtjibbchfndhhpaaGreatDoorRc27
set_option linter.unusedSimpArgs false
set_option linter.unusedVariables false
set_option maxRecDepth 100000
set_option maxHeartbeats 4000000
namespace Go.Proofs.YtjibbchfndhhpaaGreatDoor
open Go.RowKit Go.Shelf
attribute [local go_sem] Oper.semAt_some
theorem repC_one (r : Dw.Rep) : (repC r).all (·.oneCell') = true := by simp [repC, Value.oneCell']
theorem infoRep : (Tryz.prog.info? 173).map (fun i => (i.zero, i.size, i.bytes)) = some (some (.agg #[.int .i64 0, .int .i64 0, .int .i64 0, .bool false, .bool false, .int .i64 0, .int .i64 0, .int .i64 0]), 8, 56) := by kernel_rfl
theorem cells15 {w : World} {b : Nat} {x0 x1 x2 x3 x4 x5 x6 x7 x8 x9 x10 x11 x12 x13 x14 : Value} {t : TypeId} {fr : Nat × Nat} (h : w.heap[b]? = some (.cells #[x0, x1, x2, x3, x4, x5, x6, x7, x8, x9, x10, x11, x12, x13, x14] t fr)) :
    (w.cell? ⟨b, 0, none⟩ = some x0 ∧ w.cell? ⟨b, 1, none⟩ = some x1 ∧ w.cell? ⟨b, 2, none⟩ = some x2 ∧ w.cell? ⟨b, 3, none⟩ = some x3 ∧ w.cell? ⟨b, 4, none⟩ = some x4) ∧
    (w.cell? ⟨b, 5, none⟩ = some x5 ∧ w.cell? ⟨b, 6, none⟩ = some x6 ∧ w.cell? ⟨b, 7, none⟩ = some x7 ∧ w.cell? ⟨b, 8, none⟩ = some x8 ∧ w.cell? ⟨b, 9, none⟩ = some x9 ∧ w.cell? ⟨b, 10, none⟩ = some x10) ∧
    w.cell? ⟨b, 11, none⟩ = some x11 ∧ w.cell? ⟨b, 12, none⟩ = some x12 ∧ w.cell? ⟨b, 13, none⟩ = some x13 ∧ w.cell? ⟨b, 14, none⟩ = some x14 := by
  simp [cell_of_row _ _ _ _ _ _ h]
theorem as_ask_reset (x : Value) (w : World) : (Instr.typeAssert (.iface 224 x) 20 220 true).run Tryz.prog w = .ok (.tuple #[.agg #[], .bool false]) w := by kernel_rfl
theorem as_ask_ask (x : Value) (w : World) : (Instr.typeAssert (.iface 224 x) 20 224 true).run Tryz.prog w = .ok (.tuple #[x, .bool true]) w := by kernel_rfl
theorem as_see_reset (x : Value) (w : World) : (Instr.typeAssert (.iface 226 x) 20 220 true).run Tryz.prog w = .ok (.tuple #[.agg #[], .bool false]) w := by kernel_rfl
theorem as_see_ask (x : Value) (w : World) : (Instr.typeAssert (.iface 226 x) 20 224 true).run Tryz.prog w = .ok (.tuple #[.agg #[.int .i64 0, .int .i64 0, .float .f64 0, .float .f64 0], .bool false]) w := by kernel_rfl
theorem as_see_see (x : Value) (w : World) : (Instr.typeAssert (.iface 226 x) 20 226 true).run Tryz.prog w = .ok (.tuple #[x, .bool true]) w := by kernel_rfl
theorem as_turn_reset (x : Value) (w : World) : (Instr.typeAssert (.iface 222 x) 20 220 true).run Tryz.prog w = .ok (.tuple #[.agg #[], .bool false]) w := by kernel_rfl
theorem as_turn_ask (x : Value) (w : World) : (Instr.typeAssert (.iface 222 x) 20 224 true).run Tryz.prog w = .ok (.tuple #[.agg #[.int .i64 0, .int .i64 0, .float .f64 0, .float .f64 0], .bool false]) w := by kernel_rfl
theorem as_turn_see (x : Value) (w : World) : (Instr.typeAssert (.iface 222 x) 20 226 true).run Tryz.prog w = .ok (.tuple #[.agg #[.float .f64 0, .float .f64 0, .float .f64 0], .bool false]) w := by kernel_rfl
theorem as_turn_turn (x : Value) (w : World) : (Instr.typeAssert (.iface 222 x) 20 222 true).run Tryz.prog w = .ok (.tuple #[x, .bool true]) w := by kernel_rfl
theorem as_reset_reset (x : Value) (w : World) : (Instr.typeAssert (.iface 220 x) 20 220 true).run Tryz.prog w = .ok (.tuple #[x, .bool true]) w := by kernel_rfl
theorem as_nil_reset (w : World) : (Instr.typeAssert .nilIface 20 220 true).run Tryz.prog w = .ok (.tuple #[.agg #[], .bool false]) w := by kernel_rfl
theorem fstep_ask (f : Dw.Fli) (e : Dw.En) (h1 : e.ki = 1) (hf : Dw.FlOk f.x.f) (hl : Dw.legal f.x.s = true) (he : enOk e) (hln : f.out.length ≤ 1000000) (v : Value) (w : World) (hn : NoneAt w) (hv : RepsAt w v f.out) :
    Calls Tryz.prog 120 #[fliV f.x v, enV e] w fun en w' => (∃ v', en = .returned (fliV (Dw.stepF f e).x v') ∧ RepsAt w' v' (Dw.stepF f e).out) ∧ Below w.heap.size w w' := by
  have HV := Lib.hid hv
  obtain ⟨ao, cap, rfl, hle, hnil, -⟩ := slAt_own hv
  obtain ⟨V, hV⟩ : ∃ V, ((w.alloc (.cells (fliC f.x (.slice ao f.out.length cap)) 48)).alloc (.cells (enC e) 136)).alloc (.cells Z15 48) = V := ⟨_, rfl⟩
  obtain ⟨bF, bE, bR, hB⟩ := allocs3 _ _ _ _ _ hV
  have HA := Lib.hid (fun w => act_any e w)
  have HX := Lib.hid (Dw.stepF_x f e)
  have HE := Lib.hid he
  clear hnil he
  have ha : actV e = .iface 224 (cmV e.c) := by unfold actV; rw [if_pos h1]
  have hx : Dw.stepX f.x e = Dw.commandX f.x e.c e.p := by unfold Dw.stepX; rw [if_pos h1]
  have hE : Dw.stepE f.x e = Dw.commandE f.x e.c e.p := by unfold Dw.stepE; rw [if_pos h1]
  have HO := Lib.hid (show (Dw.stepF f e).out = f.out ++ [Dw.repOf f.x e] by unfold Dw.stepF; rw [if_pos (by unfold Dw.isK; rw [h1]; rfl)])
  have HC := Lib.hid (fun w hn => scommand_any f.x e.c e.p hf hl HE.out.1.1 HE.out.1.2.1 w hn)
  unfold Dw.repOf at HO
  rw [hx, hE] at HO
  rw [hx] at HX
  rw [ha] at HA
  generalize Dw.commandX f.x e.c e.p = Y at *
  generalize Dw.commandE f.x e.c e.p = E at *
  clear h1 ha hx hE hf hl
  have A0 := as_ask_reset; have A1 := as_ask_ask
  go_enter Tryz.func120, Tryz.ntmps120
  go_wp2_with (first | (refine lb bE rfl rfl rfl (by kernel_rfl) ?_))
  try rw [hV]
  clear hV
  refine cb (HA.out _) fun w1 hb => ?_
  replace bF := kp hb bF; replace bE := kp hb bE; replace bR := kp hb bR; replace hB := tr hB hb; clear hb
  obtain ⟨V2, hV2⟩ : ∃ V, (w1.alloc (.cells #[] 220)).alloc (.cells (cmC e.c) 224) = V := ⟨_, rfl⟩
  obtain ⟨-, bA, hb⟩ := allocs2 _ _ _ _ hV2
  replace bF := kp hb bF; replace bE := kp hb bE; replace bR := kp hb bR; replace hB := tr hB hb; clear hb
  have HV2 := Lib.hid hV2
  clear hV2
  go_wp2_with (first | (refine nb rfl rfl rfl rfl (by go_simp; first | done | with_reducible rfl | exact rfl) rfl rfl (by kernel_rfl) ?_; first | rw [HV2.out] | skip) | (refine lp 45 0 (suC f.x) bF rfl rfl rfl (by kernel_rfl) (by rfl) ?_) | (refine lp 67 0 (cmC e.c) bA rfl rfl rfl (by kernel_rfl) (by rfl) ?_) | (refine lp 51 8 #[.int .i64 e.p.cut, .string ⟨e.p.mask.toArray⟩] bE rfl rfl rfl (by kernel_rfl) (by rfl) ?_))
  clear A0 A1 bA HV2
  refine cb (HC.out _ (hn.next hB)) fun w2 hb => ?_
  replace bF := kp hb bF; replace bE := kp hb bE; replace bR := kp hb bR; replace hB := tr hB hb; clear hb
  clear HC
  have bF0 := bF
  replace bF := srh (c' := fliC Y (.slice ao f.out.length cap)) bF
  replace bE := (setRow_other w2 w.heap.size (w.heap.size + 1) (fliC Y (.slice ao f.out.length cap)) (by omega)).trans bE
  replace bR := (setRow_other w2 w.heap.size (w.heap.size + 2) (fliC Y (.slice ao f.out.length cap)) (by omega)).trans bR
  replace hB := below_setRow hB (Nat.le_refl _) (fliC Y (.slice ao f.out.length cap))
  obtain ⟨wt, hwt⟩ : ∃ W, w2.setRow w.heap.size (fliC Y (.slice ao f.out.length cap)) = W := ⟨_, rfl⟩
  rw [hwt] at bF bE bR hB
  have HWT := Lib.hid hwt
  clear hwt
  go_wp2_with (first | (refine sp 45 0 (suC Y) (fliC Y (.slice ao f.out.length cap)) bF0 rfl rfl rfl rfl (by kernel_rfl) (by rfl) (by rfl) ?_; rw [HWT.out]))
  clear bF0 HWT
  have hvt := slAt_own (reps_next HV.out hB)
  obtain ⟨⟨-, -, -, -, -⟩, ⟨y5, y6, y7, y8, y9, y10⟩, y11, -, -, y14⟩ := cells15 bF
  have zt := block_lt bR
  have HF := Lib.hid bF; have HR := Lib.hid bR; have HB := Lib.hid hB; have HT := Lib.hid hvt; have HZ := Lib.hid zt
  clear bF bR hB hvt bE zt
  go_wp2_with fail
  refine wp_letter [0, 1, 2, 3, 4, 5, 6, 7, 8, 9, 10, 11, 12, 13, 14, 15, 16] 17 18 (NewRow1 wt (repC ⟨E, Y.ph, Y.s⟩) 173) rfl (by kernel_rfl) (by kernel_rfl) rfl (fun v A B h hk => h.keep hk) ?_
  (apply rat; (focus (intro w' hk; obtain ⟨k0,k1,k2,k3,k4,k5,k6,k7⟩ := look8 hk y5 y6 y7 y8 y9 y10 y11 y14; (iterate 8 (refine' rv ?_ rfl rfl (by go_simp; first | done | with_reducible rfl | exact rfl); try simp only [Act.put, List.setIfInBounds_toArray, List.set_cons_zero, List.set_cons_succ])); (refine' rv ?_ rfl rfl (by exact exec_full (k := 8) rfl rfl rfl rfl Tryz.underlying46 (by kernel_rfl) hle); try simp only [Act.put, List.setIfInBounds_toArray, List.set_cons_zero, List.set_cons_succ]); (iterate 8 (refine' rv ?_ rfl rfl (by go_simp; first | done | with_reducible rfl | exact rfl); try simp only [Act.put, List.setIfInBounds_toArray, List.set_cons_zero, List.set_cons_succ])); (exact rn))))
  refine ⟨rfl, sure_row1 (fun w' _ => by go_simp), ?_⟩
  rintro v2 w5 hk5 ⟨b, rfl, hbs, hbc⟩
  change wpList _ _ _ [_, _, _] _ _
  (try simp only [Act.put, List.setIfInBounds_toArray, List.set_cons_zero, List.set_cons_succ])
  have bF := kpi hk5 HF.out; have bR := kpi hk5 HR.out; have hB := HB.out.trans (hk5.whole.mono HB.out.size); have hvt := HT.out.keep hk5; have zt := HZ.out; have zt5 := hk5.size
  clear HF HR HB HT HZ hk5 y5 y6 y7 y8 y9 y10 y11 y14
  refine append_full (by rfl) (by rfl) Tryz.underlying46 infoRep rfl (by decide) (by decide) hvt (repCells_len _) hln rfl rfl hbc rfl rfl (repC_one _) ?_
  intro v3 w6 hv3 hk6
  obtain ⟨p3, q3, e3⟩ : ∃ p q, v3 = .slice p (f.out.length + 1) q := by
    obtain ⟨p, q, e, -⟩ := slAt_own hv3
    exact ⟨p, q, e⟩
  subst e3
  have bF6 := kpi hk6 bF
  have bR6 := kpi hk6 bR
  have c14 := (cells15 bF6).2.2.2.2.2
  have f14 := frozen0 bF6 14
  have bF7 : (w6.setCell ⟨w.heap.size, 14, none⟩ (Value.slice p3 (f.out.length + 1) q3)).heap[w.heap.size]? = some (.cells (fliC Y (Value.slice p3 (f.out.length + 1) q3)) 48 (0, 0)) := heap_setCell_same w6 _ 14 _ _ (Value.slice p3 (f.out.length + 1) q3) bF6
  have bR7 := (heap_setCell_other w6 ⟨w.heap.size, 14, none⟩ (w.heap.size + 2) (Value.slice p3 (f.out.length + 1) q3) (by show w.heap.size + 2 ≠ w.heap.size; omega)).trans bR6
  have hB7 := (hB.trans (hk6.whole.mono hB.size)).setCell (p := ⟨w.heap.size, 14, none⟩) (Nat.le_refl _) (Value.slice p3 (f.out.length + 1) q3)
  have HV3 := Lib.hid hv3
  clear bF6 bR6 bF bR hB hvt hv3 hk6 hbc
  go_wp2_with (first | (refine lb bF7 rfl rfl rfl (by kernel_rfl) ?_) | (refine sb bR7 rfl rfl rfl rfl (by kernel_rfl) ?_))
  refine bodyPost_ret (rcr rfl (srh bR7) (by rfl) (by kernel_rfl)) rfl ⟨⟨(Value.slice p3 (f.out.length + 1) q3), by rw [HX.out], ?_⟩, below_setRow hB7 (by omega) _⟩
  rw [HO.out]
  refine reps_low (B := w5.heap.size) ?_ List.length_append.symm
  rw [repCells_snoc]
  exact own_setRow (own_setCell HV3.out (by omega) _ _) (by omega) _
theorem fstep_see (f : Dw.Fli) (e : Dw.En) (h1 : ¬ e.ki = 1) (h2 : e.ki = 2) (hf : Dw.FlOk f.x.f) (hl : Dw.legal f.x.s = true) (he : enOk e) (hln : f.out.length ≤ 1000000) (v : Value) (w : World) (hn : NoneAt w) (hv : RepsAt w v f.out) :
    Calls Tryz.prog 120 #[fliV f.x v, enV e] w fun en w' => (∃ v', en = .returned (fliV (Dw.stepF f e).x v') ∧ RepsAt w' v' (Dw.stepF f e).out) ∧ Below w.heap.size w w' := by
  have HV := Lib.hid hv
  obtain ⟨ao, cap, rfl, hle, hnil, -⟩ := slAt_own hv
  obtain ⟨V, hV⟩ : ∃ V, ((w.alloc (.cells (fliC f.x (.slice ao f.out.length cap)) 48)).alloc (.cells (enC e) 136)).alloc (.cells Z15 48) = V := ⟨_, rfl⟩
  obtain ⟨bF, bE, bR, hB⟩ := allocs3 _ _ _ _ _ hV
  have HA := Lib.hid (fun w => act_any e w)
  have HX := Lib.hid (Dw.stepF_x f e)
  have HE := Lib.hid he
  clear hnil he
  have ha : actV e = .iface 226 (smV e.va e.vb e.vc) := by unfold actV; rw [if_neg h1, if_pos h2]
  have hx : Dw.stepX f.x e = Dw.sampleX f.x (Dw.voteI e.va e.vb e.vc) e.p := by unfold Dw.stepX; rw [if_neg h1, if_pos h2]
  have hE : Dw.stepE f.x e = Dw.sampleE f.x (Dw.voteI e.va e.vb e.vc) e.p := by unfold Dw.stepE; rw [if_neg h1, if_pos h2]
  have HO := Lib.hid (show (Dw.stepF f e).out = f.out ++ [Dw.repOf f.x e] by unfold Dw.stepF; rw [if_pos (by unfold Dw.isK; rw [h2]; rfl)])
  have HC := Lib.hid (fun w hn => ssample_any f.x e.va e.vb e.vc HE.out.1.2.2 e.p hf hl w hn)
  unfold Dw.repOf at HO
  rw [hx, hE] at HO
  rw [hx] at HX
  rw [ha] at HA
  generalize Dw.sampleX f.x (Dw.voteI e.va e.vb e.vc) e.p = Y at *
  generalize Dw.sampleE f.x (Dw.voteI e.va e.vb e.vc) e.p = E at *
  clear h1 h2 ha hx hE hf hl
  have A0 := as_see_reset; have A1 := as_see_ask; have A2 := as_see_see
  go_enter Tryz.func120, Tryz.ntmps120
  go_wp2_with (first | (refine lb bE rfl rfl rfl (by kernel_rfl) ?_))
  try rw [hV]
  clear hV
  refine cb (HA.out _) fun w1 hb => ?_
  replace bF := kp hb bF; replace bE := kp hb bE; replace bR := kp hb bR; replace hB := tr hB hb; clear hb
  obtain ⟨V2, hV2⟩ : ∃ V, (w1.alloc (.cells #[] 220)).alloc (.cells (smC e.va e.vb e.vc) 226) = V := ⟨_, rfl⟩
  obtain ⟨-, bA, hb⟩ := allocs2 _ _ _ _ hV2
  replace bF := kp hb bF; replace bE := kp hb bE; replace bR := kp hb bR; replace hB := tr hB hb; clear hb
  have HV2 := Lib.hid hV2
  clear hV2
  go_wp2_with (first | (refine nb rfl rfl rfl rfl (by go_simp; first | done | with_reducible rfl | exact rfl) rfl rfl (by kernel_rfl) ?_; first | rw [HV2.out] | skip) | (refine lp 45 0 (suC f.x) bF rfl rfl rfl (by kernel_rfl) (by rfl) ?_) | (refine lp 72 0 (smC e.va e.vb e.vc) bA rfl rfl rfl (by kernel_rfl) (by rfl) ?_) | (refine lp 51 8 #[.int .i64 e.p.cut, .string ⟨e.p.mask.toArray⟩] bE rfl rfl rfl (by kernel_rfl) (by rfl) ?_))
  clear A0 A1 A2 bA HV2
  refine cb (HC.out _ (hn.next hB)) fun w2 hb => ?_
  replace bF := kp hb bF; replace bE := kp hb bE; replace bR := kp hb bR; replace hB := tr hB hb; clear hb
  clear HC
  have bF0 := bF
  replace bF := srh (c' := fliC Y (.slice ao f.out.length cap)) bF
  replace bE := (setRow_other w2 w.heap.size (w.heap.size + 1) (fliC Y (.slice ao f.out.length cap)) (by omega)).trans bE
  replace bR := (setRow_other w2 w.heap.size (w.heap.size + 2) (fliC Y (.slice ao f.out.length cap)) (by omega)).trans bR
  replace hB := below_setRow hB (Nat.le_refl _) (fliC Y (.slice ao f.out.length cap))
  obtain ⟨wt, hwt⟩ : ∃ W, w2.setRow w.heap.size (fliC Y (.slice ao f.out.length cap)) = W := ⟨_, rfl⟩
  rw [hwt] at bF bE bR hB
  have HWT := Lib.hid hwt
  clear hwt
  go_wp2_with (first | (refine sp 45 0 (suC Y) (fliC Y (.slice ao f.out.length cap)) bF0 rfl rfl rfl rfl (by kernel_rfl) (by rfl) (by rfl) ?_; rw [HWT.out]))
  clear bF0 HWT
  have hvt := slAt_own (reps_next HV.out hB)
  obtain ⟨⟨-, -, -, -, -⟩, ⟨y5, y6, y7, y8, y9, y10⟩, y11, -, -, y14⟩ := cells15 bF
  have zt := block_lt bR
  have HF := Lib.hid bF; have HR := Lib.hid bR; have HB := Lib.hid hB; have HT := Lib.hid hvt; have HZ := Lib.hid zt
  clear bF bR hB hvt bE zt
  go_wp2_with fail
  refine wp_letter [0, 1, 2, 3, 4, 5, 6, 7, 8, 9, 10, 11, 12, 13, 14, 15, 16] 17 18 (NewRow1 wt (repC ⟨E, Y.ph, Y.s⟩) 173) rfl (by kernel_rfl) (by kernel_rfl) rfl (fun v A B h hk => h.keep hk) ?_
  (apply rat; (focus (intro w' hk; obtain ⟨k0,k1,k2,k3,k4,k5,k6,k7⟩ := look8 hk y5 y6 y7 y8 y9 y10 y11 y14; (iterate 8 (refine' rv ?_ rfl rfl (by go_simp; first | done | with_reducible rfl | exact rfl); try simp only [Act.put, List.setIfInBounds_toArray, List.set_cons_zero, List.set_cons_succ])); (refine' rv ?_ rfl rfl (by exact exec_full (k := 8) rfl rfl rfl rfl Tryz.underlying46 (by kernel_rfl) hle); try simp only [Act.put, List.setIfInBounds_toArray, List.set_cons_zero, List.set_cons_succ]); (iterate 8 (refine' rv ?_ rfl rfl (by go_simp; first | done | with_reducible rfl | exact rfl); try simp only [Act.put, List.setIfInBounds_toArray, List.set_cons_zero, List.set_cons_succ])); (exact rn))))
  refine ⟨rfl, sure_row1 (fun w' _ => by go_simp), ?_⟩
  rintro v2 w5 hk5 ⟨b, rfl, hbs, hbc⟩
  change wpList _ _ _ [_, _, _] _ _
  (try simp only [Act.put, List.setIfInBounds_toArray, List.set_cons_zero, List.set_cons_succ])
  have bF := kpi hk5 HF.out; have bR := kpi hk5 HR.out; have hB := HB.out.trans (hk5.whole.mono HB.out.size); have hvt := HT.out.keep hk5; have zt := HZ.out; have zt5 := hk5.size
  clear HF HR HB HT HZ hk5 y5 y6 y7 y8 y9 y10 y11 y14
  refine append_full (by rfl) (by rfl) Tryz.underlying46 infoRep rfl (by decide) (by decide) hvt (repCells_len _) hln rfl rfl hbc rfl rfl (repC_one _) ?_
  intro v3 w6 hv3 hk6
  obtain ⟨p3, q3, e3⟩ : ∃ p q, v3 = .slice p (f.out.length + 1) q := by
    obtain ⟨p, q, e, -⟩ := slAt_own hv3
    exact ⟨p, q, e⟩
  subst e3
  have bF6 := kpi hk6 bF
  have bR6 := kpi hk6 bR
  have c14 := (cells15 bF6).2.2.2.2.2
  have f14 := frozen0 bF6 14
  have bF7 : (w6.setCell ⟨w.heap.size, 14, none⟩ (Value.slice p3 (f.out.length + 1) q3)).heap[w.heap.size]? = some (.cells (fliC Y (Value.slice p3 (f.out.length + 1) q3)) 48 (0, 0)) := heap_setCell_same w6 _ 14 _ _ (Value.slice p3 (f.out.length + 1) q3) bF6
  have bR7 := (heap_setCell_other w6 ⟨w.heap.size, 14, none⟩ (w.heap.size + 2) (Value.slice p3 (f.out.length + 1) q3) (by show w.heap.size + 2 ≠ w.heap.size; omega)).trans bR6
  have hB7 := (hB.trans (hk6.whole.mono hB.size)).setCell (p := ⟨w.heap.size, 14, none⟩) (Nat.le_refl _) (Value.slice p3 (f.out.length + 1) q3)
  have HV3 := Lib.hid hv3
  clear bF6 bR6 bF bR hB hvt hv3 hk6 hbc
  go_wp2_with (first | (refine lb bF7 rfl rfl rfl (by kernel_rfl) ?_) | (refine sb bR7 rfl rfl rfl rfl (by kernel_rfl) ?_))
  refine bodyPost_ret (rcr rfl (srh bR7) (by rfl) (by kernel_rfl)) rfl ⟨⟨(Value.slice p3 (f.out.length + 1) q3), by rw [HX.out], ?_⟩, below_setRow hB7 (by omega) _⟩
  rw [HO.out]
  refine reps_low (B := w5.heap.size) ?_ List.length_append.symm
  rw [repCells_snoc]
  exact own_setRow (own_setCell HV3.out (by omega) _ _) (by omega) _
theorem fstep_reset (f : Dw.Fli) (e : Dw.En) (h1 : ¬ e.ki = 1) (h2 : ¬ e.ki = 2) (h3 : e.ki = 3) (hf : Dw.FlOk f.x.f) (hl : Dw.legal f.x.s = true) (he : enOk e) (hln : f.out.length ≤ 1000000) (v : Value) (w : World) (hn : NoneAt w) (hv : RepsAt w v f.out) :
    Calls Tryz.prog 120 #[fliV f.x v, enV e] w fun en w' => (∃ v', en = .returned (fliV (Dw.stepF f e).x v') ∧ RepsAt w' v' (Dw.stepF f e).out) ∧ Below w.heap.size w w' := by
  have HV := Lib.hid hv
  obtain ⟨ao, cap, rfl, hle, hnil, -⟩ := slAt_own hv
  obtain ⟨V, hV⟩ : ∃ V, ((w.alloc (.cells (fliC f.x (.slice ao f.out.length cap)) 48)).alloc (.cells (enC e) 136)).alloc (.cells Z15 48) = V := ⟨_, rfl⟩
  obtain ⟨bF, bE, bR, hB⟩ := allocs3 _ _ _ _ _ hV
  have HA := Lib.hid (fun w => act_any e w)
  have HX := Lib.hid (Dw.stepF_x f e)
  have HE := Lib.hid he
  clear hnil he
  have ha : actV e = .iface 220 (.agg #[]) := by unfold actV; rw [if_neg h1, if_neg h2, if_pos h3]
  have hx : Dw.stepX f.x e = Dw.boot f.x.f := by unfold Dw.stepX; rw [if_neg h1, if_neg h2, if_pos h3]
  have hE : Dw.stepE f.x e = 0 := by unfold Dw.stepE; rw [if_neg h1, if_neg h2]
  have HO := Lib.hid (show (Dw.stepF f e).out = f.out ++ [Dw.repOf f.x e] by unfold Dw.stepF; rw [if_pos (by unfold Dw.isK; rw [h3]; rfl)])
  obtain ⟨F, hFF⟩ : ∃ F, F = f.x.f := ⟨_, rfl⟩
  have HC := Lib.hid (fun w => (show Calls Tryz.prog 154 #[flV f.x.f, .int .i64 (-1)] w (fun e w' => e = .returned (flV F) ∧ Below w.heap.size w w') from by have h := flip_any f.x.f hf (-1) (by decide) w; rw [Dw.flip_neg f.x.f (by decide)] at h; rw [hFF]; exact h))
  have HD := Lib.hid (fun w hn => (show Calls Tryz.prog 25 #[flV F] w (fun e w' => e = .returned (suV (Dw.boot F)) ∧ Below w.heap.size w w') from by rw [hFF]; exact boot_any f.x.f hf w hn))
  rw [← hFF] at hx
  clear hFF
  have A0 := as_reset_reset; have A1 := as_turn_ask; have A2 := as_turn_see; have A3 := as_turn_turn
  unfold Dw.repOf at HO
  rw [hx, hE] at HO
  rw [hx] at HX
  rw [ha] at HA
  generalize Dw.boot F = Y at *
  obtain ⟨E, hEE⟩ : ∃ E : Int, E = 0 := ⟨_, rfl⟩
  rw [← hEE] at HO
  have HEE := Lib.hid hEE
  clear h1 h2 h3 ha hx hE hf hl hEE
  go_enter Tryz.func120, Tryz.ntmps120
  go_wp2_with (first | (refine lb bE rfl rfl rfl (by kernel_rfl) ?_))
  try rw [hV]
  clear hV
  refine cb (HA.out _) fun w1 hb => ?_
  replace bF := kp hb bF; replace bE := kp hb bE; replace bR := kp hb bR; replace hB := tr hB hb; clear hb
  obtain ⟨V2, hV2⟩ : ∃ V, w1.alloc (.cells #[] 220) = V := ⟨_, rfl⟩
  have hb : Below w1.heap.size w1 V2 := by rw [← hV2]; exact (Below.refl _ w1).alloc (Nat.le_refl _) _
  replace bF := kp hb bF; replace bE := kp hb bE; replace bR := kp hb bR; replace hB := tr hB hb; clear hb
  have HV2 := Lib.hid hV2
  clear hV2
  go_wp2_with (first | (refine nb rfl rfl rfl rfl (by go_simp; first | done | with_reducible rfl | exact rfl) rfl rfl (by kernel_rfl) ?_; first | rw [HV2.out] | skip) | (refine lp 41 0 (flC f.x.f) bF rfl rfl rfl (by kernel_rfl) (by rfl) ?_))
  clear A0 A1 A2 A3 HV2
  refine cb (HC.out _) fun w3 hb => ?_
  replace bF := kp hb bF; replace bE := kp hb bE; replace bR := kp hb bR; replace hB := tr hB hb; clear hb
  clear HC
  go_wp2_with fail
  refine cb (HD.out _ (hn.next hB)) fun w2 hb => ?_
  replace bF := kp hb bF; replace bE := kp hb bE; replace bR := kp hb bR; replace hB := tr hB hb; clear hb
  clear HD
  have bF0 := bF
  replace bF := srh (c' := fliC Y (.slice ao f.out.length cap)) bF
  replace bE := (setRow_other w2 w.heap.size (w.heap.size + 1) (fliC Y (.slice ao f.out.length cap)) (by omega)).trans bE
  replace bR := (setRow_other w2 w.heap.size (w.heap.size + 2) (fliC Y (.slice ao f.out.length cap)) (by omega)).trans bR
  replace hB := below_setRow hB (Nat.le_refl _) (fliC Y (.slice ao f.out.length cap))
  obtain ⟨wt, hwt⟩ : ∃ W, w2.setRow w.heap.size (fliC Y (.slice ao f.out.length cap)) = W := ⟨_, rfl⟩
  rw [hwt] at bF bE bR hB
  have HWT := Lib.hid hwt
  clear hwt
  go_wp2_with (first | (refine sp 45 0 (suC Y) (fliC Y (.slice ao f.out.length cap)) bF0 rfl rfl rfl rfl (by kernel_rfl) (by rfl) (by rfl) ?_; rw [HWT.out]))
  clear bF0 HWT
  have hvt := slAt_own (reps_next HV.out hB)
  obtain ⟨⟨-, -, -, -, -⟩, ⟨y5, y6, y7, y8, y9, y10⟩, y11, -, -, y14⟩ := cells15 bF
  have zt := block_lt bR
  have HF := Lib.hid bF; have HR := Lib.hid bR; have HB := Lib.hid hB; have HT := Lib.hid hvt; have HZ := Lib.hid zt
  clear bF bR hB hvt bE zt
  go_wp2_with fail
  refine wp_letter [0, 1, 2, 3, 4, 5, 6, 7, 8, 9, 10, 11, 12, 13, 14, 15, 16] 17 18 (NewRow1 wt (repC ⟨E, Y.ph, Y.s⟩) 173) rfl (by kernel_rfl) (by kernel_rfl) rfl (fun v A B h hk => h.keep hk) ?_
  (apply rat; (focus (intro w' hk; obtain ⟨k0,k1,k2,k3,k4,k5,k6,k7⟩ := look8 hk y5 y6 y7 y8 y9 y10 y11 y14; (iterate 8 (refine' rv ?_ rfl rfl (by go_simp; first | done | with_reducible rfl | exact rfl); try simp only [Act.put, List.setIfInBounds_toArray, List.set_cons_zero, List.set_cons_succ])); (refine' rv ?_ rfl rfl (by exact exec_full (k := 8) rfl rfl rfl rfl Tryz.underlying46 (by kernel_rfl) hle); try simp only [Act.put, List.setIfInBounds_toArray, List.set_cons_zero, List.set_cons_succ]); (iterate 8 (refine' rv ?_ rfl rfl (by go_simp; first | done | with_reducible rfl | exact rfl); try simp only [Act.put, List.setIfInBounds_toArray, List.set_cons_zero, List.set_cons_succ])); (exact rn))))
  refine ⟨rfl, sure_row1 (fun w' _ => by rw [HEE.out]; go_simp), ?_⟩
  rintro v2 w5 hk5 ⟨b, rfl, hbs, hbc⟩
  change wpList _ _ _ [_, _, _] _ _
  (try simp only [Act.put, List.setIfInBounds_toArray, List.set_cons_zero, List.set_cons_succ])
  have bF := kpi hk5 HF.out; have bR := kpi hk5 HR.out; have hB := HB.out.trans (hk5.whole.mono HB.out.size); have hvt := HT.out.keep hk5; have zt := HZ.out; have zt5 := hk5.size
  clear HF HR HB HT HZ hk5 y5 y6 y7 y8 y9 y10 y11 y14
  refine append_full (by rfl) (by rfl) Tryz.underlying46 infoRep rfl (by decide) (by decide) hvt (repCells_len _) hln rfl rfl hbc rfl rfl (repC_one _) ?_
  intro v3 w6 hv3 hk6
  obtain ⟨p3, q3, e3⟩ : ∃ p q, v3 = .slice p (f.out.length + 1) q := by
    obtain ⟨p, q, e, -⟩ := slAt_own hv3
    exact ⟨p, q, e⟩
  subst e3
  have bF6 := kpi hk6 bF
  have bR6 := kpi hk6 bR
  have c14 := (cells15 bF6).2.2.2.2.2
  have f14 := frozen0 bF6 14
  have bF7 : (w6.setCell ⟨w.heap.size, 14, none⟩ (Value.slice p3 (f.out.length + 1) q3)).heap[w.heap.size]? = some (.cells (fliC Y (Value.slice p3 (f.out.length + 1) q3)) 48 (0, 0)) := heap_setCell_same w6 _ 14 _ _ (Value.slice p3 (f.out.length + 1) q3) bF6
  have bR7 := (heap_setCell_other w6 ⟨w.heap.size, 14, none⟩ (w.heap.size + 2) (Value.slice p3 (f.out.length + 1) q3) (by show w.heap.size + 2 ≠ w.heap.size; omega)).trans bR6
  have hB7 := (hB.trans (hk6.whole.mono hB.size)).setCell (p := ⟨w.heap.size, 14, none⟩) (Nat.le_refl _) (Value.slice p3 (f.out.length + 1) q3)
  have HV3 := Lib.hid hv3
  clear bF6 bR6 bF bR hB hvt hv3 hk6 hbc
  go_wp2_with (first | (refine lb bF7 rfl rfl rfl (by kernel_rfl) ?_) | (refine sb bR7 rfl rfl rfl rfl (by kernel_rfl) ?_))
  refine bodyPost_ret (rcr rfl (srh bR7) (by rfl) (by kernel_rfl)) rfl ⟨⟨(Value.slice p3 (f.out.length + 1) q3), by rw [HX.out], ?_⟩, below_setRow hB7 (by omega) _⟩
  rw [HO.out]
  refine reps_low (B := w5.heap.size) ?_ List.length_append.symm
  rw [repCells_snoc]
  exact own_setRow (own_setCell HV3.out (by omega) _ _) (by omega) _
theorem fstep_turn (f : Dw.Fli) (e : Dw.En) (h1 : ¬ e.ki = 1) (h2 : ¬ e.ki = 2) (h3 : ¬ e.ki = 3) (h4 : e.ki = 4) (hf : Dw.FlOk f.x.f) (hl : Dw.legal f.x.s = true) (he : enOk e) (hln : f.out.length ≤ 1000000) (v : Value) (w : World) (hn : NoneAt w) (hv : RepsAt w v f.out) :
    Calls Tryz.prog 120 #[fliV f.x v, enV e] w fun en w' => (∃ v', en = .returned (fliV (Dw.stepF f e).x v') ∧ RepsAt w' v' (Dw.stepF f e).out) ∧ Below w.heap.size w w' := by
  have HV := Lib.hid hv
  obtain ⟨ao, cap, rfl, hle, hnil, -⟩ := slAt_own hv
  obtain ⟨V, hV⟩ : ∃ V, ((w.alloc (.cells (fliC f.x (.slice ao f.out.length cap)) 48)).alloc (.cells (enC e) 136)).alloc (.cells Z15 48) = V := ⟨_, rfl⟩
  obtain ⟨bF, bE, bR, hB⟩ := allocs3 _ _ _ _ _ hV
  have HA := Lib.hid (fun w => act_any e w)
  have HX := Lib.hid (Dw.stepF_x f e)
  have HE := Lib.hid he
  clear hnil he
  have ha : actV e = .iface 222 (.int .i64 e.at_) := by unfold actV; rw [if_neg h1, if_neg h2, if_neg h3, if_pos h4]
  have hx : Dw.stepX f.x e = Dw.boot (Dw.flip f.x.f e.at_) := by unfold Dw.stepX; rw [if_neg h1, if_neg h2, if_neg h3, if_pos h4]
  have hE : Dw.stepE f.x e = 0 := by unfold Dw.stepE; rw [if_neg h1, if_neg h2]
  have HO := Lib.hid (show (Dw.stepF f e).out = f.out ++ [Dw.repOf f.x e] by unfold Dw.stepF; rw [if_pos (by unfold Dw.isK; rw [h4]; rfl)])
  have HC := Lib.hid (fun w => flip_any f.x.f hf e.at_ HE.out.2 w)
  have HD := Lib.hid (fun w hn => boot_any _ (Dw.flip_ok hf e.at_) w hn)
  have A0 := as_turn_reset; have A1 := as_turn_ask; have A2 := as_turn_see; have A3 := as_turn_turn
  generalize Dw.flip f.x.f e.at_ = F at HC HD hx
  unfold Dw.repOf at HO
  rw [hx, hE] at HO
  rw [hx] at HX
  rw [ha] at HA
  generalize Dw.boot F = Y at *
  obtain ⟨E, hEE⟩ : ∃ E : Int, E = 0 := ⟨_, rfl⟩
  rw [← hEE] at HO
  have HEE := Lib.hid hEE
  clear h1 h2 h3 h4 ha hx hE hf hl hEE
  go_enter Tryz.func120, Tryz.ntmps120
  go_wp2_with (first | (refine lb bE rfl rfl rfl (by kernel_rfl) ?_))
  try rw [hV]
  clear hV
  refine cb (HA.out _) fun w1 hb => ?_
  replace bF := kp hb bF; replace bE := kp hb bE; replace bR := kp hb bR; replace hB := tr hB hb; clear hb
  obtain ⟨V2, hV2⟩ : ∃ V, w1.alloc (.cells #[] 220) = V := ⟨_, rfl⟩
  have hb : Below w1.heap.size w1 V2 := by rw [← hV2]; exact (Below.refl _ w1).alloc (Nat.le_refl _) _
  replace bF := kp hb bF; replace bE := kp hb bE; replace bR := kp hb bR; replace hB := tr hB hb; clear hb
  have HV2 := Lib.hid hV2
  clear hV2
  go_wp2_with (first | (refine nb rfl rfl rfl rfl (by go_simp; first | done | with_reducible rfl | exact rfl) rfl rfl (by kernel_rfl) ?_; first | rw [HV2.out] | skip) | (refine lp 41 0 (flC f.x.f) bF rfl rfl rfl (by kernel_rfl) (by rfl) ?_))
  clear A0 A1 A2 A3 HV2
  refine cb (HC.out _) fun w3 hb => ?_
  replace bF := kp hb bF; replace bE := kp hb bE; replace bR := kp hb bR; replace hB := tr hB hb; clear hb
  clear HC
  go_wp2_with fail
  refine cb (HD.out _ (hn.next hB)) fun w2 hb => ?_
  replace bF := kp hb bF; replace bE := kp hb bE; replace bR := kp hb bR; replace hB := tr hB hb; clear hb
  clear HD
  have bF0 := bF
  replace bF := srh (c' := fliC Y (.slice ao f.out.length cap)) bF
  replace bE := (setRow_other w2 w.heap.size (w.heap.size + 1) (fliC Y (.slice ao f.out.length cap)) (by omega)).trans bE
  replace bR := (setRow_other w2 w.heap.size (w.heap.size + 2) (fliC Y (.slice ao f.out.length cap)) (by omega)).trans bR
  replace hB := below_setRow hB (Nat.le_refl _) (fliC Y (.slice ao f.out.length cap))
  obtain ⟨wt, hwt⟩ : ∃ W, w2.setRow w.heap.size (fliC Y (.slice ao f.out.length cap)) = W := ⟨_, rfl⟩
  rw [hwt] at bF bE bR hB
  have HWT := Lib.hid hwt
  clear hwt
  go_wp2_with (first | (refine sp 45 0 (suC Y) (fliC Y (.slice ao f.out.length cap)) bF0 rfl rfl rfl rfl (by kernel_rfl) (by rfl) (by rfl) ?_; rw [HWT.out]))
  clear bF0 HWT
  have hvt := slAt_own (reps_next HV.out hB)
  obtain ⟨⟨-, -, -, -, -⟩, ⟨y5, y6, y7, y8, y9, y10⟩, y11, -, -, y14⟩ := cells15 bF
  have zt := block_lt bR
  have HF := Lib.hid bF; have HR := Lib.hid bR; have HB := Lib.hid hB; have HT := Lib.hid hvt; have HZ := Lib.hid zt
  clear bF bR hB hvt bE zt
  go_wp2_with fail
  refine wp_letter [0, 1, 2, 3, 4, 5, 6, 7, 8, 9, 10, 11, 12, 13, 14, 15, 16] 17 18 (NewRow1 wt (repC ⟨E, Y.ph, Y.s⟩) 173) rfl (by kernel_rfl) (by kernel_rfl) rfl (fun v A B h hk => h.keep hk) ?_
  (apply rat; (focus (intro w' hk; obtain ⟨k0,k1,k2,k3,k4,k5,k6,k7⟩ := look8 hk y5 y6 y7 y8 y9 y10 y11 y14; (iterate 8 (refine' rv ?_ rfl rfl (by go_simp; first | done | with_reducible rfl | exact rfl); try simp only [Act.put, List.setIfInBounds_toArray, List.set_cons_zero, List.set_cons_succ])); (refine' rv ?_ rfl rfl (by exact exec_full (k := 8) rfl rfl rfl rfl Tryz.underlying46 (by kernel_rfl) hle); try simp only [Act.put, List.setIfInBounds_toArray, List.set_cons_zero, List.set_cons_succ]); (iterate 8 (refine' rv ?_ rfl rfl (by go_simp; first | done | with_reducible rfl | exact rfl); try simp only [Act.put, List.setIfInBounds_toArray, List.set_cons_zero, List.set_cons_succ])); (exact rn))))
  refine ⟨rfl, sure_row1 (fun w' _ => by rw [HEE.out]; go_simp), ?_⟩
  rintro v2 w5 hk5 ⟨b, rfl, hbs, hbc⟩
  change wpList _ _ _ [_, _, _] _ _
  (try simp only [Act.put, List.setIfInBounds_toArray, List.set_cons_zero, List.set_cons_succ])
  have bF := kpi hk5 HF.out; have bR := kpi hk5 HR.out; have hB := HB.out.trans (hk5.whole.mono HB.out.size); have hvt := HT.out.keep hk5; have zt := HZ.out; have zt5 := hk5.size
  clear HF HR HB HT HZ hk5 y5 y6 y7 y8 y9 y10 y11 y14
  refine append_full (by rfl) (by rfl) Tryz.underlying46 infoRep rfl (by decide) (by decide) hvt (repCells_len _) hln rfl rfl hbc rfl rfl (repC_one _) ?_
  intro v3 w6 hv3 hk6
  obtain ⟨p3, q3, e3⟩ : ∃ p q, v3 = .slice p (f.out.length + 1) q := by
    obtain ⟨p, q, e, -⟩ := slAt_own hv3
    exact ⟨p, q, e⟩
  subst e3
  have bF6 := kpi hk6 bF
  have bR6 := kpi hk6 bR
  have c14 := (cells15 bF6).2.2.2.2.2
  have f14 := frozen0 bF6 14
  have bF7 : (w6.setCell ⟨w.heap.size, 14, none⟩ (Value.slice p3 (f.out.length + 1) q3)).heap[w.heap.size]? = some (.cells (fliC Y (Value.slice p3 (f.out.length + 1) q3)) 48 (0, 0)) := heap_setCell_same w6 _ 14 _ _ (Value.slice p3 (f.out.length + 1) q3) bF6
  have bR7 := (heap_setCell_other w6 ⟨w.heap.size, 14, none⟩ (w.heap.size + 2) (Value.slice p3 (f.out.length + 1) q3) (by show w.heap.size + 2 ≠ w.heap.size; omega)).trans bR6
  have hB7 := (hB.trans (hk6.whole.mono hB.size)).setCell (p := ⟨w.heap.size, 14, none⟩) (Nat.le_refl _) (Value.slice p3 (f.out.length + 1) q3)
  have HV3 := Lib.hid hv3
  clear bF6 bR6 bF bR hB hvt hv3 hk6 hbc
  go_wp2_with (first | (refine lb bF7 rfl rfl rfl (by kernel_rfl) ?_) | (refine sb bR7 rfl rfl rfl rfl (by kernel_rfl) ?_))
  refine bodyPost_ret (rcr rfl (srh bR7) (by rfl) (by kernel_rfl)) rfl ⟨⟨(Value.slice p3 (f.out.length + 1) q3), by rw [HX.out], ?_⟩, below_setRow hB7 (by omega) _⟩
  rw [HO.out]
  refine reps_low (B := w5.heap.size) ?_ List.length_append.symm
  rw [repCells_snoc]
  exact own_setRow (own_setCell HV3.out (by omega) _ _) (by omega) _
theorem fstep_none (f : Dw.Fli) (e : Dw.En) (h1 : ¬ e.ki = 1) (h2 : ¬ e.ki = 2) (h3 : ¬ e.ki = 3) (h4 : ¬ e.ki = 4) (hf : Dw.FlOk f.x.f) (hl : Dw.legal f.x.s = true) (he : enOk e) (hln : f.out.length ≤ 1000000) (v : Value) (w : World) (hn : NoneAt w) (hv : RepsAt w v f.out) :
    Calls Tryz.prog 120 #[fliV f.x v, enV e] w fun en w' => (∃ v', en = .returned (fliV (Dw.stepF f e).x v') ∧ RepsAt w' v' (Dw.stepF f e).out) ∧ Below w.heap.size w w' := by
  have HV := Lib.hid hv
  obtain ⟨ao, cap, rfl, hle, hnil, -⟩ := slAt_own hv
  obtain ⟨V, hV⟩ : ∃ V, ((w.alloc (.cells (fliC f.x (.slice ao f.out.length cap)) 48)).alloc (.cells (enC e) 136)).alloc (.cells Z15 48) = V := ⟨_, rfl⟩
  obtain ⟨bF, bE, bR, hB⟩ := allocs3 _ _ _ _ _ hV
  have HA := Lib.hid (fun w => act_any e w)
  have HX := Lib.hid (Dw.stepF_x f e)
  have HE := Lib.hid he
  clear hnil he
  have ha : actV e = .nilIface := by unfold actV; rw [if_neg h1, if_neg h2, if_neg h3, if_neg h4]
  have hs : Dw.stepF f e = f := by unfold Dw.stepF; rw [if_neg (by unfold Dw.isK; simp; omega)]
  rw [ha] at HA
  rw [hs]
  clear HX HE h1 h2 h3 h4 ha hs hf hl hln
  have A0 := as_nil_reset
  go_enter Tryz.func120, Tryz.ntmps120
  go_wp2_with (first | (refine lb bE rfl rfl rfl (by kernel_rfl) ?_))
  try rw [hV]
  clear hV
  refine cb (HA.out _) fun w1 hb => ?_
  replace bF := kp hb bF; replace bE := kp hb bE; replace bR := kp hb bR; replace hB := tr hB hb; clear hb
  obtain ⟨V2, hV2⟩ : ∃ V, w1.alloc (.cells #[] 220) = V := ⟨_, rfl⟩
  have hb : Below w1.heap.size w1 V2 := by rw [← hV2]; exact (Below.refl _ w1).alloc (Nat.le_refl _) _
  replace bF := kp hb bF; replace bE := kp hb bE; replace bR := kp hb bR; replace hB := tr hB hb; clear hb
  have HV2 := Lib.hid hV2
  clear hV2
  go_wp2_with (first | (refine nb rfl rfl rfl rfl (by go_simp; first | done | with_reducible rfl | exact rfl) rfl rfl (by kernel_rfl) ?_; first | rw [HV2.out] | skip) | (refine lb bF rfl rfl rfl (by kernel_rfl) ?_) | (refine sb bR rfl rfl rfl rfl (by kernel_rfl) ?_))
  refine bodyPost_ret (rcr rfl (srh bR) (by rfl) (by kernel_rfl)) rfl ⟨⟨_, rfl, ?_⟩, below_setRow hB (by omega) _⟩
  exact reps_next HV.out (below_setRow hB (by omega) _)
end Go.Proofs.YtjibbchfndhhpaaGreatDoor
namespace Go.Proofs.YtjibbchfndhhpaaGreatDoor
open Go.RowKit Go.Shelf
theorem fstep_any (f : Dw.Fli) (e : Dw.En) (hf : Dw.FlOk f.x.f) (hl : Dw.legal f.x.s = true) (he : enOk e) (hln : f.out.length ≤ 1000000) (v : Value) (w : World) (hn : NoneAt w) (hv : RepsAt w v f.out) :
    Calls Tryz.prog 120 #[fliV f.x v, enV e] w fun en w' => (∃ v', en = .returned (fliV (Dw.stepF f e).x v') ∧ RepsAt w' v' (Dw.stepF f e).out) ∧ Below w.heap.size w w' := by
  by_cases h1 : e.ki = 1
  · exact fstep_ask f e h1 hf hl he hln v w hn hv
  by_cases h2 : e.ki = 2
  · exact fstep_see f e h1 h2 hf hl he hln v w hn hv
  by_cases h3 : e.ki = 3
  · exact fstep_reset f e h1 h2 h3 hf hl he hln v w hn hv
  by_cases h4 : e.ki = 4
  · exact fstep_turn f e h1 h2 h3 h4 hf hl he hln v w hn hv
  · exact fstep_none f e h1 h2 h3 h4 hf hl he hln v w hn hv
end Go.Proofs.YtjibbchfndhhpaaGreatDoor
namespace Go.Proofs.YtjibbchfndhhpaaGreatDoor
open Go.RowKit Go.Shelf
attribute [local go_sem] Oper.semAt_some
theorem reps_shape {w : World} {v : Value} {l : List Dw.Rep} (h : RepsAt w v l) : ∃ p q, v = .slice p l.length q := by
  obtain ⟨p, q, e, -⟩ := slAt_own h
  exact ⟨p, q, e⟩
theorem cells_of {w : World} {b : Nat} {c : Array Value} {t : TypeId} {fr : Nat × Nat} (h : w.heap[b]? = some (.cells c t fr)) (i : Nat) (u : Value) (hi : c.toList[i]? = some u) : w.cell? ⟨b, 0 + i, none⟩ = some u := by
  rw [Nat.zero_add, cell_of_row _ _ i _ _ _ h]
  simpa using hi
theorem repCells_at : ∀ (l : List Dw.Rep) (j : Nat) (r : Dw.Rep) (i : Nat), l[j]? = some r → i < 8 → (repCells l)[j * 8 + i]? = (repC r).toList[i]?
  | [], j, r, i, h, _ => by simp at h
  | a :: l, 0, r, i, h, hi => by
    simp at h
    subst h
    show ((repC a).toList ++ repCells l)[0 * 8 + i]? = _
    rw [Nat.zero_mul, Nat.zero_add, List.getElem?_append_left (show i < (repC a).toList.length from hi)]
  | a :: l, j + 1, r, i, h, hi => by
    show ((repC a).toList ++ repCells l)[(j + 1) * 8 + i]? = _
    have h8 : (repC a).toList.length = 8 := rfl
    rw [List.getElem?_append_right (by rw [h8]; omega), h8, show (j + 1) * 8 + i - 8 = j * 8 + i by omega]
    exact repCells_at l j r i (by simpa using h) hi
theorem own_get {w : World} {B n : Nat} {e : TypeId} {ao : Option Addr} {m cap : Nat} {l : List Dw.Rep} (h : w.ownsRow B e 8 (.slice ao m cap) n (repCells l)) {k : Nat} {r : Dw.Rep} (hk : l[k]? = some r) :
    ∃ q, ao = some ⟨q, 0, none⟩ ∧ ∀ i u, (repC r).toList[i]? = some u → w.cell? ⟨q, k * 8 + i, none⟩ = some u := by
  have hkl : k < l.length := (List.getElem?_eq_some_iff.1 hk).1
  obtain ⟨ao', cap', he, -, -, hc⟩ := slAt_own h
  injection he with h1 h2 h3
  subst h1
  obtain ⟨hl, ⟨h0, hn⟩ | ⟨g, _, _, h0, _⟩⟩ := h
  · rw [repCells_len, hn] at hl; omega
  · injection h0 with h1
    subst h1
    refine ⟨g, rfl, fun i u hi => ?_⟩
    have hi8 : i < 8 := (List.getElem?_eq_some_iff.1 hi).1
    have h1 := hc _ rfl (k * 8 + i) u (by rw [repCells_at l k r i hk hi8]; exact hi)
    rw [addr0] at h1
    exact h1
abbrev StsAt (w : World) (v : Value) (l : List Dw.St) : Prop := RowsAt (fun s : Dw.St => (stC s).toList) 6 (fun _ => True) w v l
theorem StsAt.get {w : World} {sa : Option Addr} {len cap k : Nat} {l : List Dw.St} {s : Dw.St} (h : StsAt w (.slice sa len cap) l) (hk : l[k]? = some s) :
    ∃ b off, sa = some ⟨b, off, none⟩ ∧ ∀ i u, (stC s).toList[i]? = some u → w.cell? ⟨b, off + k * 6 + i, none⟩ = some u := by
  obtain ⟨sa', cap', he, hd, hs⟩ := h
  cases he
  rcases hs with rfl | ⟨b, off, h, hc⟩
  · simp at hk
  · exact ⟨b, off, h, fun i u hi => hc k s hk i u hi⟩
theorem own_next {w w' : World} {B n k : Nat} {e : TypeId} {v : Value} {xs : List Value} (h : w.ownsRow B e k v n xs) (hb : Below w.heap.size w w') : w'.ownsRow B e k v n xs := by
  obtain ⟨hl, h | ⟨g, cap, cur, he, h0, hg, hr⟩⟩ := h
  · exact ⟨hl, .inl h⟩
  · exact ⟨hl, .inr ⟨g, cap, cur, he, h0, kp hb hg, hr⟩⟩
theorem own_shape22 {w : World} {B n k : Nat} {e : TypeId} {v : Value} {xs : List Value} (h : w.ownsRow B e k v n xs) : ∃ p q, v = .slice p n q := by
  obtain ⟨p, q, e, -⟩ := slAt_own h
  exact ⟨p, q, e⟩
theorem own_blk {w : World} {B n k : Nat} {e : TypeId} {v : Value} {xs : List Value} (h : w.ownsRow B e k v n xs) {j : Nat} (hj : v.ownBlock = some j) : B ≤ j ∧ ∃ c, w.heap[j]? = some (.cells c e (0, 0)) := by
  rcases h.2 with ⟨h1, _⟩ | ⟨g', cap, cur, h1, h2, h3, _⟩
  · rw [h1] at hj; cases hj
  · rw [h1] at hj
    obtain rfl : g' = j := by simpa [Value.ownBlock] using hj
    exact ⟨h2, _, h3⟩
theorem own_but {w w' : World} {B n k : Nat} {e : TypeId} {v : Value} {xs : List Value} {X : Nat → Prop} (h : w.ownsRow B e k v n xs) (hk : KeepBut X w w') (hX : ∀ j, X j → ∃ c T fr, w.heap[j]? = some (.cells c T fr) ∧ T ≠ e) : w'.ownsRow B e k v n xs := by
  obtain ⟨hl, h | ⟨b, cap, cur, he, h0, hb, hr⟩⟩ := h
  · exact ⟨hl, .inl h⟩
  · refine ⟨hl, .inr ⟨b, cap, cur, he, h0, (hk.block b (block_lt hb) fun hx => ?_).trans hb, hr⟩⟩
    obtain ⟨c, T, fr, h1, h2⟩ := hX b hx
    rw [hb] at h1
    have := Option.some.inj h1
    injection this with _ h3 _
    exact h2 h3.symm
section
variable {P : Program} {ops : Array Oper} {rest : List Oper} {o : Oper} {a : Act} {w : World} {Q : Exit → Act → World → Prop} {t e : TypeId}
theorem append_own22 (hg : o.guard = none) {s x : Operand} (hop : o.op = .call { callee := .builtin .append, args := #[s, x], argTypes := #[t, t] }) {z : Value} {k bytes : Nat} (hu : P.underlying t = some (.slice e))
    (hi : (P.info? e).map (fun i => (i.zero, i.size, i.bytes)) = some (some z, k, bytes)) (hz : z.cells.size = k) (hk : 0 < k) (hby : bytes ≤ 1000) {B n : Nat} {cs : List Value} {v0 : Value} (how : w.ownsRow B e k v0 n cs) (hn : n ≤ 1000000) (hBw : B ≤ w.heap.size)
    (hs : a.eval s = v0) {b : Nat} {c : Array Value} {T : TypeId} {fr : Nat × Nat} (hb : w.heap[b]? = some (.cells c T fr)) (hx : a.eval x = .slice (some ⟨b, 0, none⟩) 1 1) (hc : c.size = k) (h1 : c.all (·.oneCell') = true)
    (h : ∀ v' w', w'.ownsRow B e k v' (n + 1) (cs ++ c.toList) → KeepBut (fun j => v0.ownBlock = some j) w w' → wpList P ops Q rest (a.put o.dst v') w') : wpList P ops Q (o :: rest) a w := by
  obtain ⟨i, hi1, hi2, hi3, hi4⟩ := info_parts hi
  refine wpList_append_own w hg s x t hop B e i z k bytes hu hi1 hi2 hi3 hi4 hz hk v0 n cs hs how ⟨b, 0, none⟩ 1 1 c.toList hx (by simp [hc]) (fun j u hj => ?_) (fun u hu => (Array.all_eq_true_iff_forall_mem.1 h1) u (by simpa using hu)) (by simp only [maxLen]; omega) ?_ hBw fun v' w' ho hgr _ => h v' w' ho ((KeepBut.refl _ w).grown hgr (fun g e => e))
  · rw [addr0, cell_of_row _ _ j _ _ _ hb]
    simpa using hj
  · have : (n + 1) * bytes ≤ 1000001 * 1000 := Nat.mul_le_mul (by omega) hby
    omega
end
theorem At1.row {w A : World} {b : Nat} {c c' : Array Value} {t : TypeId} (h : At1 w b c t A) : At1 w b c' t (A.setRow b c') := ⟨h.1.setRow (g := b) (X := fun k => k = b) rfl c', srh h.2⟩
end Go.Proofs.YtjibbchfndhhpaaGreatDoor
