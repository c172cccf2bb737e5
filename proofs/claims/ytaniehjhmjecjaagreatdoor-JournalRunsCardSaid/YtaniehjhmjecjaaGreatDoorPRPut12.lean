/- Layer 12: the reference's Put (this text is printed by wip/gen/rput12.py). -/
import Derived.Test.YtaniehjhmjecjaaGreatDoorPRPlan11
import Derived.Test.YtaniehjhmjecjaaGreatDoorPRPlay2
import Derived.Test.YtaniehjhmjecjaaGreatDoorPRRead
import Derived.Test.YtaniehjhmjecjaaGreatDoorP18
namespace Go.Proofs.YtaniehjhmjecjaaGreatDoor
open Go.RowKit Go.Shelf
attribute [local go_sem] Oper.semAt_some

theorem rpl_len {w : World} {v : Value} {l : List Dw.Op} (h : RPl w v l) : ∃ s c, v = .slice s l.length c := by
  rcases h with ⟨rfl, rfl⟩ | ⟨_, b, off, cap, c, t, fr, rfl, _⟩
  · exact ⟨_, _, rfl⟩
  · exact ⟨_, _, rfl⟩
set_option maxRecDepth 100000 in
set_option maxHeartbeats 4000000 in
theorem rput12_any (f : Dw.Fl) (hf : Dw.FlOk f) (s : Dw.Stp) (hd : s.data < 18446744073709551616) (hm : s.mask.length ≤ 100000) (w : World) :
    Calls Tryz.prog 19 #[flV f, stpV s] w fun e w' => e = .returned (putV f s) ∧ Below w.heap.size w w' := by
  obtain ⟨V, hV⟩ : ∃ V, ((w.alloc (.cells (flashC f.a f.b f.e0 f.e1 f.li) 37)).alloc (.cells (stpC s) 56)).alloc (.cells (flashC [] [] 0 0 0) 37) = V := ⟨_, rfl⟩
  obtain ⟨vz, vB, b0, b1, b2⟩ := alloc3 w _ _ _ V hV
  obtain ⟨c0, c1, c2, c3, c4⟩ := cells5 b0
  obtain ⟨s0, s1, s2⟩ := cells3 b1
  obtain ⟨data, cut, m⟩ := s
  dsimp only at *
  go_enter Tryz.func19, Tryz.ntmps19
  go_wp2_with fail
  refine (rplan_any f hf data hd _).mono ?_
  rintro e w1 ⟨⟨v, rfl, own⟩, hb⟩
  replace b0 := (hb.block _ (block_lt b0)).trans b0
  replace b1 := (hb.block _ (block_lt b1)).trans b1
  replace b2 := (hb.block _ (block_lt b2)).trans b2
  replace vB := vB.trans (hb.mono vB.size)
  clear hb hV c0 c1 c2 c3 c4 s0 s1 s2
  obtain ⟨c0, c1, c2, c3, c4⟩ := cells5 b0
  obtain ⟨s0, s1, s2⟩ := cells3 b1
  by_cases hpe : (Dw.plan f data).2 = 0
  · obtain ⟨L, hlen, hok, hpos, hle⟩ := Dw.plan_ok hf hpe
    have hat : ROps w1 v (Dw.plan f data).1 := by rcases own with ⟨h, _⟩ | ⟨_, h⟩; (rw [h] at hpos; exact absurd hpos (Nat.lt_irrefl _)); exact h
    have hgok := (Dw.play_ok cut m _ f 0 hf hlen hok).1
    have HP := Lib.hid (rplay2_any f hf _ (by omega) hok v cut m hm w1 hat)
    have HE := Lib.hid (show putV f ⟨data, cut, m⟩ = .tuple #[flV (Dw.playL f (Dw.plan f data).1 0 cut m).1, .bool (Dw.ackB f ⟨data, cut, m⟩), .int .i64 0] from if_pos hpe)
    have HA0 := Lib.hid (show Dw.ackB f ⟨data, cut, m⟩ = (decide ((Dw.playL f (Dw.plan f data).1 0 cut m).2 = (Dw.plan f data).1.length) && (decide (Dw.readE (Dw.playL f (Dw.plan f data).1 0 cut m).1.a (Dw.playL f (Dw.plan f data).1 0 cut m).1.b = 0) && decide ((Dw.readS (Dw.playL f (Dw.plan f data).1 0 cut m).1.a (Dw.playL f (Dw.plan f data).1 0 cut m).1.b).data = data))) from rfl)
    obtain ⟨ob, off, cap, oc, ot, ofr, rfl, _, _⟩ := hat
    rw [hpe]
    clear own hpe hok hpos hle hlen hm
    generalize (Dw.plan f data).1.length = len at *
    generalize Dw.playL f (Dw.plan f data).1 0 cut m = R at *
    obtain ⟨g, n⟩ := R
    dsimp only at *
    go_wp2_with fail
    refine HP.out.mono ?_
    rintro e w2 ⟨rfl, hb⟩
    replace b1 := (hb.block _ (block_lt b1)).trans b1
    replace b2 := (hb.block _ (block_lt b2)).trans b2
    replace vB := vB.trans (hb.mono vB.size)
    clear hb c0 c1 c2 c3 c4 s0 s1 s2 b0
    have b9 := heap_alloc_new w2 (.cells (flashC g.a g.b g.e0 g.e1 g.li) 37)
    replace b1 := (heap_alloc_old w2 (.cells (flashC g.a g.b g.e0 g.e1 g.li) 37) _ (block_lt b1)).trans b1
    replace b2 := (heap_alloc_old w2 (.cells (flashC g.a g.b g.e0 g.e1 g.li) 37) _ (block_lt b2)).trans b2
    replace vB := vB.alloc vB.size (.cells (flashC g.a g.b g.e0 g.e1 g.li) 37)
    obtain ⟨W2, hW2⟩ : ∃ W2, w2.alloc (.cells (flashC g.a g.b g.e0 g.e1 g.li) 37) = W2 := ⟨_, rfl⟩
    rw [hW2] at b1 b2 b9 vB
    obtain ⟨e0, e1, e2, e3, e4⟩ := cells5 b9
    go_wp2_with fail
    refine (rread_any g hgok.a hgok.b _).mono ?_
    rintro e w3 ⟨rfl, hb⟩
    replace b1 := (hb.block _ (block_lt b1)).trans b1
    replace b2 := (hb.block _ (block_lt b2)).trans b2
    replace b9 := (hb.block _ (block_lt b9)).trans b9
    replace vB := vB.trans (hb.mono vB.size)
    clear hb e0 e1 e2 e3 e4 hW2
    have hg11 := block_lt b2
    have hE2 := Dw.readE_two g.a g.b
    obtain ⟨⟨pb, pg, pq, pd⟩, hS⟩ : ∃ p, Dw.readS g.a g.b = p := ⟨_, rfl⟩
    obtain ⟨pe, hE⟩ : ∃ p, Dw.readE g.a g.b = p := ⟨_, rfl⟩
    have HA1 := HA0.out
    rw [hS, hE] at HA1
    rw [hE] at hE2
    rw [hS, hE]
    have HA1 := Lib.hid HA1
    clear HA0 hS hE
    replace b1 := (heap_alloc_old w3 (.cells #[.int .i64 pb, .int .u64 pg, .int .u64 pq, .int .u64 pd] 34) _ (block_lt b1)).trans b1
    replace b2 := (heap_alloc_old w3 (.cells #[.int .i64 pb, .int .u64 pg, .int .u64 pq, .int .u64 pd] 34) _ (block_lt b2)).trans b2
    replace b9 := (heap_alloc_old w3 (.cells #[.int .i64 pb, .int .u64 pg, .int .u64 pq, .int .u64 pd] 34) _ (block_lt b9)).trans b9
    have b11 := heap_alloc_new w3 (.cells #[.int .i64 pb, .int .u64 pg, .int .u64 pq, .int .u64 pd] 34)
    replace vB := vB.alloc vB.size (.cells #[.int .i64 pb, .int .u64 pg, .int .u64 pq, .int .u64 pd] 34)
    obtain ⟨e0, e1, e2, e3, e4⟩ := cells5 b9
    obtain ⟨q0, q1, q2, q3⟩ := cells4 b11
    obtain ⟨s0, s1, s2⟩ := cells3 b1
    obtain ⟨gs, hgs⟩ : ∃ gs, w3.heap.size = gs := ⟨_, rfl⟩
    rw [hgs] at q0 q1 q2 q3 b11 hg11
    by_cases h1 : n = len
    · have hb1 : ((n : Int) == (len : Int)) = true := by rw [h1, beq_self_eq_true]
      rcases hE2 with rfl | rfl
      · have HA := Lib.hid (HA1.out.trans (by rw [h1, decide_eq_true rfl, decide_eq_true rfl, Bool.true_and, Bool.true_and]))
        clear HA1 h1
        go_wp2_with fail
        generalize w3.alloc _ = W3 at *
        refine RT.wp_letter (fun k => k = w.heap.size + 2) (fun k => decide (14 ≤ k)) (List.range 20) 20 21 (RT.Stored W3 (w.heap.size + 2) (flashC g.a g.b g.e0 g.e1 g.li) 37) rfl (by kernel_rfl) (by kernel_rfl) rfl (fun A B h hk => h.keep hk) ?_
        rw [show List.range 20 = [0, 1, 2, 3, 4, 5, 6, 7, 8, 9, 10, 11, 12, 13, 14, 15, 16, 17, 18, 19] from rfl]
        (first | (refine RT.pl_value (v := ?_) rfl rfl rfl ?_ ?_; rotate_left 1; (focus (intro w' hk; have k0 := look hk e0; have k1 := look hk e1; have k2 := look hk e2; have k3 := look hk e3; have k4 := look hk e4; go_simp; (first | done | with_reducible rfl | exact rfl))); (try simp only [Act.put, List.setIfInBounds_toArray, List.set_cons_zero, List.set_cons_succ])) | (refine RT.pl_skip rfl rfl ?_; (try simp only [Act.put, List.setIfInBounds_toArray, List.set_cons_zero, List.set_cons_succ])))
        (first | (refine RT.pl_value (v := ?_) rfl rfl rfl ?_ ?_; rotate_left 1; (focus (intro w' hk; go_simp; (first | done | with_reducible rfl | exact rfl))); (try simp only [Act.put, List.setIfInBounds_toArray, List.set_cons_zero, List.set_cons_succ])) | (refine RT.pl_skip rfl rfl ?_; (try simp only [Act.put, List.setIfInBounds_toArray, List.set_cons_zero, List.set_cons_succ])))
        (first | (refine RT.pl_value (v := ?_) rfl rfl rfl ?_ ?_; rotate_left 1; (focus (intro w' hk; go_simp; (first | done | with_reducible rfl | exact rfl))); (try simp only [Act.put, List.setIfInBounds_toArray, List.set_cons_zero, List.set_cons_succ])) | (refine RT.pl_skip rfl rfl ?_; (try simp only [Act.put, List.setIfInBounds_toArray, List.set_cons_zero, List.set_cons_succ])))
        (first | (refine RT.pl_value (v := ?_) rfl rfl rfl ?_ ?_; rotate_left 1; (focus (intro w' hk; go_simp; (first | done | with_reducible rfl | exact rfl))); (try simp only [Act.put, List.setIfInBounds_toArray, List.set_cons_zero, List.set_cons_succ])) | (refine RT.pl_skip rfl rfl ?_; (try simp only [Act.put, List.setIfInBounds_toArray, List.set_cons_zero, List.set_cons_succ])))
        (first | (refine RT.pl_value (v := ?_) rfl rfl rfl ?_ ?_; rotate_left 1; (focus (intro w' hk; go_simp; (first | done | with_reducible rfl | exact rfl))); (try simp only [Act.put, List.setIfInBounds_toArray, List.set_cons_zero, List.set_cons_succ])) | (refine RT.pl_skip rfl rfl ?_; (try simp only [Act.put, List.setIfInBounds_toArray, List.set_cons_zero, List.set_cons_succ])))
        (first | (refine RT.pl_value (v := ?_) rfl rfl rfl ?_ ?_; rotate_left 1; (focus (intro w' hk; go_simp; (first | done | with_reducible rfl | exact rfl))); (try simp only [Act.put, List.setIfInBounds_toArray, List.set_cons_zero, List.set_cons_succ])) | (refine RT.pl_skip rfl rfl ?_; (try simp only [Act.put, List.setIfInBounds_toArray, List.set_cons_zero, List.set_cons_succ])))
        (first | (refine RT.pl_value (v := ?_) rfl rfl rfl ?_ ?_; rotate_left 1; (focus (intro w' hk; go_simp; (first | done | with_reducible rfl | exact rfl))); (try simp only [Act.put, List.setIfInBounds_toArray, List.set_cons_zero, List.set_cons_succ])) | (refine RT.pl_skip rfl rfl ?_; (try simp only [Act.put, List.setIfInBounds_toArray, List.set_cons_zero, List.set_cons_succ])))
        (first | (refine RT.pl_value (v := ?_) rfl rfl rfl ?_ ?_; rotate_left 1; (focus (intro w' hk; go_simp; (first | done | with_reducible rfl | exact rfl))); (try simp only [Act.put, List.setIfInBounds_toArray, List.set_cons_zero, List.set_cons_succ])) | (refine RT.pl_skip rfl rfl ?_; (try simp only [Act.put, List.setIfInBounds_toArray, List.set_cons_zero, List.set_cons_succ])))
        (first | (refine RT.pl_value (v := ?_) rfl rfl rfl ?_ ?_; rotate_left 1; (focus (intro w' hk; go_simp; (first | done | with_reducible rfl | exact rfl))); (try simp only [Act.put, List.setIfInBounds_toArray, List.set_cons_zero, List.set_cons_succ])) | (refine RT.pl_skip rfl rfl ?_; (try simp only [Act.put, List.setIfInBounds_toArray, List.set_cons_zero, List.set_cons_succ])))
        (first | (refine RT.pl_value (v := ?_) rfl rfl rfl ?_ ?_; rotate_left 1; (focus (intro w' hk; go_simp; (first | done | with_reducible rfl | exact rfl))); (try simp only [Act.put, List.setIfInBounds_toArray, List.set_cons_zero, List.set_cons_succ])) | (refine RT.pl_skip rfl rfl ?_; (try simp only [Act.put, List.setIfInBounds_toArray, List.set_cons_zero, List.set_cons_succ])))
        (first | (refine RT.pl_value (v := ?_) rfl rfl rfl ?_ ?_; rotate_left 1; (focus (intro w' hk; go_simp; (first | done | with_reducible rfl | exact rfl))); (try simp only [Act.put, List.setIfInBounds_toArray, List.set_cons_zero, List.set_cons_succ])) | (refine RT.pl_skip rfl rfl ?_; (try simp only [Act.put, List.setIfInBounds_toArray, List.set_cons_zero, List.set_cons_succ])))
        (first | (refine RT.pl_value (v := ?_) rfl rfl rfl ?_ ?_; rotate_left 1; (focus (intro w' hk; go_simp; (first | done | with_reducible rfl | exact rfl))); (try simp only [Act.put, List.setIfInBounds_toArray, List.set_cons_zero, List.set_cons_succ])) | (refine RT.pl_skip rfl rfl ?_; (try simp only [Act.put, List.setIfInBounds_toArray, List.set_cons_zero, List.set_cons_succ])))
        (first | (refine RT.pl_value (v := ?_) rfl rfl rfl ?_ ?_; rotate_left 1; (focus (intro w' hk; go_simp; (first | done | with_reducible rfl | exact rfl))); (try simp only [Act.put, List.setIfInBounds_toArray, List.set_cons_zero, List.set_cons_succ])) | (refine RT.pl_skip rfl rfl ?_; (try simp only [Act.put, List.setIfInBounds_toArray, List.set_cons_zero, List.set_cons_succ])))
        (first | (refine RT.pl_value (v := ?_) rfl rfl rfl ?_ ?_; rotate_left 1; (focus (intro w' hk; go_simp; (first | done | with_reducible rfl | exact rfl))); (try simp only [Act.put, List.setIfInBounds_toArray, List.set_cons_zero, List.set_cons_succ])) | (refine RT.pl_skip rfl rfl ?_; (try simp only [Act.put, List.setIfInBounds_toArray, List.set_cons_zero, List.set_cons_succ])))
        (first | (refine RT.pl_late (v := ?_) rfl rfl ?_ ?_; rotate_left 1; (focus (intro w' hk; go_simp; (first | done | with_reducible rfl | exact rfl))); (try simp only [Act.put, List.setIfInBounds_toArray, List.set_cons_zero, List.set_cons_succ])) | (refine RT.pl_skip rfl rfl ?_; (try simp only [Act.put, List.setIfInBounds_toArray, List.set_cons_zero, List.set_cons_succ])))
        (first | (refine RT.pl_late (v := ?_) rfl rfl ?_ ?_; rotate_left 1; (focus (intro w' hk; have k5 := (hk.cell (lt_of_cell q3) (fun h => absurd (show gs = w.heap.size + 2 from h) (by omega))).trans q3; have k7 := (hk.cell (lt_of_cell s0) (fun h => absurd (show w.heap.size + 1 = w.heap.size + 2 from h) (by omega))).trans s0; go_simp; (first | done | with_reducible rfl | exact rfl))); (try simp only [Act.put, List.setIfInBounds_toArray, List.set_cons_zero, List.set_cons_succ])) | (refine RT.pl_skip rfl rfl ?_; (try simp only [Act.put, List.setIfInBounds_toArray, List.set_cons_zero, List.set_cons_succ])))
        (first | (refine RT.pl_late (v := ?_) rfl rfl ?_ ?_; rotate_left 1; (focus (intro w' hk; go_simp; (first | done | with_reducible rfl | exact rfl))); (try simp only [Act.put, List.setIfInBounds_toArray, List.set_cons_zero, List.set_cons_succ])) | (refine RT.pl_skip rfl rfl ?_; (try simp only [Act.put, List.setIfInBounds_toArray, List.set_cons_zero, List.set_cons_succ])))
        (first | (refine RT.pl_late (v := ?_) rfl rfl ?_ ?_; rotate_left 1; (focus (intro w' hk; have k5 := (hk.cell (lt_of_cell q3) (fun h => absurd (show gs = w.heap.size + 2 from h) (by omega))).trans q3; have k7 := (hk.cell (lt_of_cell s0) (fun h => absurd (show w.heap.size + 1 = w.heap.size + 2 from h) (by omega))).trans s0; go_simp; (first | done | with_reducible rfl | exact rfl))); (try simp only [Act.put, List.setIfInBounds_toArray, List.set_cons_zero, List.set_cons_succ])) | (refine RT.pl_skip rfl rfl ?_; (try simp only [Act.put, List.setIfInBounds_toArray, List.set_cons_zero, List.set_cons_succ])))
        (first | (refine RT.pl_late (v := ?_) rfl rfl ?_ ?_; rotate_left 1; (focus (intro w' hk; go_simp; (first | done | with_reducible rfl | exact rfl))); (try simp only [Act.put, List.setIfInBounds_toArray, List.set_cons_zero, List.set_cons_succ])) | (refine RT.pl_skip rfl rfl ?_; (try simp only [Act.put, List.setIfInBounds_toArray, List.set_cons_zero, List.set_cons_succ])))
        (first | (refine RT.pl_late (v := ?_) rfl rfl ?_ ?_; rotate_left 1; (focus (intro w' hk; go_simp; (first | done | with_reducible rfl | exact rfl))); (try simp only [Act.put, List.setIfInBounds_toArray, List.set_cons_zero, List.set_cons_succ])) | (refine RT.pl_skip rfl rfl ?_; (try simp only [Act.put, List.setIfInBounds_toArray, List.set_cons_zero, List.set_cons_succ])))
        refine RT.pl_nil ⟨rfl, RT.stores_block 37 (.tmp 4) (.tmp 41) rfl rfl rfl b2 (by kernel_rfl) rfl (by simp [Value.oneCell']), ?_⟩
        rintro w5 ⟨hk5, b5⟩
        simp only [List.drop_succ_cons, List.drop_zero]
        replace vB := vB.trans (hk5.below vB.size (fun g hg => by omega))
        go_wp2_with fail
        refine bodyPost_ret (results_cell_tmp2 rfl _ _ _ _ _ _ _ (by rfl) b5 Tryz.underlying37 rfl (by kernel_rfl)) rfl ⟨?_, vB⟩
        rw [HE.out, HA.out]
        exact congrArg (fun b => Ending.returned (.tuple #[flV g, .bool b, .int .i64 0])) (beq_nat pd data)
      · have HA := Lib.hid (HA1.out.trans (show _ = false from by rw [decide_eq_false (show ¬ (10 : Int) = 0 by decide), Bool.false_and, Bool.and_false]))
        clear HA1 h1
        go_wp2_with fail
        generalize w3.alloc _ = W3 at *
        refine RT.wp_letter (fun k => k = w.heap.size + 2) (fun k => decide (14 ≤ k)) (List.range 20) 20 21 (RT.Stored W3 (w.heap.size + 2) (flashC g.a g.b g.e0 g.e1 g.li) 37) rfl (by kernel_rfl) (by kernel_rfl) rfl (fun A B h hk => h.keep hk) ?_
        rw [show List.range 20 = [0, 1, 2, 3, 4, 5, 6, 7, 8, 9, 10, 11, 12, 13, 14, 15, 16, 17, 18, 19] from rfl]
        (first | (refine RT.pl_value (v := ?_) rfl rfl rfl ?_ ?_; rotate_left 1; (focus (intro w' hk; have k0 := look hk e0; have k1 := look hk e1; have k2 := look hk e2; have k3 := look hk e3; have k4 := look hk e4; go_simp; (first | done | with_reducible rfl | exact rfl))); (try simp only [Act.put, List.setIfInBounds_toArray, List.set_cons_zero, List.set_cons_succ])) | (refine RT.pl_skip rfl rfl ?_; (try simp only [Act.put, List.setIfInBounds_toArray, List.set_cons_zero, List.set_cons_succ])))
        (first | (refine RT.pl_value (v := ?_) rfl rfl rfl ?_ ?_; rotate_left 1; (focus (intro w' hk; go_simp; (first | done | with_reducible rfl | exact rfl))); (try simp only [Act.put, List.setIfInBounds_toArray, List.set_cons_zero, List.set_cons_succ])) | (refine RT.pl_skip rfl rfl ?_; (try simp only [Act.put, List.setIfInBounds_toArray, List.set_cons_zero, List.set_cons_succ])))
        (first | (refine RT.pl_value (v := ?_) rfl rfl rfl ?_ ?_; rotate_left 1; (focus (intro w' hk; go_simp; (first | done | with_reducible rfl | exact rfl))); (try simp only [Act.put, List.setIfInBounds_toArray, List.set_cons_zero, List.set_cons_succ])) | (refine RT.pl_skip rfl rfl ?_; (try simp only [Act.put, List.setIfInBounds_toArray, List.set_cons_zero, List.set_cons_succ])))
        (first | (refine RT.pl_value (v := ?_) rfl rfl rfl ?_ ?_; rotate_left 1; (focus (intro w' hk; go_simp; (first | done | with_reducible rfl | exact rfl))); (try simp only [Act.put, List.setIfInBounds_toArray, List.set_cons_zero, List.set_cons_succ])) | (refine RT.pl_skip rfl rfl ?_; (try simp only [Act.put, List.setIfInBounds_toArray, List.set_cons_zero, List.set_cons_succ])))
        (first | (refine RT.pl_value (v := ?_) rfl rfl rfl ?_ ?_; rotate_left 1; (focus (intro w' hk; go_simp; (first | done | with_reducible rfl | exact rfl))); (try simp only [Act.put, List.setIfInBounds_toArray, List.set_cons_zero, List.set_cons_succ])) | (refine RT.pl_skip rfl rfl ?_; (try simp only [Act.put, List.setIfInBounds_toArray, List.set_cons_zero, List.set_cons_succ])))
        (first | (refine RT.pl_value (v := ?_) rfl rfl rfl ?_ ?_; rotate_left 1; (focus (intro w' hk; go_simp; (first | done | with_reducible rfl | exact rfl))); (try simp only [Act.put, List.setIfInBounds_toArray, List.set_cons_zero, List.set_cons_succ])) | (refine RT.pl_skip rfl rfl ?_; (try simp only [Act.put, List.setIfInBounds_toArray, List.set_cons_zero, List.set_cons_succ])))
        (first | (refine RT.pl_value (v := ?_) rfl rfl rfl ?_ ?_; rotate_left 1; (focus (intro w' hk; go_simp; (first | done | with_reducible rfl | exact rfl))); (try simp only [Act.put, List.setIfInBounds_toArray, List.set_cons_zero, List.set_cons_succ])) | (refine RT.pl_skip rfl rfl ?_; (try simp only [Act.put, List.setIfInBounds_toArray, List.set_cons_zero, List.set_cons_succ])))
        (first | (refine RT.pl_value (v := ?_) rfl rfl rfl ?_ ?_; rotate_left 1; (focus (intro w' hk; go_simp; (first | done | with_reducible rfl | exact rfl))); (try simp only [Act.put, List.setIfInBounds_toArray, List.set_cons_zero, List.set_cons_succ])) | (refine RT.pl_skip rfl rfl ?_; (try simp only [Act.put, List.setIfInBounds_toArray, List.set_cons_zero, List.set_cons_succ])))
        (first | (refine RT.pl_value (v := ?_) rfl rfl rfl ?_ ?_; rotate_left 1; (focus (intro w' hk; go_simp; (first | done | with_reducible rfl | exact rfl))); (try simp only [Act.put, List.setIfInBounds_toArray, List.set_cons_zero, List.set_cons_succ])) | (refine RT.pl_skip rfl rfl ?_; (try simp only [Act.put, List.setIfInBounds_toArray, List.set_cons_zero, List.set_cons_succ])))
        (first | (refine RT.pl_value (v := ?_) rfl rfl rfl ?_ ?_; rotate_left 1; (focus (intro w' hk; go_simp; (first | done | with_reducible rfl | exact rfl))); (try simp only [Act.put, List.setIfInBounds_toArray, List.set_cons_zero, List.set_cons_succ])) | (refine RT.pl_skip rfl rfl ?_; (try simp only [Act.put, List.setIfInBounds_toArray, List.set_cons_zero, List.set_cons_succ])))
        (first | (refine RT.pl_value (v := ?_) rfl rfl rfl ?_ ?_; rotate_left 1; (focus (intro w' hk; go_simp; (first | done | with_reducible rfl | exact rfl))); (try simp only [Act.put, List.setIfInBounds_toArray, List.set_cons_zero, List.set_cons_succ])) | (refine RT.pl_skip rfl rfl ?_; (try simp only [Act.put, List.setIfInBounds_toArray, List.set_cons_zero, List.set_cons_succ])))
        (first | (refine RT.pl_value (v := ?_) rfl rfl rfl ?_ ?_; rotate_left 1; (focus (intro w' hk; go_simp; (first | done | with_reducible rfl | exact rfl))); (try simp only [Act.put, List.setIfInBounds_toArray, List.set_cons_zero, List.set_cons_succ])) | (refine RT.pl_skip rfl rfl ?_; (try simp only [Act.put, List.setIfInBounds_toArray, List.set_cons_zero, List.set_cons_succ])))
        (first | (refine RT.pl_value (v := ?_) rfl rfl rfl ?_ ?_; rotate_left 1; (focus (intro w' hk; go_simp; (first | done | with_reducible rfl | exact rfl))); (try simp only [Act.put, List.setIfInBounds_toArray, List.set_cons_zero, List.set_cons_succ])) | (refine RT.pl_skip rfl rfl ?_; (try simp only [Act.put, List.setIfInBounds_toArray, List.set_cons_zero, List.set_cons_succ])))
        (first | (refine RT.pl_value (v := ?_) rfl rfl rfl ?_ ?_; rotate_left 1; (focus (intro w' hk; go_simp; (first | done | with_reducible rfl | exact rfl))); (try simp only [Act.put, List.setIfInBounds_toArray, List.set_cons_zero, List.set_cons_succ])) | (refine RT.pl_skip rfl rfl ?_; (try simp only [Act.put, List.setIfInBounds_toArray, List.set_cons_zero, List.set_cons_succ])))
        (first | (refine RT.pl_late (v := ?_) rfl rfl ?_ ?_; rotate_left 1; (focus (intro w' hk; go_simp; (first | done | with_reducible rfl | exact rfl))); (try simp only [Act.put, List.setIfInBounds_toArray, List.set_cons_zero, List.set_cons_succ])) | (refine RT.pl_skip rfl rfl ?_; (try simp only [Act.put, List.setIfInBounds_toArray, List.set_cons_zero, List.set_cons_succ])))
        (first | (refine RT.pl_late (v := ?_) rfl rfl ?_ ?_; rotate_left 1; (focus (intro w' hk; have k5 := (hk.cell (lt_of_cell q3) (fun h => absurd (show gs = w.heap.size + 2 from h) (by omega))).trans q3; have k7 := (hk.cell (lt_of_cell s0) (fun h => absurd (show w.heap.size + 1 = w.heap.size + 2 from h) (by omega))).trans s0; go_simp; (first | done | with_reducible rfl | exact rfl))); (try simp only [Act.put, List.setIfInBounds_toArray, List.set_cons_zero, List.set_cons_succ])) | (refine RT.pl_skip rfl rfl ?_; (try simp only [Act.put, List.setIfInBounds_toArray, List.set_cons_zero, List.set_cons_succ])))
        (first | (refine RT.pl_late (v := ?_) rfl rfl ?_ ?_; rotate_left 1; (focus (intro w' hk; go_simp; (first | done | with_reducible rfl | exact rfl))); (try simp only [Act.put, List.setIfInBounds_toArray, List.set_cons_zero, List.set_cons_succ])) | (refine RT.pl_skip rfl rfl ?_; (try simp only [Act.put, List.setIfInBounds_toArray, List.set_cons_zero, List.set_cons_succ])))
        (first | (refine RT.pl_late (v := ?_) rfl rfl ?_ ?_; rotate_left 1; (focus (intro w' hk; have k5 := (hk.cell (lt_of_cell q3) (fun h => absurd (show gs = w.heap.size + 2 from h) (by omega))).trans q3; have k7 := (hk.cell (lt_of_cell s0) (fun h => absurd (show w.heap.size + 1 = w.heap.size + 2 from h) (by omega))).trans s0; go_simp; (first | done | with_reducible rfl | exact rfl))); (try simp only [Act.put, List.setIfInBounds_toArray, List.set_cons_zero, List.set_cons_succ])) | (refine RT.pl_skip rfl rfl ?_; (try simp only [Act.put, List.setIfInBounds_toArray, List.set_cons_zero, List.set_cons_succ])))
        (first | (refine RT.pl_late (v := ?_) rfl rfl ?_ ?_; rotate_left 1; (focus (intro w' hk; go_simp; (first | done | with_reducible rfl | exact rfl))); (try simp only [Act.put, List.setIfInBounds_toArray, List.set_cons_zero, List.set_cons_succ])) | (refine RT.pl_skip rfl rfl ?_; (try simp only [Act.put, List.setIfInBounds_toArray, List.set_cons_zero, List.set_cons_succ])))
        (first | (refine RT.pl_late (v := ?_) rfl rfl ?_ ?_; rotate_left 1; (focus (intro w' hk; go_simp; (first | done | with_reducible rfl | exact rfl))); (try simp only [Act.put, List.setIfInBounds_toArray, List.set_cons_zero, List.set_cons_succ])) | (refine RT.pl_skip rfl rfl ?_; (try simp only [Act.put, List.setIfInBounds_toArray, List.set_cons_zero, List.set_cons_succ])))
        refine RT.pl_nil ⟨rfl, RT.stores_block 37 (.tmp 4) (.tmp 41) rfl rfl rfl b2 (by kernel_rfl) rfl (by simp [Value.oneCell']), ?_⟩
        rintro w5 ⟨hk5, b5⟩
        simp only [List.drop_succ_cons, List.drop_zero]
        replace vB := vB.trans (hk5.below vB.size (fun g hg => by omega))
        go_wp2_with fail
        refine bodyPost_ret (results_cell_tmp2 rfl _ _ _ _ _ _ _ (by rfl) b5 Tryz.underlying37 rfl (by kernel_rfl)) rfl ⟨?_, vB⟩
        rw [HE.out, HA.out]
        rfl
    · have hb1 : ((n : Int) == (len : Int)) = false := by rw [beq_eq_false_iff_ne]; omega
      have HA := Lib.hid (HA1.out.trans (show _ = false from by rw [decide_eq_false h1, Bool.false_and]))
      clear HA1 h1 hE2
      go_wp2_with fail
      generalize w3.alloc _ = W3 at *
      refine RT.wp_letter (fun k => k = w.heap.size + 2) (fun k => decide (14 ≤ k)) (List.range 20) 20 21 (RT.Stored W3 (w.heap.size + 2) (flashC g.a g.b g.e0 g.e1 g.li) 37) rfl (by kernel_rfl) (by kernel_rfl) rfl (fun A B h hk => h.keep hk) ?_
      rw [show List.range 20 = [0, 1, 2, 3, 4, 5, 6, 7, 8, 9, 10, 11, 12, 13, 14, 15, 16, 17, 18, 19] from rfl]
      (first | (refine RT.pl_value (v := ?_) rfl rfl rfl ?_ ?_; rotate_left 1; (focus (intro w' hk; have k0 := look hk e0; have k1 := look hk e1; have k2 := look hk e2; have k3 := look hk e3; have k4 := look hk e4; go_simp; (first | done | with_reducible rfl | exact rfl))); (try simp only [Act.put, List.setIfInBounds_toArray, List.set_cons_zero, List.set_cons_succ])) | (refine RT.pl_skip rfl rfl ?_; (try simp only [Act.put, List.setIfInBounds_toArray, List.set_cons_zero, List.set_cons_succ])))
      (first | (refine RT.pl_value (v := ?_) rfl rfl rfl ?_ ?_; rotate_left 1; (focus (intro w' hk; go_simp; (first | done | with_reducible rfl | exact rfl))); (try simp only [Act.put, List.setIfInBounds_toArray, List.set_cons_zero, List.set_cons_succ])) | (refine RT.pl_skip rfl rfl ?_; (try simp only [Act.put, List.setIfInBounds_toArray, List.set_cons_zero, List.set_cons_succ])))
      (first | (refine RT.pl_value (v := ?_) rfl rfl rfl ?_ ?_; rotate_left 1; (focus (intro w' hk; go_simp; (first | done | with_reducible rfl | exact rfl))); (try simp only [Act.put, List.setIfInBounds_toArray, List.set_cons_zero, List.set_cons_succ])) | (refine RT.pl_skip rfl rfl ?_; (try simp only [Act.put, List.setIfInBounds_toArray, List.set_cons_zero, List.set_cons_succ])))
      (first | (refine RT.pl_value (v := ?_) rfl rfl rfl ?_ ?_; rotate_left 1; (focus (intro w' hk; go_simp; (first | done | with_reducible rfl | exact rfl))); (try simp only [Act.put, List.setIfInBounds_toArray, List.set_cons_zero, List.set_cons_succ])) | (refine RT.pl_skip rfl rfl ?_; (try simp only [Act.put, List.setIfInBounds_toArray, List.set_cons_zero, List.set_cons_succ])))
      (first | (refine RT.pl_value (v := ?_) rfl rfl rfl ?_ ?_; rotate_left 1; (focus (intro w' hk; go_simp; (first | done | with_reducible rfl | exact rfl))); (try simp only [Act.put, List.setIfInBounds_toArray, List.set_cons_zero, List.set_cons_succ])) | (refine RT.pl_skip rfl rfl ?_; (try simp only [Act.put, List.setIfInBounds_toArray, List.set_cons_zero, List.set_cons_succ])))
      (first | (refine RT.pl_value (v := ?_) rfl rfl rfl ?_ ?_; rotate_left 1; (focus (intro w' hk; go_simp; (first | done | with_reducible rfl | exact rfl))); (try simp only [Act.put, List.setIfInBounds_toArray, List.set_cons_zero, List.set_cons_succ])) | (refine RT.pl_skip rfl rfl ?_; (try simp only [Act.put, List.setIfInBounds_toArray, List.set_cons_zero, List.set_cons_succ])))
      (first | (refine RT.pl_value (v := ?_) rfl rfl rfl ?_ ?_; rotate_left 1; (focus (intro w' hk; go_simp; (first | done | with_reducible rfl | exact rfl))); (try simp only [Act.put, List.setIfInBounds_toArray, List.set_cons_zero, List.set_cons_succ])) | (refine RT.pl_skip rfl rfl ?_; (try simp only [Act.put, List.setIfInBounds_toArray, List.set_cons_zero, List.set_cons_succ])))
      (first | (refine RT.pl_value (v := ?_) rfl rfl rfl ?_ ?_; rotate_left 1; (focus (intro w' hk; go_simp; (first | done | with_reducible rfl | exact rfl))); (try simp only [Act.put, List.setIfInBounds_toArray, List.set_cons_zero, List.set_cons_succ])) | (refine RT.pl_skip rfl rfl ?_; (try simp only [Act.put, List.setIfInBounds_toArray, List.set_cons_zero, List.set_cons_succ])))
      (first | (refine RT.pl_value (v := ?_) rfl rfl rfl ?_ ?_; rotate_left 1; (focus (intro w' hk; go_simp; (first | done | with_reducible rfl | exact rfl))); (try simp only [Act.put, List.setIfInBounds_toArray, List.set_cons_zero, List.set_cons_succ])) | (refine RT.pl_skip rfl rfl ?_; (try simp only [Act.put, List.setIfInBounds_toArray, List.set_cons_zero, List.set_cons_succ])))
      (first | (refine RT.pl_value (v := ?_) rfl rfl rfl ?_ ?_; rotate_left 1; (focus (intro w' hk; go_simp; (first | done | with_reducible rfl | exact rfl))); (try simp only [Act.put, List.setIfInBounds_toArray, List.set_cons_zero, List.set_cons_succ])) | (refine RT.pl_skip rfl rfl ?_; (try simp only [Act.put, List.setIfInBounds_toArray, List.set_cons_zero, List.set_cons_succ])))
      (first | (refine RT.pl_value (v := ?_) rfl rfl rfl ?_ ?_; rotate_left 1; (focus (intro w' hk; go_simp; (first | done | with_reducible rfl | exact rfl))); (try simp only [Act.put, List.setIfInBounds_toArray, List.set_cons_zero, List.set_cons_succ])) | (refine RT.pl_skip rfl rfl ?_; (try simp only [Act.put, List.setIfInBounds_toArray, List.set_cons_zero, List.set_cons_succ])))
      (first | (refine RT.pl_value (v := ?_) rfl rfl rfl ?_ ?_; rotate_left 1; (focus (intro w' hk; go_simp; (first | done | with_reducible rfl | exact rfl))); (try simp only [Act.put, List.setIfInBounds_toArray, List.set_cons_zero, List.set_cons_succ])) | (refine RT.pl_skip rfl rfl ?_; (try simp only [Act.put, List.setIfInBounds_toArray, List.set_cons_zero, List.set_cons_succ])))
      (first | (refine RT.pl_value (v := ?_) rfl rfl rfl ?_ ?_; rotate_left 1; (focus (intro w' hk; go_simp; (first | done | with_reducible rfl | exact rfl))); (try simp only [Act.put, List.setIfInBounds_toArray, List.set_cons_zero, List.set_cons_succ])) | (refine RT.pl_skip rfl rfl ?_; (try simp only [Act.put, List.setIfInBounds_toArray, List.set_cons_zero, List.set_cons_succ])))
      (first | (refine RT.pl_value (v := ?_) rfl rfl rfl ?_ ?_; rotate_left 1; (focus (intro w' hk; go_simp; (first | done | with_reducible rfl | exact rfl))); (try simp only [Act.put, List.setIfInBounds_toArray, List.set_cons_zero, List.set_cons_succ])) | (refine RT.pl_skip rfl rfl ?_; (try simp only [Act.put, List.setIfInBounds_toArray, List.set_cons_zero, List.set_cons_succ])))
      (first | (refine RT.pl_late (v := ?_) rfl rfl ?_ ?_; rotate_left 1; (focus (intro w' hk; go_simp; (first | done | with_reducible rfl | exact rfl))); (try simp only [Act.put, List.setIfInBounds_toArray, List.set_cons_zero, List.set_cons_succ])) | (refine RT.pl_skip rfl rfl ?_; (try simp only [Act.put, List.setIfInBounds_toArray, List.set_cons_zero, List.set_cons_succ])))
      (first | (refine RT.pl_late (v := ?_) rfl rfl ?_ ?_; rotate_left 1; (focus (intro w' hk; have k5 := (hk.cell (lt_of_cell q3) (fun h => absurd (show gs = w.heap.size + 2 from h) (by omega))).trans q3; have k7 := (hk.cell (lt_of_cell s0) (fun h => absurd (show w.heap.size + 1 = w.heap.size + 2 from h) (by omega))).trans s0; go_simp; (first | done | with_reducible rfl | exact rfl))); (try simp only [Act.put, List.setIfInBounds_toArray, List.set_cons_zero, List.set_cons_succ])) | (refine RT.pl_skip rfl rfl ?_; (try simp only [Act.put, List.setIfInBounds_toArray, List.set_cons_zero, List.set_cons_succ])))
      (first | (refine RT.pl_late (v := ?_) rfl rfl ?_ ?_; rotate_left 1; (focus (intro w' hk; go_simp; (first | done | with_reducible rfl | exact rfl))); (try simp only [Act.put, List.setIfInBounds_toArray, List.set_cons_zero, List.set_cons_succ])) | (refine RT.pl_skip rfl rfl ?_; (try simp only [Act.put, List.setIfInBounds_toArray, List.set_cons_zero, List.set_cons_succ])))
      (first | (refine RT.pl_late (v := ?_) rfl rfl ?_ ?_; rotate_left 1; (focus (intro w' hk; have k5 := (hk.cell (lt_of_cell q3) (fun h => absurd (show gs = w.heap.size + 2 from h) (by omega))).trans q3; have k7 := (hk.cell (lt_of_cell s0) (fun h => absurd (show w.heap.size + 1 = w.heap.size + 2 from h) (by omega))).trans s0; go_simp; (first | done | with_reducible rfl | exact rfl))); (try simp only [Act.put, List.setIfInBounds_toArray, List.set_cons_zero, List.set_cons_succ])) | (refine RT.pl_skip rfl rfl ?_; (try simp only [Act.put, List.setIfInBounds_toArray, List.set_cons_zero, List.set_cons_succ])))
      (first | (refine RT.pl_late (v := ?_) rfl rfl ?_ ?_; rotate_left 1; (focus (intro w' hk; go_simp; (first | done | with_reducible rfl | exact rfl))); (try simp only [Act.put, List.setIfInBounds_toArray, List.set_cons_zero, List.set_cons_succ])) | (refine RT.pl_skip rfl rfl ?_; (try simp only [Act.put, List.setIfInBounds_toArray, List.set_cons_zero, List.set_cons_succ])))
      (first | (refine RT.pl_late (v := ?_) rfl rfl ?_ ?_; rotate_left 1; (focus (intro w' hk; go_simp; (first | done | with_reducible rfl | exact rfl))); (try simp only [Act.put, List.setIfInBounds_toArray, List.set_cons_zero, List.set_cons_succ])) | (refine RT.pl_skip rfl rfl ?_; (try simp only [Act.put, List.setIfInBounds_toArray, List.set_cons_zero, List.set_cons_succ])))
      refine RT.pl_nil ⟨rfl, RT.stores_block 37 (.tmp 4) (.tmp 41) rfl rfl rfl b2 (by kernel_rfl) rfl (by simp [Value.oneCell']), ?_⟩
      rintro w5 ⟨hk5, b5⟩
      simp only [List.drop_succ_cons, List.drop_zero]
      replace vB := vB.trans (hk5.below vB.size (fun g hg => by omega))
      go_wp2_with fail
      refine bodyPost_ret (results_cell_tmp2 rfl _ _ _ _ _ _ _ (by rfl) b5 Tryz.underlying37 rfl (by kernel_rfl)) rfl ⟨?_, vB⟩
      rw [HE.out, HA.out]
      rfl
  · have hneb : ((Dw.plan f data).2 == 0) = false := by rw [beq_eq_false_iff_ne]; exact hpe
    obtain ⟨sl, cp, rfl⟩ := rpl_len own
    have HE := Lib.hid (show putV f ⟨data, cut, m⟩ = .tuple #[flV f, .bool false, .int .i64 (Dw.plan f data).2] from if_neg hpe)
    have HB2 := Lib.hid b2
    clear own b0 b1 b2
    generalize (Dw.plan f data).2 = er at *
    generalize (Dw.plan f data).1.length = ln at *
    go_wp2_with (first | (refine wpList_store_block rfl 37 (.tmp 4) (.tmp 23) rfl rfl rfl HB2.out (by kernel_rfl) rfl (by simp [Value.oneCell']) ?_))
    refine bodyPost_ret (results_cell_tmp2 rfl _ _ _ _ _ _ _ (by rfl) (setRow_heap _ _ _ _ _ _ HB2.out) Tryz.underlying37 rfl (by kernel_rfl)) rfl ⟨?_, below_setRow vB (by omega) _⟩
    rw [HE.out]
    rfl
end Go.Proofs.YtaniehjhmjecjaaGreatDoor
