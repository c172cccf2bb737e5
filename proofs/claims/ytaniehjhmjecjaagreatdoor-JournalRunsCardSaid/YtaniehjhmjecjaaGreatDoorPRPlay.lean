/- Layer 4: the reference's Play. -/
import Derived.Test.YtaniehjhmjecjaaGreatDoorPRPower
import Derived.Test.YtaniehjhmjecjaaGreatDoorPRegionU
import Derived.Test.YtaniehjhmjecjaaGreatDoorP16
import Derived.Test.YtaniehjhmjecjaaGreatDoorP9
namespace Go.Proofs.YtaniehjhmjecjaaGreatDoor
open Go.RowKit Go.Shelf
attribute [local go_sem] Oper.semAt_some

set_option maxRecDepth 100000 in
set_option maxHeartbeats 4000000 in
theorem rplay_any (f : Dw.Fl) (hf : Dw.FlOk f) (ops : List Dw.Op) (hn : ops.length ≤ 1000) (ho : Dw.OpsOk f ops) (v : Value) (cut : Int) (m : List UInt8) (hm : m.length ≤ 100000) (w : World) (hv : OpsAt w v ops) :
    Calls Tryz.prog 14 #[flV f, v, .int .i64 cut, .string ⟨m.toArray⟩] w fun e w' => e = .returned (.tuple #[flV (Dw.playL f ops 0 cut m).1, .int .i64 ((Dw.playL f ops 0 cut m).2 : Nat), .int .i64 0]) ∧ Below w.heap.size w w' := by
  obtain ⟨b, cap, c, t, fr, rfl, hb, hc⟩ := hv
  have hbl := block_lt hb
  have hA0 := heap_alloc2_old w (.cells (flashC f.a f.b f.e0 f.e1 f.li) 37) (.cells (flashC [] [] 0 0 0) 37)
  have hO0 := heap_alloc2_new w (.cells (flashC f.a f.b f.e0 f.e1 f.li) 37) (.cells (flashC [] [] 0 0 0) 37)
  have hB0 := ((Below.refl w.heap.size w).alloc (Nat.le_refl _) (.cells (flashC f.a f.b f.e0 f.e1 f.li) 37)).alloc (by simp) (.cells (flashC [] [] 0 0 0) 37)
  have HBK := Lib.hid hb; have HC := Lib.hid hc; have HM := Lib.hid hm
  clear hb hc hm
  go_enter Tryz.func14, Tryz.ntmps14
  go_wp2_with fail
  go_loopw [11] (fun i wr => ∃ (k : Nat) (g : Dw.Fl), k ≤ ops.length ∧ i = .int .i64 k ∧ Dw.FlOk g ∧ Dw.OpsOk g (ops.drop k) ∧ Dw.playL g (ops.drop k) k cut m = Dw.playL f ops 0 cut m ∧ wr.heap[w.heap.size]? = some (.cells (flashC g.a g.b g.e0 g.e1 g.li) 37 (0, 0)) ∧ wr.heap[w.heap.size + 1]? = some (.cells (flashC [] [] 0 0 0) 37 (0, 0)) ∧ Below w.heap.size w wr) (fun i _ => ops.length - (intOf i).toNat)
  case atStart => exact ⟨0, f, Nat.zero_le _, rfl, hf, ho, rfl, hA0, hO0, hB0⟩
  case round =>
    clear hA0 hO0 hB0 ho hf
    obtain ⟨k, g, hk, rfl, hg, hok, heq, hF, hO, hB⟩ := hrel
    have HEQ := Lib.hid heq
    clear heq
    have hBs := hB.size
    by_cases hlt : k < ops.length
    · obtain ⟨o, hoe⟩ : ∃ o, ops[k]? = some o := ⟨ops[k], List.getElem?_eq_getElem hlt⟩
      have hdrop : ops.drop k = o :: ops.drop (k + 1) := by
        rw [List.drop_eq_getElem_cons hlt]
        congr 1
        rw [List.getElem?_eq_getElem hlt] at hoe
        exact Option.some.inj hoe
      have hbk : wr.heap[b]? = some (.cells c t fr) := (hB.block _ hbl).trans HBK.out
      obtain ⟨q0, q1, q2, q3⟩ := HC.out k o hoe
      have k0 := (cell_of_row _ _ (k * 4) _ _ _ hbk).trans q0
      have k1 := (cell_of_row _ _ (k * 4 + 1) _ _ _ hbk).trans q1
      have k2 := (cell_of_row _ _ (k * 4 + 2) _ _ _ hbk).trans q2
      have k3 := (cell_of_row _ _ (k * 4 + 3) _ _ _ hbk).trans q3
      rw [hdrop] at hok
      obtain ⟨hok1, hok2, hok3⟩ := hok
      have hlt' : (k : Int) < (ops.length : Int) := by omega
      obtain ⟨c0, c1, c2, c3, c4⟩ := cells5 hF
      by_cases hcut : (k : Int) = cut
      · have hcb : ((k : Int) == cut) = true := by rw [hcut, beq_self_eq_true]
        have hfin : Dw.playL f ops 0 cut m = (Dw.tearOp g o m, k) := by rw [← HEQ.out, hdrop, Dw.playL, if_pos hcut]
        have HD := Lib.hid (rtear_any g hg o hok1 m HM.out)
        generalize hg2 : Dw.tearOp g o m = g2 at *
        have HS := Lib.hid hfin; have HF := Lib.hid hF; have HO := Lib.hid hO; have HB := Lib.hid hB
        clear hfin hdrop hoe q0 q1 q2 q3 hg2 hok1 hok2 hok3 hcut hbk hF hO hB hg
        go_wp2_with fail
        refine RT.wp_letter2 (fun j => wr.heap.size ≤ j) (fun k => k == 9) (List.range 10) 10 11 12 (some 12) none (NewBlock wr #[.string ⟨#[]⟩, .string ⟨#[]⟩, .int .i64 0, .int .i64 0, .int .i64 0] 37) (fun v w2 w' => ∃ b, v = .pointer (some ⟨b, 0, none⟩) ∧ RT.Stored w2 b (flashC g2.a g2.b g2.e0 g2.e1 g2.li) 37 w') rfl rfl rfl rfl (by kernel_rfl) (by kernel_rfl) (by kernel_rfl) rfl (fun v w2 A B h hk => by obtain ⟨b, e, h⟩ := h; exact ⟨b, e, h.keep hk⟩) ?_
        rw [show List.range 10 = [0, 1, 2, 3, 4, 5, 6, 7, 8, 9] from rfl]
        (refine RT.pl_value (v := ?_) rfl rfl rfl ?_ ?_; rotate_left 1; (focus (intro w' hk; have x0 := look hk c0; have x1 := look hk c1; have x2 := look hk c2; have x3 := look hk c3; have x4 := look hk c4; have y0 := look hk k0; have y1 := look hk k1; have y2 := look hk k2; have y3 := look hk k3; go_simp; (first | done | with_reducible rfl | exact rfl))); (try simp only [Act.put, List.setIfInBounds_toArray, List.set_cons_zero, List.set_cons_succ]))
        (refine RT.pl_value (v := ?_) rfl rfl rfl ?_ ?_; rotate_left 1; (focus (intro w' hk; have x0 := look hk c0; have x1 := look hk c1; have x2 := look hk c2; have x3 := look hk c3; have x4 := look hk c4; have y0 := look hk k0; have y1 := look hk k1; have y2 := look hk k2; have y3 := look hk k3; go_simp; (first | done | with_reducible rfl | exact rfl))); (try simp only [Act.put, List.setIfInBounds_toArray, List.set_cons_zero, List.set_cons_succ]))
        (refine RT.pl_value (v := ?_) rfl rfl rfl ?_ ?_; rotate_left 1; (focus (intro w' hk; have x0 := look hk c0; have x1 := look hk c1; have x2 := look hk c2; have x3 := look hk c3; have x4 := look hk c4; have y0 := look hk k0; have y1 := look hk k1; have y2 := look hk k2; have y3 := look hk k3; go_simp; (first | done | with_reducible rfl | exact rfl))); (try simp only [Act.put, List.setIfInBounds_toArray, List.set_cons_zero, List.set_cons_succ]))
        (refine RT.pl_value (v := ?_) rfl rfl rfl ?_ ?_; rotate_left 1; (focus (intro w' hk; have x0 := look hk c0; have x1 := look hk c1; have x2 := look hk c2; have x3 := look hk c3; have x4 := look hk c4; have y0 := look hk k0; have y1 := look hk k1; have y2 := look hk k2; have y3 := look hk k3; go_simp; (first | done | with_reducible rfl | exact rfl))); (try simp only [Act.put, List.setIfInBounds_toArray, List.set_cons_zero, List.set_cons_succ]))
        (refine RT.pl_value (v := ?_) rfl rfl rfl ?_ ?_; rotate_left 1; (focus (intro w' hk; have x0 := look hk c0; have x1 := look hk c1; have x2 := look hk c2; have x3 := look hk c3; have x4 := look hk c4; have y0 := look hk k0; have y1 := look hk k1; have y2 := look hk k2; have y3 := look hk k3; go_simp; (first | done | with_reducible rfl | exact rfl))); (try simp only [Act.put, List.setIfInBounds_toArray, List.set_cons_zero, List.set_cons_succ]))
        (refine RT.pl_value (v := ?_) rfl rfl rfl ?_ ?_; rotate_left 1; (focus (intro w' hk; have x0 := look hk c0; have x1 := look hk c1; have x2 := look hk c2; have x3 := look hk c3; have x4 := look hk c4; have y0 := look hk k0; have y1 := look hk k1; have y2 := look hk k2; have y3 := look hk k3; go_simp; (first | done | with_reducible rfl | exact rfl))); (try simp only [Act.put, List.setIfInBounds_toArray, List.set_cons_zero, List.set_cons_succ]))
        (refine RT.pl_call (v := ?_) (f := ?_) (args := ?_) rfl rfl rfl ?_ ?_ ?_; rotate_left 3; (focus (intro w' hk; have x0 := look hk c0; have x1 := look hk c1; have x2 := look hk c2; have x3 := look hk c3; have x4 := look hk c4; have y0 := look hk k0; have y1 := look hk k1; have y2 := look hk k2; have y3 := look hk k3; go_simp; (first | done | (constructor <;> with_reducible rfl) | with_reducible rfl))); (focus (intro w' hk; exact HD.out w')); (try simp only [Act.put, List.setIfInBounds_toArray, List.set_cons_zero, List.set_cons_succ]))
        (refine RT.pl_value (v := ?_) rfl rfl rfl ?_ ?_; rotate_left 1; (focus (intro w' hk; have x0 := look hk c0; have x1 := look hk c1; have x2 := look hk c2; have x3 := look hk c3; have x4 := look hk c4; have y0 := look hk k0; have y1 := look hk k1; have y2 := look hk k2; have y3 := look hk k3; go_simp; (first | done | with_reducible rfl | exact rfl))); (try simp only [Act.put, List.setIfInBounds_toArray, List.set_cons_zero, List.set_cons_succ]))
        (refine RT.pl_value (v := ?_) rfl rfl rfl ?_ ?_; rotate_left 1; (focus (intro w' hk; have x0 := look hk c0; have x1 := look hk c1; have x2 := look hk c2; have x3 := look hk c3; have x4 := look hk c4; have y0 := look hk k0; have y1 := look hk k1; have y2 := look hk k2; have y3 := look hk k3; go_simp; (first | done | with_reducible rfl | exact rfl))); (try simp only [Act.put, List.setIfInBounds_toArray, List.set_cons_zero, List.set_cons_succ]))
        (refine RT.pl_late (v := ?_) rfl rfl ?_ ?_; rotate_left 1; (focus (intro w' _; go_simp; (first | done | with_reducible rfl | exact rfl))); (try simp only [Act.put, List.setIfInBounds_toArray, List.set_cons_zero, List.set_cons_succ]))
        refine RT.pl_nil ⟨rfl, sure_new (fun w' _ => by go_simp), ?_⟩
        rintro v W4 hk4 ⟨gy, rfl, hgy, hT0⟩
        refine ⟨rfl, RT.Stores.mono (fun k h => by rw [h]; exact hgy) (fun w' h => ⟨gy, rfl, h⟩) (RT.stores_block 37 _ _ rfl rfl rfl hT0 (by kernel_rfl) rfl (by simp [Value.oneCell'])), ?_⟩
        rintro W6 ⟨gy', hgy', hst⟩
        obtain rfl : gy = gy' := by injection hgy' with h; injection h with h; injection h with h
        obtain ⟨hk5, hY⟩ := hst
        clear hgy'
        simp only [List.drop_succ_cons, List.drop_zero, List.setIfInBounds_toArray, List.set_cons_zero, List.set_cons_succ]
        have hgo : w.heap.size + 1 < gy := by have := block_lt HO.out; omega
        have hO6 := (hk5.block _ (by have := block_lt ((hk4.block _ (block_lt HO.out) id).trans HO.out); exact this) (by omega)).trans ((hk4.block _ (block_lt HO.out) id).trans HO.out)
        have hB4 := HB.out.trans (hk4.whole.mono HB.out.size)
        have hB6 := hB4.trans (hk5.below hB4.size (fun g hg => by omega))
        have HO6 := Lib.hid hO6; have HB6 := Lib.hid hB6; have HY := Lib.hid hY
        clear hY hO6 hB6 hB4 hk5 hk4 hT0 c0 c1 c2 c3 c4 k0 k1 k2 k3 HD HF HO HB
        go_wp2_with (first | (refine wpList_load_block rfl 37 (.tmp 12) rfl rfl HY.out Tryz.underlying37 rfl (by kernel_rfl) ?_) | (refine wpList_store_block rfl 37 (.tmp 8) (.tmp 35) rfl rfl rfl HO6.out (by kernel_rfl) rfl (by simp [Value.oneCell']) ?_))
        refine bodyPost_ret (results_cell_tmp2 rfl _ _ _ _ _ _ _ (by rfl) (setRow_heap _ _ _ _ _ _ HO6.out) Tryz.underlying37 rfl (by kernel_rfl)) rfl ⟨?_, below_setRow HB6.out (by omega) _⟩
        rw [HS.out]
        rfl
      · have hcb : ((k : Int) == cut) = false := by simpa using hcut
        have hstep : Dw.playL (Dw.doOp g o) (ops.drop (k + 1)) (k + 1) cut m = Dw.playL f ops 0 cut m := by
          rw [← HEQ.out, hdrop]
          show _ = Dw.playL g (o :: ops.drop (k + 1)) k cut m
          rw [Dw.playL, if_neg hcut]
        have HD := Lib.hid (rdo_any g hg o hok1)
        generalize hg2 : Dw.doOp g o = g2 at *
        have HS := Lib.hid hstep; have HO2 := Lib.hid hok2; have HO3 := Lib.hid hok3; have HF := Lib.hid hF; have HO := Lib.hid hO; have HB := Lib.hid hB
        clear hstep hok2 hok3 hdrop hoe q0 q1 q2 q3 hg2 hok1 hbk hF hO hB hg hcut HEQ
        go_wp2_with fail
        refine RT.wp_letter2 (fun j => wr.heap.size ≤ j) (fun k => k == 8) (List.range 9) 9 10 11 (some 14) none (NewBlock wr #[.string ⟨#[]⟩, .string ⟨#[]⟩, .int .i64 0, .int .i64 0, .int .i64 0] 37) (fun v w2 w' => ∃ b, v = .pointer (some ⟨b, 0, none⟩) ∧ RT.Stored w2 b (flashC g2.a g2.b g2.e0 g2.e1 g2.li) 37 w') rfl rfl rfl rfl (by kernel_rfl) (by kernel_rfl) (by kernel_rfl) rfl (fun v w2 A B h hk => by obtain ⟨b, e, h⟩ := h; exact ⟨b, e, h.keep hk⟩) ?_
        rw [show List.range 9 = [0, 1, 2, 3, 4, 5, 6, 7, 8] from rfl]
        (refine RT.pl_value (v := ?_) rfl rfl rfl ?_ ?_; rotate_left 1; (focus (intro w' hk; have x0 := look hk c0; have x1 := look hk c1; have x2 := look hk c2; have x3 := look hk c3; have x4 := look hk c4; have y0 := look hk k0; have y1 := look hk k1; have y2 := look hk k2; have y3 := look hk k3; go_simp; (first | done | with_reducible rfl | exact rfl))); (try simp only [Act.put, List.setIfInBounds_toArray, List.set_cons_zero, List.set_cons_succ]))
        (refine RT.pl_value (v := ?_) rfl rfl rfl ?_ ?_; rotate_left 1; (focus (intro w' hk; have x0 := look hk c0; have x1 := look hk c1; have x2 := look hk c2; have x3 := look hk c3; have x4 := look hk c4; have y0 := look hk k0; have y1 := look hk k1; have y2 := look hk k2; have y3 := look hk k3; go_simp; (first | done | with_reducible rfl | exact rfl))); (try simp only [Act.put, List.setIfInBounds_toArray, List.set_cons_zero, List.set_cons_succ]))
        (refine RT.pl_value (v := ?_) rfl rfl rfl ?_ ?_; rotate_left 1; (focus (intro w' hk; have x0 := look hk c0; have x1 := look hk c1; have x2 := look hk c2; have x3 := look hk c3; have x4 := look hk c4; have y0 := look hk k0; have y1 := look hk k1; have y2 := look hk k2; have y3 := look hk k3; go_simp; (first | done | with_reducible rfl | exact rfl))); (try simp only [Act.put, List.setIfInBounds_toArray, List.set_cons_zero, List.set_cons_succ]))
        (refine RT.pl_value (v := ?_) rfl rfl rfl ?_ ?_; rotate_left 1; (focus (intro w' hk; have x0 := look hk c0; have x1 := look hk c1; have x2 := look hk c2; have x3 := look hk c3; have x4 := look hk c4; have y0 := look hk k0; have y1 := look hk k1; have y2 := look hk k2; have y3 := look hk k3; go_simp; (first | done | with_reducible rfl | exact rfl))); (try simp only [Act.put, List.setIfInBounds_toArray, List.set_cons_zero, List.set_cons_succ]))
        (refine RT.pl_value (v := ?_) rfl rfl rfl ?_ ?_; rotate_left 1; (focus (intro w' hk; have x0 := look hk c0; have x1 := look hk c1; have x2 := look hk c2; have x3 := look hk c3; have x4 := look hk c4; have y0 := look hk k0; have y1 := look hk k1; have y2 := look hk k2; have y3 := look hk k3; go_simp; (first | done | with_reducible rfl | exact rfl))); (try simp only [Act.put, List.setIfInBounds_toArray, List.set_cons_zero, List.set_cons_succ]))
        (refine RT.pl_call (v := ?_) (f := ?_) (args := ?_) rfl rfl rfl ?_ ?_ ?_; rotate_left 3; (focus (intro w' hk; have x0 := look hk c0; have x1 := look hk c1; have x2 := look hk c2; have x3 := look hk c3; have x4 := look hk c4; have y0 := look hk k0; have y1 := look hk k1; have y2 := look hk k2; have y3 := look hk k3; go_simp; (first | done | (constructor <;> with_reducible rfl) | with_reducible rfl))); (focus (intro w' hk; exact HD.out w')); (try simp only [Act.put, List.setIfInBounds_toArray, List.set_cons_zero, List.set_cons_succ]))
        (refine RT.pl_value (v := ?_) rfl rfl rfl ?_ ?_; rotate_left 1; (focus (intro w' hk; have x0 := look hk c0; have x1 := look hk c1; have x2 := look hk c2; have x3 := look hk c3; have x4 := look hk c4; have y0 := look hk k0; have y1 := look hk k1; have y2 := look hk k2; have y3 := look hk k3; go_simp; (first | done | with_reducible rfl | exact rfl))); (try simp only [Act.put, List.setIfInBounds_toArray, List.set_cons_zero, List.set_cons_succ]))
        (refine RT.pl_value (v := ?_) rfl rfl rfl ?_ ?_; rotate_left 1; (focus (intro w' hk; have x0 := look hk c0; have x1 := look hk c1; have x2 := look hk c2; have x3 := look hk c3; have x4 := look hk c4; have y0 := look hk k0; have y1 := look hk k1; have y2 := look hk k2; have y3 := look hk k3; go_simp; (first | done | with_reducible rfl | exact rfl))); (try simp only [Act.put, List.setIfInBounds_toArray, List.set_cons_zero, List.set_cons_succ]))
        (refine RT.pl_late (v := ?_) rfl rfl ?_ ?_; rotate_left 1; (focus (intro w' _; go_simp; (first | done | with_reducible rfl | exact rfl))); (try simp only [Act.put, List.setIfInBounds_toArray, List.set_cons_zero, List.set_cons_succ]))
        refine RT.pl_nil ⟨rfl, sure_new (fun w' _ => by go_simp), ?_⟩
        rintro v W4 hk4 ⟨gy, rfl, hgy, hT0⟩
        refine ⟨rfl, RT.Stores.mono (fun k h => by rw [h]; exact hgy) (fun w' h => ⟨gy, rfl, h⟩) (RT.stores_block 37 _ _ rfl rfl rfl hT0 (by kernel_rfl) rfl (by simp [Value.oneCell'])), ?_⟩
        rintro W6 ⟨gy', hgy', hst⟩
        obtain rfl : gy = gy' := by injection hgy' with h; injection h with h; injection h with h
        obtain ⟨hk5, hY⟩ := hst
        clear hgy'
        simp only [List.drop_succ_cons, List.drop_zero, List.setIfInBounds_toArray, List.set_cons_zero, List.set_cons_succ]
        have hgo : w.heap.size + 1 < gy := by have := block_lt HO.out; omega
        have hO6 := (hk5.block _ (by have := block_lt ((hk4.block _ (block_lt HO.out) id).trans HO.out); exact this) (by omega)).trans ((hk4.block _ (block_lt HO.out) id).trans HO.out)
        have hF6 := (hk5.block _ (by have := block_lt ((hk4.block _ (block_lt HF.out) id).trans HF.out); exact this) (by omega)).trans ((hk4.block _ (block_lt HF.out) id).trans HF.out)
        have hB4 := HB.out.trans (hk4.whole.mono HB.out.size)
        have hB6 := hB4.trans (hk5.below hB4.size (fun g hg => by omega))
        have HO6 := Lib.hid hO6; have HB6 := Lib.hid hB6; have HY := Lib.hid hY; have HF6 := Lib.hid hF6
        clear hY hO6 hB6 hF6 hB4 hk5 hk4 hT0 c0 c1 c2 c3 c4 k0 k1 k2 k3 HD HF HO HB
        have hF7 := setRow_heap W6 w.heap.size _ (flashC g2.a g2.b g2.e0 g2.e1 g2.li) _ _ HF6.out
        have hO7 := (setRow_other W6 w.heap.size (w.heap.size + 1) (flashC g2.a g2.b g2.e0 g2.e1 g2.li) (by omega)).trans HO6.out
        have hB7 := below_setRow HB6.out (Nat.le_refl _) (flashC g2.a g2.b g2.e0 g2.e1 g2.li)
        have HF7 := Lib.hid hF7; have HO7 := Lib.hid hO7; have HB7 := Lib.hid hB7
        clear hF7 hO7 hB7
        go_wp2_with (first | (refine wpList_load_block rfl 37 (.tmp 14) rfl rfl HY.out Tryz.underlying37 rfl (by kernel_rfl) ?_) | (refine wpList_store_block rfl 37 (.tmp 4) (.tmp 52) rfl rfl rfl HF6.out (by kernel_rfl) rfl (by simp [Value.oneCell']) ?_))
        go_roundw
        case rel => exact ⟨k + 1, g2, hlt, by go_num, HO2.out, HO3.out, HS.out, HF7.out, HO7.out, HB7.out⟩
        case measure => simp [intOf]; omega
    · obtain rfl : k = ops.length := by omega
      have hge : ¬ (ops.length : Int) < (ops.length : Int) := by omega
      have HF := Lib.hid hF; have HO := Lib.hid hO; have HB := Lib.hid hB
      clear hF hO hB hok hg
      go_wp2_with (first | (refine wpList_load_block rfl 37 (.tmp 4) rfl rfl HF.out Tryz.underlying37 rfl (by kernel_rfl) ?_) | (refine wpList_store_block rfl 37 (.tmp 8) (.tmp 53) rfl rfl rfl HO.out (by kernel_rfl) rfl (by simp [Value.oneCell']) ?_))
      refine bodyPost_ret (results_cell_tmp2 rfl _ _ _ _ _ _ _ (by rfl) (setRow_heap _ _ _ _ _ _ HO.out) Tryz.underlying37 rfl (by kernel_rfl)) rfl ⟨?_, below_setRow HB.out (by omega) _⟩
      rw [← HEQ.out, List.drop_length]
      rfl
end Go.Proofs.YtaniehjhmjecjaaGreatDoor
