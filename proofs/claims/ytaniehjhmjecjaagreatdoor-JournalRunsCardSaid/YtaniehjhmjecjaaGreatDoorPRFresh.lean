/- Layer 11: the reference's Fresh, fresh. -/
import Derived.Test.YtaniehjhmjecjaaGreatDoorPRPlan
import Derived.Test.YtaniehjhmjecjaaGreatDoorP18
namespace Go.Proofs.YtaniehjhmjecjaaGreatDoor
open Go.RowKit Go.Shelf
attribute [local go_sem] Oper.semAt_some

set_option maxRecDepth 100000 in
set_option maxHeartbeats 2000000 in
theorem rfreshT (b g q d : Nat) (hg : g < 18446744073709551616) (hq : q < 18446744073709551616) (hd : d < 18446744073709551616) (w : World) :
    Calls Tryz.prog 100 #[.int .i64 b, .bool true, .int .u64 g, .int .u64 q, .int .u64 d] w fun e w' => (∃ v, e = .returned v ∧ ROps w' v (Dw.freshOps b true g q d)) ∧ Below w.heap.size w w' := by
  have H3 := Lib.hid (fun w => rbody_any 3 q d (by decide) hq hd w)
  have H1 := Lib.hid (fun w => rbody_any 1 g 0 (by decide) hg (by decide) w)
  clear hg hq hd
  go_enter Tryz.func100, Tryz.ntmps100
  go_wp2_with fail
  refine wp_letterM [0, 4, 5, 6, 7, 8, 9, 10, 11, 12, 13, 14, 15, 16, 17, 18, 19, 20, 21, 22] 1 [2, 3] 23 (some 13) (NewRow w #[.int .u8 0, .int .u8 0] 5) rfl rfl (by kernel_rfl) (by kernel_rfl) (by kernel_rfl) rfl (fun v A B h hk => h.keep hk) ?_
  (refine pl_value (v := ?_) rfl rfl ?_ ?_; rotate_left 1; (focus (intro w' hk; go_simp; (first | done | with_reducible rfl | exact rfl))); (try simp only [Act.put, List.setIfInBounds_toArray, List.set_cons_zero, List.set_cons_succ]))
  (refine pl_value (v := ?_) rfl rfl ?_ ?_; rotate_left 1; (focus (intro w' hk; go_simp; (first | done | with_reducible rfl | exact rfl))); (try simp only [Act.put, List.setIfInBounds_toArray, List.set_cons_zero, List.set_cons_succ]))
  (refine pl_value (v := ?_) rfl rfl ?_ ?_; rotate_left 1; (focus (intro w' hk; go_simp; (first | done | with_reducible rfl | exact rfl))); (try simp only [Act.put, List.setIfInBounds_toArray, List.set_cons_zero, List.set_cons_succ]))
  (refine pl_value (v := ?_) rfl rfl ?_ ?_; rotate_left 1; (focus (intro w' hk; go_simp; (first | done | with_reducible rfl | exact rfl))); (try simp only [Act.put, List.setIfInBounds_toArray, List.set_cons_zero, List.set_cons_succ]))
  (refine pl_value (v := ?_) rfl rfl ?_ ?_; rotate_left 1; (focus (intro w' hk; go_simp; (first | done | with_reducible rfl | exact rfl))); (try simp only [Act.put, List.setIfInBounds_toArray, List.set_cons_zero, List.set_cons_succ]))
  (refine pl_value (v := ?_) rfl rfl ?_ ?_; rotate_left 1; (focus (intro w' hk; go_simp; (first | done | with_reducible rfl | exact rfl))); (try simp only [Act.put, List.setIfInBounds_toArray, List.set_cons_zero, List.set_cons_succ]))
  (refine pl_value (v := ?_) rfl rfl ?_ ?_; rotate_left 1; (focus (intro w' hk; go_simp; (first | done | with_reducible rfl | exact rfl))); (try simp only [Act.put, List.setIfInBounds_toArray, List.set_cons_zero, List.set_cons_succ]))
  (refine pl_call (v := ?_) (f := ?_) (args := ?_) rfl rfl ?_ ?_ ?_; rotate_left 3; (focus (intro w' hk; go_simp; (first | done | (constructor <;> with_reducible rfl) | with_reducible rfl))); (focus (intro w' hk; exact H3.out w')); (try simp only [Act.put, List.setIfInBounds_toArray, List.set_cons_zero, List.set_cons_succ]))
  (refine pl_value (v := ?_) rfl rfl ?_ ?_; rotate_left 1; (focus (intro w' hk; go_simp; (first | done | with_reducible rfl | exact rfl))); (try simp only [Act.put, List.setIfInBounds_toArray, List.set_cons_zero, List.set_cons_succ]))
  (refine pl_value (v := ?_) rfl rfl ?_ ?_; rotate_left 1; (focus (intro w' hk; go_simp; (first | done | with_reducible rfl | exact rfl))); (try simp only [Act.put, List.setIfInBounds_toArray, List.set_cons_zero, List.set_cons_succ]))
  (refine pl_call (v := ?_) (f := ?_) (args := ?_) rfl rfl ?_ ?_ ?_; rotate_left 3; (focus (intro w' hk; go_simp; (first | done | (constructor <;> with_reducible rfl) | with_reducible rfl))); (focus (intro w' hk; exact rmark_any w')); (try simp only [Act.put, List.setIfInBounds_toArray, List.set_cons_zero, List.set_cons_succ]))
  (refine pl_value (v := ?_) rfl rfl ?_ ?_; rotate_left 1; (focus (intro w' hk; go_simp; (first | done | with_reducible rfl | exact rfl))); (try simp only [Act.put, List.setIfInBounds_toArray, List.set_cons_zero, List.set_cons_succ]))
  (refine pl_value (v := ?_) rfl rfl ?_ ?_; rotate_left 1; (focus (intro w' hk; go_simp; (first | done | with_reducible rfl | exact rfl))); (try simp only [Act.put, List.setIfInBounds_toArray, List.set_cons_zero, List.set_cons_succ]))
  (refine pl_value (v := ?_) rfl rfl ?_ ?_; rotate_left 1; (focus (intro w' hk; go_simp; (first | done | with_reducible rfl | exact rfl))); (try simp only [Act.put, List.setIfInBounds_toArray, List.set_cons_zero, List.set_cons_succ]))
  (refine pl_value (v := ?_) rfl rfl ?_ ?_; rotate_left 1; (focus (intro w' hk; go_simp; (first | done | with_reducible rfl | exact rfl))); (try simp only [Act.put, List.setIfInBounds_toArray, List.set_cons_zero, List.set_cons_succ]))
  (refine pl_call (v := ?_) (f := ?_) (args := ?_) rfl rfl ?_ ?_ ?_; rotate_left 3; (focus (intro w' hk; go_simp; (first | done | (constructor <;> with_reducible rfl) | with_reducible rfl))); (focus (intro w' hk; exact H1.out w')); (try simp only [Act.put, List.setIfInBounds_toArray, List.set_cons_zero, List.set_cons_succ]))
  (refine pl_value (v := ?_) rfl rfl ?_ ?_; rotate_left 1; (focus (intro w' hk; go_simp; (first | done | with_reducible rfl | exact rfl))); (try simp only [Act.put, List.setIfInBounds_toArray, List.set_cons_zero, List.set_cons_succ]))
  (refine pl_value (v := ?_) rfl rfl ?_ ?_; rotate_left 1; (focus (intro w' hk; go_simp; (first | done | with_reducible rfl | exact rfl))); (try simp only [Act.put, List.setIfInBounds_toArray, List.set_cons_zero, List.set_cons_succ]))
  (refine pl_call (v := ?_) (f := ?_) (args := ?_) rfl rfl ?_ ?_ ?_; rotate_left 3; (focus (intro w' hk; go_simp; (first | done | (constructor <;> with_reducible rfl) | with_reducible rfl))); (focus (intro w' hk; exact rmark_any w')); (try simp only [Act.put, List.setIfInBounds_toArray, List.set_cons_zero, List.set_cons_succ]))
  (refine pl_value (v := ?_) rfl rfl ?_ ?_; rotate_left 1; (focus (intro w' hk; go_simp; (first | done | with_reducible rfl | exact rfl))); (try simp only [Act.put, List.setIfInBounds_toArray, List.set_cons_zero, List.set_cons_succ]))
  refine pl_nil ?_
  refine ⟨rfl, sure_row (fun w' _ => by go_simp), ?_⟩
  rintro v W2 hk2 ⟨x, rfl, hx, hxc⟩
  simp only [List.setIfInBounds_toArray, List.set_cons_zero, List.set_cons_succ, List.size_toArray, List.length_cons, List.length_nil, Nat.zero_add]
  have kc : ∀ w', Keep W2 w' → (convert 125 9 (.slice (some ⟨x, 0, none⟩) 2 2)).run Tryz.prog w' = .ok (.string ⟨([0, 0] : List UInt8).toArray⟩) w' := fun w' hk' => by
    have hbc' := (hk'.block _ (block_lt hxc) id).trans hxc
    exact run_convert_bytes_back (P := Tryz.prog) w' 125 9 5 ⟨x, 0, none⟩ 2 [0, 0] Tryz.underlying125 Tryz.underlying5 Tryz.underlying9 (fun j hj => by
      rw [addr_add, cell_of_row _ _ j _ _ _ hbc']
      have hj2 : j < 2 := hj
      rcases (by omega : j = 0 ∨ j = 1) with rfl | rfl
      · rfl
      · rfl)
  have KC := Lib.hid kc
  clear kc
  (refine pl_value (v := ?_) rfl rfl ?_ ?_; rotate_left 1; (focus (intro w' hk; have kc' := KC.out w' hk; go_simp; (first | done | with_reducible rfl | exact rfl))); (try simp only [Act.put, List.setIfInBounds_toArray, List.set_cons_zero, List.set_cons_succ]))
  (refine pl_value (v := ?_) rfl rfl ?_ ?_; rotate_left 1; (focus (intro w' hk; go_simp; (first | done | with_reducible rfl | exact rfl))); (try simp only [Act.put, List.setIfInBounds_toArray, List.set_cons_zero, List.set_cons_succ]))
  refine pl_nil ?_
  intro w3 hk3 _
  simp only [List.drop_succ_cons, List.drop_zero]
  have hB := (hk2.trans hk3).whole
  have hC := heap_alloc_new w3 (.cells (opsCells ([] ++ (Dw.killOp b :: Dw.freshTail b g q d))).toArray 93)
  have hB2 := hB.alloc hB.size (.cells (opsCells ([] ++ (Dw.killOp b :: Dw.freshTail b g q d))).toArray 93)
  have HR := Lib.hid (fun cap => rops_of_cells (m := []) (l := Dw.killOp b :: Dw.freshTail b g q d) (cap := cap) hC)
  have HB := Lib.hid hB2
  clear hC hB2 hB hk2 hk3 hxc KC
  go_wp2_with fail
  go_ret
  exact ⟨⟨_, rfl, HR.out _⟩, HB.out⟩

set_option maxRecDepth 100000 in
set_option maxHeartbeats 2000000 in
theorem rfreshF (b g q d : Nat) (hg : g < 18446744073709551616) (hq : q < 18446744073709551616) (hd : d < 18446744073709551616) (w : World) :
    Calls Tryz.prog 100 #[.int .i64 b, .bool false, .int .u64 g, .int .u64 q, .int .u64 d] w fun e w' => (∃ v, e = .returned v ∧ ROps w' v (Dw.freshOps b false g q d)) ∧ Below w.heap.size w w' := by
  have H3 := Lib.hid (fun w => rbody_any 3 q d (by decide) hq hd w)
  have H1 := Lib.hid (fun w => rbody_any 1 g 0 (by decide) hg (by decide) w)
  clear hg hq hd
  go_enter Tryz.func100, Tryz.ntmps100
  go_wp2_with fail
  refine wp_letterM [0, 4, 5, 6, 7, 8, 9, 10, 11, 12, 13, 14, 15, 16, 17, 18, 19, 20, 21, 22] 1 [2, 3] 23 (some 13) (NewRow w #[.int .u8 0, .int .u8 0] 5) rfl rfl (by kernel_rfl) (by kernel_rfl) (by kernel_rfl) rfl (fun v A B h hk => h.keep hk) ?_
  (refine pl_value (v := ?_) rfl rfl ?_ ?_; rotate_left 1; (focus (intro w' hk; go_simp; (first | done | with_reducible rfl | exact rfl))); (try simp only [Act.put, List.setIfInBounds_toArray, List.set_cons_zero, List.set_cons_succ]))
  (refine pl_value (v := ?_) rfl rfl ?_ ?_; rotate_left 1; (focus (intro w' hk; go_simp; (first | done | with_reducible rfl | exact rfl))); (try simp only [Act.put, List.setIfInBounds_toArray, List.set_cons_zero, List.set_cons_succ]))
  (refine pl_value (v := ?_) rfl rfl ?_ ?_; rotate_left 1; (focus (intro w' hk; go_simp; (first | done | with_reducible rfl | exact rfl))); (try simp only [Act.put, List.setIfInBounds_toArray, List.set_cons_zero, List.set_cons_succ]))
  (refine pl_value (v := ?_) rfl rfl ?_ ?_; rotate_left 1; (focus (intro w' hk; go_simp; (first | done | with_reducible rfl | exact rfl))); (try simp only [Act.put, List.setIfInBounds_toArray, List.set_cons_zero, List.set_cons_succ]))
  (refine pl_value (v := ?_) rfl rfl ?_ ?_; rotate_left 1; (focus (intro w' hk; go_simp; (first | done | with_reducible rfl | exact rfl))); (try simp only [Act.put, List.setIfInBounds_toArray, List.set_cons_zero, List.set_cons_succ]))
  (refine pl_value (v := ?_) rfl rfl ?_ ?_; rotate_left 1; (focus (intro w' hk; go_simp; (first | done | with_reducible rfl | exact rfl))); (try simp only [Act.put, List.setIfInBounds_toArray, List.set_cons_zero, List.set_cons_succ]))
  (refine pl_value (v := ?_) rfl rfl ?_ ?_; rotate_left 1; (focus (intro w' hk; go_simp; (first | done | with_reducible rfl | exact rfl))); (try simp only [Act.put, List.setIfInBounds_toArray, List.set_cons_zero, List.set_cons_succ]))
  (refine pl_call (v := ?_) (f := ?_) (args := ?_) rfl rfl ?_ ?_ ?_; rotate_left 3; (focus (intro w' hk; go_simp; (first | done | (constructor <;> with_reducible rfl) | with_reducible rfl))); (focus (intro w' hk; exact H3.out w')); (try simp only [Act.put, List.setIfInBounds_toArray, List.set_cons_zero, List.set_cons_succ]))
  (refine pl_value (v := ?_) rfl rfl ?_ ?_; rotate_left 1; (focus (intro w' hk; go_simp; (first | done | with_reducible rfl | exact rfl))); (try simp only [Act.put, List.setIfInBounds_toArray, List.set_cons_zero, List.set_cons_succ]))
  (refine pl_value (v := ?_) rfl rfl ?_ ?_; rotate_left 1; (focus (intro w' hk; go_simp; (first | done | with_reducible rfl | exact rfl))); (try simp only [Act.put, List.setIfInBounds_toArray, List.set_cons_zero, List.set_cons_succ]))
  (refine pl_call (v := ?_) (f := ?_) (args := ?_) rfl rfl ?_ ?_ ?_; rotate_left 3; (focus (intro w' hk; go_simp; (first | done | (constructor <;> with_reducible rfl) | with_reducible rfl))); (focus (intro w' hk; exact rmark_any w')); (try simp only [Act.put, List.setIfInBounds_toArray, List.set_cons_zero, List.set_cons_succ]))
  (refine pl_value (v := ?_) rfl rfl ?_ ?_; rotate_left 1; (focus (intro w' hk; go_simp; (first | done | with_reducible rfl | exact rfl))); (try simp only [Act.put, List.setIfInBounds_toArray, List.set_cons_zero, List.set_cons_succ]))
  (refine pl_value (v := ?_) rfl rfl ?_ ?_; rotate_left 1; (focus (intro w' hk; go_simp; (first | done | with_reducible rfl | exact rfl))); (try simp only [Act.put, List.setIfInBounds_toArray, List.set_cons_zero, List.set_cons_succ]))
  (refine pl_value (v := ?_) rfl rfl ?_ ?_; rotate_left 1; (focus (intro w' hk; go_simp; (first | done | with_reducible rfl | exact rfl))); (try simp only [Act.put, List.setIfInBounds_toArray, List.set_cons_zero, List.set_cons_succ]))
  (refine pl_value (v := ?_) rfl rfl ?_ ?_; rotate_left 1; (focus (intro w' hk; go_simp; (first | done | with_reducible rfl | exact rfl))); (try simp only [Act.put, List.setIfInBounds_toArray, List.set_cons_zero, List.set_cons_succ]))
  (refine pl_call (v := ?_) (f := ?_) (args := ?_) rfl rfl ?_ ?_ ?_; rotate_left 3; (focus (intro w' hk; go_simp; (first | done | (constructor <;> with_reducible rfl) | with_reducible rfl))); (focus (intro w' hk; exact H1.out w')); (try simp only [Act.put, List.setIfInBounds_toArray, List.set_cons_zero, List.set_cons_succ]))
  (refine pl_value (v := ?_) rfl rfl ?_ ?_; rotate_left 1; (focus (intro w' hk; go_simp; (first | done | with_reducible rfl | exact rfl))); (try simp only [Act.put, List.setIfInBounds_toArray, List.set_cons_zero, List.set_cons_succ]))
  (refine pl_value (v := ?_) rfl rfl ?_ ?_; rotate_left 1; (focus (intro w' hk; go_simp; (first | done | with_reducible rfl | exact rfl))); (try simp only [Act.put, List.setIfInBounds_toArray, List.set_cons_zero, List.set_cons_succ]))
  (refine pl_call (v := ?_) (f := ?_) (args := ?_) rfl rfl ?_ ?_ ?_; rotate_left 3; (focus (intro w' hk; go_simp; (first | done | (constructor <;> with_reducible rfl) | with_reducible rfl))); (focus (intro w' hk; exact rmark_any w')); (try simp only [Act.put, List.setIfInBounds_toArray, List.set_cons_zero, List.set_cons_succ]))
  (refine pl_value (v := ?_) rfl rfl ?_ ?_; rotate_left 1; (focus (intro w' hk; go_simp; (first | done | with_reducible rfl | exact rfl))); (try simp only [Act.put, List.setIfInBounds_toArray, List.set_cons_zero, List.set_cons_succ]))
  refine pl_nil ?_
  refine ⟨rfl, sure_row (fun w' _ => by go_simp), ?_⟩
  rintro v W2 hk2 ⟨x, rfl, hx, hxc⟩
  simp only [List.setIfInBounds_toArray, List.set_cons_zero, List.set_cons_succ, List.size_toArray, List.length_cons, List.length_nil, Nat.zero_add]
  have kc : ∀ w', Keep W2 w' → (convert 125 9 (.slice (some ⟨x, 0, none⟩) 2 2)).run Tryz.prog w' = .ok (.string ⟨([0, 0] : List UInt8).toArray⟩) w' := fun w' hk' => by
    have hbc' := (hk'.block _ (block_lt hxc) id).trans hxc
    exact run_convert_bytes_back (P := Tryz.prog) w' 125 9 5 ⟨x, 0, none⟩ 2 [0, 0] Tryz.underlying125 Tryz.underlying5 Tryz.underlying9 (fun j hj => by
      rw [addr_add, cell_of_row _ _ j _ _ _ hbc']
      have hj2 : j < 2 := hj
      rcases (by omega : j = 0 ∨ j = 1) with rfl | rfl
      · rfl
      · rfl)
  have KC := Lib.hid kc
  clear kc
  (refine pl_value (v := ?_) rfl rfl ?_ ?_; rotate_left 1; (focus (intro w' hk; have kc' := KC.out w' hk; go_simp; (first | done | with_reducible rfl | exact rfl))); (try simp only [Act.put, List.setIfInBounds_toArray, List.set_cons_zero, List.set_cons_succ]))
  (refine pl_value (v := ?_) rfl rfl ?_ ?_; rotate_left 1; (focus (intro w' hk; go_simp; (first | done | with_reducible rfl | exact rfl))); (try simp only [Act.put, List.setIfInBounds_toArray, List.set_cons_zero, List.set_cons_succ]))
  refine pl_nil ?_
  intro w3 hk3 _
  simp only [List.drop_succ_cons, List.drop_zero]
  have hB := (hk2.trans hk3).whole
  have hC := heap_alloc_new w3 (.cells (opsCells ([Dw.killOp b] ++ (Dw.freshTail b g q d))).toArray 93)
  have hB2 := hB.alloc hB.size (.cells (opsCells ([Dw.killOp b] ++ (Dw.freshTail b g q d))).toArray 93)
  have HR := Lib.hid (fun cap => rops_of_cells (m := [Dw.killOp b]) (l := Dw.freshTail b g q d) (cap := cap) hC)
  have HB := Lib.hid hB2
  clear hC hB2 hB hk2 hk3 hxc KC
  go_wp2_with fail
  go_ret
  exact ⟨⟨_, rfl, HR.out _⟩, HB.out⟩

theorem rfresh11_any (b g q d : Nat) (kill : Bool) (hg : g < 18446744073709551616) (hq : q < 18446744073709551616) (hd : d < 18446744073709551616) (w : World) :
    Calls Tryz.prog 100 #[.int .i64 b, .bool kill, .int .u64 g, .int .u64 q, .int .u64 d] w fun e w' => (∃ v, e = .returned v ∧ ROps w' v (Dw.freshOps b kill g q d)) ∧ Below w.heap.size w w' := by
  cases kill
  · exact rfreshF b g q d hg hq hd w
  · exact rfreshT b g q d hg hq hd w

set_option maxRecDepth 100000 in
set_option maxHeartbeats 2000000 in
theorem rfreshPA (f : Dw.Fl) (hl : (f.a).length ≤ 400) (g q d : Nat) (hg : g < 18446744073709551616) (hq : q < 18446744073709551616) (hd : d < 18446744073709551616) (w : World) :
    Calls Tryz.prog 68 #[flV f, .int .i64 0, .int .u64 g, .int .u64 q, .int .u64 d] w fun e w' => (∃ v, e = .returned v ∧ ROps w' v (Dw.freshF f 0 g q d)) ∧ Below w.heap.size w w' := by
  have HS := Lib.hid (fun w => rstate_any (f.a) hl 0 0 rfl (by decide) w)
  have HF := Lib.hid (fun kill w => rfresh11_any 0 g q d kill hg hq hd w)
  have HE := Lib.hid (show Dw.freshF f 0 g q d = Dw.freshOps 0 (decide (Dw.state (f.a) 0 = 2)) g q d from rfl)
  have hB := (Below.refl w.heap.size w).alloc (Nat.le_refl _) (.cells (flashC f.a f.b f.e0 f.e1 f.li) 37)
  have hF := heap_alloc_new w (.cells (flashC f.a f.b f.e0 f.e1 f.li) 37)
  obtain ⟨c0, c1, c2, c3, c4⟩ := cells5 hF
  clear hg hq hd
  generalize Dw.state (f.a) 0 = st at *
  go_enter Tryz.func68, Tryz.ntmps68
  go_wp2_with fail
  refine (HS.out _).mono ?_
  rintro e w1 ⟨rfl, hb⟩
  replace hB := hB.trans (hb.mono hB.size)
  clear hb
  clear c0 c1 c2 c3 c4 hF
  have hk : ((st : Int) == 2) = decide (st = 2) := by rw [Bool.eq_iff_iff, beq_iff_eq, decide_eq_true_iff]; omega
  generalize decide (st = 2) = kill at *
  go_wp2_with fail
  refine (HF.out kill _).mono ?_
  rintro e w2 ⟨⟨v, rfl, hv⟩, hb⟩
  replace hB := hB.trans (hb.mono hB.size)
  clear hb hk
  go_wp2_with fail
  go_ret
  exact ⟨⟨_, rfl, by rw [HE.out]; exact hv⟩, hB⟩

set_option maxRecDepth 100000 in
set_option maxHeartbeats 2000000 in
theorem rfreshPB (f : Dw.Fl) (hl : (f.b).length ≤ 400) (g q d : Nat) (hg : g < 18446744073709551616) (hq : q < 18446744073709551616) (hd : d < 18446744073709551616) (w : World) :
    Calls Tryz.prog 68 #[flV f, .int .i64 1, .int .u64 g, .int .u64 q, .int .u64 d] w fun e w' => (∃ v, e = .returned v ∧ ROps w' v (Dw.freshF f 1 g q d)) ∧ Below w.heap.size w w' := by
  have HS := Lib.hid (fun w => rstate_any (f.b) hl 0 0 rfl (by decide) w)
  have HF := Lib.hid (fun kill w => rfresh11_any 1 g q d kill hg hq hd w)
  have HE := Lib.hid (show Dw.freshF f 1 g q d = Dw.freshOps 1 (decide (Dw.state (f.b) 0 = 2)) g q d from rfl)
  have hB := (Below.refl w.heap.size w).alloc (Nat.le_refl _) (.cells (flashC f.a f.b f.e0 f.e1 f.li) 37)
  have hF := heap_alloc_new w (.cells (flashC f.a f.b f.e0 f.e1 f.li) 37)
  obtain ⟨c0, c1, c2, c3, c4⟩ := cells5 hF
  clear hg hq hd
  generalize Dw.state (f.b) 0 = st at *
  go_enter Tryz.func68, Tryz.ntmps68
  go_wp2_with fail
  refine (HS.out _).mono ?_
  rintro e w1 ⟨rfl, hb⟩
  replace hB := hB.trans (hb.mono hB.size)
  clear hb
  clear c0 c1 c2 c3 c4 hF
  have hk : ((st : Int) == 2) = decide (st = 2) := by rw [Bool.eq_iff_iff, beq_iff_eq, decide_eq_true_iff]; omega
  generalize decide (st = 2) = kill at *
  go_wp2_with fail
  refine (HF.out kill _).mono ?_
  rintro e w2 ⟨⟨v, rfl, hv⟩, hb⟩
  replace hB := hB.trans (hb.mono hB.size)
  clear hb hk
  go_wp2_with fail
  go_ret
  exact ⟨⟨_, rfl, by rw [HE.out]; exact hv⟩, hB⟩

theorem rfreshP_any (f : Dw.Fl) (hf : Dw.FlOk f) (k : Nat) (hk : k < 2) (g q d : Nat) (hg : g < 18446744073709551616) (hq : q < 18446744073709551616) (hd : d < 18446744073709551616) (w : World) :
    Calls Tryz.prog 68 #[flV f, .int .i64 k, .int .u64 g, .int .u64 q, .int .u64 d] w fun e w' => (∃ v, e = .returned v ∧ ROps w' v (Dw.freshF f k g q d)) ∧ Below w.heap.size w w' := by
  rcases (by omega : k = 0 ∨ k = 1) with rfl | rfl
  · exact rfreshPA f hf.a g q d hg hq hd w
  · exact rfreshPB f hf.b g q d hg hq hd w
end Go.Proofs.YtaniehjhmjecjaaGreatDoor
