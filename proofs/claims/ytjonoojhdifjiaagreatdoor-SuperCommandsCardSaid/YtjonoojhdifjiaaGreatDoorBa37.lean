/- What the statement's proof stands on, part 37: RPlan, RFresh, RNext, RRead. -/
import Derived.Test.YtjonoojhdifjiaaGreatDoorBa21
import Derived.Test.YtjonoojhdifjiaaGreatDoorBa28
import Derived.Test.YtjonoojhdifjiaaGreatDoorBa15
import Derived.Test.YtjonoojhdifjiaaGreatDoorBa24
import Derived.Test.YtjonoojhdifjiaaGreatDoorBa25
set_option linter.unusedSimpArgs false
set_option linter.unusedVariables false
set_option maxRecDepth 100000
set_option maxHeartbeats 4000000
namespace Go.Proofs.YtjonoojhdifjiaaGreatDoor
open Go.RowKit Go.Shelf
attribute [local go_sem] Oper.semAt_some
theorem rops_of_cells {w : World} {b cap : Nat} {l m : List Dw.Op} {t : TypeId} {fr : Nat × Nat} (h : w.heap[b]? = some (.cells (opsCells (m ++ l)).toArray t fr)) : ROps w (.slice (some ⟨b, m.length * 4, none⟩) l.length cap) l := by
  refine ⟨b, m.length * 4, cap, _, _, _, rfl, h, fun j o ho => ?_⟩
  have ho' : (m ++ l)[m.length + j]? = some o := by rw [List.getElem?_append_right (by omega), Nat.add_sub_cancel_left]; exact ho
  have key : ∀ r, r < 4 → (opsCells (m ++ l)).toArray[m.length * 4 + j * 4 + r]? = (opC o).toList[r]? := by
    intro r hr
    rw [List.getElem?_toArray, ← opsCells_get (m ++ l) (m.length + j) r o ho' hr]
    congr 1
    omega
  exact ⟨key 0 (by decide), key 1 (by decide), key 2 (by decide), key 3 (by decide)⟩
theorem rappend11_any (b s q d : Nat) (hs : s ≤ 12) (hq : q < 18446744073709551616) (hd : d < 18446744073709551616) (w : World) :
    Calls Tryz.prog 111 #[.int .i64 b, .int .i64 s, .int .u64 q, .int .u64 d] w fun e w' => (∃ v, e = .returned v ∧ ROps w' v (Dw.appendOps b s q d)) ∧ Below w.heap.size w w' := by
  have H1 := Lib.hid (fun w => rat5_any s hs w)
  have H2 := Lib.hid (fun w => rbody_any 2 q d (by decide) hq hd w)
  have H3 := Lib.hid (fun w => rmark5_any s hs w)
  have hB := Below.refl w.heap.size w
  clear hq hd
  go_enter Tryz.func111, Tryz.ntmps111
  go_wp2_with fail
  refine cb (H1.out _) fun w1 hb => ?_
  replace hB := tr hB hb
  clear hb
  go_wp2_with fail
  refine cb (H2.out _) fun w2 hb => ?_
  replace hB := tr hB hb
  clear hb
  go_wp2_with fail
  refine cb (H3.out _) fun w3 hb => ?_
  replace hB := tr hB hb
  clear hb
  go_wp2_with fail
  refine cb (rmark_any _) fun w4 hb => ?_
  replace hB := tr hB hb
  clear hb
  have hC := han w4 (.cells (opsCells ([] ++ Dw.appendOps b s q d)).toArray 190)
  have hB2 := hB.alloc hB.size (.cells (opsCells ([] ++ Dw.appendOps b s q d)).toArray 190)
  have HR := Lib.hid (rops_of_cells (m := []) (cap := 2) hC)
  have HB := Lib.hid hB2
  clear hC hB2 hB
  go_wp2_with fail
  go_ret
  exact ⟨⟨_, rfl, HR.out⟩, HB.out⟩
theorem rfreshT (b g q d : Nat) (hg : g < 18446744073709551616) (hq : q < 18446744073709551616) (hd : d < 18446744073709551616) (w : World) :
    Calls Tryz.prog 147 #[.int .i64 b, .bool true, .int .u64 g, .int .u64 q, .int .u64 d] w fun e w' => (∃ v, e = .returned v ∧ ROps w' v (Dw.freshOps b true g q d)) ∧ Below w.heap.size w w' := by
  have H3 := Lib.hid (fun w => rbody_any 3 q d (by decide) hq hd w)
  have H1 := Lib.hid (fun w => rbody_any 1 g 0 (by decide) hg (by decide) w)
  clear hg hq hd
  go_enter Tryz.func147, Tryz.ntmps147
  go_wp2_with fail
  refine wp_letterM [0, 4, 5, 6, 7, 8, 9, 10, 11, 12, 13, 14, 15, 16, 17, 18, 19, 20, 21, 22] 1 [2, 3] 23 (some 13) (NewRow w #[.int .u8 0, .int .u8 0] 5) rfl rfl (by kernel_rfl) (by kernel_rfl) (by kernel_rfl) rfl (fun v A B h hk => h.keep hk) ?_
  (apply rat; (focus (intro w' hk; (iterate 7 (refine' rv ?_ rfl rfl (by go_simp; first | done | with_reducible rfl | exact rfl); try simp only [Act.put, List.setIfInBounds_toArray, List.set_cons_zero, List.set_cons_succ])); (refine' rc ?_ (by exact rfl) (by exact rfl) (by go_simp; first | done | (constructor <;> with_reducible rfl) | with_reducible rfl) (by exact H3.out w'); try simp only [Act.put, List.setIfInBounds_toArray, List.set_cons_zero, List.set_cons_succ]); (iterate 2 (refine' rv ?_ rfl rfl (by go_simp; first | done | with_reducible rfl | exact rfl); try simp only [Act.put, List.setIfInBounds_toArray, List.set_cons_zero, List.set_cons_succ])); (refine' rc ?_ (by exact rfl) (by exact rfl) (by go_simp; first | done | (constructor <;> with_reducible rfl) | with_reducible rfl) (by exact rmark_any w'); try simp only [Act.put, List.setIfInBounds_toArray, List.set_cons_zero, List.set_cons_succ]); (iterate 4 (refine' rv ?_ rfl rfl (by go_simp; first | done | with_reducible rfl | exact rfl); try simp only [Act.put, List.setIfInBounds_toArray, List.set_cons_zero, List.set_cons_succ])); (refine' rc ?_ (by exact rfl) (by exact rfl) (by go_simp; first | done | (constructor <;> with_reducible rfl) | with_reducible rfl) (by exact H1.out w'); try simp only [Act.put, List.setIfInBounds_toArray, List.set_cons_zero, List.set_cons_succ]); (iterate 2 (refine' rv ?_ rfl rfl (by go_simp; first | done | with_reducible rfl | exact rfl); try simp only [Act.put, List.setIfInBounds_toArray, List.set_cons_zero, List.set_cons_succ])); (refine' rc ?_ (by exact rfl) (by exact rfl) (by go_simp; first | done | (constructor <;> with_reducible rfl) | with_reducible rfl) (by exact rmark_any w'); try simp only [Act.put, List.setIfInBounds_toArray, List.set_cons_zero, List.set_cons_succ]); (refine' rv ?_ rfl rfl (by go_simp; first | done | with_reducible rfl | exact rfl); try simp only [Act.put, List.setIfInBounds_toArray, List.set_cons_zero, List.set_cons_succ]); (exact rn))))
  refine ⟨rfl, sure_row (fun w' _ => by go_simp), ?_⟩
  rintro v W2 hk2 ⟨x, rfl, hx, hxc⟩
  simp only [List.setIfInBounds_toArray, List.set_cons_zero, List.set_cons_succ, List.size_toArray, List.length_cons, List.length_nil, Nat.zero_add]
  have kc : ∀ w', Keep W2 w' → (convert 134 9 (.slice (some ⟨x, 0, none⟩) 2 2)).run Tryz.prog w' = .ok (.string ⟨([0, 0] : List UInt8).toArray⟩) w' := fun w' hk' => by
    have hbc' := kpi hk' hxc
    exact run_convert_bytes_back (P := Tryz.prog) w' 134 9 5 ⟨x, 0, none⟩ 2 [0, 0] Tryz.underlying134 Tryz.underlying5 Tryz.underlying9 (fun j hj => by
      rw [addr_add, cell_of_row _ _ j _ _ _ hbc']
      have hj2 : j < 2 := hj
      rcases (by omega : j = 0 ∨ j = 1) with rfl | rfl
      · rfl
      · rfl)
  have KC := Lib.hid kc
  clear kc
  (refine pl_value (v := ?_) rfl rfl ?_ ?_; rotate_left 1; (focus (intro w' hk; have kc' := KC.out w' hk; go_simp; (first | done | with_reducible rfl | exact rfl))); (try simp only [Act.put, List.setIfInBounds_toArray, List.set_cons_zero, List.set_cons_succ]))
  (refine pl_value (v := ?_) rfl rfl ?_ ?_; rotate_left 1; (focus (intro w' hk; go_simp; (first | done | with_reducible rfl | exact rfl))); (try simp only [Act.put, List.setIfInBounds_toArray, List.set_cons_zero, List.set_cons_succ]))
  refine pl_nil ?_
  intro w3 hk3 _
  simp only [List.drop_succ_cons, List.drop_zero]
  have hB := (hk2.trans hk3).whole
  have hC := han w3 (.cells (opsCells ([] ++ (Dw.killOp b :: Dw.freshTail b g q d))).toArray 190)
  have hB2 := hB.alloc hB.size (.cells (opsCells ([] ++ (Dw.killOp b :: Dw.freshTail b g q d))).toArray 190)
  have HR := Lib.hid (fun cap => rops_of_cells (m := []) (l := Dw.killOp b :: Dw.freshTail b g q d) (cap := cap) hC)
  have HB := Lib.hid hB2
  clear hC hB2 hB hk2 hk3 hxc KC
  go_wp2_with fail
  go_ret
  exact ⟨⟨_, rfl, HR.out _⟩, HB.out⟩
theorem rfreshF (b g q d : Nat) (hg : g < 18446744073709551616) (hq : q < 18446744073709551616) (hd : d < 18446744073709551616) (w : World) :
    Calls Tryz.prog 147 #[.int .i64 b, .bool false, .int .u64 g, .int .u64 q, .int .u64 d] w fun e w' => (∃ v, e = .returned v ∧ ROps w' v (Dw.freshOps b false g q d)) ∧ Below w.heap.size w w' := by
  have H3 := Lib.hid (fun w => rbody_any 3 q d (by decide) hq hd w)
  have H1 := Lib.hid (fun w => rbody_any 1 g 0 (by decide) hg (by decide) w)
  clear hg hq hd
  go_enter Tryz.func147, Tryz.ntmps147
  go_wp2_with fail
  refine wp_letterM [0, 4, 5, 6, 7, 8, 9, 10, 11, 12, 13, 14, 15, 16, 17, 18, 19, 20, 21, 22] 1 [2, 3] 23 (some 13) (NewRow w #[.int .u8 0, .int .u8 0] 5) rfl rfl (by kernel_rfl) (by kernel_rfl) (by kernel_rfl) rfl (fun v A B h hk => h.keep hk) ?_
  (apply rat; (focus (intro w' hk; (iterate 7 (refine' rv ?_ rfl rfl (by go_simp; first | done | with_reducible rfl | exact rfl); try simp only [Act.put, List.setIfInBounds_toArray, List.set_cons_zero, List.set_cons_succ])); (refine' rc ?_ (by exact rfl) (by exact rfl) (by go_simp; first | done | (constructor <;> with_reducible rfl) | with_reducible rfl) (by exact H3.out w'); try simp only [Act.put, List.setIfInBounds_toArray, List.set_cons_zero, List.set_cons_succ]); (iterate 2 (refine' rv ?_ rfl rfl (by go_simp; first | done | with_reducible rfl | exact rfl); try simp only [Act.put, List.setIfInBounds_toArray, List.set_cons_zero, List.set_cons_succ])); (refine' rc ?_ (by exact rfl) (by exact rfl) (by go_simp; first | done | (constructor <;> with_reducible rfl) | with_reducible rfl) (by exact rmark_any w'); try simp only [Act.put, List.setIfInBounds_toArray, List.set_cons_zero, List.set_cons_succ]); (iterate 4 (refine' rv ?_ rfl rfl (by go_simp; first | done | with_reducible rfl | exact rfl); try simp only [Act.put, List.setIfInBounds_toArray, List.set_cons_zero, List.set_cons_succ])); (refine' rc ?_ (by exact rfl) (by exact rfl) (by go_simp; first | done | (constructor <;> with_reducible rfl) | with_reducible rfl) (by exact H1.out w'); try simp only [Act.put, List.setIfInBounds_toArray, List.set_cons_zero, List.set_cons_succ]); (iterate 2 (refine' rv ?_ rfl rfl (by go_simp; first | done | with_reducible rfl | exact rfl); try simp only [Act.put, List.setIfInBounds_toArray, List.set_cons_zero, List.set_cons_succ])); (refine' rc ?_ (by exact rfl) (by exact rfl) (by go_simp; first | done | (constructor <;> with_reducible rfl) | with_reducible rfl) (by exact rmark_any w'); try simp only [Act.put, List.setIfInBounds_toArray, List.set_cons_zero, List.set_cons_succ]); (refine' rv ?_ rfl rfl (by go_simp; first | done | with_reducible rfl | exact rfl); try simp only [Act.put, List.setIfInBounds_toArray, List.set_cons_zero, List.set_cons_succ]); (exact rn))))
  refine ⟨rfl, sure_row (fun w' _ => by go_simp), ?_⟩
  rintro v W2 hk2 ⟨x, rfl, hx, hxc⟩
  simp only [List.setIfInBounds_toArray, List.set_cons_zero, List.set_cons_succ, List.size_toArray, List.length_cons, List.length_nil, Nat.zero_add]
  have kc : ∀ w', Keep W2 w' → (convert 134 9 (.slice (some ⟨x, 0, none⟩) 2 2)).run Tryz.prog w' = .ok (.string ⟨([0, 0] : List UInt8).toArray⟩) w' := fun w' hk' => by
    have hbc' := kpi hk' hxc
    exact run_convert_bytes_back (P := Tryz.prog) w' 134 9 5 ⟨x, 0, none⟩ 2 [0, 0] Tryz.underlying134 Tryz.underlying5 Tryz.underlying9 (fun j hj => by
      rw [addr_add, cell_of_row _ _ j _ _ _ hbc']
      have hj2 : j < 2 := hj
      rcases (by omega : j = 0 ∨ j = 1) with rfl | rfl
      · rfl
      · rfl)
  have KC := Lib.hid kc
  clear kc
  (refine pl_value (v := ?_) rfl rfl ?_ ?_; rotate_left 1; (focus (intro w' hk; have kc' := KC.out w' hk; go_simp; (first | done | with_reducible rfl | exact rfl))); (try simp only [Act.put, List.setIfInBounds_toArray, List.set_cons_zero, List.set_cons_succ]))
  (refine pl_value (v := ?_) rfl rfl ?_ ?_; rotate_left 1; (focus (intro w' hk; go_simp; (first | done | with_reducible rfl | exact rfl))); (try simp only [Act.put, List.setIfInBounds_toArray, List.set_cons_zero, List.set_cons_succ]))
  refine pl_nil ?_
  intro w3 hk3 _
  simp only [List.drop_succ_cons, List.drop_zero]
  have hB := (hk2.trans hk3).whole
  have hC := han w3 (.cells (opsCells ([Dw.killOp b] ++ (Dw.freshTail b g q d))).toArray 190)
  have hB2 := hB.alloc hB.size (.cells (opsCells ([Dw.killOp b] ++ (Dw.freshTail b g q d))).toArray 190)
  have HR := Lib.hid (fun cap => rops_of_cells (m := [Dw.killOp b]) (l := Dw.freshTail b g q d) (cap := cap) hC)
  have HB := Lib.hid hB2
  clear hC hB2 hB hk2 hk3 hxc KC
  go_wp2_with fail
  go_ret
  exact ⟨⟨_, rfl, HR.out _⟩, HB.out⟩
theorem rfresh11_any (b g q d : Nat) (kill : Bool) (hg : g < 18446744073709551616) (hq : q < 18446744073709551616) (hd : d < 18446744073709551616) (w : World) :
    Calls Tryz.prog 147 #[.int .i64 b, .bool kill, .int .u64 g, .int .u64 q, .int .u64 d] w fun e w' => (∃ v, e = .returned v ∧ ROps w' v (Dw.freshOps b kill g q d)) ∧ Below w.heap.size w w' := by
  cases kill
  · exact rfreshF b g q d hg hq hd w
  · exact rfreshT b g q d hg hq hd w
theorem rfreshPA (f : Dw.Fl) (hl : (f.a).length ≤ 400) (g q d : Nat) (hg : g < 18446744073709551616) (hq : q < 18446744073709551616) (hd : d < 18446744073709551616) (w : World) :
    Calls Tryz.prog 109 #[flV f, .int .i64 0, .int .u64 g, .int .u64 q, .int .u64 d] w fun e w' => (∃ v, e = .returned v ∧ ROps w' v (Dw.freshF f 0 g q d)) ∧ Below w.heap.size w w' := by
  have HS := Lib.hid (fun w => rstate_any (f.a) hl 0 0 rfl (by decide) w)
  have HF := Lib.hid (fun kill w => rfresh11_any 0 g q d kill hg hq hd w)
  have HE := Lib.hid (show Dw.freshF f 0 g q d = Dw.freshOps 0 (decide (Dw.state (f.a) 0 = 2)) g q d from rfl)
  have hB := (Below.refl w.heap.size w).alloc (Nat.le_refl _) (.cells (flashC f.a f.b f.e0 f.e1 f.li) 37)
  have hF := han w (.cells (flashC f.a f.b f.e0 f.e1 f.li) 37)
  obtain ⟨c0, c1, c2, c3, c4⟩ := cells5 hF
  clear hg hq hd
  generalize Dw.state (f.a) 0 = st at *
  go_enter Tryz.func109, Tryz.ntmps109
  go_wp2_with fail
  refine cb (HS.out _) fun w1 hb => ?_
  replace hB := tr hB hb
  clear hb
  clear c0 c1 c2 c3 c4 hF
  have hk : ((st : Int) == 2) = decide (st = 2) := by rw [Bool.eq_iff_iff, beq_iff_eq, decide_eq_true_iff]; omega
  generalize decide (st = 2) = kill at *
  go_wp2_with fail
  refine (HF.out kill _).mono ?_
  rintro e w2 ⟨⟨v, rfl, hv⟩, hb⟩
  replace hB := tr hB hb
  clear hb hk
  go_wp2_with fail
  go_ret
  exact ⟨⟨_, rfl, by rw [HE.out]; exact hv⟩, hB⟩
theorem rfreshPB (f : Dw.Fl) (hl : (f.b).length ≤ 400) (g q d : Nat) (hg : g < 18446744073709551616) (hq : q < 18446744073709551616) (hd : d < 18446744073709551616) (w : World) :
    Calls Tryz.prog 109 #[flV f, .int .i64 1, .int .u64 g, .int .u64 q, .int .u64 d] w fun e w' => (∃ v, e = .returned v ∧ ROps w' v (Dw.freshF f 1 g q d)) ∧ Below w.heap.size w w' := by
  have HS := Lib.hid (fun w => rstate_any (f.b) hl 0 0 rfl (by decide) w)
  have HF := Lib.hid (fun kill w => rfresh11_any 1 g q d kill hg hq hd w)
  have HE := Lib.hid (show Dw.freshF f 1 g q d = Dw.freshOps 1 (decide (Dw.state (f.b) 0 = 2)) g q d from rfl)
  have hB := (Below.refl w.heap.size w).alloc (Nat.le_refl _) (.cells (flashC f.a f.b f.e0 f.e1 f.li) 37)
  have hF := han w (.cells (flashC f.a f.b f.e0 f.e1 f.li) 37)
  obtain ⟨c0, c1, c2, c3, c4⟩ := cells5 hF
  clear hg hq hd
  generalize Dw.state (f.b) 0 = st at *
  go_enter Tryz.func109, Tryz.ntmps109
  go_wp2_with fail
  refine cb (HS.out _) fun w1 hb => ?_
  replace hB := tr hB hb
  clear hb
  clear c0 c1 c2 c3 c4 hF
  have hk : ((st : Int) == 2) = decide (st = 2) := by rw [Bool.eq_iff_iff, beq_iff_eq, decide_eq_true_iff]; omega
  generalize decide (st = 2) = kill at *
  go_wp2_with fail
  refine (HF.out kill _).mono ?_
  rintro e w2 ⟨⟨v, rfl, hv⟩, hb⟩
  replace hB := tr hB hb
  clear hb hk
  go_wp2_with fail
  go_ret
  exact ⟨⟨_, rfl, by rw [HE.out]; exact hv⟩, hB⟩
theorem rfreshP_any (f : Dw.Fl) (hf : Dw.FlOk f) (k : Nat) (hk : k < 2) (g q d : Nat) (hg : g < 18446744073709551616) (hq : q < 18446744073709551616) (hd : d < 18446744073709551616) (w : World) :
    Calls Tryz.prog 109 #[flV f, .int .i64 k, .int .u64 g, .int .u64 q, .int .u64 d] w fun e w' => (∃ v, e = .returned v ∧ ROps w' v (Dw.freshF f k g q d)) ∧ Below w.heap.size w w' := by
  rcases (by omega : k = 0 ∨ k = 1) with rfl | rfl
  · exact rfreshPA f hf.a g q d hg hq hd w
  · exact rfreshPB f hf.b g q d hg hq hd w
theorem rnext_any (s : List UInt8) (hs : s.length ≤ 400) (w : World) :
    Calls Tryz.prog 110 #[.string ⟨s.toArray⟩] w fun e w' => e = .returned (.int .i64 ((Dw.next s : Nat) : Int)) ∧ Below w.heap.size w w' := by
  have hle := Dw.slots_le s.length
  have HIS := Lib.hid (fun n j => @Dw.next_is s n j)
  have HZ := Lib.hid (fun n => @Dw.next_zero s n)
  have HZ0 := Lib.hid (show Dw.slots s.length = 0 → Dw.next s = 0 from fun h => by unfold Dw.next Dw.tz Dw.states; rw [h]; rfl)
  have HSL := Lib.hid (fun w => rslots_any s.length w)
  have HST := Lib.hid (fun (i : Nat) hi w => rstate_any s hs (i : Int) i rfl hi w)
  generalize hn : Dw.slots s.length = n at *
  have Hn := Lib.hid hn; clear hn
  have hB := Below.refl w.heap.size w
  go_enter Tryz.func110, Tryz.ntmps110
  go_wp2_with fail
  refine cb (HSL.out _) fun w1 hb => ?_
  replace hB := tr hB hb
  clear hb
  go_wp2_with fail
  go_loopw [4, 5] (fun x i wr => ∃ k j : Nat, k ≤ n ∧ i = .int .i64 ((k + 1 : Nat) : Int) ∧ x = .int .i64 j ∧ 1 ≤ j ∧ j ≤ k + 1 ∧ (∀ t, j ≤ t → t ≤ k → Dw.state s t = 0) ∧ (j = 1 ∨ Dw.state s (j - 1) ≠ 0) ∧ Below w.heap.size w wr) (fun _ i _ => n + 1 - (intOf i).toNat)
  case atStart => exact ⟨0, 1, Nat.zero_le _, rfl, rfl, Nat.le_refl _, Nat.le_refl _, fun t h1 h2 => absurd h1 (by omega), .inl rfl, hB⟩
  case round =>
    clear hB
    obtain ⟨k, j, hk, rfl, rfl, hj1, hjk, hz, hp, hB⟩ := hrel
    have HZZ := Lib.hid hz; have HP := Lib.hid hp
    clear hz hp
    by_cases hlt : k < n
    · have h1 : ((k + 1 : Nat) : Int) ≤ (n : Int) := by omega
      have h1' : (k : Int) + 1 ≤ (n : Int) := by omega
      go_wp2_with fail
      refine cb (HST.out (k + 1) (by omega) _) fun w2 hb => ?_
      replace hB := tr hB hb
      clear hb
      generalize hst : Dw.state s (k + 1) = st at *
      have HST1 := Lib.hid hst; clear hst
      by_cases h0 : st = 0
      · subst h0
        go_wp2_with fail
        go_roundw
        case rel => exact ⟨k + 1, j, hlt, by go_num, rfl, hj1, by omega, fun t ht1 ht2 => by
          by_cases e : t = k + 1
          · rw [e, HST1.out]
          · exact HZZ.out t ht1 (by omega), HP.out, hB⟩
        case measure => simp [intOf]; omega
      · have h0' : ((st : Int) == 0) = false := by rw [beq_eq_false_iff_ne]; omega
        go_wp2_with fail
        go_roundw
        case rel => exact ⟨k + 1, k + 2, hlt, by go_num, by go_num, by omega, by omega, fun t ht1 ht2 => absurd ht1 (by omega), .inr (by rw [show k + 2 - 1 = k + 1 from rfl, HST1.out]; exact h0), hB⟩
        case measure => simp [intOf]; omega
    · obtain rfl : k = n := by omega
      have h1 : ¬ ((k + 1 : Nat) : Int) ≤ (k : Int) := by omega
      have h1' : ¬ (k : Int) + 1 ≤ (k : Int) := by omega
      by_cases hj : k < j
      · have h2 : (k : Int) < (j : Int) := by omega
        have hfin : Dw.next s = 0 := by
          rcases Nat.eq_zero_or_pos k with e | e
          · exact HZ0.out e
          · refine HZ.out k rfl e ?_
            rcases HP.out with h | h
            · omega
            · rwa [show j - 1 = k by omega] at h
        have HF := Lib.hid hfin
        clear hfin
        go_wp2_with fail
        go_ret
        exact ⟨by rw [HF.out]; rfl, hB⟩
      · have h2 : ¬ (k : Int) < (j : Int) := by omega
        have HF := Lib.hid (HIS.out k j rfl hj1 (by omega) HZZ.out HP.out)
        go_wp2_with fail
        go_ret
        exact ⟨by rw [HF.out]; rfl, hB⟩
theorem rbank_walk (f : Dw.Fl) (sa sb : Bool) (ga gb : Nat) (ea eb : Int) (r : Int) (hr : r = (if sa = true ∧ sb = true ∧ ga < gb then 1 else if sa = true then 0 else if sb = true then 1 else -1)) (w : World)
    (h1 : ∀ w, Calls Tryz.prog 99 #[.string ⟨f.a.toArray⟩] w fun e w' => e = .returned (.bool sa) ∧ Below w.heap.size w w')
    (h2 : ∀ w, Calls Tryz.prog 99 #[.string ⟨f.b.toArray⟩] w fun e w' => e = .returned (.bool sb) ∧ Below w.heap.size w w')
    (h3 : ∀ w, Calls Tryz.prog 64 #[.string ⟨f.a.toArray⟩] w fun e w' => e = .returned (.tuple #[.int .u64 (ga : Int), .int .i64 ea]) ∧ Below w.heap.size w w')
    (h4 : ∀ w, Calls Tryz.prog 64 #[.string ⟨f.b.toArray⟩] w fun e w' => e = .returned (.tuple #[.int .u64 (gb : Int), .int .i64 eb]) ∧ Below w.heap.size w w') :
    Calls Tryz.prog 63 #[flV f] w fun e w' => e = .returned (.int .i64 r) ∧ Below w.heap.size w w' := by
  have H1 := Lib.hid h1; have H2 := Lib.hid h2; have H3 := Lib.hid h3; have H4 := Lib.hid h4; have HR := Lib.hid hr
  clear h1 h2 h3 h4 hr
  have hB := (Below.refl w.heap.size w).alloc (Nat.le_refl _) (.cells (flashC f.a f.b f.e0 f.e1 f.li) 37)
  have hF := han w (.cells (flashC f.a f.b f.e0 f.e1 f.li) 37)
  obtain ⟨c0, c1, c2, c3, c4⟩ := cells5 hF
  go_enter Tryz.func63, Tryz.ntmps63
  go_wp2_with fail
  refine cb (H1.out _) fun w1 hb => ?_
  replace hF := kp hb hF
  replace hB := tr hB hb
  clear hb
  clear c0 c1 c2 c3 c4
  obtain ⟨c0, c1, c2, c3, c4⟩ := cells5 hF
  go_wp2_with fail
  refine cb (H2.out _) fun w2 hb => ?_
  replace hF := kp hb hF
  replace hB := tr hB hb
  clear hb
  clear c0 c1 c2 c3 c4
  obtain ⟨c0, c1, c2, c3, c4⟩ := cells5 hF
  go_wp2_with fail
  refine cb (H3.out _) fun w3 hb => ?_
  replace hF := kp hb hF
  replace hB := tr hB hb
  clear hb
  clear c0 c1 c2 c3 c4
  obtain ⟨c0, c1, c2, c3, c4⟩ := cells5 hF
  go_wp2_with fail
  refine cb (H4.out _) fun w4 hb => ?_
  replace hF := kp hb hF
  replace hB := tr hB hb
  clear hb
  clear c0 c1 c2 c3 c4 hF
  by_cases hg : ga < gb
  · have hg' : (ga : Int) < (gb : Int) := by omega
    cases sa <;> cases sb <;> (go_wp2_with fail; go_ret; exact ⟨by rw [HR.out]; simp [hg], hB⟩)
  · have hg' : ¬ (ga : Int) < (gb : Int) := by omega
    cases sa <;> cases sb <;> (go_wp2_with fail; go_ret; exact ⟨by rw [HR.out]; simp [hg], hB⟩)
theorem rbank10_any (f : Dw.Fl) (ha : f.a.length ≤ 400) (hb : f.b.length ≤ 400) (w : World) :
    Calls Tryz.prog 63 #[flV f] w fun e w' => e = .returned (.int .i64 (Dw.best f.a f.b).bank) ∧ Below w.heap.size w w' := by
  refine cb (rbank_walk f _ _ _ _ _ _ _ rfl w (fun w => rsound_any f.a ha w) (fun w => rsound_any f.b hb w) (fun w => rgen_any f.a ha w) (fun w => rgen_any f.b hb w)) fun w1 hb1 => ?_
  refine ⟨ret_int ?_, hb1⟩
  rcases Dw.bank_five f.a f.b with ⟨h1, h2, h3⟩ | ⟨h1, h2, h3⟩ | ⟨h1, h2, h3, h4⟩ | ⟨h1, h2, h3⟩ | ⟨h1, h2, h3, h4⟩ <;> rw [h1, h2, h3]
  · simp
  · simp
  · rw [if_neg (by omega), if_pos rfl]
  · simp
  · rw [if_pos ⟨rfl, rfl, h4⟩]
theorem rreadA (f : Dw.Fl) (g q d k : Nat) (ea el : Int) (w : World)
    (h1 : ∀ w, Calls Tryz.prog 63 #[flV f] w fun e w' => e = .returned (.int .i64 0) ∧ Below w.heap.size w w')
    (h2 : ∀ w, Calls Tryz.prog 64 #[.string ⟨(f.a).toArray⟩] w fun e w' => e = .returned (.tuple #[.int .u64 (g : Int), .int .i64 ea]) ∧ Below w.heap.size w w')
    (h3 : ∀ w, Calls Tryz.prog 65 #[.string ⟨(f.a).toArray⟩] w fun e w' => e = .returned (.tuple #[.agg #[.int .i64 k, .int .u64 q, .int .u64 d], .int .i64 el]) ∧ Below w.heap.size w w') :
    Calls Tryz.prog 39 #[flV f] w fun e w' => e = .returned (.tuple #[.agg #[.int .i64 0, .int .u64 g, .int .u64 q, .int .u64 d], .int .i64 0]) ∧ Below w.heap.size w w' := by
  have H1 := Lib.hid h1; have H2 := Lib.hid h2; have H3 := Lib.hid h3
  clear h1 h2 h3
  have hB := ((Below.refl w.heap.size w).alloc (Nat.le_refl _) (.cells (flashC f.a f.b f.e0 f.e1 f.li) 37)).alloc (by simp) (.cells #[.int .i64 0, .int .u64 0, .int .u64 0, .int .u64 0] 87)
  have hF := heap_alloc2_old w (.cells (flashC f.a f.b f.e0 f.e1 f.li) 37) (.cells #[.int .i64 0, .int .u64 0, .int .u64 0, .int .u64 0] 87)
  have hS := heap_alloc2_new w (.cells (flashC f.a f.b f.e0 f.e1 f.li) 37) (.cells #[.int .i64 0, .int .u64 0, .int .u64 0, .int .u64 0] 87)
  obtain ⟨c0, c1, c2, c3, c4⟩ := cells5 hF
  go_enter Tryz.func39, Tryz.ntmps39
  go_wp2_with fail
  refine cb (H1.out _) fun w1 hb => ?_
  replace hF := kp hb hF
  replace hS := kp hb hS
  replace hB := tr hB hb
  clear hb
  clear c0 c1 c2 c3 c4
  obtain ⟨c0, c1, c2, c3, c4⟩ := cells5 hF
  go_wp2_with fail
  refine cb (H2.out _) fun w2 hb => ?_
  replace hF := kp hb hF
  replace hS := kp hb hS
  replace hB := tr hB hb
  clear hb
  clear c0 c1 c2 c3 c4
  obtain ⟨c0, c1, c2, c3, c4⟩ := cells5 hF
  go_wp2_with fail
  refine cb (H3.out _) fun w3 hb => ?_
  replace hF := kp hb hF
  replace hS := kp hb hS
  replace hB := tr hB hb
  clear hb
  clear c0 c1 c2 c3 c4 hF
  have hS2 := hao w3 (.cells #[.int .i64 k, .int .u64 q, .int .u64 d] 122) hS
  have hB2 := hB.alloc hB.size (.cells #[.int .i64 k, .int .u64 q, .int .u64 d] 122)
  have HS := Lib.hid hS2; have HB := Lib.hid hB2
  clear hS hS2 hB hB2
  go_wp2_with (first | (refine sb HS.out rfl rfl rfl rfl (by kernel_rfl) ?_))
  refine bodyPost_ret (rct rfl (srh HS.out) (by rfl) (by kernel_rfl)) rfl ⟨?_, below_setRow HB.out (by omega) _⟩
  rfl
theorem rreadB (f : Dw.Fl) (g q d k : Nat) (ea el : Int) (w : World)
    (h1 : ∀ w, Calls Tryz.prog 63 #[flV f] w fun e w' => e = .returned (.int .i64 1) ∧ Below w.heap.size w w')
    (h2 : ∀ w, Calls Tryz.prog 64 #[.string ⟨(f.b).toArray⟩] w fun e w' => e = .returned (.tuple #[.int .u64 (g : Int), .int .i64 ea]) ∧ Below w.heap.size w w')
    (h3 : ∀ w, Calls Tryz.prog 65 #[.string ⟨(f.b).toArray⟩] w fun e w' => e = .returned (.tuple #[.agg #[.int .i64 k, .int .u64 q, .int .u64 d], .int .i64 el]) ∧ Below w.heap.size w w') :
    Calls Tryz.prog 39 #[flV f] w fun e w' => e = .returned (.tuple #[.agg #[.int .i64 1, .int .u64 g, .int .u64 q, .int .u64 d], .int .i64 0]) ∧ Below w.heap.size w w' := by
  have H1 := Lib.hid h1; have H2 := Lib.hid h2; have H3 := Lib.hid h3
  clear h1 h2 h3
  have hB := ((Below.refl w.heap.size w).alloc (Nat.le_refl _) (.cells (flashC f.a f.b f.e0 f.e1 f.li) 37)).alloc (by simp) (.cells #[.int .i64 0, .int .u64 0, .int .u64 0, .int .u64 0] 87)
  have hF := heap_alloc2_old w (.cells (flashC f.a f.b f.e0 f.e1 f.li) 37) (.cells #[.int .i64 0, .int .u64 0, .int .u64 0, .int .u64 0] 87)
  have hS := heap_alloc2_new w (.cells (flashC f.a f.b f.e0 f.e1 f.li) 37) (.cells #[.int .i64 0, .int .u64 0, .int .u64 0, .int .u64 0] 87)
  obtain ⟨c0, c1, c2, c3, c4⟩ := cells5 hF
  go_enter Tryz.func39, Tryz.ntmps39
  go_wp2_with fail
  refine cb (H1.out _) fun w1 hb => ?_
  replace hF := kp hb hF
  replace hS := kp hb hS
  replace hB := tr hB hb
  clear hb
  clear c0 c1 c2 c3 c4
  obtain ⟨c0, c1, c2, c3, c4⟩ := cells5 hF
  go_wp2_with fail
  refine cb (H2.out _) fun w2 hb => ?_
  replace hF := kp hb hF
  replace hS := kp hb hS
  replace hB := tr hB hb
  clear hb
  clear c0 c1 c2 c3 c4
  obtain ⟨c0, c1, c2, c3, c4⟩ := cells5 hF
  go_wp2_with fail
  refine cb (H3.out _) fun w3 hb => ?_
  replace hF := kp hb hF
  replace hS := kp hb hS
  replace hB := tr hB hb
  clear hb
  clear c0 c1 c2 c3 c4 hF
  have hS2 := hao w3 (.cells #[.int .i64 k, .int .u64 q, .int .u64 d] 122) hS
  have hB2 := hB.alloc hB.size (.cells #[.int .i64 k, .int .u64 q, .int .u64 d] 122)
  have HS := Lib.hid hS2; have HB := Lib.hid hB2
  clear hS hS2 hB hB2
  go_wp2_with (first | (refine sb HS.out rfl rfl rfl rfl (by kernel_rfl) ?_))
  refine bodyPost_ret (rct rfl (srh HS.out) (by rfl) (by kernel_rfl)) rfl ⟨?_, below_setRow HB.out (by omega) _⟩
  rfl
theorem rreadN (f : Dw.Fl) (w : World)
    (h1 : ∀ w, Calls Tryz.prog 63 #[flV f] w fun e w' => e = .returned (.int .i64 (-1)) ∧ Below w.heap.size w w') :
    Calls Tryz.prog 39 #[flV f] w fun e w' => e = .returned (.tuple #[.agg #[.int .i64 0, .int .u64 0, .int .u64 0, .int .u64 0], .int .i64 10]) ∧ Below w.heap.size w w' := by
  have H1 := Lib.hid h1
  clear h1
  have hB := ((Below.refl w.heap.size w).alloc (Nat.le_refl _) (.cells (flashC f.a f.b f.e0 f.e1 f.li) 37)).alloc (by simp) (.cells #[.int .i64 0, .int .u64 0, .int .u64 0, .int .u64 0] 87)
  have hF := heap_alloc2_old w (.cells (flashC f.a f.b f.e0 f.e1 f.li) 37) (.cells #[.int .i64 0, .int .u64 0, .int .u64 0, .int .u64 0] 87)
  have hS := heap_alloc2_new w (.cells (flashC f.a f.b f.e0 f.e1 f.li) 37) (.cells #[.int .i64 0, .int .u64 0, .int .u64 0, .int .u64 0] 87)
  obtain ⟨c0, c1, c2, c3, c4⟩ := cells5 hF
  go_enter Tryz.func39, Tryz.ntmps39
  go_wp2_with fail
  refine cb (H1.out _) fun w1 hb => ?_
  replace hF := kp hb hF
  replace hS := kp hb hS
  replace hB := tr hB hb
  clear hb
  clear c0 c1 c2 c3 c4 hF
  have HS := Lib.hid hS; have HB := Lib.hid hB
  clear hS hB
  go_wp2_with (first | (refine sb HS.out rfl rfl rfl rfl (by kernel_rfl) ?_))
  refine bodyPost_ret (rct rfl (srh HS.out) (by rfl) (by kernel_rfl)) rfl ⟨?_, below_setRow HB.out (by omega) _⟩
  rfl
theorem rread_any (f : Dw.Fl) (ha : f.a.length ≤ 400) (hb : f.b.length ≤ 400) (w : World) :
    Calls Tryz.prog 39 #[flV f] w fun e w' => e = .returned (.tuple #[psV (Dw.readS f.a f.b), .int .i64 (Dw.readE f.a f.b)]) ∧ Below w.heap.size w w' := by
  have hbk := fun w => rbank10_any f ha hb w
  rcases Dw.bank_five f.a f.b with ⟨h1, h2, h3⟩ | ⟨h1, h2, h3⟩ | ⟨h1, h2, h3, h4⟩ | ⟨h1, h2, h3⟩ | ⟨h1, h2, h3, h4⟩ <;> rw [h1] at hbk
  · obtain ⟨r1, r2⟩ := Dw.rdN f.a f.b h2 h3
    rw [r1, r2]
    exact rreadN f w hbk
  · obtain ⟨r1, r2⟩ := Dw.rd0 f.a f.b h2 (.inl h3)
    rw [r1, r2]
    exact rreadA f _ _ _ _ _ _ w hbk (fun w => rgen_any f.a ha w) (fun w => rlast_any f.a ha w)
  · obtain ⟨r1, r2⟩ := Dw.rd0 f.a f.b h2 (.inr h4)
    rw [r1, r2]
    exact rreadA f _ _ _ _ _ _ w hbk (fun w => rgen_any f.a ha w) (fun w => rlast_any f.a ha w)
  · obtain ⟨r1, r2⟩ := Dw.rd1 f.a f.b h2 (.inl h3)
    rw [r1, r2]
    exact rreadB f _ _ _ _ _ _ w hbk (fun w => rgen_any f.b hb w) (fun w => rlast_any f.b hb w)
  · obtain ⟨r1, r2⟩ := Dw.rd1 f.a f.b h2 (.inr h4)
    rw [r1, r2]
    exact rreadB f _ _ _ _ _ _ w hbk (fun w => rgen_any f.b hb w) (fun w => rlast_any f.b hb w)
theorem rother10_any (N : Int) (n : Nat) (hN : N = (n : Int)) (w : World) :
    Calls Tryz.prog 112 #[.int .i64 N] w fun e w' => e = .returned (.int .i64 (Dw.other n : Nat)) ∧ Below w.heap.size w w' := by
  subst hN
  by_cases h : n = 0
  · subst h
    go_enter Tryz.func112, Tryz.ntmps112
    go_wp2_with fail
    go_ret
    exact ⟨rfl, Below.refl _ _⟩
  · have h1 : ((n : Int) == 0) = false := by rw [beq_eq_false_iff_ne]; omega
    have H := Lib.hid (show Dw.other n = 0 from by unfold Dw.other; rw [if_neg h])
    clear h
    go_enter Tryz.func112, Tryz.ntmps112
    go_wp2_with fail
    go_ret
    exact ⟨by rw [H.out]; rfl, Below.refl _ _⟩
theorem slots_inj {m n : Nat} (h : 0 < Dw.slots m) : Dw.slots m = Dw.slots n ↔ m = n := by
  refine ⟨fun e => ?_, fun e => by rw [e]⟩
  obtain ⟨e1, _⟩ := Dw.slots_pos h
  obtain ⟨e2, _⟩ := Dw.slots_pos (show 0 < Dw.slots n by omega)
  omega
theorem reven10_any (f : Dw.Fl) (w : World) :
    Calls Tryz.prog 108 #[flV f] w fun e w' => e = .returned (.bool (Dw.even f.a f.b)) ∧ Below w.heap.size w w' := by
  have HS := Lib.hid (@slots_inj f.a.length f.b.length)
  have HE := Lib.hid (show Dw.even f.a f.b = decide (0 < Dw.slots f.a.length ∧ Dw.slots f.a.length = Dw.slots f.b.length) from rfl)
  have HR := Lib.hid (fun w => rslots_any f.a.length w)
  have hle := Dw.slots_le f.a.length
  have hB := (Below.refl w.heap.size w).alloc (Nat.le_refl _) (.cells (flashC f.a f.b f.e0 f.e1 f.li) 37)
  have hF := han w (.cells (flashC f.a f.b f.e0 f.e1 f.li) 37)
  obtain ⟨c0, c1, c2, c3, c4⟩ := cells5 hF
  generalize Dw.slots f.a.length = n at *
  go_enter Tryz.func108, Tryz.ntmps108
  go_wp2_with fail
  refine cb (HR.out _) fun w1 hb => ?_
  replace hF := kp hb hF
  replace hB := tr hB hb
  clear hb
  clear c0 c1 c2 c3 c4
  obtain ⟨c0, c1, c2, c3, c4⟩ := cells5 hF
  by_cases h : 0 < n
  · have h' : (0 : Int) < (n : Int) := by omega
    have HS2 := Lib.hid (HS.out h)
    clear HS
    by_cases he : f.a.length = f.b.length
    · have hb : ((f.a.length : Int) == (f.b.length : Int)) = true := by rw [beq_iff_eq]; omega
      have HE2 := Lib.hid (And.intro h he)
      clear h he
      go_wp2_with fail
      go_ret
      exact ⟨by rw [HE.out, ← HS2.out.mpr HE2.out.2]; simp [HE2.out.1], hB⟩
    · have hb : ((f.a.length : Int) == (f.b.length : Int)) = false := by rw [beq_eq_false_iff_ne]; omega
      have HE2 := Lib.hid (And.intro h he)
      clear h he
      go_wp2_with fail
      go_ret
      exact ⟨by rw [HE.out]; simp [HS2.out, HE2.out.2], hB⟩
  · have h' : ¬ (0 : Int) < (n : Int) := by omega
    have HN := Lib.hid h
    clear h
    go_wp2_with fail
    go_ret
    exact ⟨by rw [HE.out]; simp [HN.out], hB⟩
end Go.Proofs.YtjonoojhdifjiaaGreatDoor
