/- Layer 12: the reference's Run; the laws' steps and log. -/
import Derived.Test.YtaniehjhmjecjaaGreatDoorPRPlay12
import Derived.Test.YtaniehjhmjecjaaGreatDoorP20
import Derived.Test.YtaniehjhmjecjaaGreatDoorPSafe
namespace Go.Proofs.YtaniehjhmjecjaaGreatDoor
open Go.RowKit Go.Shelf
attribute [local go_sem] Oper.semAt_some

abbrev ZLog : Array Value := #[.string ⟨#[]⟩, .string ⟨#[]⟩, .int .i64 0, .int .i64 0, .int .i64 0, .int .i64 0, .int .u64 0, .bool false, .int .u64 0]
set_option maxRecDepth 100000 in
set_option maxHeartbeats 4000000 in
theorem rrun12_any (f : Dw.Fl) (hf : Dw.FlOk f) (ss : List Dw.Stp) (hn : ss.length ≤ 1000) (hm : ∀ s ∈ ss, s.mask.length ≤ 100000) (v : Value) (w : World) (hv : StepsAt w v ss) :
    Calls Tryz.prog 23 #[flV f, v] w fun e w' => e = .returned (lgV (Dw.runJ (Dw.lg0 f) ss)) ∧ Below w.heap.size w w' := by
  have HV0 := Lib.hid hv
  obtain ⟨sa, cap, hus, _, _⟩ := id hv
  subst hus
  obtain ⟨V, hV⟩ : ∃ V, ((w.alloc (.cells (flashC f.a f.b f.e0 f.e1 f.li) 37)).alloc (.cells ZLog 64)).alloc (.cells (lgC (Dw.lg0 f)) 64) = V := ⟨_, rfl⟩
  obtain ⟨vz, hB, b0, b1, b2⟩ := alloc3 w _ _ _ V hV
  have HR := Lib.hid (fun k s (h : ss[k]? = some s) => Dw.runJ_next (Dw.lg0 f) ss h)
  have HO := Lib.hid (fun k => Dw.runJ_ok (ss.take k) (Dw.lg0 f) hf)
  have HA := Lib.hid (fun k => Dw.runJ_acked (ss.take k) (Dw.lg0 f))
  have HF := Lib.hid (show Dw.runJ (Dw.lg0 f) (ss.take ss.length) = Dw.runJ (Dw.lg0 f) ss from by rw [List.take_length])
  have HM := Lib.hid hm
  have HV := Lib.hid hV
  obtain ⟨c0, c1, c2, c3, c4⟩ := cells5 ((heap_alloc_old (w.alloc (.cells (flashC f.a f.b f.e0 f.e1 f.li) 37)) (.cells ZLog 64) _ (by simp)).trans (heap_alloc_new w (.cells (flashC f.a f.b f.e0 f.e1 f.li) 37)))
  clear hV b0 vz hv hm
  go_enter Tryz.func23, Tryz.ntmps23
  go_wp2_with fail
  generalize hW : World.alloc (World.alloc (World.alloc w _) _) _ = W
  obtain rfl : W = V := hW.symm.trans HV.out
  clear hW c0 c1 c2 c3 c4 HV
  go_loopw [6] (fun i wr => ∃ k : Nat, k ≤ ss.length ∧ i = .int .i64 k ∧ wr.heap[w.heap.size + 1]? = some (.cells ZLog 64 (0, 0)) ∧ wr.heap[w.heap.size + 2]? = some (.cells (lgC (Dw.runJ (Dw.lg0 f) (ss.take k))) 64 (0, 0)) ∧ Below w.heap.size w wr) (fun i _ => ss.length - (intOf i).toNat)
  case atStart => exact ⟨0, Nat.zero_le _, rfl, b1, b2, hB⟩
  case round =>
    clear b1 b2 hB
    obtain ⟨k, hk, rfl, b1, b2, hB⟩ := hrel
    by_cases hlt : k < ss.length
    · have hlt' : (k : Int) < (ss.length : Int) := by omega
      obtain ⟨s, hse⟩ : ∃ s, ss[k]? = some s := ⟨ss[k], List.getElem?_eq_getElem hlt⟩
      obtain ⟨hds, bb, off, rfl, k0, k1, k2⟩ := (HV0.out.next hB).get hse
      have hok := HO.out k
      have hac := HA.out k
      have hnx := HR.out k s hse
      have hl0 : (Dw.lg0 f).acked = 0 := rfl
      have hlk : (ss.take k).length ≤ 1000 := by rw [List.length_take]; omega
      have hPL := fun w => rplay12_any (Dw.runJ (Dw.lg0 f) (ss.take k)) hok (by omega) s hds (HM.out s (List.mem_of_getElem? hse)) w
      rw [← hnx] at hPL
      have HPL := Lib.hid hPL
      clear hPL hnx hok hac hl0 hlk hse hds
      generalize Dw.runJ (Dw.lg0 f) (ss.take k) = lk at *
      generalize hl2 : Dw.runJ (Dw.lg0 f) (ss.take (k + 1)) = l2 at *
      have HL2 := Lib.hid hl2
      clear hl2
      obtain ⟨l0, l1, l3, l4, l5, l6, l7, l8, l9⟩ := cells9 b2
      have B1 := Lib.hid b1; have B2 := Lib.hid b2; have HB := Lib.hid hB
      clear b1 b2 hB
      go_wp2_with fail
      refine wp_pure (List.range 6) 6 (by kernel_rfl) (by kernel_rfl) rfl ?_
      rw [show List.range 6 = [0, 1, 2, 3, 4, 5] from rfl]
      (refine pl_value (v := ?_) rfl rfl ?_ ?_; rotate_left 1; (focus (intro w' hk; have y0 := look hk l0; have y1 := look hk l1; have y2 := look hk l3; have y3 := look hk l4; have y4 := look hk l5; have y5 := look hk l6; have y6 := look hk l7; have y7 := look hk l8; have y8 := look hk l9; have z0 := look hk k0; have z1 := look hk k1; have z2 := look hk k2; go_simp; (first | done | with_reducible rfl | exact rfl))); (try simp only [Act.put, List.setIfInBounds_toArray, List.set_cons_zero, List.set_cons_succ]))
      (refine pl_value (v := ?_) rfl rfl ?_ ?_; rotate_left 1; (focus (intro w' hk; have y0 := look hk l0; have y1 := look hk l1; have y2 := look hk l3; have y3 := look hk l4; have y4 := look hk l5; have y5 := look hk l6; have y6 := look hk l7; have y7 := look hk l8; have y8 := look hk l9; have z0 := look hk k0; have z1 := look hk k1; have z2 := look hk k2; go_simp; (first | done | with_reducible rfl | exact rfl))); (try simp only [Act.put, List.setIfInBounds_toArray, List.set_cons_zero, List.set_cons_succ]))
      (refine pl_value (v := ?_) rfl rfl ?_ ?_; rotate_left 1; (focus (intro w' hk; have y0 := look hk l0; have y1 := look hk l1; have y2 := look hk l3; have y3 := look hk l4; have y4 := look hk l5; have y5 := look hk l6; have y6 := look hk l7; have y7 := look hk l8; have y8 := look hk l9; have z0 := look hk k0; have z1 := look hk k1; have z2 := look hk k2; go_simp; (first | done | with_reducible rfl | exact rfl))); (try simp only [Act.put, List.setIfInBounds_toArray, List.set_cons_zero, List.set_cons_succ]))
      (refine pl_value (v := ?_) rfl rfl ?_ ?_; rotate_left 1; (focus (intro w' hk; have y0 := look hk l0; have y1 := look hk l1; have y2 := look hk l3; have y3 := look hk l4; have y4 := look hk l5; have y5 := look hk l6; have y6 := look hk l7; have y7 := look hk l8; have y8 := look hk l9; have z0 := look hk k0; have z1 := look hk k1; have z2 := look hk k2; go_simp; (first | done | with_reducible rfl | exact rfl))); (try simp only [Act.put, List.setIfInBounds_toArray, List.set_cons_zero, List.set_cons_succ]))
      (refine pl_value (v := ?_) rfl rfl ?_ ?_; rotate_left 1; (focus (intro w' hk; have y0 := look hk l0; have y1 := look hk l1; have y2 := look hk l3; have y3 := look hk l4; have y4 := look hk l5; have y5 := look hk l6; have y6 := look hk l7; have y7 := look hk l8; have y8 := look hk l9; have z0 := look hk k0; have z1 := look hk k1; have z2 := look hk k2; go_simp; (first | done | with_reducible rfl | exact rfl))); (try simp only [Act.put, List.setIfInBounds_toArray, List.set_cons_zero, List.set_cons_succ]))
      (refine pl_call (v := ?_) (f := ?_) (args := ?_) rfl rfl ?_ ?_ ?_; rotate_left 3; (focus (intro w' hk; have y0 := look hk l0; have y1 := look hk l1; have y2 := look hk l3; have y3 := look hk l4; have y4 := look hk l5; have y5 := look hk l6; have y6 := look hk l7; have y7 := look hk l8; have y8 := look hk l9; have z0 := look hk k0; have z1 := look hk k1; have z2 := look hk k2; go_simp; (first | done | (constructor <;> with_reducible rfl) | with_reducible rfl))); (focus (intro w' hk; exact HPL.out w')); (try simp only [Act.put, List.setIfInBounds_toArray, List.set_cons_zero, List.set_cons_succ]))
      refine pl_nil ?_
      intro w5 hk5
      simp only [List.drop_succ_cons, List.drop_zero]
      have b1 := (hk5.block _ (block_lt B1.out) id).trans B1.out
      have b2 := (hk5.block _ (block_lt B2.out) id).trans B2.out
      have hB := HB.out.trans (hk5.whole.mono HB.out.size)
      have q1 := (setRow_other w5 (w.heap.size + 2) (w.heap.size + 1) (lgC l2) (by omega)).trans b1
      have q2 := setRow_heap w5 (w.heap.size + 2) _ (lgC l2) _ _ b2
      have qB := below_setRow hB (by omega) (lgC l2) (g := w.heap.size + 2)
      have B2 := Lib.hid b2; have Q1 := Lib.hid q1; have Q2 := Lib.hid q2; have QB := Lib.hid qB
      clear hk5 b1 b2 hB q1 q2 qB HB l0 l1 l3 l4 l5 l6 l7 l8 l9 k0 k1 k2 HPL B1
      go_wp2_with (first | (refine wpList_store_block rfl 64 (.tmp 5) (.tmp 20) rfl rfl rfl B2.out (by kernel_rfl) rfl (by simp [Value.oneCell']) ?_))
      go_roundw
      case rel => exact ⟨k + 1, hlt, by go_num, Q1.out, by rw [HL2.out]; exact Q2.out, QB.out⟩
      case measure => simp [intOf]; omega
    · obtain rfl : k = ss.length := by omega
      have hge : ¬ (ss.length : Int) < (ss.length : Int) := by omega
      rw [HF.out] at b2
      have B1 := Lib.hid b1; have B2 := Lib.hid b2; have HB := Lib.hid hB
      clear b1 b2 hB
      go_wp2_with (first | (refine wpList_load_block rfl 64 (.tmp 5) rfl rfl B2.out Tryz.underlying64 rfl (by kernel_rfl) ?_) | (refine wpList_store_block rfl 64 (.tmp 4) (.tmp 21) rfl rfl rfl B1.out (by kernel_rfl) rfl (by simp [Value.oneCell']) ?_))
      refine bodyPost_ret (results_cell_row rfl _ _ _ _ _ _ _ (by rfl) (setRow_heap _ _ _ _ _ _ B1.out) Tryz.underlying64 rfl (by kernel_rfl)) rfl ⟨rfl, below_setRow HB.out (by omega) _⟩

set_option maxRecDepth 100000 in
theorem log12_any (l : Dw.Lg) (w : World) :
    Calls Tryz.prog 27 #[lgV l] w fun e w' => e = .returned (lgV l) ∧ Below w.heap.size w w' := by
  have b0 := heap_alloc2_old w (.cells (lgC l) 61) (.cells ZLog 64)
  have b1 := heap_alloc2_new w (.cells (lgC l) 61) (.cells ZLog 64)
  have hB := ((Below.refl w.heap.size w).alloc (Nat.le_refl _) (.cells (lgC l) 61)).alloc (by simp) (.cells ZLog 64)
  obtain ⟨l0, l1, l2, l3, l4, l5, l6, l7, l8⟩ := cells9 b0
  have B1 := Lib.hid b1; have HB := Lib.hid hB
  clear b0 b1 hB
  go_enter Tryz.func27, Tryz.ntmps27
  go_wp2_with (first | (refine wpList_store_block rfl 64 (.tmp 2) (.tmp 13) rfl rfl rfl B1.out (by kernel_rfl) rfl (by simp [Value.oneCell']) ?_))
  refine bodyPost_ret (results_cell_row rfl _ _ _ _ _ _ _ (by rfl) (setRow_heap _ _ _ _ _ _ B1.out) Tryz.underlying64 rfl (by kernel_rfl)) rfl ⟨rfl, below_setRow HB.out (by omega) _⟩

/-- Steps of the reference's kind that were made. -/
def stCells (l : List Dw.Stp) : List Value := l.flatMap fun s => (stpC s).toList
theorem stCells_cons (s : Dw.Stp) (l : List Dw.Stp) : stCells (s :: l) = (stpC s).toList ++ stCells l := rfl
theorem stCells_append (a b : List Dw.Stp) : stCells (a ++ b) = stCells a ++ stCells b := by unfold stCells; rw [List.flatMap_append]
theorem stCells_len : ∀ l : List Dw.Stp, (stCells l).length = l.length * 3
  | [] => rfl
  | s :: l => by rw [stCells_cons, List.length_append, stCells_len l, List.length_cons]; simp; omega
theorem stCells_get : ∀ (l : List Dw.Stp) (i r : Nat) (s : Dw.Stp), l[i]? = some s → r < 3 → (stCells l)[i * 3 + r]? = (stpC s).toList[r]?
  | [], _, _, _, h, _ => by simp at h
  | s :: l, 0, r, s', h, hr => by
    obtain rfl : s = s' := by simpa using h
    rw [stCells_cons, List.getElem?_append_left (by simp; omega), Nat.zero_mul, Nat.zero_add]
  | s :: l, i + 1, r, s', h, hr => by
    rw [stCells_cons, List.getElem?_append_right (by simp; omega)]
    have := stCells_get l i r s' (by simpa using h) hr
    rw [← this]
    congr 1
    simp
    omega
abbrev StOwn (B : Nat) (w : World) (v : Value) (l : List Dw.Stp) : Prop := w.ownsRow B 56 3 v l.length (stCells l)
theorem sinfo : (Tryz.prog.info? 56).map (fun i => (i.zero, i.size, i.bytes)) = some (some (.agg #[.int .u64 0, .int .i64 0, .string ⟨#[]⟩]), 3, 32) := by kernel_rfl
theorem stOwn_at {B : Nat} {w : World} {v : Value} {l : List Dw.Stp} (h : StOwn B w v l) (hd : ∀ s ∈ l, s.data < 18446744073709551616) : StepsAt w v l := by
  rcases h.2 with ⟨h1, h0⟩ | ⟨g, cap, cur, h1, _, h3, _, _, _, h7⟩
  · have : l = [] := List.eq_nil_of_length_eq_zero h0
    subst this
    exact ⟨_, _, h1, hd, .inl rfl⟩
  · refine ⟨_, _, h1, hd, .inr ⟨g, 0, rfl, fun j s hs => ?_⟩⟩
    have hj : j < l.length := (List.getElem?_eq_some_iff.1 hs).1
    have key : ∀ r, r < 3 → w.cell? ⟨g, 0 + j * 3 + r, none⟩ = (stpC s).toList[r]? := by
      intro r hr
      rw [Nat.zero_add, cell_of_row _ _ _ _ _ _ h3, ← stCells_get l j r s hs hr, ← h7, List.getElem?_take_of_lt (by omega), Array.getElem?_toList]
    exact ⟨key 0 (by decide), key 1 (by decide), key 2 (by decide)⟩
theorem stnews_one {w : World} {b : Nat} {s : Dw.Stp} (h : w.heap[b]? = some (.cells (stpC s) 56 (0, 0))) : ∀ (j : Nat) (u : Value), (stCells [s])[j]? = some u → w.cell? ((⟨b, 0, none⟩ : Addr).add j) = some u := by
  intro j u hu
  rw [addr_add, cell_of_row _ _ j _ _ _ h]
  rw [stCells_cons, show stCells [] = [] from rfl, List.append_nil, Array.getElem?_toList] at hu
  exact hu
theorem stCells_one (l : List Dw.Stp) : ∀ u ∈ stCells l, u.oneCell' = true := by
  intro u hu
  unfold stCells at hu
  rw [List.mem_flatMap] at hu
  obtain ⟨o, _, hu⟩ := hu
  simp at hu
  rcases hu with rfl | rfl | rfl <;> rfl
theorem append_st {ops : Array Oper} {rest : List Oper} {o : Oper} {a : Act} {Q : Exit → Act → World → Prop} {w W : World} (hgd : o.guard = none) (s x : Operand)
    (ho : o.op = .call { callee := .builtin .append, args := #[s, x], argTypes := #[66, 66] }) {B : Nat} (hB : Below B W w) (hBW : B ≤ W.heap.size)
    {v : Value} {l : List Dw.Stp} {p : Dw.Stp} {g m c : Nat} (hs : a.eval s = v) (hown : StOwn B w v l) (hl : l.length ≤ 1000) (hx : a.eval x = .slice (some ⟨g, 0, none⟩) m c) (hm : m = 1) (hg : w.heap[g]? = some (.cells (stpC p) 56 (0, 0)))
    (h : ∀ g' c' w', StOwn B w' (.slice (some ⟨g', 0, none⟩) (l.length + 1) c') (l ++ [p]) → Below B W w' → wpList Tryz.prog ops Q rest (a.put o.dst (.slice (some ⟨g', 0, none⟩) (l.length + 1) c')) w') : wpList Tryz.prog ops Q (o :: rest) a w := by
  subst hm
  obtain ⟨i0, hi, hz0, hz1, hz2⟩ := info_parts sinfo
  refine wpList_append_own _ hgd s x _ ho B 56 i0 _ 3 32 Tryz.underlying66 hi hz0 hz1 hz2 rfl (by decide) v _ _ hs hown ⟨g, 0, none⟩ 1 c (stCells [p]) hx (by rw [stCells_len]; rfl) (stnews_one hg) (stCells_one [p]) (Nat.le_trans (Nat.add_le_add_right hl 1) (by decide)) (Nat.le_trans (Nat.mul_le_mul_right 32 (Nat.add_le_add_right hl 1)) (by decide)) (Nat.le_trans hBW hB.size) ?_
  intro v2 w2 hown2 hgrow2 _
  have hkb : KeepBut (fun k => B ≤ k) w w2 := (KeepBut.refl _ w).grown hgrow2 (fun g e => by
    rcases hown.2 with ⟨h1, _⟩ | ⟨g', cap, cur, h1, h2, _⟩
    · rw [h1] at e; cases e
    · rw [h1] at e
      obtain rfl : g' = g := by simpa [Value.ownBlock] using e
      exact h2)
  rcases hown2.2 with ⟨h1, h2⟩ | ⟨g', c', cur, h1, h2, h3⟩
  · omega
  · subst h1
    refine h g' c' w2 ?_ (hB.trans (hkb.below (Nat.le_trans hBW hB.size) (fun _ h => h)))
    have := hown2
    rw [← stCells_append] at this
    rw [StOwn, List.length_append]
    exact this

set_option maxRecDepth 100000 in
set_option maxHeartbeats 1000000 in
theorem steps12_any (ss : List Dw.Stp) (hl : ss.length ≤ 900) (v : Value) (w : World) (hv : StepsAt w v ss) :
    Calls Tryz.prog 24 #[v] w fun e w' => (∃ u, e = .returned u ∧ StepsAt w' u ss) ∧ Below w.heap.size w w' := by
  have HV0 := Lib.hid hv
  obtain ⟨sa, cap, hus, hd, _⟩ := id hv
  subst hus
  have HD := Lib.hid hd
  have hown0 : StOwn w.heap.size (w.alloc (.cells #[] 56)) (.slice (some ⟨w.heap.size, 0, none⟩) 0 0) [] := ⟨by simp [stCells], .inr ⟨_, 0, #[], rfl, Nat.le_refl _, World.alloc_heap_new _ _, by simp, by simp [maxLen], by simp, by simp [stCells]⟩⟩
  have hB0 := (Below.refl w.heap.size w).alloc (Nat.le_refl _) (.cells #[] 56)
  clear hv hd
  go_enter Tryz.func24, Tryz.ntmps24
  go_wp2_with fail
  go_loopw [3, 4] (fun s i wr => ∃ (k g cp : Nat), k ≤ ss.length ∧ i = .int .i64 k ∧ s = .slice (some ⟨g, 0, none⟩) k cp ∧ StOwn w.heap.size wr s (ss.take k) ∧ Below w.heap.size w wr) (fun _ i _ => ss.length - (intOf i).toNat)
  case atStart => exact ⟨0, _, _, Nat.zero_le _, rfl, rfl, hown0, hB0⟩
  case round =>
    clear hown0 hB0
    obtain ⟨k, g, cp, hk, rfl, rfl, hown, hB⟩ := hrel
    have hlen : (ss.take k).length = k := by rw [List.length_take]; omega
    have hBs := hB.size
    by_cases hlt : k < ss.length
    · obtain ⟨s, hse⟩ : ∃ s, ss[k]? = some s := ⟨ss[k], List.getElem?_eq_getElem hlt⟩
      obtain ⟨hds, bb, off, rfl, k0, k1, k2⟩ := (HV0.out.next hB).get hse
      have Htk := Lib.hid (show ss.take (k + 1) = ss.take k ++ [s] from by rw [List.take_add_one, hse]; rfl)
      have h1 : (k : Int) < (ss.length : Int) := by omega
      generalize ss.take k = L at *
      have hB4 := hB.alloc (by omega) (.cells (stpC s) 56)
      have hown4 : StOwn w.heap.size (wr.alloc (.cells (stpC s) 56)) _ L := ownsRow_keep hown ((KeepBut.refl (fun _ => False) wr).alloc (.cells (stpC s) 56)) (fun _ _ h => h)
      have hbc := heap_alloc_new wr (.cells (stpC s) 56)
      have HB4 := Lib.hid hB4; have HO4 := Lib.hid hown4; have HBC := Lib.hid hbc; have Hlen := Lib.hid hlen
      clear hB4 hown4 hbc hown hB hlen hse hds
      go_wp2_with (at_builtin; refine append_st (p := s) (by rfl) _ _ (by rfl) HB4.out (by omega) (by rfl) HO4.out (by rw [Hlen.out]; omega) (by rfl) rfl HBC.out ?_; intro g' c' w5 hown5 hB5)
      rw [Hlen.out] at hown5
      go_wp2_with fail
      go_roundw
      case rel => exact ⟨k + 1, g', c', hlt, by go_num, by rw [Hlen.out], by rw [Htk.out, Hlen.out]; exact hown5, hB5⟩
      case measure => simp [intOf]; omega
    · obtain rfl : k = ss.length := by omega
      have h1 : ¬ (ss.length : Int) < (ss.length : Int) := by omega
      rw [List.take_of_length_le (Nat.le_refl _)] at hown
      go_wp2_with fail
      go_ret
      exact ⟨⟨_, rfl, stOwn_at hown HD.out⟩, hB⟩
end Go.Proofs.YtaniehjhmjecjaaGreatDoor
