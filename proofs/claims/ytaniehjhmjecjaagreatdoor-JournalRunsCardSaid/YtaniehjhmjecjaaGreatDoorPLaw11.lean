/- Layer 11: what its laws call: big, its, ops. -/
import Derived.Test.YtaniehjhmjecjaaGreatDoorPRPlay
import Derived.Test.YtaniehjhmjecjaaGreatDoorP17
import Derived.Test.YtaniehjhmjecjaaGreatDoorP10
namespace Go.Proofs.YtaniehjhmjecjaaGreatDoor
open Go.RowKit Go.Shelf
attribute [local go_sem] Oper.semAt_some

theorem opsAt_keep {w w' : World} {v : Value} {l : List Dw.Op} (h : OpsAt w v l) (hk : Below w.heap.size w w') : OpsAt w' v l := by
  obtain ⟨b, cap, c, t, fr, h1, h2, h3⟩ := h
  exact ⟨b, cap, c, t, fr, h1, (hk.block _ (block_lt h2)).trans h2, h3⟩

set_option maxRecDepth 100000 in
set_option maxHeartbeats 1000000 in
theorem big11_any (f : Dw.Fl) (w : World) :
    Calls Tryz.prog 9 #[flV f] w fun e w' => e = .returned (.bool (Dw.big f.a f.b)) ∧ Below w.heap.size w w' := by
  obtain ⟨a, b, e0, e1, li⟩ := f
  have hB := (Below.refl w.heap.size w).alloc (Nat.le_refl _) (.cells (flashC a b e0 e1 li) 25)
  have HG := Lib.hid (show Dw.big a b = decide (400 < a.length ∨ 400 < b.length) from rfl)
  by_cases h : 400 < a.length
  · have h' : (400 : Int) < (a.length : Int) := by omega
    go_enter Tryz.func9, Tryz.ntmps9
    go_wp2_with fail
    go_ret
    exact ⟨by rw [HG.out]; simp [h], hB⟩
  · have h' : ¬ (400 : Int) < (a.length : Int) := by omega
    by_cases h2 : 400 < b.length
    · have h2' : (400 : Int) < (b.length : Int) := by omega
      go_enter Tryz.func9, Tryz.ntmps9
      go_wp2_with fail
      go_ret
      exact ⟨by rw [HG.out]; simp [h, h2], hB⟩
    · have h2' : ¬ (400 : Int) < (b.length : Int) := by omega
      go_enter Tryz.func9, Tryz.ntmps9
      go_wp2_with fail
      go_ret
      exact ⟨by rw [HG.out]; simp [h, h2], hB⟩

set_option maxRecDepth 100000 in
set_option maxHeartbeats 1000000 in
theorem its_any (f : Dw.Fl) (w : World) :
    Calls Tryz.prog 13 #[flV f] w fun e w' => e = .returned (flV f) ∧ Below w.heap.size w w' := by
  have b0 := heap_alloc2_old w (.cells (flashC f.a f.b f.e0 f.e1 f.li) 25) (.cells (flashC [] [] 0 0 0) 37)
  have b1 := heap_alloc2_new w (.cells (flashC f.a f.b f.e0 f.e1 f.li) 25) (.cells (flashC [] [] 0 0 0) 37)
  have hB := ((Below.refl w.heap.size w).alloc (Nat.le_refl _) (.cells (flashC f.a f.b f.e0 f.e1 f.li) 25)).alloc (by simp) (.cells (flashC [] [] 0 0 0) 37)
  obtain ⟨c0, c1, c2, c3, c4⟩ := cells5 b0
  have HB := Lib.hid hB; have HB1 := Lib.hid b1
  clear hB b0 b1
  go_enter Tryz.func13, Tryz.ntmps13
  go_wp2_with (first | (refine wpList_store_block rfl 37 (.tmp 2) (.tmp 3) rfl rfl rfl HB1.out (by kernel_rfl) rfl (by simp [Value.oneCell']) ?_))
  refine bodyPost_ret (results_cell_row rfl _ _ _ _ _ _ _ (by rfl) (setRow_heap _ _ _ _ _ _ HB1.out) Tryz.underlying37 rfl (by kernel_rfl)) rfl ⟨rfl, below_setRow HB.out (by omega) _⟩

/-- Ops of the reference's kind that were made. -/
abbrev ROwn (B : Nat) (w : World) (v : Value) (ops : List Dw.Op) : Prop := w.ownsRow B 93 4 v ops.length (opsCells ops)
theorem rinfoOp : (Tryz.prog.info? 93).map (fun i => (i.zero, i.size, i.bytes)) = some (some (.agg #[.int .i64 0, .int .i64 0, .int .i64 0, .string ⟨#[]⟩]), 4, 40) := by kernel_rfl
theorem rown_at {B : Nat} {w : World} {v : Value} {ops : List Dw.Op} (h : ROwn B w v ops) (hs : ∃ g c, v = .slice (some ⟨g, 0, none⟩) ops.length c) : OpsAt w v ops := by
  rcases h.2 with ⟨h1, h0⟩ | ⟨g, cap, cur, h1, _, h3, _, _, _, h7⟩
  · obtain ⟨g, c, hs⟩ := hs; rw [hs] at h1; cases h1
  · refine ⟨g, cap, cur, _, _, h1, h3, fun j o ho => ?_⟩
    have hj : j < ops.length := (List.getElem?_eq_some_iff.1 ho).1
    have key : ∀ r, r < 4 → cur[j * 4 + r]? = (opC o).toList[r]? := by
      intro r hr
      rw [← opsCells_get ops j r o ho hr, ← h7, List.getElem?_take_of_lt (by omega), Array.getElem?_toList]
    exact ⟨key 0 (by decide), key 1 (by decide), key 2 (by decide), key 3 (by decide)⟩
theorem rnews_one {w : World} {b : Nat} {o : Dw.Op} (h : w.heap[b]? = some (.cells (opC o) 93 (0, 0))) : ∀ (j : Nat) (u : Value), (opsCells [o])[j]? = some u → w.cell? ((⟨b, 0, none⟩ : Addr).add j) = some u := by
  intro j u hu
  rw [addr_add, cell_of_row _ _ j _ _ _ h]
  rw [opsCells_cons, show opsCells [] = [] from rfl, List.append_nil, Array.getElem?_toList] at hu
  exact hu
theorem append_rop {ops : Array Oper} {rest : List Oper} {o : Oper} {a : Act} {Q : Exit → Act → World → Prop} {w W : World} (hgd : o.guard = none) (s x : Operand)
    (ho : o.op = .call { callee := .builtin .append, args := #[s, x], argTypes := #[41, 41] }) {B : Nat} (hB : Below B W w) (hBW : B ≤ W.heap.size)
    {v : Value} {l : List Dw.Op} {p : Dw.Op} {g m c : Nat} (hs : a.eval s = v) (hown : ROwn B w v l) (hl : l.length ≤ 100) (hx : a.eval x = .slice (some ⟨g, 0, none⟩) m c) (hm : m = 1) (hg : w.heap[g]? = some (.cells (opC p) 93 (0, 0)))
    (h : ∀ g' c' w', ROwn B w' (.slice (some ⟨g', 0, none⟩) (l.length + 1) c') (l ++ [p]) → Below B W w' → wpList Tryz.prog ops Q rest (a.put o.dst (.slice (some ⟨g', 0, none⟩) (l.length + 1) c')) w') : wpList Tryz.prog ops Q (o :: rest) a w := by
  subst hm
  obtain ⟨i0, hi, hz0, hz1, hz2⟩ := info_parts rinfoOp
  refine wpList_append_own _ hgd s x _ ho B 93 i0 _ 4 40 Tryz.underlying41 hi hz0 hz1 hz2 rfl (by decide) v _ _ hs hown ⟨g, 0, none⟩ 1 c (opsCells [p]) hx (by rw [opsCells_len]; rfl) (rnews_one hg) (opsCells_one [p]) (Nat.le_trans (Nat.add_le_add_right hl 1) (by decide)) (Nat.le_trans (Nat.mul_le_mul_right 40 (Nat.add_le_add_right hl 1)) (by decide)) (Nat.le_trans hBW hB.size) ?_
  intro v2 w2 hown2 hgrow2 _
  have hkb : KeepBut (fun k => B ≤ k) w w2 := (KeepBut.refl _ w).grown hgrow2 (fun g e => by
    rcases hown.2 with ⟨h1, _⟩ | ⟨g', cap, cur, h1, h2, _⟩
    · rw [h1] at e; cases e
    · rw [h1] at e
      obtain rfl : g' = g := by simpa [Value.ownBlock] using e
      exact h2)
  rcases hown2.2 with ⟨h1, h2⟩ | ⟨g', c', cur, h1, h2, h3⟩
  · omega
  · subst h1
    refine h g' c' w2 ?_ (hB.trans (hkb.below (Nat.le_trans hBW hB.size) (fun _ h => h)))
    have := hown2
    rw [← opsCells_append] at this
    rw [ROwn, List.length_append]
    exact this

set_option maxRecDepth 100000 in
set_option maxHeartbeats 1000000 in
theorem ops_any (l : List Dw.Op) (hl : l.length < 20) (v : Value) (w : World) (hv : OpsAt w v l) :
    Calls Tryz.prog 15 #[v] w fun e w' => (∃ u, e = .returned u ∧ OpsAt w' u l) ∧ Below w.heap.size w w' := by
  obtain ⟨b, cap, c, t, fr, rfl, hb, hc⟩ := hv
  have hbl := block_lt hb
  have HBK := Lib.hid hb; have HC := Lib.hid hc
  clear hb hc
  have hown0 : ROwn w.heap.size (w.alloc (.cells #[] 93)) (.slice (some ⟨w.heap.size, 0, none⟩) 0 0) [] := ⟨by simp [opsCells], .inr ⟨_, 0, #[], rfl, Nat.le_refl _, World.alloc_heap_new _ _, by simp, by simp [maxLen], by simp, by simp [opsCells]⟩⟩
  have hB0 := (Below.refl w.heap.size w).alloc (Nat.le_refl _) (.cells #[] 93)
  go_enter Tryz.func15, Tryz.ntmps15
  go_wp2_with fail
  go_loopw [3, 4] (fun s i wr => ∃ (k g cp : Nat), k ≤ l.length ∧ i = .int .i64 k ∧ s = .slice (some ⟨g, 0, none⟩) k cp ∧ ROwn w.heap.size wr s (l.take k) ∧ Below w.heap.size w wr) (fun _ i _ => l.length - (intOf i).toNat)
  case atStart => exact ⟨0, _, _, Nat.zero_le _, rfl, rfl, hown0, hB0⟩
  case round =>
    clear hown0 hB0
    obtain ⟨k, g, cp, hk, rfl, rfl, hown, hB⟩ := hrel
    have hlen : (l.take k).length = k := by rw [List.length_take]; omega
    have hBs := hB.size
    by_cases hlt : k < l.length
    · obtain ⟨o, hoe⟩ : ∃ o, l[k]? = some o := ⟨l[k], List.getElem?_eq_getElem hlt⟩
      have Htk := Lib.hid (show l.take (k + 1) = l.take k ++ [o] from by rw [List.take_add_one, hoe]; rfl)
      have hbk : wr.heap[b]? = some (.cells c t fr) := (hB.block _ hbl).trans HBK.out
      obtain ⟨q0, q1, q2, q3⟩ := HC.out k o hoe
      have k0 := (cell_of_row _ _ (k * 4) _ _ _ hbk).trans q0
      have k1 := (cell_of_row _ _ (k * 4 + 1) _ _ _ hbk).trans q1
      have k2 := (cell_of_row _ _ (k * 4 + 2) _ _ _ hbk).trans q2
      have k3 := (cell_of_row _ _ (k * 4 + 3) _ _ _ hbk).trans q3
      have h1 : (k : Int) < (l.length : Int) := by omega
      have h2 : (k : Int) < 20 := by omega
      generalize l.take k = L at *
      have hB4 := hB.alloc (by omega) (.cells (opC o) 93)
      have hown4 : ROwn w.heap.size (wr.alloc (.cells (opC o) 93)) _ L := ownsRow_keep hown ((KeepBut.refl (fun _ => False) wr).alloc (.cells (opC o) 93)) (fun _ _ h => h)
      have hbc := heap_alloc_new wr (.cells (opC o) 93)
      have HB4 := Lib.hid hB4; have HO4 := Lib.hid hown4; have HBC := Lib.hid hbc; have Hlen := Lib.hid hlen
      clear hB4 hown4 hbc hown hB hlen q0 q1 q2 q3 hoe hbk
      go_wp2_with (at_builtin; go_loud (refine append_rop (p := o) (by rfl) _ _ (by rfl) HB4.out (by omega) (by rfl) HO4.out (by rw [Hlen.out]; omega) (by rfl) rfl HBC.out ?_); intro g' c' w5 hown5 hB5)
      rw [Hlen.out] at hown5
      go_wp2_with fail
      go_roundw
      case rel => exact ⟨k + 1, g', c', hlt, by go_num, by rw [Hlen.out], by rw [Htk.out, Hlen.out]; exact hown5, hB5⟩
      case measure => simp [intOf]; omega
    · obtain rfl : k = l.length := by omega
      have h1 : ¬ (l.length : Int) < (l.length : Int) := by omega
      rw [List.take_of_length_le (Nat.le_refl _)] at hown
      go_wp2_with fail
      go_ret
      exact ⟨⟨_, rfl, rown_at hown ⟨_, _, rfl⟩⟩, hB⟩
end Go.Proofs.YtaniehjhmjecjaaGreatDoor
