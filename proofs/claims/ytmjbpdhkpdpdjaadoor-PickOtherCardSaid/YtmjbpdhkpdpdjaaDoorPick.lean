/- Layers 9 and 10: Sound of the reference; pick.of, best, Bank, Read. -/
import Derived.Test.YtmjbpdhkpdpdjaaDoorRScan
namespace Go.Proofs.YtmjbpdhkpdpdjaaDoor
open Go.RowKit Go.Shelf
attribute [local go_sem] Oper.semAt_some

theorem rsound_any (s : List UInt8) (hs : s.length ≤ 400) (w : World) :
    Calls Tryd.prog 15 #[.string ⟨s.toArray⟩] w fun e w' => e = .returned (.bool (Dw.sound s)) ∧ Below w.heap.size w w' := by
  have HS := Lib.hid (show Dw.sound s = decide (Dw.genE s = 0 ∧ (Dw.last s).2 = 0) from rfl)
  go_enter Tryd.func15, Tryd.ntmps15
  go_wp2_with fail
  refine (rgen_any s hs _).mono ?_
  rintro e w1 ⟨rfl, hb1⟩
  generalize Dw.genE s = ge at *
  generalize Dw.genN s = gn at *
  go_wp2_with fail
  refine (rlast_any s hs _).mono ?_
  rintro e w2 ⟨rfl, hb2⟩
  generalize hl : Dw.last s = la at *
  clear hl
  obtain ⟨⟨bk, bq, bd⟩, be⟩ := la
  have hB := (hb1.trans (hb2.mono hb1.size)).alloc (Nat.le_trans hb1.size hb2.size) (.cells #[.int .i64 bk, .int .u64 bq, .int .u64 bd] 63)
  by_cases h0 : ge = 0
  · subst h0
    go_wp2_with fail
    go_ret
    refine ⟨?_, hB⟩
    rw [HS.out]
    by_cases h1 : be = 0 <;> simp [h1]
  · have h0' : (ge == 0) = false := by simpa using h0
    go_wp2_with fail
    go_ret
    refine ⟨?_, hB⟩
    rw [HS.out]
    simp [h0]

namespace Dw
structure PS where
  bank : Int
  gen : Nat
  seq : Nat
  data : Nat
def psNone : PS := ⟨-1, 0, 0, 0⟩
def ofS (s : List UInt8) (i : Int) : PS := if sound s = true then ⟨i, genN s, (last s).1.seq, (last s).1.data⟩ else psNone
end Dw
abbrev psV (p : Dw.PS) : Value := .agg #[.int .i64 p.bank, .int .u64 p.gen, .int .u64 p.seq, .int .u64 p.data]
/-- The package's variable. -/
def NoneAt (w : World) : Prop := w.cell? ⟨0, 0, none⟩ = some (.int .i64 (-1)) ∧ w.cell? ⟨0, 1, none⟩ = some (.int .u64 0) ∧ w.cell? ⟨0, 2, none⟩ = some (.int .u64 0) ∧ w.cell? ⟨0, 3, none⟩ = some (.int .u64 0)
theorem NoneAt.below {w w' : World} {B : Nat} (h : NoneAt w) (hb : Below B w w') (hB : 0 < B) : NoneAt w' :=
  ⟨(hb.cell (p := ⟨0, 0, none⟩) hB).trans h.1, (hb.cell (p := ⟨0, 1, none⟩) hB).trans h.2.1, (hb.cell (p := ⟨0, 2, none⟩) hB).trans h.2.2.1, (hb.cell (p := ⟨0, 3, none⟩) hB).trans h.2.2.2⟩
theorem NoneAt.pos {w : World} (h : NoneAt w) : 0 < w.heap.size := lt_of_cell h.1
theorem NoneAt.next {w w' : World} (h : NoneAt w) (hb : Below w.heap.size w w') : NoneAt w' := h.below hb h.pos
theorem NoneAt.keep {w w' : World} (h : NoneAt w) (hk : Keep w w') : NoneAt w' := h.next hk.whole

set_option maxHeartbeats 1000000 in
theorem of_any (s : List UInt8) (hs : s.length ≤ 400) (i : Int) (w : World) (hn : NoneAt w) :
    Calls Tryd.prog 43 #[.string ⟨s.toArray⟩, .int .i64 i] w fun e w' => e = .returned (psV (Dw.ofS s i)) ∧ Below w.heap.size w w' := by
  have hge := Dw.genE_e s
  have hla := Dw.last_e s
  have hpos := hn.pos
  have HS := Lib.hid (show Dw.ofS s i = if Dw.genE s = 0 ∧ (Dw.last s).2 = 0 then ⟨i, Dw.genN s, (Dw.last s).1.seq, (Dw.last s).1.data⟩ else Dw.psNone from by unfold Dw.ofS Dw.sound; simp)
  go_enter Tryd.func43, Tryd.ntmps43
  go_wp2_with fail
  have hB0 := (Below.refl w.heap.size w).alloc (Nat.le_refl _) (.cells #[.int .i64 0, .int .u64 0, .int .u64 0, .int .u64 0] 35)
  have hC0 := heap_alloc_new w (.cells #[.int .i64 0, .int .u64 0, .int .u64 0, .int .u64 0] 35)
  refine (gen_any s hs _).mono ?_
  rintro e w1 ⟨rfl, hb1⟩
  have hC1 := (hb1.block w.heap.size (by simp)).trans hC0
  have hB1 := hB0.trans (hb1.mono hB0.size)
  have hl1 := block_lt hC1
  have HC1 := Lib.hid hC1
  clear hB0 hC0 hb1 hC1
  generalize hg : Dw.genE s = ge at *
  generalize hgn : Dw.genN s = gn at *
  have Hgn := Lib.hid hgn; have Hg := Lib.hid hg
  clear hg hgn
  go_wp2_with fail
  refine (last_any s hs _).mono ?_
  rintro e w2 ⟨rfl, hb2⟩
  have hC2 := (hb2.block _ hl1).trans HC1.out
  have hB2 := hB1.trans (hb2.mono hB1.size)
  generalize hl : Dw.last s = la at *
  have Hl := Lib.hid hl; clear hl
  obtain ⟨⟨bk, bq, bd⟩, be⟩ := la
  have hC3 := (heap_alloc_old w2 (.cells #[.int .i64 bk, .int .u64 bq, .int .u64 bd] 70) _ (block_lt hC2)).trans hC2
  have hB3 := hB2.alloc hB2.size (.cells #[.int .i64 bk, .int .u64 bq, .int .u64 bd] 70)
  have HN := Lib.hid (hn.below hB3 hpos)
  have hz2 := hb2.size
  clear hb2 hC2 hB2 HC1 hB1
  rcases hge with rfl | rfl
  · rcases hla with h | h
    · change be = 0 at h
      subst h
      go_wp2_with (first | (refine wpList_load_block rfl 35 _ rfl rfl hC3 Tryd.underlying35 rfl (by kernel_rfl) ?_) | (refine wpList_store_block rfl 35 _ _ rfl rfl rfl hC3 (by kernel_rfl) rfl (by simp [Value.oneCell']) ?_))
      refine bodyPost_ret (results_cell_row rfl _ _ _ _ _ _ _ (by rfl) (setRow_heap _ _ _ _ _ _ hC3) Tryd.underlying35 rfl (by kernel_rfl)) rfl ⟨?_, below_setRow hB3 (Nat.le_refl _) _⟩
      rw [HS.out]; rfl
    · change be = 10 at h
      subst h
      obtain ⟨n0, n1, n2, n3⟩ := HN.out
      go_wp2_with (first | (refine wpList_load_block rfl 35 _ rfl rfl hC3 Tryd.underlying35 rfl (by kernel_rfl) ?_) | (refine wpList_store_block rfl 35 _ _ rfl rfl rfl hC3 (by kernel_rfl) rfl (by simp [Value.oneCell']) ?_))
      refine bodyPost_ret (results_cell_row rfl _ _ _ _ _ _ _ (by rfl) (setRow_heap _ _ _ _ _ _ hC3) Tryd.underlying35 rfl (by kernel_rfl)) rfl ⟨?_, below_setRow hB3 (Nat.le_refl _) _⟩
      rw [HS.out, if_neg (by simp)]; rfl
  · obtain ⟨n0, n1, n2, n3⟩ := HN.out
    go_wp2_with (first | (refine wpList_load_block rfl 35 _ rfl rfl hC3 Tryd.underlying35 rfl (by kernel_rfl) ?_) | (refine wpList_store_block rfl 35 _ _ rfl rfl rfl hC3 (by kernel_rfl) rfl (by simp [Value.oneCell']) ?_))
    refine bodyPost_ret (results_cell_row rfl _ _ _ _ _ _ _ (by rfl) (setRow_heap _ _ _ _ _ _ hC3) Tryd.underlying35 rfl (by kernel_rfl)) rfl ⟨?_, below_setRow hB3 (Nat.le_refl _) _⟩
    rw [HS.out, if_neg (by simp)]; rfl

theorem cells8 {w : World} {b : Nat} {x0 x1 x2 x3 x4 x5 x6 x7 : Value} {t : TypeId} {fr : Nat × Nat} (h : w.heap[b]? = some (.cells #[x0, x1, x2, x3, x4, x5, x6, x7] t fr)) : (w.cell? ⟨b, 0, none⟩ = some x0 ∧ w.cell? ⟨b, 1, none⟩ = some x1 ∧ w.cell? ⟨b, 2, none⟩ = some x2 ∧ w.cell? ⟨b, 3, none⟩ = some x3) ∧ w.cell? ⟨b, 4, none⟩ = some x4 ∧ w.cell? ⟨b, 5, none⟩ = some x5 ∧ w.cell? ⟨b, 6, none⟩ = some x6 ∧ w.cell? ⟨b, 7, none⟩ = some x7 := by
  simp [cell_of_row _ _ _ _ _ _ h]
namespace Dw
def best (a b : List UInt8) : PS := if sound b = false then ofS a 0 else if sound a = false ∨ genN a < genN b then ofS b 1 else ofS a 0
end Dw

theorem cast0 : ((0 : Nat) : Int) = 0 := rfl
theorem ofS_cases (s : List UInt8) (i : Int) : (Dw.sound s = true ∧ (Dw.ofS s i).bank = i ∧ (Dw.ofS s i).gen = Dw.genN s) ∨ (Dw.sound s = false ∧ Dw.ofS s i = Dw.psNone) := by
  unfold Dw.ofS
  cases h : Dw.sound s
  · exact .inr ⟨rfl, by rw [if_neg (by simp)]⟩
  · exact .inl ⟨rfl, by rw [if_pos rfl], by rw [if_pos rfl]⟩
theorem best_cases (a b : List UInt8) : (Dw.ofS b 1 = Dw.psNone ∧ Dw.best a b = Dw.ofS a 0) ∨ ((Dw.ofS b 1).bank = 1 ∧ Dw.ofS a 0 = Dw.psNone ∧ Dw.best a b = Dw.ofS b 1) ∨
    ((Dw.ofS b 1).bank = 1 ∧ (Dw.ofS a 0).bank = 0 ∧ (Dw.ofS a 0).gen < (Dw.ofS b 1).gen ∧ Dw.best a b = Dw.ofS b 1) ∨ ((Dw.ofS b 1).bank = 1 ∧ (Dw.ofS a 0).bank = 0 ∧ ¬ (Dw.ofS a 0).gen < (Dw.ofS b 1).gen ∧ Dw.best a b = Dw.ofS a 0) := by
  unfold Dw.best
  rcases ofS_cases b 1 with ⟨hb, e1, e2⟩ | ⟨hb, e⟩
  · rw [if_neg (by simp [hb]), e1, e2]
    rcases ofS_cases a 0 with ⟨ha, e3, e4⟩ | ⟨ha, e3⟩
    · rw [e3, e4]
      by_cases h : Dw.genN a < Dw.genN b
      · exact .inr (.inr (.inl ⟨rfl, rfl, h, by rw [if_pos (.inr h)]⟩))
      · exact .inr (.inr (.inr ⟨rfl, rfl, h, by rw [if_neg (by simp [ha, h])]⟩))
    · exact .inr (.inl ⟨rfl, e3, by rw [if_pos (.inl ha)]⟩)
  · exact .inl ⟨e, by rw [if_pos hb]⟩

set_option maxRecDepth 100000 in
set_option maxHeartbeats 2000000 in
theorem best_any (a b : List UInt8) (ha : a.length ≤ 400) (hb : b.length ≤ 400) (e0 e1 li : Int) (w : World) (hn : NoneAt w) :
    Calls Tryd.prog 30 #[.agg #[.string ⟨a.toArray⟩, .string ⟨b.toArray⟩, .int .i64 e0, .int .i64 e1, .int .i64 li]] w fun e w' => e = .returned (psV (Dw.best a b)) ∧ Below w.heap.size w w' := by
  have hpos := hn.pos
  go_enter Tryd.func30, Tryd.ntmps30
  go_wp2_with fail
  obtain ⟨W, hW⟩ : ∃ W, (w.alloc (.cells #[.string ⟨a.toArray⟩, .string ⟨b.toArray⟩, .int .i64 e0, .int .i64 e1, .int .i64 li] 25)).alloc (.cells #[.int .i64 0, .int .u64 0, .int .u64 0, .int .u64 0] 35) = W := ⟨_, rfl⟩
  have hF := hW ▸ heap_alloc2_old w (.cells #[.string ⟨a.toArray⟩, .string ⟨b.toArray⟩, .int .i64 e0, .int .i64 e1, .int .i64 li] 25) (.cells #[.int .i64 0, .int .u64 0, .int .u64 0, .int .u64 0] 35)
  have hC := hW ▸ heap_alloc2_new w (.cells #[.string ⟨a.toArray⟩, .string ⟨b.toArray⟩, .int .i64 e0, .int .i64 e1, .int .i64 li] 25) (.cells #[.int .i64 0, .int .u64 0, .int .u64 0, .int .u64 0] 35)
  have hB : Below w.heap.size w W := hW ▸ ((Below.refl w.heap.size w).alloc (Nat.le_refl _) _).alloc (by simp) _
  have hN := hn.next hB
  rw [hW]
  clear hW
  obtain ⟨f0, f1, _⟩ := cells5 hF
  have hlC := block_lt hC
  have HC := Lib.hid hC
  clear hF hC
  refine wp_letterD (List.range 9) 9 10 (some 3) (NewBlock W #[.int .i64 0, .int .u64 0, .int .u64 0, .int .u64 0, .int .i64 0, .int .u64 0, .int .u64 0, .int .u64 0] 87) rfl rfl (by kernel_rfl) (by kernel_rfl) rfl (fun v A B h hk => h.keep hk) ?_
  rw [show List.range 9 = [0, 1, 2, 3, 4, 5, 6, 7, 8] from rfl]
  (refine pl_value (v := ?_) rfl rfl ?_ ?_; rotate_left 1; (focus (intro w' hk; have k0 := look hk f0; have k1 := look hk f1; go_simp; (first | done | with_reducible rfl | exact rfl))); (try simp only [Act.put, List.setIfInBounds_toArray, List.set_cons_zero, List.set_cons_succ]))
  (refine pl_value (v := ?_) rfl rfl ?_ ?_; rotate_left 1; (focus (intro w' hk; have k0 := look hk f0; have k1 := look hk f1; go_simp; (first | done | with_reducible rfl | exact rfl))); (try simp only [Act.put, List.setIfInBounds_toArray, List.set_cons_zero, List.set_cons_succ]))
  (refine pl_value (v := ?_) rfl rfl ?_ ?_; rotate_left 1; (focus (intro w' hk; have k0 := look hk f0; have k1 := look hk f1; go_simp; (first | done | with_reducible rfl | exact rfl))); (try simp only [Act.put, List.setIfInBounds_toArray, List.set_cons_zero, List.set_cons_succ]))
  (refine pl_call (v := ?_) (f := ?_) (args := ?_) rfl rfl ?_ ?_ ?_; rotate_left 3; (focus (intro w' hk; have k0 := look hk f0; have k1 := look hk f1; go_simp; (first | done | (constructor <;> with_reducible rfl) | with_reducible rfl))); (focus (intro w' hk; exact of_any a ha 0 w' (hN.keep hk))); (try simp only [Act.put, List.setIfInBounds_toArray, List.set_cons_zero, List.set_cons_succ]))
  (refine pl_value (v := ?_) rfl rfl ?_ ?_; rotate_left 1; (focus (intro w' hk; have k0 := look hk f0; have k1 := look hk f1; go_simp; (first | done | with_reducible rfl | exact rfl))); (try simp only [Act.put, List.setIfInBounds_toArray, List.set_cons_zero, List.set_cons_succ]))
  (refine pl_value (v := ?_) rfl rfl ?_ ?_; rotate_left 1; (focus (intro w' hk; have k0 := look hk f0; have k1 := look hk f1; go_simp; (first | done | with_reducible rfl | exact rfl))); (try simp only [Act.put, List.setIfInBounds_toArray, List.set_cons_zero, List.set_cons_succ]))
  (refine pl_value (v := ?_) rfl rfl ?_ ?_; rotate_left 1; (focus (intro w' hk; have k0 := look hk f0; have k1 := look hk f1; go_simp; (first | done | with_reducible rfl | exact rfl))); (try simp only [Act.put, List.setIfInBounds_toArray, List.set_cons_zero, List.set_cons_succ]))
  (refine pl_call (v := ?_) (f := ?_) (args := ?_) rfl rfl ?_ ?_ ?_; rotate_left 3; (focus (intro w' hk; have k0 := look hk f0; have k1 := look hk f1; go_simp; (first | done | (constructor <;> with_reducible rfl) | with_reducible rfl))); (focus (intro w' hk; exact of_any b hb 1 w' (hN.keep hk))); (try simp only [Act.put, List.setIfInBounds_toArray, List.set_cons_zero, List.set_cons_succ]))
  (refine pl_value (v := ?_) rfl rfl ?_ ?_; rotate_left 1; (focus (intro w' hk; have k0 := look hk f0; have k1 := look hk f1; go_simp; (first | done | with_reducible rfl | exact rfl))); (try simp only [Act.put, List.setIfInBounds_toArray, List.set_cons_zero, List.set_cons_succ]))
  refine pl_nil ?_
  refine ⟨rfl, sure_new (fun w' _ => by go_simp), ?_⟩
  rintro v W2 hk2 ⟨g, rfl, hg, hgc⟩
  simp only [List.drop_succ_cons, List.drop_zero, List.setIfInBounds_toArray, List.set_cons_zero, List.set_cons_succ]
  have hC2 := (hk2.block _ hlC id).trans HC.out
  have hN2 := hN.keep hk2
  have hB2 := hB.trans (hk2.whole.mono hB.size)
  have hgC : g ≠ w.heap.size + 1 := by have : W.heap.size ≤ g := hg; omega
  have hgB : w.heap.size ≤ g := by have : W.heap.size ≤ g := hg; omega
  have hBest := best_cases a b
  clear HC f0 f1 hk2 hB hN hg hlC
  generalize Dw.ofS a 0 = oa at *
  generalize Dw.ofS b 1 = ob at *
  obtain ⟨oab, oag, oaq, oad⟩ := oa
  obtain ⟨obb, obg, obq, obd⟩ := ob
  have hR := setRow_heap W2 g _ #[.int .i64 oab, .int .u64 oag, .int .u64 oaq, .int .u64 oad, .int .i64 obb, .int .u64 obg, .int .u64 obq, .int .u64 obd] _ _ hgc
  obtain ⟨⟨q0, q1, q2, q3⟩, q4, q5, q6, q7⟩ := cells8 hR
  have hC3 := (setRow_other W2 g (w.heap.size + 1) #[.int .i64 oab, .int .u64 oag, .int .u64 oaq, .int .u64 oad, .int .i64 obb, .int .u64 obg, .int .u64 obq, .int .u64 obd] (Ne.symm hgC)).trans hC2
  have hB3 := below_setRow hB2 hgB #[.int .i64 oab, .int .u64 oag, .int .u64 oaq, .int .u64 oad, .int .i64 obb, .int .u64 obg, .int .u64 obq, .int .u64 obd]
  have hpl := hpos
  obtain ⟨n0, n1, n2, n3⟩ := hn.below hB3 hpl
  have HB3 := Lib.hid hB3
  clear hC2 hN2 hB2 hgB hB3 hR hn
  refine wpList_store_block rfl 87 _ _ rfl rfl rfl hgc (by kernel_rfl) rfl (by simp [Value.oneCell']) ?_
  generalize World.setRow W2 g _ = W3 at *
  clear hgc W2
  rcases hBest with ⟨h1, hbest⟩ | ⟨h1, h2, hbest⟩ | ⟨h1, h2, h3, hbest⟩ | ⟨h1, h2, h3, hbest⟩ <;> have Hb := Lib.hid hbest <;> clear hbest
  · have h1 : (⟨obb, obg, obq, obd⟩ : Dw.PS) = Dw.psNone := h1
    cases h1
    simp only [cast0] at *
    go_wp2_with (first | (refine wpList_load_block rfl 35 _ rfl rfl hC3 Tryd.underlying35 rfl (by kernel_rfl) ?_) | (refine wpList_store_block rfl 35 _ _ rfl rfl rfl hC3 (by kernel_rfl) rfl (by simp [Value.oneCell']) ?_))
    refine bodyPost_ret (results_cell_row rfl _ _ _ _ _ _ _ (by rfl) (setRow_heap _ _ _ _ _ _ hC3) Tryd.underlying35 rfl (by kernel_rfl)) rfl ⟨?_, below_setRow HB3.out (by omega) _⟩
    rw [Hb.out]
  · have h1 : obb = 1 := h1
    subst h1
    have h2 : (⟨oab, oag, oaq, oad⟩ : Dw.PS) = Dw.psNone := h2
    cases h2
    simp only [cast0] at *
    go_wp2_with (first | (refine wpList_load_block rfl 35 _ rfl rfl hC3 Tryd.underlying35 rfl (by kernel_rfl) ?_) | (refine wpList_store_block rfl 35 _ _ rfl rfl rfl hC3 (by kernel_rfl) rfl (by simp [Value.oneCell']) ?_))
    refine bodyPost_ret (results_cell_row rfl _ _ _ _ _ _ _ (by rfl) (setRow_heap _ _ _ _ _ _ hC3) Tryd.underlying35 rfl (by kernel_rfl)) rfl ⟨?_, below_setRow HB3.out (by omega) _⟩
    rw [Hb.out]
  · have h1 : obb = 1 := h1
    subst h1
    have h2 : oab = 0 := h2
    subst h2
    have h3 : (oag : Int) < (obg : Int) := Int.ofNat_lt.2 h3
    go_wp2_with (first | (refine wpList_load_block rfl 35 _ rfl rfl hC3 Tryd.underlying35 rfl (by kernel_rfl) ?_) | (refine wpList_store_block rfl 35 _ _ rfl rfl rfl hC3 (by kernel_rfl) rfl (by simp [Value.oneCell']) ?_))
    refine bodyPost_ret (results_cell_row rfl _ _ _ _ _ _ _ (by rfl) (setRow_heap _ _ _ _ _ _ hC3) Tryd.underlying35 rfl (by kernel_rfl)) rfl ⟨?_, below_setRow HB3.out (by omega) _⟩
    rw [Hb.out]
  · have h1 : obb = 1 := h1
    subst h1
    have h2 : oab = 0 := h2
    subst h2
    have h3 : ¬ (oag : Int) < (obg : Int) := fun h => h3 (Int.ofNat_lt.1 h)
    go_wp2_with (first | (refine wpList_load_block rfl 35 _ rfl rfl hC3 Tryd.underlying35 rfl (by kernel_rfl) ?_) | (refine wpList_store_block rfl 35 _ _ rfl rfl rfl hC3 (by kernel_rfl) rfl (by simp [Value.oneCell']) ?_))
    refine bodyPost_ret (results_cell_row rfl _ _ _ _ _ _ _ (by rfl) (setRow_heap _ _ _ _ _ _ hC3) Tryd.underlying35 rfl (by kernel_rfl)) rfl ⟨?_, below_setRow HB3.out (by omega) _⟩
    rw [Hb.out]
end Go.Proofs.YtmjbpdhkpdpdjaaDoor
