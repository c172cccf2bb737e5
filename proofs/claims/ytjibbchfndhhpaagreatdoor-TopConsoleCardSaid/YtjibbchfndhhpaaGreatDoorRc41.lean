/- What the statement's proof stands on, part 41: Scr2. -/
import Derived.Test.YtjibbchfndhhpaaGreatDoorRc29
import Derived.Test.YtjibbchfndhhpaaGreatDoorRc40
import Derived.Test.YtjibbchfndhhpaaGreatDoorRc26
import Derived.Lib.AtoiErrMem
set_option linter.unusedSimpArgs false
set_option linter.unusedVariables false
set_option maxRecDepth 100000
set_option maxHeartbeats 4000000
namespace Go.Proofs.YtjibbchfndhhpaaGreatDoor
open Go.RowKit Go.Shelf
attribute [local go_sem] Oper.semAt_some
theorem and7i (k : Int) : bits .and .i64 k 7 = k % 8 := by
  have h : (BitVec.ofInt 64 k &&& 7#64).toNat = (k % 8).toNat := by
    rw [BitVec.toNat_and, BitVec.toNat_ofInt, show (7#64).toNat = 7 from rfl, nat_mask3]
    omega
  show IntKind.i64.wrap ((BitVec.ofInt 64 k &&& 7#64).toNat : Int) = k % 8
  rw [h, IntWalk.i64_in _ (by omega)]
  omega
theorem bit_u8 : ∀ m : Nat, m < 8 → (2 : Int) ^ m % 256 = ((UInt8.ofNat (2 ^ m)).toNat : Int) := by decide
theorem xor_u8 (a b : UInt8) : bits .xor .u8 (a.toNat : Int) (b.toNat : Int) = ((a ^^^ b).toNat : Int) := by
  rw [u8_xor_nat _ _ a.toNat_lt b.toNat_lt, UInt8.toNat_xor]
theorem row_of_bytes (w : World) (s : List UInt8) : RowAt (Lib.bytesWorld w 5 ⟨s.toArray⟩) w.heap.size s.length (fun j => .int .u8 (((s.getD j 0).toNat : Nat) : Int)) := by
  have hnew := Lib.bytesWorld_at_new w 5 ⟨s.toArray⟩
  refine ⟨_, _, _, hnew, ?_, ?_, fun j hj => ?_⟩
  · simp [Lib.bytesCells]
  · simp [Lib.bytesCells]
  · have := Lib.bytesWorld_cell w 5 ⟨s.toArray⟩ j (by rw [bs_size]; exact hj)
    rw [cell_of_row _ _ j _ _ _ hnew] at this
    exact this
theorem turnB_get (s : List UInt8) (i b j : Nat) (hs : j < s.length) (hj : j < (Dw.turnB s i b).length) : (Dw.turnB s i b)[j] = if j = i then s.getD i 0 ^^^ UInt8.ofNat (2 ^ b) else s.getD j 0 := by
  have e : (Dw.turnB s i b)[j]? = some (if j = i then s.getD i 0 ^^^ UInt8.ofNat (2 ^ b) else s.getD j 0) := by
    show (s.set i _)[j]? = _
    rw [List.getElem?_set]
    by_cases h : j = i
    · subst h
      rw [if_pos rfl, if_pos hs, if_pos rfl]
    · rw [if_neg (fun q => h q.symm), if_neg h, List.getD_eq_getElem?_getD, List.getElem?_eq_getElem hs]; rfl
  rw [List.getElem?_eq_getElem hj] at e
  exact Option.some.inj e
theorem turn_back (W : World) (g jn m cap : Nat) (s : List UInt8) (hj : jn < s.length) (h : RowAt W g s.length (fun i => if i = jn then .int .u8 ((s.getD jn 0 ^^^ UInt8.ofNat (2 ^ m)).toNat : Int) else .int .u8 (((s.getD i 0).toNat : Nat) : Int))) :
    (convert 119 9 (.slice (some ⟨g, 0, none⟩) s.length cap)).run Tryz.prog W = .ok (.string ⟨(Dw.turnB s jn m).toArray⟩) W := by
  have := run_convert_bytes_back (P := Tryz.prog) W 119 9 5 ⟨g, 0, none⟩ cap (Dw.turnB s jn m) Tryz.underlying119 Tryz.underlying5 Tryz.underlying9 (fun j hj => by
    have hj' : j < s.length := by rw [← Dw.turnB_length s jn m]; exact hj
    rw [addr0, h.cell hj', turnB_get s jn m j hj']
    by_cases e : j = jn
    · rw [if_pos e, if_pos e]
    · rw [if_neg e, if_neg e])
  rwa [Dw.turnB_length] at this
theorem flip_any (f : Dw.Fl) (hf : Dw.FlOk f) (k : Int) (hk : -9223372036854775808 ≤ k ∧ k ≤ 9223372036854775807) (w : World) :
    Calls Tryz.prog 154 #[flV f, .int .i64 k] w fun e w' => e = .returned (flV (Dw.flip f k)) ∧ Below w.heap.size w w' := by
  obtain ⟨V, hV⟩ : ∃ V, (w.alloc (.cells (flC f) 41)).alloc (.cells (flashC [] [] 0 0 0) 41) = V := ⟨_, rfl⟩
  obtain ⟨bF, bR, hB⟩ := allocs2 _ _ _ _ hV
  have h7 := and7i k
  obtain ⟨m, hm⟩ : ∃ m : Nat, k % 8 = (m : Int) := ⟨(k % 8).toNat, by omega⟩
  have hm8 : m < 8 := by omega
  have m0 : (0 : Int) ≤ (m : Int) := by omega
  have m1 : (m : Int) ≤ 8 := by omega
  have hbit := bit_u8 m hm8
  rw [hm] at h7
  obtain ⟨i, hi⟩ : ∃ i, k / 8 = i := ⟨_, rfl⟩
  have HFL := Lib.hid (show Dw.flip f k = if k < 0 then f else if i < (f.a.length : Int) then { f with a := Dw.turnB f.a i.toNat m } else if i < (f.a.length + f.b.length : Nat) then { f with b := Dw.turnB f.b (i - (f.a.length : Int)).toNat m } else f by unfold Dw.flip; rw [hi, hm]; rfl)
  have hik : k < 0 ↔ i < 0 := by omega
  have ha := hf.a; have hb := hf.b
  have HI := Lib.hid hik
  have hir : -1152921504606846976 ≤ i ∧ i ≤ 1152921504606846975 := by omega
  have HM := Lib.hid hm8
  clear hik hm hm8 hf
  go_enter Tryz.func154, Tryz.ntmps154
  go_wp2_with fail
  try rw [hV]
  clear hV
  refine wp_pure [0, 1, 2, 3, 4, 5, 6] 7 (by kernel_rfl) (by kernel_rfl) rfl ?_
  (apply rat; (focus (intro w' hk; (iterate 7 (refine' rv ?_ rfl rfl (by go_simp; first | done | with_reducible rfl | exact rfl); try simp only [Act.put, List.setIfInBounds_toArray, List.set_cons_zero, List.set_cons_succ])); (exact rn))))
  intro w2 hk2
  simp only [List.drop_succ_cons, List.drop_zero]
  replace bF := kpi hk2 bF
  replace bR := kpi hk2 bR
  replace hB := hB.trans (hk2.whole.mono hB.size)
  clear hk2
  go_wp2_with (first | (refine lp 38 0 #[.string ⟨f.a.toArray⟩, .string ⟨f.b.toArray⟩] bF rfl rfl rfl (by kernel_rfl) (by rfl) ?_))
  have HBT := Lib.hid hbit
  clear h7 hi m0 m1 hbit
  have hix0 : ∀ W, (Instr.index 38 (.agg #[.string ⟨f.a.toArray⟩, .string ⟨f.b.toArray⟩]) (.int .i64 0)).run Tryz.prog W = .ok (.string ⟨f.a.toArray⟩) W := fun W => by kernel_rfl
  have hix1 : ∀ W, (Instr.index 38 (.agg #[.string ⟨f.a.toArray⟩, .string ⟨f.b.toArray⟩]) (.int .i64 1)).run Tryz.prog W = .ok (.string ⟨f.b.toArray⟩) W := fun W => by kernel_rfl
  go_loopw [5, 17] (fun x y wr => ∃ (n : Nat) (j : Int), x = .int .i64 j ∧ y = .int .i64 n ∧ ((n = 0 ∧ j = i) ∨ (n = 1 ∧ j = i - (f.a.length : Int) ∧ (f.a.length : Int) ≤ i) ∨ (n = 2 ∧ ((f.a.length + f.b.length : Nat) : Int) ≤ i)) ∧ wr.heap[w.heap.size]? = some (.cells (flC f) 41 (0, 0)) ∧ wr.heap[w.heap.size + 1]? = some (.cells (flashC [] [] 0 0 0) 41 (0, 0)) ∧ Below w.heap.size w wr) (fun _ y _ => 2 - (intOf y).toNat)
  case atStart => exact ⟨0, i, rfl, rfl, .inl ⟨rfl, rfl⟩, bF, bR, hB⟩
  case round =>
    clear bF bR hB
    obtain ⟨n, j, rfl, rfl, hc, bF, bR, hB⟩ := hrel
    by_cases hn2 : n = 2
    · subst hn2
      have hfl : Dw.flip f k = f := by rw [HFL.out, if_neg (by have := HI.out; omega), if_neg (by omega), if_neg (by omega)]
      clear hc
      go_wp2_with (first | (refine lb bF rfl rfl rfl (by kernel_rfl) ?_) | (refine sb bR rfl rfl rfl rfl (by kernel_rfl) ?_))
      exact bodyPost_ret (rcr rfl (srh bR) (by rfl) (by kernel_rfl)) rfl ⟨by first | rfl | rw [hfl], below_setRow hB (by omega) _⟩
    have hjr : -1152921504606846976 - 400 ≤ j ∧ j ≤ 1152921504606846975 := by omega
    obtain ⟨s, hs, hs4⟩ : ∃ s, s = (if n = 0 then f.a else f.b) ∧ s.length ≤ 400 := ⟨_, rfl, by split; exact ha; exact hb⟩
    have hix : ∀ W, (Instr.index 38 (.agg #[.string ⟨f.a.toArray⟩, .string ⟨f.b.toArray⟩]) (.int .i64 (n : Int))).run Tryz.prog W = .ok (.string ⟨s.toArray⟩) W := fun W => by
      rcases (by omega : n = 0 ∨ n = 1) with rfl | rfl
      · rw [hs]; exact hix0 W
      · rw [hs]; exact hix1 W
    have hn1 : (n : Int) < 2 := by omega
    have hw : wrap64 (j - (s.length : Int)) = j - (s.length : Int) := IntWalk.wrap64_in _ (by omega)
    have hw' : IntKind.i64.wrap (j - (s.length : Int)) = j - (s.length : Int) := IntWalk.i64_in _ (by omega)
    clear hix0 hix1
    by_cases h0 : (0 : Int) ≤ j
    · by_cases hlt0 : j < (s.length : Int)
      · have hfl : Dw.flip f k = (if n = 0 then { f with a := Dw.turnB s j.toNat m } else { f with b := Dw.turnB s j.toNat m }) := by
          rcases (by omega : n = 0 ∨ n = 1) with rfl | rfl
          · rw [if_pos rfl] at hs ⊢
            subst hs
            obtain rfl : j = i := by omega
            rw [HFL.out, if_neg (by have := HI.out; omega), if_pos (by omega)]
          · rw [if_neg (by decide)] at hs ⊢
            subst hs
            obtain rfl : j = i - (f.a.length : Int) := by omega
            rw [HFL.out, if_neg (by have := HI.out; omega), if_neg (by omega), if_pos (by omega)]
        obtain ⟨jn, rfl⟩ : ∃ jn : Nat, j = (jn : Int) := ⟨j.toNat, by omega⟩
        rw [Int.toNat_natCast] at hfl
        have hlt : jn < s.length := by omega
        clear hc hw hw' hlt0 h0 hjr ha hb hs hk hir
        have hj' : (jn : Int) < (s.length : Int) := by omega
        have hj0 : (0 : Int) ≤ (jn : Int) := by omega
        have hcv := Lib.run_convert_string_bytes (P := Tryz.prog) wr 9 119 5 ⟨s.toArray⟩ Tryz.underlying9 Tryz.underlying119 Tryz.underlying5
        have hR := row_of_bytes wr s
        have hb2 := Lib.bytesWorld_below wr 5 ⟨s.toArray⟩
        have hgW := block_lt bR
        replace bF := kp hb2 bF
        replace bR := kp hb2 bR
        have zW := hB.size
        replace hB := tr hB hb2
        generalize Lib.bytesWorld wr 5 ⟨s.toArray⟩ = w1 at *
        generalize grownCap wr _ 0 _ = cap at *
        generalize wr.heap.size = g at *
        have hck := hR.cell hlt
        have hfk := hR.frozen hlt
        have hRs := hR.set jn (.int .u8 ((s.getD jn 0 ^^^ UInt8.ofNat (2 ^ m)).toNat : Int))
        have hx : bits .xor .u8 ((s.getD jn 0).toNat : Int) (2 ^ m % 256) = ((s.getD jn 0 ^^^ UInt8.ofNat (2 ^ m)).toNat : Int) := by rw [HBT.out]; exact xor_u8 _ _
        have kc := turn_back (w1.setCell ⟨g, jn, none⟩ (.int .u8 ((s.getD jn 0 ^^^ UInt8.ofNat (2 ^ m)).toNat : Int))) g jn m cap s hlt hRs
        have bF2 := (heap_setCell_other w1 ⟨g, jn, none⟩ (w.heap.size) (.int .u8 ((s.getD jn 0 ^^^ UInt8.ofNat (2 ^ m)).toNat : Int)) (by show w.heap.size ≠ g; omega)).trans bF
        have bR2 := (heap_setCell_other w1 ⟨g, jn, none⟩ (w.heap.size + 1) (.int .u8 ((s.getD jn 0 ^^^ UInt8.ofNat (2 ^ m)).toNat : Int)) (by show w.heap.size + 1 ≠ g; omega)).trans bR
        have hB2 := hB.setCell (p := ⟨g, jn, none⟩) (by show w.heap.size ≤ g; omega) (.int .u8 ((s.getD jn 0 ^^^ UInt8.ofNat (2 ^ m)).toNat : Int))
        generalize s.getD jn 0 = x0 at *
        generalize UInt8.ofNat (2 ^ m) = bt at *
        clear hR hRs bF bR hB hlt hb2
        simp only [UInt8.toNat_xor] at hx kc bF2 bR2 hB2
        have hcn : ∃ u, (w1.setCell ⟨g, jn, none⟩ (.int .u8 ((x0.toNat ^^^ bt.toNat : Nat) : Int))).cell? ⟨w.heap.size, n, none⟩ = some u := by
          rw [cell_of_row _ _ _ _ _ _ bF2]
          rcases (by omega : n = 0 ∨ n = 1) with rfl | rfl
          · exact ⟨_, rfl⟩
          · exact ⟨_, rfl⟩
        obtain ⟨u0, hcn⟩ := hcn
        have hfn := frozen0 bF2 n
        have bF3 : ((w1.setCell ⟨g, jn, none⟩ (.int .u8 ((x0.toNat ^^^ bt.toNat : Nat) : Int))).setCell ⟨w.heap.size, n, none⟩ (.string ⟨(Dw.turnB s jn m).toArray⟩)).heap[w.heap.size]? = some (.cells (flC (Dw.flip f k)) 41 (0, 0)) := by
          have q := heap_setCell_same _ _ n _ _ (.string ⟨(Dw.turnB s jn m).toArray⟩) bF2
          rw [q, hfl]
          rcases (by omega : n = 0 ∨ n = 1) with rfl | rfl
          · rw [if_pos rfl]; rfl
          · rw [if_neg (by decide)]; rfl
        have bR3 := (heap_setCell_other _ ⟨w.heap.size, n, none⟩ (w.heap.size + 1) (.string ⟨(Dw.turnB s jn m).toArray⟩) (by show w.heap.size + 1 ≠ w.heap.size; omega)).trans bR2
        have hB3 := hB2.setCell (p := ⟨w.heap.size, n, none⟩) (Nat.le_refl _) (.string ⟨(Dw.turnB s jn m).toArray⟩)
        clear bR2 hB2 hfl
        go_wp2_with (first | (refine lb bF3 rfl rfl rfl (by kernel_rfl) ?_) | (refine sb bR3 rfl rfl rfl rfl (by kernel_rfl) ?_))
        exact bodyPost_ret (rcr rfl (srh bR3) (by rfl) (by kernel_rfl)) rfl ⟨rfl, below_setRow hB3 (by omega) _⟩
      · have h3 : ¬ (j - (s.length : Int) < 0) := by omega
        have hge : n = 0 ∧ (f.a.length : Int) ≤ i ∨ n = 1 ∧ ((f.a.length + f.b.length : Nat) : Int) ≤ i := by
          rcases (by omega : n = 0 ∨ n = 1) with rfl | rfl
          · rw [if_pos rfl] at hs; subst hs; omega
          · rw [if_neg (by decide)] at hs; subst hs; omega
        have hj2 : n = 0 → j - (s.length : Int) = i - (f.a.length : Int) := fun q => by rw [hs, if_pos q]; omega
        clear hc hs hjr hk hir
        go_wp2_with fail
        go_roundw
        case rel => exact ⟨n + 1, j - (s.length : Int), rfl, by go_num, by omega, bF, bR, hB⟩
        case measure => simp [intOf]; omega
    · have hfl : Dw.flip f k = f := by
        have hi0 : i < 0 := by omega
        rw [HFL.out, if_pos (HI.out.2 hi0)]
      have h3 : j - (s.length : Int) < 0 := by omega
      clear hc hs hjr hk hir
      go_wp2_with (first | (refine lb bF rfl rfl rfl (by kernel_rfl) ?_) | (refine sb bR rfl rfl rfl rfl (by kernel_rfl) ?_))
      exact bodyPost_ret (rcr rfl (srh bR) (by rfl) (by kernel_rfl)) rfl ⟨by first | rfl | rw [hfl], below_setRow hB (by omega) _⟩
end Go.Proofs.YtjibbchfndhhpaaGreatDoor
