/- What the statement's proof stands on, part 42: RCmd. -/
import Derived.Test.YtjiejbkfaigikaaGreatDoorBc39
import Derived.Test.YtjiejbkfaigikaaGreatDoorBc37
set_option linter.unusedSimpArgs false
set_option linter.unusedVariables false
set_option maxRecDepth 100000
set_option maxHeartbeats 4000000
namespace Go.Proofs.YtjiejbkfaigikaaGreatDoor
open Go.RowKit Go.Shelf
attribute [local go_sem] Oper.semAt_some
theorem rgoes_ff (mo la lo iso : Int) (hi : 0 ≤ iso ∧ iso ≤ 15) (n : Int) (w : World) :
    Calls Tryz.prog 68 #[stV ⟨mo, false, false, la, lo, iso⟩, .int .i64 n] w fun e w' => e = .returned (.tuple #[stV (if Dw.goesE ⟨mo, false, false, la, lo, iso⟩ n = 0 then ⟨n, false, false, la, lo, iso⟩ else ⟨mo, false, false, la, lo, iso⟩), .int .i64 (Dw.goesE ⟨mo, false, false, la, lo, iso⟩ n)]) ∧ Below w.heap.size w w' := by
  obtain ⟨V, hV⟩ : ∃ V, (w.alloc (.cells (stC ⟨mo, false, false, la, lo, iso⟩) 42)).alloc (.cells Z6 42) = V := ⟨_, rfl⟩
  have b0 : V.heap[w.heap.size]? = some (.cells (stC ⟨mo, false, false, la, lo, iso⟩) 42) := by rw [← hV]; exact heap_alloc2_old _ _ _
  have b1 : V.heap[w.heap.size + 1]? = some (.cells Z6 42) := by rw [← hV]; exact heap_alloc2_new _ _ _
  have hB : Below w.heap.size w V := by rw [← hV]; exact ((Below.refl _ w).alloc (Nat.le_refl _) _).alloc (by simp) _
  have HW := Lib.hid (fun w => rway_any mo n w)
  have HN := Lib.hid (fun w => rneeds_any n w)
  have HH := Lib.hid (fun w => rhome_any n w)
  have HS := Lib.hid (fun w => rsens_any ⟨mo, false, false, la, lo, iso⟩ hi w)
  have HR := Lib.hid (show Dw.goesE ⟨mo, false, false, la, lo, iso⟩ n = if Dw.wayB mo n = false then 20 else if false = false ∧ n ≠ 0 then 22 else if false = true ∧ n = 0 then 21 else if Dw.homeB n = true ∧ false = false then 23 else if Dw.soundN iso < Dw.needsI n then 24 else 0 from rfl)
  generalize Dw.goesE ⟨mo, false, false, la, lo, iso⟩ n = R at *
  generalize Dw.wayB mo n = wv at *
  generalize Dw.needsI n = nd at *
  generalize Dw.homeB n = hm at *
  dsimp only at HS
  generalize Dw.soundN iso = sn at *
  obtain ⟨c0, c1, c2, c3, c4, c5⟩ := cells6 b0
  clear hi
  go_enter Tryz.func68, Tryz.ntmps68
  go_wp2_with fail
  refine cb (HW.out _) fun w1 hb => ?_
  replace b0 := kp hb b0
  replace b1 := kp hb b1
  replace hB := tr hB hb
  clear hb
  clear hV
  clear c0 c1 c2 c3 c4 c5
  obtain ⟨c0, c1, c2, c3, c4, c5⟩ := cells6 b0
  cases wv
  · have hR : R = 20 := by rw [HR.out]; rfl
    clear HR HW HN HH HS
    go_wp2_with (first | (refine lb b0 rfl rfl rfl (by kernel_rfl) ?_) | (refine sb b0 rfl rfl rfl rfl (by kernel_rfl) ?_) | (refine lb b1 rfl rfl rfl (by kernel_rfl) ?_) | (refine sb b1 rfl rfl rfl rfl (by kernel_rfl) ?_))
    refine bodyPost_ret (rct rfl (srh b1) (by rfl) (by kernel_rfl)) rfl ⟨?_, below_setRow hB (by omega) _⟩
    first | rfl | (rw [hR]; rfl)
  · by_cases hn : n = 0
    · have hz : (n == 0) = true := by simpa using hn
      have Hn := Lib.hid hn
      clear hn
      go_wp2_with fail
      refine cb (HH.out _) fun w2 hb => ?_
      replace b0 := kp hb b0
      replace b1 := kp hb b1
      replace hB := tr hB hb
      clear hb
      clear c0 c1 c2 c3 c4 c5
      obtain ⟨c0, c1, c2, c3, c4, c5⟩ := cells6 b0
      cases hm
      · have hn := Hn.out
        clear hn
        go_wp2_with (first | (refine lb b0 rfl rfl rfl (by kernel_rfl) ?_) | (refine sb b0 rfl rfl rfl rfl (by kernel_rfl) ?_))
        refine cb (HS.out _) fun w3 hb => ?_
        replace b0 := kp hb b0
        replace b1 := kp hb b1
        replace hB := tr hB hb
        clear hb
        go_wp2_with fail
        refine cb (HN.out _) fun w4 hb => ?_
        replace b0 := kp hb b0
        replace b1 := kp hb b1
        replace hB := tr hB hb
        clear hb
        clear c0 c1 c2 c3 c4 c5
        obtain ⟨c0, c1, c2, c3, c4, c5⟩ := cells6 b0
        by_cases hq : sn < nd
        · have hR : R = 24 := by rw [HR.out]; simp [hq, Hn.out]
          clear HR HW HN HH HS
          go_wp2_with (first | (refine lb b0 rfl rfl rfl (by kernel_rfl) ?_) | (refine sb b0 rfl rfl rfl rfl (by kernel_rfl) ?_) | (refine lb b1 rfl rfl rfl (by kernel_rfl) ?_) | (refine sb b1 rfl rfl rfl rfl (by kernel_rfl) ?_))
          refine bodyPost_ret (rct rfl (srh b1) (by rfl) (by kernel_rfl)) rfl ⟨?_, below_setRow hB (by omega) _⟩
          first | rfl | (rw [hR]; rfl)
        · have hR : R = 0 := by rw [HR.out]; simp [hq, Hn.out]
          have b2 := heap_setCell_same w4 w.heap.size 0 _ _ (.int .i64 n) b0
          change _ = some (Obj.cells (stC ⟨n, false, false, la, lo, iso⟩) _ _) at b2
          have z0 := frozen0 b0 0
          replace b1 := (heap_setCell_other w4 ⟨w.heap.size, 0, none⟩ (w.heap.size + 1) (.int .i64 n) (by simp)).trans b1
          replace hB := hB.setCell (p := ⟨w.heap.size, 0, none⟩) (by simp) (.int .i64 n)
          clear HR HW HN HH HS
          go_wp2_with (first | (refine lb b2 rfl rfl rfl (by kernel_rfl) ?_) | (refine sb b2 rfl rfl rfl rfl (by kernel_rfl) ?_) | (refine lb b1 rfl rfl rfl (by kernel_rfl) ?_) | (refine sb b1 rfl rfl rfl rfl (by kernel_rfl) ?_))
          refine bodyPost_ret (rct rfl (srh b1) (by rfl) (by kernel_rfl)) rfl ⟨?_, below_setRow hB (by omega) _⟩
          first | rfl | (rw [hR]; rfl)
      · have hn := Hn.out
        have hR : R = 23 := by rw [HR.out]; simp [hn]
        clear hn
        clear HR HW HN HH HS
        go_wp2_with (first | (refine lb b0 rfl rfl rfl (by kernel_rfl) ?_) | (refine sb b0 rfl rfl rfl rfl (by kernel_rfl) ?_) | (refine lb b1 rfl rfl rfl (by kernel_rfl) ?_) | (refine sb b1 rfl rfl rfl rfl (by kernel_rfl) ?_))
        refine bodyPost_ret (rct rfl (srh b1) (by rfl) (by kernel_rfl)) rfl ⟨?_, below_setRow hB (by omega) _⟩
        first | rfl | (rw [hR]; rfl)
    · have hz : (n == 0) = false := by simpa using hn
      have hR : R = 22 := by rw [HR.out]; simp [hn]
      have Hn := Lib.hid hn
      clear hn
      clear HR HW HN HH HS
      go_wp2_with (first | (refine lb b0 rfl rfl rfl (by kernel_rfl) ?_) | (refine sb b0 rfl rfl rfl rfl (by kernel_rfl) ?_) | (refine lb b1 rfl rfl rfl (by kernel_rfl) ?_) | (refine sb b1 rfl rfl rfl rfl (by kernel_rfl) ?_))
      refine bodyPost_ret (rct rfl (srh b1) (by rfl) (by kernel_rfl)) rfl ⟨?_, below_setRow hB (by omega) _⟩
      first | rfl | (rw [hR]; rfl)
theorem rgoes_ft (mo la lo iso : Int) (hi : 0 ≤ iso ∧ iso ≤ 15) (n : Int) (w : World) :
    Calls Tryz.prog 68 #[stV ⟨mo, false, true, la, lo, iso⟩, .int .i64 n] w fun e w' => e = .returned (.tuple #[stV (if Dw.goesE ⟨mo, false, true, la, lo, iso⟩ n = 0 then ⟨n, false, true, la, lo, iso⟩ else ⟨mo, false, true, la, lo, iso⟩), .int .i64 (Dw.goesE ⟨mo, false, true, la, lo, iso⟩ n)]) ∧ Below w.heap.size w w' := by
  obtain ⟨V, hV⟩ : ∃ V, (w.alloc (.cells (stC ⟨mo, false, true, la, lo, iso⟩) 42)).alloc (.cells Z6 42) = V := ⟨_, rfl⟩
  have b0 : V.heap[w.heap.size]? = some (.cells (stC ⟨mo, false, true, la, lo, iso⟩) 42) := by rw [← hV]; exact heap_alloc2_old _ _ _
  have b1 : V.heap[w.heap.size + 1]? = some (.cells Z6 42) := by rw [← hV]; exact heap_alloc2_new _ _ _
  have hB : Below w.heap.size w V := by rw [← hV]; exact ((Below.refl _ w).alloc (Nat.le_refl _) _).alloc (by simp) _
  have HW := Lib.hid (fun w => rway_any mo n w)
  have HN := Lib.hid (fun w => rneeds_any n w)
  have HH := Lib.hid (fun w => rhome_any n w)
  have HS := Lib.hid (fun w => rsens_any ⟨mo, false, true, la, lo, iso⟩ hi w)
  have HR := Lib.hid (show Dw.goesE ⟨mo, false, true, la, lo, iso⟩ n = if Dw.wayB mo n = false then 20 else if false = false ∧ n ≠ 0 then 22 else if false = true ∧ n = 0 then 21 else if Dw.homeB n = true ∧ true = false then 23 else if Dw.soundN iso < Dw.needsI n then 24 else 0 from rfl)
  generalize Dw.goesE ⟨mo, false, true, la, lo, iso⟩ n = R at *
  generalize Dw.wayB mo n = wv at *
  generalize Dw.needsI n = nd at *
  generalize Dw.homeB n = hm at *
  dsimp only at HS
  generalize Dw.soundN iso = sn at *
  obtain ⟨c0, c1, c2, c3, c4, c5⟩ := cells6 b0
  clear hi
  go_enter Tryz.func68, Tryz.ntmps68
  go_wp2_with fail
  refine cb (HW.out _) fun w1 hb => ?_
  replace b0 := kp hb b0
  replace b1 := kp hb b1
  replace hB := tr hB hb
  clear hb
  clear hV
  clear c0 c1 c2 c3 c4 c5
  obtain ⟨c0, c1, c2, c3, c4, c5⟩ := cells6 b0
  cases wv
  · have hR : R = 20 := by rw [HR.out]; rfl
    clear HR HW HN HH HS
    go_wp2_with (first | (refine lb b0 rfl rfl rfl (by kernel_rfl) ?_) | (refine sb b0 rfl rfl rfl rfl (by kernel_rfl) ?_) | (refine lb b1 rfl rfl rfl (by kernel_rfl) ?_) | (refine sb b1 rfl rfl rfl rfl (by kernel_rfl) ?_))
    refine bodyPost_ret (rct rfl (srh b1) (by rfl) (by kernel_rfl)) rfl ⟨?_, below_setRow hB (by omega) _⟩
    first | rfl | (rw [hR]; rfl)
  · by_cases hn : n = 0
    · have hz : (n == 0) = true := by simpa using hn
      have Hn := Lib.hid hn
      clear hn
      go_wp2_with fail
      refine cb (HH.out _) fun w2 hb => ?_
      replace b0 := kp hb b0
      replace b1 := kp hb b1
      replace hB := tr hB hb
      clear hb
      clear c0 c1 c2 c3 c4 c5
      obtain ⟨c0, c1, c2, c3, c4, c5⟩ := cells6 b0
      cases hm
      · have hn := Hn.out
        clear hn
        go_wp2_with (first | (refine lb b0 rfl rfl rfl (by kernel_rfl) ?_) | (refine sb b0 rfl rfl rfl rfl (by kernel_rfl) ?_))
        refine cb (HS.out _) fun w3 hb => ?_
        replace b0 := kp hb b0
        replace b1 := kp hb b1
        replace hB := tr hB hb
        clear hb
        go_wp2_with fail
        refine cb (HN.out _) fun w4 hb => ?_
        replace b0 := kp hb b0
        replace b1 := kp hb b1
        replace hB := tr hB hb
        clear hb
        clear c0 c1 c2 c3 c4 c5
        obtain ⟨c0, c1, c2, c3, c4, c5⟩ := cells6 b0
        by_cases hq : sn < nd
        · have hR : R = 24 := by rw [HR.out]; simp [hq, Hn.out]
          clear HR HW HN HH HS
          go_wp2_with (first | (refine lb b0 rfl rfl rfl (by kernel_rfl) ?_) | (refine sb b0 rfl rfl rfl rfl (by kernel_rfl) ?_) | (refine lb b1 rfl rfl rfl (by kernel_rfl) ?_) | (refine sb b1 rfl rfl rfl rfl (by kernel_rfl) ?_))
          refine bodyPost_ret (rct rfl (srh b1) (by rfl) (by kernel_rfl)) rfl ⟨?_, below_setRow hB (by omega) _⟩
          first | rfl | (rw [hR]; rfl)
        · have hR : R = 0 := by rw [HR.out]; simp [hq, Hn.out]
          have b2 := heap_setCell_same w4 w.heap.size 0 _ _ (.int .i64 n) b0
          change _ = some (Obj.cells (stC ⟨n, false, true, la, lo, iso⟩) _ _) at b2
          have z0 := frozen0 b0 0
          replace b1 := (heap_setCell_other w4 ⟨w.heap.size, 0, none⟩ (w.heap.size + 1) (.int .i64 n) (by simp)).trans b1
          replace hB := hB.setCell (p := ⟨w.heap.size, 0, none⟩) (by simp) (.int .i64 n)
          clear HR HW HN HH HS
          go_wp2_with (first | (refine lb b2 rfl rfl rfl (by kernel_rfl) ?_) | (refine sb b2 rfl rfl rfl rfl (by kernel_rfl) ?_) | (refine lb b1 rfl rfl rfl (by kernel_rfl) ?_) | (refine sb b1 rfl rfl rfl rfl (by kernel_rfl) ?_))
          refine bodyPost_ret (rct rfl (srh b1) (by rfl) (by kernel_rfl)) rfl ⟨?_, below_setRow hB (by omega) _⟩
          first | rfl | (rw [hR]; rfl)
      · have hn := Hn.out
        clear hn
        go_wp2_with (first | (refine lb b0 rfl rfl rfl (by kernel_rfl) ?_) | (refine sb b0 rfl rfl rfl rfl (by kernel_rfl) ?_))
        refine cb (HS.out _) fun w3 hb => ?_
        replace b0 := kp hb b0
        replace b1 := kp hb b1
        replace hB := tr hB hb
        clear hb
        go_wp2_with fail
        refine cb (HN.out _) fun w4 hb => ?_
        replace b0 := kp hb b0
        replace b1 := kp hb b1
        replace hB := tr hB hb
        clear hb
        clear c0 c1 c2 c3 c4 c5
        obtain ⟨c0, c1, c2, c3, c4, c5⟩ := cells6 b0
        by_cases hq : sn < nd
        · have hR : R = 24 := by rw [HR.out]; simp [hq, Hn.out]
          clear HR HW HN HH HS
          go_wp2_with (first | (refine lb b0 rfl rfl rfl (by kernel_rfl) ?_) | (refine sb b0 rfl rfl rfl rfl (by kernel_rfl) ?_) | (refine lb b1 rfl rfl rfl (by kernel_rfl) ?_) | (refine sb b1 rfl rfl rfl rfl (by kernel_rfl) ?_))
          refine bodyPost_ret (rct rfl (srh b1) (by rfl) (by kernel_rfl)) rfl ⟨?_, below_setRow hB (by omega) _⟩
          first | rfl | (rw [hR]; rfl)
        · have hR : R = 0 := by rw [HR.out]; simp [hq, Hn.out]
          have b2 := heap_setCell_same w4 w.heap.size 0 _ _ (.int .i64 n) b0
          change _ = some (Obj.cells (stC ⟨n, false, true, la, lo, iso⟩) _ _) at b2
          have z0 := frozen0 b0 0
          replace b1 := (heap_setCell_other w4 ⟨w.heap.size, 0, none⟩ (w.heap.size + 1) (.int .i64 n) (by simp)).trans b1
          replace hB := hB.setCell (p := ⟨w.heap.size, 0, none⟩) (by simp) (.int .i64 n)
          clear HR HW HN HH HS
          go_wp2_with (first | (refine lb b2 rfl rfl rfl (by kernel_rfl) ?_) | (refine sb b2 rfl rfl rfl rfl (by kernel_rfl) ?_) | (refine lb b1 rfl rfl rfl (by kernel_rfl) ?_) | (refine sb b1 rfl rfl rfl rfl (by kernel_rfl) ?_))
          refine bodyPost_ret (rct rfl (srh b1) (by rfl) (by kernel_rfl)) rfl ⟨?_, below_setRow hB (by omega) _⟩
          first | rfl | (rw [hR]; rfl)
    · have hz : (n == 0) = false := by simpa using hn
      have hR : R = 22 := by rw [HR.out]; simp [hn]
      have Hn := Lib.hid hn
      clear hn
      clear HR HW HN HH HS
      go_wp2_with (first | (refine lb b0 rfl rfl rfl (by kernel_rfl) ?_) | (refine sb b0 rfl rfl rfl rfl (by kernel_rfl) ?_) | (refine lb b1 rfl rfl rfl (by kernel_rfl) ?_) | (refine sb b1 rfl rfl rfl rfl (by kernel_rfl) ?_))
      refine bodyPost_ret (rct rfl (srh b1) (by rfl) (by kernel_rfl)) rfl ⟨?_, below_setRow hB (by omega) _⟩
      first | rfl | (rw [hR]; rfl)
theorem rgoes_tf (mo la lo iso : Int) (hi : 0 ≤ iso ∧ iso ≤ 15) (n : Int) (w : World) :
    Calls Tryz.prog 68 #[stV ⟨mo, true, false, la, lo, iso⟩, .int .i64 n] w fun e w' => e = .returned (.tuple #[stV (if Dw.goesE ⟨mo, true, false, la, lo, iso⟩ n = 0 then ⟨n, true, false, la, lo, iso⟩ else ⟨mo, true, false, la, lo, iso⟩), .int .i64 (Dw.goesE ⟨mo, true, false, la, lo, iso⟩ n)]) ∧ Below w.heap.size w w' := by
  obtain ⟨V, hV⟩ : ∃ V, (w.alloc (.cells (stC ⟨mo, true, false, la, lo, iso⟩) 42)).alloc (.cells Z6 42) = V := ⟨_, rfl⟩
  have b0 : V.heap[w.heap.size]? = some (.cells (stC ⟨mo, true, false, la, lo, iso⟩) 42) := by rw [← hV]; exact heap_alloc2_old _ _ _
  have b1 : V.heap[w.heap.size + 1]? = some (.cells Z6 42) := by rw [← hV]; exact heap_alloc2_new _ _ _
  have hB : Below w.heap.size w V := by rw [← hV]; exact ((Below.refl _ w).alloc (Nat.le_refl _) _).alloc (by simp) _
  have HW := Lib.hid (fun w => rway_any mo n w)
  have HN := Lib.hid (fun w => rneeds_any n w)
  have HH := Lib.hid (fun w => rhome_any n w)
  have HS := Lib.hid (fun w => rsens_any ⟨mo, true, false, la, lo, iso⟩ hi w)
  have HR := Lib.hid (show Dw.goesE ⟨mo, true, false, la, lo, iso⟩ n = if Dw.wayB mo n = false then 20 else if true = false ∧ n ≠ 0 then 22 else if true = true ∧ n = 0 then 21 else if Dw.homeB n = true ∧ false = false then 23 else if Dw.soundN iso < Dw.needsI n then 24 else 0 from rfl)
  generalize Dw.goesE ⟨mo, true, false, la, lo, iso⟩ n = R at *
  generalize Dw.wayB mo n = wv at *
  generalize Dw.needsI n = nd at *
  generalize Dw.homeB n = hm at *
  dsimp only at HS
  generalize Dw.soundN iso = sn at *
  obtain ⟨c0, c1, c2, c3, c4, c5⟩ := cells6 b0
  clear hi
  go_enter Tryz.func68, Tryz.ntmps68
  go_wp2_with fail
  refine cb (HW.out _) fun w1 hb => ?_
  replace b0 := kp hb b0
  replace b1 := kp hb b1
  replace hB := tr hB hb
  clear hb
  clear hV
  clear c0 c1 c2 c3 c4 c5
  obtain ⟨c0, c1, c2, c3, c4, c5⟩ := cells6 b0
  cases wv
  · have hR : R = 20 := by rw [HR.out]; rfl
    clear HR HW HN HH HS
    go_wp2_with (first | (refine lb b0 rfl rfl rfl (by kernel_rfl) ?_) | (refine sb b0 rfl rfl rfl rfl (by kernel_rfl) ?_) | (refine lb b1 rfl rfl rfl (by kernel_rfl) ?_) | (refine sb b1 rfl rfl rfl rfl (by kernel_rfl) ?_))
    refine bodyPost_ret (rct rfl (srh b1) (by rfl) (by kernel_rfl)) rfl ⟨?_, below_setRow hB (by omega) _⟩
    first | rfl | (rw [hR]; rfl)
  · by_cases hn : n = 0
    · have hz : (n == 0) = true := by simpa using hn
      have hR : R = 21 := by rw [HR.out]; simp [hn]
      have Hn := Lib.hid hn
      clear hn
      clear HR HW HN HH HS
      go_wp2_with (first | (refine lb b0 rfl rfl rfl (by kernel_rfl) ?_) | (refine sb b0 rfl rfl rfl rfl (by kernel_rfl) ?_) | (refine lb b1 rfl rfl rfl (by kernel_rfl) ?_) | (refine sb b1 rfl rfl rfl rfl (by kernel_rfl) ?_))
      refine bodyPost_ret (rct rfl (srh b1) (by rfl) (by kernel_rfl)) rfl ⟨?_, below_setRow hB (by omega) _⟩
      first | rfl | (rw [hR]; rfl)
    · have hz : (n == 0) = false := by simpa using hn
      have Hn := Lib.hid hn
      clear hn
      go_wp2_with fail
      refine cb (HH.out _) fun w2 hb => ?_
      replace b0 := kp hb b0
      replace b1 := kp hb b1
      replace hB := tr hB hb
      clear hb
      clear c0 c1 c2 c3 c4 c5
      obtain ⟨c0, c1, c2, c3, c4, c5⟩ := cells6 b0
      cases hm
      · have hn := Hn.out
        clear hn
        go_wp2_with (first | (refine lb b0 rfl rfl rfl (by kernel_rfl) ?_) | (refine sb b0 rfl rfl rfl rfl (by kernel_rfl) ?_))
        refine cb (HS.out _) fun w3 hb => ?_
        replace b0 := kp hb b0
        replace b1 := kp hb b1
        replace hB := tr hB hb
        clear hb
        go_wp2_with fail
        refine cb (HN.out _) fun w4 hb => ?_
        replace b0 := kp hb b0
        replace b1 := kp hb b1
        replace hB := tr hB hb
        clear hb
        clear c0 c1 c2 c3 c4 c5
        obtain ⟨c0, c1, c2, c3, c4, c5⟩ := cells6 b0
        by_cases hq : sn < nd
        · have hR : R = 24 := by rw [HR.out]; simp [hq, Hn.out]
          clear HR HW HN HH HS
          go_wp2_with (first | (refine lb b0 rfl rfl rfl (by kernel_rfl) ?_) | (refine sb b0 rfl rfl rfl rfl (by kernel_rfl) ?_) | (refine lb b1 rfl rfl rfl (by kernel_rfl) ?_) | (refine sb b1 rfl rfl rfl rfl (by kernel_rfl) ?_))
          refine bodyPost_ret (rct rfl (srh b1) (by rfl) (by kernel_rfl)) rfl ⟨?_, below_setRow hB (by omega) _⟩
          first | rfl | (rw [hR]; rfl)
        · have hR : R = 0 := by rw [HR.out]; simp [hq, Hn.out]
          have b2 := heap_setCell_same w4 w.heap.size 0 _ _ (.int .i64 n) b0
          change _ = some (Obj.cells (stC ⟨n, true, false, la, lo, iso⟩) _ _) at b2
          have z0 := frozen0 b0 0
          replace b1 := (heap_setCell_other w4 ⟨w.heap.size, 0, none⟩ (w.heap.size + 1) (.int .i64 n) (by simp)).trans b1
          replace hB := hB.setCell (p := ⟨w.heap.size, 0, none⟩) (by simp) (.int .i64 n)
          clear HR HW HN HH HS
          go_wp2_with (first | (refine lb b2 rfl rfl rfl (by kernel_rfl) ?_) | (refine sb b2 rfl rfl rfl rfl (by kernel_rfl) ?_) | (refine lb b1 rfl rfl rfl (by kernel_rfl) ?_) | (refine sb b1 rfl rfl rfl rfl (by kernel_rfl) ?_))
          refine bodyPost_ret (rct rfl (srh b1) (by rfl) (by kernel_rfl)) rfl ⟨?_, below_setRow hB (by omega) _⟩
          first | rfl | (rw [hR]; rfl)
      · have hn := Hn.out
        have hR : R = 23 := by rw [HR.out]; simp [hn]
        clear hn
        clear HR HW HN HH HS
        go_wp2_with (first | (refine lb b0 rfl rfl rfl (by kernel_rfl) ?_) | (refine sb b0 rfl rfl rfl rfl (by kernel_rfl) ?_) | (refine lb b1 rfl rfl rfl (by kernel_rfl) ?_) | (refine sb b1 rfl rfl rfl rfl (by kernel_rfl) ?_))
        refine bodyPost_ret (rct rfl (srh b1) (by rfl) (by kernel_rfl)) rfl ⟨?_, below_setRow hB (by omega) _⟩
        first | rfl | (rw [hR]; rfl)
theorem rgoes_tt (mo la lo iso : Int) (hi : 0 ≤ iso ∧ iso ≤ 15) (n : Int) (w : World) :
    Calls Tryz.prog 68 #[stV ⟨mo, true, true, la, lo, iso⟩, .int .i64 n] w fun e w' => e = .returned (.tuple #[stV (if Dw.goesE ⟨mo, true, true, la, lo, iso⟩ n = 0 then ⟨n, true, true, la, lo, iso⟩ else ⟨mo, true, true, la, lo, iso⟩), .int .i64 (Dw.goesE ⟨mo, true, true, la, lo, iso⟩ n)]) ∧ Below w.heap.size w w' := by
  obtain ⟨V, hV⟩ : ∃ V, (w.alloc (.cells (stC ⟨mo, true, true, la, lo, iso⟩) 42)).alloc (.cells Z6 42) = V := ⟨_, rfl⟩
  have b0 : V.heap[w.heap.size]? = some (.cells (stC ⟨mo, true, true, la, lo, iso⟩) 42) := by rw [← hV]; exact heap_alloc2_old _ _ _
  have b1 : V.heap[w.heap.size + 1]? = some (.cells Z6 42) := by rw [← hV]; exact heap_alloc2_new _ _ _
  have hB : Below w.heap.size w V := by rw [← hV]; exact ((Below.refl _ w).alloc (Nat.le_refl _) _).alloc (by simp) _
  have HW := Lib.hid (fun w => rway_any mo n w)
  have HN := Lib.hid (fun w => rneeds_any n w)
  have HH := Lib.hid (fun w => rhome_any n w)
  have HS := Lib.hid (fun w => rsens_any ⟨mo, true, true, la, lo, iso⟩ hi w)
  have HR := Lib.hid (show Dw.goesE ⟨mo, true, true, la, lo, iso⟩ n = if Dw.wayB mo n = false then 20 else if true = false ∧ n ≠ 0 then 22 else if true = true ∧ n = 0 then 21 else if Dw.homeB n = true ∧ true = false then 23 else if Dw.soundN iso < Dw.needsI n then 24 else 0 from rfl)
  generalize Dw.goesE ⟨mo, true, true, la, lo, iso⟩ n = R at *
  generalize Dw.wayB mo n = wv at *
  generalize Dw.needsI n = nd at *
  generalize Dw.homeB n = hm at *
  dsimp only at HS
  generalize Dw.soundN iso = sn at *
  obtain ⟨c0, c1, c2, c3, c4, c5⟩ := cells6 b0
  clear hi
  go_enter Tryz.func68, Tryz.ntmps68
  go_wp2_with fail
  refine cb (HW.out _) fun w1 hb => ?_
  replace b0 := kp hb b0
  replace b1 := kp hb b1
  replace hB := tr hB hb
  clear hb
  clear hV
  clear c0 c1 c2 c3 c4 c5
  obtain ⟨c0, c1, c2, c3, c4, c5⟩ := cells6 b0
  cases wv
  · have hR : R = 20 := by rw [HR.out]; rfl
    clear HR HW HN HH HS
    go_wp2_with (first | (refine lb b0 rfl rfl rfl (by kernel_rfl) ?_) | (refine sb b0 rfl rfl rfl rfl (by kernel_rfl) ?_) | (refine lb b1 rfl rfl rfl (by kernel_rfl) ?_) | (refine sb b1 rfl rfl rfl rfl (by kernel_rfl) ?_))
    refine bodyPost_ret (rct rfl (srh b1) (by rfl) (by kernel_rfl)) rfl ⟨?_, below_setRow hB (by omega) _⟩
    first | rfl | (rw [hR]; rfl)
  · by_cases hn : n = 0
    · have hz : (n == 0) = true := by simpa using hn
      have hR : R = 21 := by rw [HR.out]; simp [hn]
      have Hn := Lib.hid hn
      clear hn
      clear HR HW HN HH HS
      go_wp2_with (first | (refine lb b0 rfl rfl rfl (by kernel_rfl) ?_) | (refine sb b0 rfl rfl rfl rfl (by kernel_rfl) ?_) | (refine lb b1 rfl rfl rfl (by kernel_rfl) ?_) | (refine sb b1 rfl rfl rfl rfl (by kernel_rfl) ?_))
      refine bodyPost_ret (rct rfl (srh b1) (by rfl) (by kernel_rfl)) rfl ⟨?_, below_setRow hB (by omega) _⟩
      first | rfl | (rw [hR]; rfl)
    · have hz : (n == 0) = false := by simpa using hn
      have Hn := Lib.hid hn
      clear hn
      go_wp2_with fail
      refine cb (HH.out _) fun w2 hb => ?_
      replace b0 := kp hb b0
      replace b1 := kp hb b1
      replace hB := tr hB hb
      clear hb
      clear c0 c1 c2 c3 c4 c5
      obtain ⟨c0, c1, c2, c3, c4, c5⟩ := cells6 b0
      cases hm
      · have hn := Hn.out
        clear hn
        go_wp2_with (first | (refine lb b0 rfl rfl rfl (by kernel_rfl) ?_) | (refine sb b0 rfl rfl rfl rfl (by kernel_rfl) ?_))
        refine cb (HS.out _) fun w3 hb => ?_
        replace b0 := kp hb b0
        replace b1 := kp hb b1
        replace hB := tr hB hb
        clear hb
        go_wp2_with fail
        refine cb (HN.out _) fun w4 hb => ?_
        replace b0 := kp hb b0
        replace b1 := kp hb b1
        replace hB := tr hB hb
        clear hb
        clear c0 c1 c2 c3 c4 c5
        obtain ⟨c0, c1, c2, c3, c4, c5⟩ := cells6 b0
        by_cases hq : sn < nd
        · have hR : R = 24 := by rw [HR.out]; simp [hq, Hn.out]
          clear HR HW HN HH HS
          go_wp2_with (first | (refine lb b0 rfl rfl rfl (by kernel_rfl) ?_) | (refine sb b0 rfl rfl rfl rfl (by kernel_rfl) ?_) | (refine lb b1 rfl rfl rfl (by kernel_rfl) ?_) | (refine sb b1 rfl rfl rfl rfl (by kernel_rfl) ?_))
          refine bodyPost_ret (rct rfl (srh b1) (by rfl) (by kernel_rfl)) rfl ⟨?_, below_setRow hB (by omega) _⟩
          first | rfl | (rw [hR]; rfl)
        · have hR : R = 0 := by rw [HR.out]; simp [hq, Hn.out]
          have b2 := heap_setCell_same w4 w.heap.size 0 _ _ (.int .i64 n) b0
          change _ = some (Obj.cells (stC ⟨n, true, true, la, lo, iso⟩) _ _) at b2
          have z0 := frozen0 b0 0
          replace b1 := (heap_setCell_other w4 ⟨w.heap.size, 0, none⟩ (w.heap.size + 1) (.int .i64 n) (by simp)).trans b1
          replace hB := hB.setCell (p := ⟨w.heap.size, 0, none⟩) (by simp) (.int .i64 n)
          clear HR HW HN HH HS
          go_wp2_with (first | (refine lb b2 rfl rfl rfl (by kernel_rfl) ?_) | (refine sb b2 rfl rfl rfl rfl (by kernel_rfl) ?_) | (refine lb b1 rfl rfl rfl (by kernel_rfl) ?_) | (refine sb b1 rfl rfl rfl rfl (by kernel_rfl) ?_))
          refine bodyPost_ret (rct rfl (srh b1) (by rfl) (by kernel_rfl)) rfl ⟨?_, below_setRow hB (by omega) _⟩
          first | rfl | (rw [hR]; rfl)
      · have hn := Hn.out
        clear hn
        go_wp2_with (first | (refine lb b0 rfl rfl rfl (by kernel_rfl) ?_) | (refine sb b0 rfl rfl rfl rfl (by kernel_rfl) ?_))
        refine cb (HS.out _) fun w3 hb => ?_
        replace b0 := kp hb b0
        replace b1 := kp hb b1
        replace hB := tr hB hb
        clear hb
        go_wp2_with fail
        refine cb (HN.out _) fun w4 hb => ?_
        replace b0 := kp hb b0
        replace b1 := kp hb b1
        replace hB := tr hB hb
        clear hb
        clear c0 c1 c2 c3 c4 c5
        obtain ⟨c0, c1, c2, c3, c4, c5⟩ := cells6 b0
        by_cases hq : sn < nd
        · have hR : R = 24 := by rw [HR.out]; simp [hq, Hn.out]
          clear HR HW HN HH HS
          go_wp2_with (first | (refine lb b0 rfl rfl rfl (by kernel_rfl) ?_) | (refine sb b0 rfl rfl rfl rfl (by kernel_rfl) ?_) | (refine lb b1 rfl rfl rfl (by kernel_rfl) ?_) | (refine sb b1 rfl rfl rfl rfl (by kernel_rfl) ?_))
          refine bodyPost_ret (rct rfl (srh b1) (by rfl) (by kernel_rfl)) rfl ⟨?_, below_setRow hB (by omega) _⟩
          first | rfl | (rw [hR]; rfl)
        · have hR : R = 0 := by rw [HR.out]; simp [hq, Hn.out]
          have b2 := heap_setCell_same w4 w.heap.size 0 _ _ (.int .i64 n) b0
          change _ = some (Obj.cells (stC ⟨n, true, true, la, lo, iso⟩) _ _) at b2
          have z0 := frozen0 b0 0
          replace b1 := (heap_setCell_other w4 ⟨w.heap.size, 0, none⟩ (w.heap.size + 1) (.int .i64 n) (by simp)).trans b1
          replace hB := hB.setCell (p := ⟨w.heap.size, 0, none⟩) (by simp) (.int .i64 n)
          clear HR HW HN HH HS
          go_wp2_with (first | (refine lb b2 rfl rfl rfl (by kernel_rfl) ?_) | (refine sb b2 rfl rfl rfl rfl (by kernel_rfl) ?_) | (refine lb b1 rfl rfl rfl (by kernel_rfl) ?_) | (refine sb b1 rfl rfl rfl rfl (by kernel_rfl) ?_))
          refine bodyPost_ret (rct rfl (srh b1) (by rfl) (by kernel_rfl)) rfl ⟨?_, below_setRow hB (by omega) _⟩
          first | rfl | (rw [hR]; rfl)
theorem rgoes_any (s : Dw.St) (hi : 0 ≤ s.iso ∧ s.iso ≤ 15) (n : Int) (w : World) :
    Calls Tryz.prog 68 #[stV s, .int .i64 n] w fun e w' => e = .returned (.tuple #[stV (if Dw.goesE s n = 0 then { s with mo := n } else s), .int .i64 (Dw.goesE s n)]) ∧ Below w.heap.size w w' := by
  obtain ⟨mo, ar, ho, la, lo, iso⟩ := s
  cases ar <;> cases ho
  · exact rgoes_ff mo la lo iso hi n w
  · exact rgoes_ft mo la lo iso hi n w
  · exact rgoes_tf mo la lo iso hi n w
  · exact rgoes_tt mo la lo iso hi n w
end Go.Proofs.YtjiejbkfaigikaaGreatDoor
