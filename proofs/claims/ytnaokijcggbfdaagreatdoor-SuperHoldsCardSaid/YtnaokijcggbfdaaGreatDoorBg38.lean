/- What the statement's proof stands on, part 38: RWay, RCmd. -/
import Derived.Test.YtnaokijcggbfdaaGreatDoorBg24
import Derived.Test.YtnaokijcggbfdaaGreatDoorBg21
import Derived.Test.YtnaokijcggbfdaaGreatDoorBg35
import Derived.Test.YtnaokijcggbfdaaGreatDoorBg33
set_option linter.unusedSimpArgs false
set_option linter.unusedVariables false
set_option maxRecDepth 100000
set_option maxHeartbeats 4000000
namespace Go.Proofs.YtnaokijcggbfdaaGreatDoor
open Go.RowKit Go.Shelf
attribute [local go_sem] Oper.semAt_some unary_neg_float
theorem rway_any (a b : Int) (w : World) :
    Calls Tryz.prog 77 #[.int .i64 a, .int .i64 b] w fun e w' => e = .returned (.bool (Dw.wayB a b)) ∧ Below w.heap.size w w' := by
  have HA := Lib.hid (fun w => rmode_any a w)
  have HB := Lib.hid (fun w => rmode_any b w)
  by_cases ha : 0 ≤ a ∧ a ≤ 5
  · by_cases hb : 0 ≤ b ∧ b ≤ 5
    · rw [decide_eq_true ha] at HA
      rw [decide_eq_true hb] at HB
      rcases six (m := a) ⟨ha.1, by omega⟩ with rfl | rfl | rfl | rfl | rfl | rfl <;> rcases six (m := b) ⟨hb.1, by omega⟩ with rfl | rfl | rfl | rfl | rfl | rfl
      all_goals
        clear ha hb
        go_enter Tryz.func77, Tryz.ntmps77
        go_wp2_with fail
        refine cb (HA.out _) fun w1 hb1 => ?_
        go_wp2_with fail
        refine cb (HB.out _) fun w2 hb2 => ?_
        replace hb2 := tr hb1 hb2
        go_wp2_with fail
        go_ret
        exact ⟨by first | rfl | exact ret_bool (by decide), hb2⟩
    · have HW := Lib.hid (show Dw.wayB a b = false from by unfold Dw.wayB; rw [decide_eq_false hb]; simp)
      rw [decide_eq_true ha] at HA
      rw [decide_eq_false hb] at HB
      clear ha hb
      go_enter Tryz.func77, Tryz.ntmps77
      go_wp2_with fail
      refine cb (HA.out _) fun w1 hb1 => ?_
      go_wp2_with fail
      refine cb (HB.out _) fun w2 hb2 => ?_
      replace hb2 := tr hb1 hb2
      go_wp2_with fail
      go_ret
      exact ⟨by rw [HW.out]; rfl, hb2⟩
  · have HW := Lib.hid (show Dw.wayB a b = false from by unfold Dw.wayB; rw [decide_eq_false ha]; simp)
    rw [decide_eq_false ha] at HA
    clear ha HB
    go_enter Tryz.func77, Tryz.ntmps77
    go_wp2_with fail
    refine cb (HA.out _) fun w1 hb1 => ?_
    go_wp2_with fail
    go_ret
    exact ⟨by rw [HW.out]; rfl, hb1⟩
namespace Dw
open Ieee
theorem m90 : double.read 13859405640767635456 = .number true 6333186975989760 (-1074 + ((uO - 46 : Nat) : Int)) := by
  rw [show -1074 + ((uO - 46 : Nat) : Int) = -46 by have := uO_eq; omega]
  decide +kernel
theorem m180 : double.read 13863909240395005952 = .number true 6333186975989760 (-1074 + ((uO - 45 : Nat) : Int)) := by
  rw [show -1074 + ((uO - 45 : Nat) : Int) = -45 by have := uO_eq; omega]
  decide +kernel
end Dw
theorem rfix90_any (x : Nat) (w : World) :
    Calls Tryz.prog 79 #[.float .f64 x, .int .i64 90] w fun e w' => e = .returned (.tuple #[.int .i64 (if Dw.fixE x 4636033603912859648 = 0 then Dw.fixV x else 0), .int .i64 (Dw.fixE x 4636033603912859648)]) ∧ Below w.heap.size w w' := by
  have hc : floatOfInt .f64 90 = 4636033603912859648 := by decide +kernel
  have hcn : Op.negFloat .f64 4636033603912859648 = 13859405640767635456 := by decide +kernel
  have hB := Below.refl w.heap.size w
  have HF := Lib.hid (fun h => Dw.fix90 (x := x) h)
  have hab := Dw.abs_gt x Dw.c90 Dw.m90
  have HE := Lib.hid (show Dw.fixE x 4636033603912859648 = if Dw.nanB x then 12 else if Dw.fgt x 4636033603912859648 || Dw.flt x 13859405640767635456 then 13 else 0 from by unfold Dw.fixE; rw [hab])
  have e0 : (FloatKind.f64.format.order x x != some Ordering.eq) = Dw.nanB x := rfl
  have e1 : (FloatKind.f64.format.order x 4636033603912859648 == some Ordering.gt) = Dw.fgt x 4636033603912859648 := rfl
  have e2 : (FloatKind.f64.format.order x 13859405640767635456 == some Ordering.lt) = Dw.flt x 13859405640767635456 := rfl
  clear hab
  generalize Dw.fixE x 4636033603912859648 = E at *
  generalize Dw.fgt x 4636033603912859648 = bg at *
  generalize Dw.flt x 13859405640767635456 = bl at *
  generalize Dw.nanB x = bn at *
  cases bn
  · cases bl
    · cases bg
      · have h0 : E = 0 := by rw [HE.out]; rfl
        subst h0
        obtain ⟨hf, hu⟩ := HF.out rfl
        obtain ⟨y, n, z, m1, m2, m3, m4, m5⟩ := Dw.ref_fix hf (by omega)
        have hm : ∀ (t : TypeId) w, (binOp .mul t (.float .f64 x) (.float .f64 4665729213955833856)).run Tryz.prog w = .ok (.float .f64 y) w := fun t w => run_float_arith w _ t _ _ _ _ m1
        have hcv : ∀ w, (convert 32 3 (.float .f64 y)).run Tryz.prog w = .ok (.int .i64 n) w := fun w => run_convert_float_int w _ _ _ _ _ _ rfl Tryz.underlying3 m2
        have hs : ∀ (t : TypeId) w, (binOp .sub t (.float .f64 y) (.float .f64 (floatOfInt .f64 n))).run Tryz.prog w = .ok (.float .f64 z) w := fun t w => run_float_arith w _ t _ _ _ _ m3
        have HV := Lib.hid m5
        have n1 : IntKind.i64.wrap (n + 1) = n + 1 := IntWalk.i64_in _ (by omega)
        have n2 : IntKind.i64.wrap (n - 1) = n - 1 := IntWalk.i64_in _ (by omega)
        have g1 : (FloatKind.f64.format.order z 4602678819172646912 == some Ordering.gt || FloatKind.f64.format.order z 4602678819172646912 == some Ordering.eq) = (Ieee.double.order z 4602678819172646912 == some .gt || Ieee.double.order z 4602678819172646912 == some .eq) := rfl
        have g2 : (FloatKind.f64.format.order z 13826050856027422720 == some Ordering.lt || FloatKind.f64.format.order z 13826050856027422720 == some Ordering.eq) = (Ieee.double.order z 13826050856027422720 == some .lt || Ieee.double.order z 13826050856027422720 == some .eq) := rfl
        clear m1 m2 m3 m4 m5 HF HE hf hu
        generalize (Ieee.double.order z 4602678819172646912 == some .gt || Ieee.double.order z 4602678819172646912 == some .eq) = b1 at *
        generalize (Ieee.double.order z 13826050856027422720 == some .lt || Ieee.double.order z 13826050856027422720 == some .eq) = b2 at *
        generalize Dw.fixV x = V at *
        cases b1
        · cases b2
          all_goals
            go_enter Tryz.func79, Tryz.ntmps79
            go_wp2_with fail
            refine bodyPost_ret (results_tmp2 rfl _ _ _) rfl ⟨by rw [HV.out]; rfl, hB⟩
        · go_enter Tryz.func79, Tryz.ntmps79
          go_wp2_with fail
          refine bodyPost_ret (results_tmp2 rfl _ _ _) rfl ⟨by rw [HV.out]; rfl, hB⟩
      · have h0 : E = 13 := by rw [HE.out]; rfl
        subst h0
        clear HF HE
        go_enter Tryz.func79, Tryz.ntmps79
        go_wp2_with fail
        refine bodyPost_ret (results_tmp2 rfl _ _ _) rfl ⟨rfl, hB⟩
    · have h0 : E = 13 := by rw [HE.out]; simp
      subst h0
      clear HF HE
      go_enter Tryz.func79, Tryz.ntmps79
      go_wp2_with fail
      refine bodyPost_ret (results_tmp2 rfl _ _ _) rfl ⟨rfl, hB⟩
  · have h0 : E = 12 := by rw [HE.out]; rfl
    subst h0
    clear HF HE
    go_enter Tryz.func79, Tryz.ntmps79
    go_wp2_with fail
    refine bodyPost_ret (results_tmp2 rfl _ _ _) rfl ⟨rfl, hB⟩
theorem rfix180_any (x : Nat) (w : World) :
    Calls Tryz.prog 79 #[.float .f64 x, .int .i64 180] w fun e w' => e = .returned (.tuple #[.int .i64 (if Dw.fixE x 4640537203540230144 = 0 then Dw.fixV x else 0), .int .i64 (Dw.fixE x 4640537203540230144)]) ∧ Below w.heap.size w w' := by
  have hc : floatOfInt .f64 180 = 4640537203540230144 := by decide +kernel
  have hcn : Op.negFloat .f64 4640537203540230144 = 13863909240395005952 := by decide +kernel
  have hB := Below.refl w.heap.size w
  have HF := Lib.hid (fun h => Dw.fix180 (x := x) h)
  have hab := Dw.abs_gt x Dw.c180 Dw.m180
  have HE := Lib.hid (show Dw.fixE x 4640537203540230144 = if Dw.nanB x then 12 else if Dw.fgt x 4640537203540230144 || Dw.flt x 13863909240395005952 then 13 else 0 from by unfold Dw.fixE; rw [hab])
  have e0 : (FloatKind.f64.format.order x x != some Ordering.eq) = Dw.nanB x := rfl
  have e1 : (FloatKind.f64.format.order x 4640537203540230144 == some Ordering.gt) = Dw.fgt x 4640537203540230144 := rfl
  have e2 : (FloatKind.f64.format.order x 13863909240395005952 == some Ordering.lt) = Dw.flt x 13863909240395005952 := rfl
  clear hab
  generalize Dw.fixE x 4640537203540230144 = E at *
  generalize Dw.fgt x 4640537203540230144 = bg at *
  generalize Dw.flt x 13863909240395005952 = bl at *
  generalize Dw.nanB x = bn at *
  cases bn
  · cases bl
    · cases bg
      · have h0 : E = 0 := by rw [HE.out]; rfl
        subst h0
        obtain ⟨hf, hu⟩ := HF.out rfl
        obtain ⟨y, n, z, m1, m2, m3, m4, m5⟩ := Dw.ref_fix hf (by omega)
        have hm : ∀ (t : TypeId) w, (binOp .mul t (.float .f64 x) (.float .f64 4665729213955833856)).run Tryz.prog w = .ok (.float .f64 y) w := fun t w => run_float_arith w _ t _ _ _ _ m1
        have hcv : ∀ w, (convert 32 3 (.float .f64 y)).run Tryz.prog w = .ok (.int .i64 n) w := fun w => run_convert_float_int w _ _ _ _ _ _ rfl Tryz.underlying3 m2
        have hs : ∀ (t : TypeId) w, (binOp .sub t (.float .f64 y) (.float .f64 (floatOfInt .f64 n))).run Tryz.prog w = .ok (.float .f64 z) w := fun t w => run_float_arith w _ t _ _ _ _ m3
        have HV := Lib.hid m5
        have n1 : IntKind.i64.wrap (n + 1) = n + 1 := IntWalk.i64_in _ (by omega)
        have n2 : IntKind.i64.wrap (n - 1) = n - 1 := IntWalk.i64_in _ (by omega)
        have g1 : (FloatKind.f64.format.order z 4602678819172646912 == some Ordering.gt || FloatKind.f64.format.order z 4602678819172646912 == some Ordering.eq) = (Ieee.double.order z 4602678819172646912 == some .gt || Ieee.double.order z 4602678819172646912 == some .eq) := rfl
        have g2 : (FloatKind.f64.format.order z 13826050856027422720 == some Ordering.lt || FloatKind.f64.format.order z 13826050856027422720 == some Ordering.eq) = (Ieee.double.order z 13826050856027422720 == some .lt || Ieee.double.order z 13826050856027422720 == some .eq) := rfl
        clear m1 m2 m3 m4 m5 HF HE hf hu
        generalize (Ieee.double.order z 4602678819172646912 == some .gt || Ieee.double.order z 4602678819172646912 == some .eq) = b1 at *
        generalize (Ieee.double.order z 13826050856027422720 == some .lt || Ieee.double.order z 13826050856027422720 == some .eq) = b2 at *
        generalize Dw.fixV x = V at *
        cases b1
        · cases b2
          all_goals
            go_enter Tryz.func79, Tryz.ntmps79
            go_wp2_with fail
            refine bodyPost_ret (results_tmp2 rfl _ _ _) rfl ⟨by rw [HV.out]; rfl, hB⟩
        · go_enter Tryz.func79, Tryz.ntmps79
          go_wp2_with fail
          refine bodyPost_ret (results_tmp2 rfl _ _ _) rfl ⟨by rw [HV.out]; rfl, hB⟩
      · have h0 : E = 13 := by rw [HE.out]; rfl
        subst h0
        clear HF HE
        go_enter Tryz.func79, Tryz.ntmps79
        go_wp2_with fail
        refine bodyPost_ret (results_tmp2 rfl _ _ _) rfl ⟨rfl, hB⟩
    · have h0 : E = 13 := by rw [HE.out]; simp
      subst h0
      clear HF HE
      go_enter Tryz.func79, Tryz.ntmps79
      go_wp2_with fail
      refine bodyPost_ret (results_tmp2 rfl _ _ _) rfl ⟨rfl, hB⟩
  · have h0 : E = 12 := by rw [HE.out]; rfl
    subst h0
    clear HF HE
    go_enter Tryz.func79, Tryz.ntmps79
    go_wp2_with fail
    refine bodyPost_ret (results_tmp2 rfl _ _ _) rfl ⟨rfl, hB⟩
end Go.Proofs.YtnaokijcggbfdaaGreatDoor
namespace Go.Proofs.YtnaokijcggbfdaaGreatDoor
open Go.RowKit Go.Shelf
attribute [local go_sem] Oper.semAt_some
theorem rgoes_ff (mo la lo iso : Int) (hi : 0 ≤ iso ∧ iso ≤ 15) (n : Int) (w : World) :
    Calls Tryz.prog 44 #[stV ⟨mo, false, false, la, lo, iso⟩, .int .i64 n] w fun e w' => e = .returned (.tuple #[stV (if Dw.goesE ⟨mo, false, false, la, lo, iso⟩ n = 0 then ⟨n, false, false, la, lo, iso⟩ else ⟨mo, false, false, la, lo, iso⟩), .int .i64 (Dw.goesE ⟨mo, false, false, la, lo, iso⟩ n)]) ∧ Below w.heap.size w w' := by
  obtain ⟨V, hV⟩ : ∃ V, (w.alloc (.cells (stC ⟨mo, false, false, la, lo, iso⟩) 42)).alloc (.cells Z6 42) = V := ⟨_, rfl⟩
  have b0 : V.heap[w.heap.size]? = some (.cells (stC ⟨mo, false, false, la, lo, iso⟩) 42) := by rw [← hV]; exact heap_alloc2_old _ _ _
  have b1 : V.heap[w.heap.size + 1]? = some (.cells Z6 42) := by rw [← hV]; exact heap_alloc2_new _ _ _
  have hB : Below w.heap.size w V := by rw [← hV]; exact ((Below.refl _ w).alloc (Nat.le_refl _) _).alloc (by simp) _
  have HW := Lib.hid (fun w => rway_any mo n w)
  have HN := Lib.hid (fun w => rneeds_any n w)
  have HH := Lib.hid (fun w => rhome_any n w)
  have HS := Lib.hid (fun w => rsens_any ⟨mo, false, false, la, lo, iso⟩ hi w)
  have HR := Lib.hid (show Dw.goesE ⟨mo, false, false, la, lo, iso⟩ n = if Dw.wayB mo n = false then 20 else if false = false ∧ n ≠ 0 then 22 else if false = true ∧ n = 0 then 21 else if Dw.homeB n = true ∧ false = false then 23 else if Dw.soundN iso < Dw.needsI n then 24 else 0 from rfl)
  generalize Dw.goesE ⟨mo, false, false, la, lo, iso⟩ n = R at *
  generalize Dw.wayB mo n = wv at *
  generalize Dw.needsI n = nd at *
  generalize Dw.homeB n = hm at *
  dsimp only at HS
  generalize Dw.soundN iso = sn at *
  obtain ⟨c0, c1, c2, c3, c4, c5⟩ := cells6 b0
  clear hi
  go_enter Tryz.func44, Tryz.ntmps44
  go_wp2_with fail
  refine cb (HW.out _) fun w1 hb => ?_
  replace b0 := kp hb b0
  replace b1 := kp hb b1
  replace hB := tr hB hb
  clear hb
  clear hV
  clear c0 c1 c2 c3 c4 c5
  obtain ⟨c0, c1, c2, c3, c4, c5⟩ := cells6 b0
  cases wv
  · have hR : R = 20 := by rw [HR.out]; rfl
    clear HR HW HN HH HS
    go_wp2_with (first | (refine lb b0 rfl rfl rfl (by kernel_rfl) ?_) | (refine sb b0 rfl rfl rfl rfl (by kernel_rfl) ?_) | (refine lb b1 rfl rfl rfl (by kernel_rfl) ?_) | (refine sb b1 rfl rfl rfl rfl (by kernel_rfl) ?_))
    refine bodyPost_ret (rct rfl (srh b1) (by rfl) (by kernel_rfl)) rfl ⟨?_, below_setRow hB (by omega) _⟩
    first | rfl | (rw [hR]; rfl)
  · by_cases hn : n = 0
    · have hz : (n == 0) = true := by simpa using hn
      have Hn := Lib.hid hn
      clear hn
      go_wp2_with fail
      refine cb (HH.out _) fun w2 hb => ?_
      replace b0 := kp hb b0
      replace b1 := kp hb b1
      replace hB := tr hB hb
      clear hb
      clear c0 c1 c2 c3 c4 c5
      obtain ⟨c0, c1, c2, c3, c4, c5⟩ := cells6 b0
      cases hm
      · have hn := Hn.out
        clear hn
        go_wp2_with (first | (refine lb b0 rfl rfl rfl (by kernel_rfl) ?_) | (refine sb b0 rfl rfl rfl rfl (by kernel_rfl) ?_))
        refine cb (HS.out _) fun w3 hb => ?_
        replace b0 := kp hb b0
        replace b1 := kp hb b1
        replace hB := tr hB hb
        clear hb
        go_wp2_with fail
        refine cb (HN.out _) fun w4 hb => ?_
        replace b0 := kp hb b0
        replace b1 := kp hb b1
        replace hB := tr hB hb
        clear hb
        clear c0 c1 c2 c3 c4 c5
        obtain ⟨c0, c1, c2, c3, c4, c5⟩ := cells6 b0
        by_cases hq : sn < nd
        · have hR : R = 24 := by rw [HR.out]; simp [hq, Hn.out]
          clear HR HW HN HH HS
          go_wp2_with (first | (refine lb b0 rfl rfl rfl (by kernel_rfl) ?_) | (refine sb b0 rfl rfl rfl rfl (by kernel_rfl) ?_) | (refine lb b1 rfl rfl rfl (by kernel_rfl) ?_) | (refine sb b1 rfl rfl rfl rfl (by kernel_rfl) ?_))
          refine bodyPost_ret (rct rfl (srh b1) (by rfl) (by kernel_rfl)) rfl ⟨?_, below_setRow hB (by omega) _⟩
          first | rfl | (rw [hR]; rfl)
        · have hR : R = 0 := by rw [HR.out]; simp [hq, Hn.out]
          have b2 := heap_setCell_same w4 w.heap.size 0 _ _ (.int .i64 n) b0
          change _ = some (Obj.cells (stC ⟨n, false, false, la, lo, iso⟩) _ _) at b2
          have z0 := frozen0 b0 0
          replace b1 := (heap_setCell_other w4 ⟨w.heap.size, 0, none⟩ (w.heap.size + 1) (.int .i64 n) (by simp)).trans b1
          replace hB := hB.setCell (p := ⟨w.heap.size, 0, none⟩) (by simp) (.int .i64 n)
          clear HR HW HN HH HS
          go_wp2_with (first | (refine lb b2 rfl rfl rfl (by kernel_rfl) ?_) | (refine sb b2 rfl rfl rfl rfl (by kernel_rfl) ?_) | (refine lb b1 rfl rfl rfl (by kernel_rfl) ?_) | (refine sb b1 rfl rfl rfl rfl (by kernel_rfl) ?_))
          refine bodyPost_ret (rct rfl (srh b1) (by rfl) (by kernel_rfl)) rfl ⟨?_, below_setRow hB (by omega) _⟩
          first | rfl | (rw [hR]; rfl)
      · have hn := Hn.out
        have hR : R = 23 := by rw [HR.out]; simp [hn]
        clear hn
        clear HR HW HN HH HS
        go_wp2_with (first | (refine lb b0 rfl rfl rfl (by kernel_rfl) ?_) | (refine sb b0 rfl rfl rfl rfl (by kernel_rfl) ?_) | (refine lb b1 rfl rfl rfl (by kernel_rfl) ?_) | (refine sb b1 rfl rfl rfl rfl (by kernel_rfl) ?_))
        refine bodyPost_ret (rct rfl (srh b1) (by rfl) (by kernel_rfl)) rfl ⟨?_, below_setRow hB (by omega) _⟩
        first | rfl | (rw [hR]; rfl)
    · have hz : (n == 0) = false := by simpa using hn
      have hR : R = 22 := by rw [HR.out]; simp [hn]
      have Hn := Lib.hid hn
      clear hn
      clear HR HW HN HH HS
      go_wp2_with (first | (refine lb b0 rfl rfl rfl (by kernel_rfl) ?_) | (refine sb b0 rfl rfl rfl rfl (by kernel_rfl) ?_) | (refine lb b1 rfl rfl rfl (by kernel_rfl) ?_) | (refine sb b1 rfl rfl rfl rfl (by kernel_rfl) ?_))
      refine bodyPost_ret (rct rfl (srh b1) (by rfl) (by kernel_rfl)) rfl ⟨?_, below_setRow hB (by omega) _⟩
      first | rfl | (rw [hR]; rfl)
theorem rgoes_ft (mo la lo iso : Int) (hi : 0 ≤ iso ∧ iso ≤ 15) (n : Int) (w : World) :
    Calls Tryz.prog 44 #[stV ⟨mo, false, true, la, lo, iso⟩, .int .i64 n] w fun e w' => e = .returned (.tuple #[stV (if Dw.goesE ⟨mo, false, true, la, lo, iso⟩ n = 0 then ⟨n, false, true, la, lo, iso⟩ else ⟨mo, false, true, la, lo, iso⟩), .int .i64 (Dw.goesE ⟨mo, false, true, la, lo, iso⟩ n)]) ∧ Below w.heap.size w w' := by
  obtain ⟨V, hV⟩ : ∃ V, (w.alloc (.cells (stC ⟨mo, false, true, la, lo, iso⟩) 42)).alloc (.cells Z6 42) = V := ⟨_, rfl⟩
  have b0 : V.heap[w.heap.size]? = some (.cells (stC ⟨mo, false, true, la, lo, iso⟩) 42) := by rw [← hV]; exact heap_alloc2_old _ _ _
  have b1 : V.heap[w.heap.size + 1]? = some (.cells Z6 42) := by rw [← hV]; exact heap_alloc2_new _ _ _
  have hB : Below w.heap.size w V := by rw [← hV]; exact ((Below.refl _ w).alloc (Nat.le_refl _) _).alloc (by simp) _
  have HW := Lib.hid (fun w => rway_any mo n w)
  have HN := Lib.hid (fun w => rneeds_any n w)
  have HH := Lib.hid (fun w => rhome_any n w)
  have HS := Lib.hid (fun w => rsens_any ⟨mo, false, true, la, lo, iso⟩ hi w)
  have HR := Lib.hid (show Dw.goesE ⟨mo, false, true, la, lo, iso⟩ n = if Dw.wayB mo n = false then 20 else if false = false ∧ n ≠ 0 then 22 else if false = true ∧ n = 0 then 21 else if Dw.homeB n = true ∧ true = false then 23 else if Dw.soundN iso < Dw.needsI n then 24 else 0 from rfl)
  generalize Dw.goesE ⟨mo, false, true, la, lo, iso⟩ n = R at *
  generalize Dw.wayB mo n = wv at *
  generalize Dw.needsI n = nd at *
  generalize Dw.homeB n = hm at *
  dsimp only at HS
  generalize Dw.soundN iso = sn at *
  obtain ⟨c0, c1, c2, c3, c4, c5⟩ := cells6 b0
  clear hi
  go_enter Tryz.func44, Tryz.ntmps44
  go_wp2_with fail
  refine cb (HW.out _) fun w1 hb => ?_
  replace b0 := kp hb b0
  replace b1 := kp hb b1
  replace hB := tr hB hb
  clear hb
  clear hV
  clear c0 c1 c2 c3 c4 c5
  obtain ⟨c0, c1, c2, c3, c4, c5⟩ := cells6 b0
  cases wv
  · have hR : R = 20 := by rw [HR.out]; rfl
    clear HR HW HN HH HS
    go_wp2_with (first | (refine lb b0 rfl rfl rfl (by kernel_rfl) ?_) | (refine sb b0 rfl rfl rfl rfl (by kernel_rfl) ?_) | (refine lb b1 rfl rfl rfl (by kernel_rfl) ?_) | (refine sb b1 rfl rfl rfl rfl (by kernel_rfl) ?_))
    refine bodyPost_ret (rct rfl (srh b1) (by rfl) (by kernel_rfl)) rfl ⟨?_, below_setRow hB (by omega) _⟩
    first | rfl | (rw [hR]; rfl)
  · by_cases hn : n = 0
    · have hz : (n == 0) = true := by simpa using hn
      have Hn := Lib.hid hn
      clear hn
      go_wp2_with fail
      refine cb (HH.out _) fun w2 hb => ?_
      replace b0 := kp hb b0
      replace b1 := kp hb b1
      replace hB := tr hB hb
      clear hb
      clear c0 c1 c2 c3 c4 c5
      obtain ⟨c0, c1, c2, c3, c4, c5⟩ := cells6 b0
      cases hm
      · have hn := Hn.out
        clear hn
        go_wp2_with (first | (refine lb b0 rfl rfl rfl (by kernel_rfl) ?_) | (refine sb b0 rfl rfl rfl rfl (by kernel_rfl) ?_))
        refine cb (HS.out _) fun w3 hb => ?_
        replace b0 := kp hb b0
        replace b1 := kp hb b1
        replace hB := tr hB hb
        clear hb
        go_wp2_with fail
        refine cb (HN.out _) fun w4 hb => ?_
        replace b0 := kp hb b0
        replace b1 := kp hb b1
        replace hB := tr hB hb
        clear hb
        clear c0 c1 c2 c3 c4 c5
        obtain ⟨c0, c1, c2, c3, c4, c5⟩ := cells6 b0
        by_cases hq : sn < nd
        · have hR : R = 24 := by rw [HR.out]; simp [hq, Hn.out]
          clear HR HW HN HH HS
          go_wp2_with (first | (refine lb b0 rfl rfl rfl (by kernel_rfl) ?_) | (refine sb b0 rfl rfl rfl rfl (by kernel_rfl) ?_) | (refine lb b1 rfl rfl rfl (by kernel_rfl) ?_) | (refine sb b1 rfl rfl rfl rfl (by kernel_rfl) ?_))
          refine bodyPost_ret (rct rfl (srh b1) (by rfl) (by kernel_rfl)) rfl ⟨?_, below_setRow hB (by omega) _⟩
          first | rfl | (rw [hR]; rfl)
        · have hR : R = 0 := by rw [HR.out]; simp [hq, Hn.out]
          have b2 := heap_setCell_same w4 w.heap.size 0 _ _ (.int .i64 n) b0
          change _ = some (Obj.cells (stC ⟨n, false, true, la, lo, iso⟩) _ _) at b2
          have z0 := frozen0 b0 0
          replace b1 := (heap_setCell_other w4 ⟨w.heap.size, 0, none⟩ (w.heap.size + 1) (.int .i64 n) (by simp)).trans b1
          replace hB := hB.setCell (p := ⟨w.heap.size, 0, none⟩) (by simp) (.int .i64 n)
          clear HR HW HN HH HS
          go_wp2_with (first | (refine lb b2 rfl rfl rfl (by kernel_rfl) ?_) | (refine sb b2 rfl rfl rfl rfl (by kernel_rfl) ?_) | (refine lb b1 rfl rfl rfl (by kernel_rfl) ?_) | (refine sb b1 rfl rfl rfl rfl (by kernel_rfl) ?_))
          refine bodyPost_ret (rct rfl (srh b1) (by rfl) (by kernel_rfl)) rfl ⟨?_, below_setRow hB (by omega) _⟩
          first | rfl | (rw [hR]; rfl)
      · have hn := Hn.out
        clear hn
        go_wp2_with (first | (refine lb b0 rfl rfl rfl (by kernel_rfl) ?_) | (refine sb b0 rfl rfl rfl rfl (by kernel_rfl) ?_))
        refine cb (HS.out _) fun w3 hb => ?_
        replace b0 := kp hb b0
        replace b1 := kp hb b1
        replace hB := tr hB hb
        clear hb
        go_wp2_with fail
        refine cb (HN.out _) fun w4 hb => ?_
        replace b0 := kp hb b0
        replace b1 := kp hb b1
        replace hB := tr hB hb
        clear hb
        clear c0 c1 c2 c3 c4 c5
        obtain ⟨c0, c1, c2, c3, c4, c5⟩ := cells6 b0
        by_cases hq : sn < nd
        · have hR : R = 24 := by rw [HR.out]; simp [hq, Hn.out]
          clear HR HW HN HH HS
          go_wp2_with (first | (refine lb b0 rfl rfl rfl (by kernel_rfl) ?_) | (refine sb b0 rfl rfl rfl rfl (by kernel_rfl) ?_) | (refine lb b1 rfl rfl rfl (by kernel_rfl) ?_) | (refine sb b1 rfl rfl rfl rfl (by kernel_rfl) ?_))
          refine bodyPost_ret (rct rfl (srh b1) (by rfl) (by kernel_rfl)) rfl ⟨?_, below_setRow hB (by omega) _⟩
          first | rfl | (rw [hR]; rfl)
        · have hR : R = 0 := by rw [HR.out]; simp [hq, Hn.out]
          have b2 := heap_setCell_same w4 w.heap.size 0 _ _ (.int .i64 n) b0
          change _ = some (Obj.cells (stC ⟨n, false, true, la, lo, iso⟩) _ _) at b2
          have z0 := frozen0 b0 0
          replace b1 := (heap_setCell_other w4 ⟨w.heap.size, 0, none⟩ (w.heap.size + 1) (.int .i64 n) (by simp)).trans b1
          replace hB := hB.setCell (p := ⟨w.heap.size, 0, none⟩) (by simp) (.int .i64 n)
          clear HR HW HN HH HS
          go_wp2_with (first | (refine lb b2 rfl rfl rfl (by kernel_rfl) ?_) | (refine sb b2 rfl rfl rfl rfl (by kernel_rfl) ?_) | (refine lb b1 rfl rfl rfl (by kernel_rfl) ?_) | (refine sb b1 rfl rfl rfl rfl (by kernel_rfl) ?_))
          refine bodyPost_ret (rct rfl (srh b1) (by rfl) (by kernel_rfl)) rfl ⟨?_, below_setRow hB (by omega) _⟩
          first | rfl | (rw [hR]; rfl)
    · have hz : (n == 0) = false := by simpa using hn
      have hR : R = 22 := by rw [HR.out]; simp [hn]
      have Hn := Lib.hid hn
      clear hn
      clear HR HW HN HH HS
      go_wp2_with (first | (refine lb b0 rfl rfl rfl (by kernel_rfl) ?_) | (refine sb b0 rfl rfl rfl rfl (by kernel_rfl) ?_) | (refine lb b1 rfl rfl rfl (by kernel_rfl) ?_) | (refine sb b1 rfl rfl rfl rfl (by kernel_rfl) ?_))
      refine bodyPost_ret (rct rfl (srh b1) (by rfl) (by kernel_rfl)) rfl ⟨?_, below_setRow hB (by omega) _⟩
      first | rfl | (rw [hR]; rfl)
theorem rgoes_tf (mo la lo iso : Int) (hi : 0 ≤ iso ∧ iso ≤ 15) (n : Int) (w : World) :
    Calls Tryz.prog 44 #[stV ⟨mo, true, false, la, lo, iso⟩, .int .i64 n] w fun e w' => e = .returned (.tuple #[stV (if Dw.goesE ⟨mo, true, false, la, lo, iso⟩ n = 0 then ⟨n, true, false, la, lo, iso⟩ else ⟨mo, true, false, la, lo, iso⟩), .int .i64 (Dw.goesE ⟨mo, true, false, la, lo, iso⟩ n)]) ∧ Below w.heap.size w w' := by
  obtain ⟨V, hV⟩ : ∃ V, (w.alloc (.cells (stC ⟨mo, true, false, la, lo, iso⟩) 42)).alloc (.cells Z6 42) = V := ⟨_, rfl⟩
  have b0 : V.heap[w.heap.size]? = some (.cells (stC ⟨mo, true, false, la, lo, iso⟩) 42) := by rw [← hV]; exact heap_alloc2_old _ _ _
  have b1 : V.heap[w.heap.size + 1]? = some (.cells Z6 42) := by rw [← hV]; exact heap_alloc2_new _ _ _
  have hB : Below w.heap.size w V := by rw [← hV]; exact ((Below.refl _ w).alloc (Nat.le_refl _) _).alloc (by simp) _
  have HW := Lib.hid (fun w => rway_any mo n w)
  have HN := Lib.hid (fun w => rneeds_any n w)
  have HH := Lib.hid (fun w => rhome_any n w)
  have HS := Lib.hid (fun w => rsens_any ⟨mo, true, false, la, lo, iso⟩ hi w)
  have HR := Lib.hid (show Dw.goesE ⟨mo, true, false, la, lo, iso⟩ n = if Dw.wayB mo n = false then 20 else if true = false ∧ n ≠ 0 then 22 else if true = true ∧ n = 0 then 21 else if Dw.homeB n = true ∧ false = false then 23 else if Dw.soundN iso < Dw.needsI n then 24 else 0 from rfl)
  generalize Dw.goesE ⟨mo, true, false, la, lo, iso⟩ n = R at *
  generalize Dw.wayB mo n = wv at *
  generalize Dw.needsI n = nd at *
  generalize Dw.homeB n = hm at *
  dsimp only at HS
  generalize Dw.soundN iso = sn at *
  obtain ⟨c0, c1, c2, c3, c4, c5⟩ := cells6 b0
  clear hi
  go_enter Tryz.func44, Tryz.ntmps44
  go_wp2_with fail
  refine cb (HW.out _) fun w1 hb => ?_
  replace b0 := kp hb b0
  replace b1 := kp hb b1
  replace hB := tr hB hb
  clear hb
  clear hV
  clear c0 c1 c2 c3 c4 c5
  obtain ⟨c0, c1, c2, c3, c4, c5⟩ := cells6 b0
  cases wv
  · have hR : R = 20 := by rw [HR.out]; rfl
    clear HR HW HN HH HS
    go_wp2_with (first | (refine lb b0 rfl rfl rfl (by kernel_rfl) ?_) | (refine sb b0 rfl rfl rfl rfl (by kernel_rfl) ?_) | (refine lb b1 rfl rfl rfl (by kernel_rfl) ?_) | (refine sb b1 rfl rfl rfl rfl (by kernel_rfl) ?_))
    refine bodyPost_ret (rct rfl (srh b1) (by rfl) (by kernel_rfl)) rfl ⟨?_, below_setRow hB (by omega) _⟩
    first | rfl | (rw [hR]; rfl)
  · by_cases hn : n = 0
    · have hz : (n == 0) = true := by simpa using hn
      have hR : R = 21 := by rw [HR.out]; simp [hn]
      have Hn := Lib.hid hn
      clear hn
      clear HR HW HN HH HS
      go_wp2_with (first | (refine lb b0 rfl rfl rfl (by kernel_rfl) ?_) | (refine sb b0 rfl rfl rfl rfl (by kernel_rfl) ?_) | (refine lb b1 rfl rfl rfl (by kernel_rfl) ?_) | (refine sb b1 rfl rfl rfl rfl (by kernel_rfl) ?_))
      refine bodyPost_ret (rct rfl (srh b1) (by rfl) (by kernel_rfl)) rfl ⟨?_, below_setRow hB (by omega) _⟩
      first | rfl | (rw [hR]; rfl)
    · have hz : (n == 0) = false := by simpa using hn
      have Hn := Lib.hid hn
      clear hn
      go_wp2_with fail
      refine cb (HH.out _) fun w2 hb => ?_
      replace b0 := kp hb b0
      replace b1 := kp hb b1
      replace hB := tr hB hb
      clear hb
      clear c0 c1 c2 c3 c4 c5
      obtain ⟨c0, c1, c2, c3, c4, c5⟩ := cells6 b0
      cases hm
      · have hn := Hn.out
        clear hn
        go_wp2_with (first | (refine lb b0 rfl rfl rfl (by kernel_rfl) ?_) | (refine sb b0 rfl rfl rfl rfl (by kernel_rfl) ?_))
        refine cb (HS.out _) fun w3 hb => ?_
        replace b0 := kp hb b0
        replace b1 := kp hb b1
        replace hB := tr hB hb
        clear hb
        go_wp2_with fail
        refine cb (HN.out _) fun w4 hb => ?_
        replace b0 := kp hb b0
        replace b1 := kp hb b1
        replace hB := tr hB hb
        clear hb
        clear c0 c1 c2 c3 c4 c5
        obtain ⟨c0, c1, c2, c3, c4, c5⟩ := cells6 b0
        by_cases hq : sn < nd
        · have hR : R = 24 := by rw [HR.out]; simp [hq, Hn.out]
          clear HR HW HN HH HS
          go_wp2_with (first | (refine lb b0 rfl rfl rfl (by kernel_rfl) ?_) | (refine sb b0 rfl rfl rfl rfl (by kernel_rfl) ?_) | (refine lb b1 rfl rfl rfl (by kernel_rfl) ?_) | (refine sb b1 rfl rfl rfl rfl (by kernel_rfl) ?_))
          refine bodyPost_ret (rct rfl (srh b1) (by rfl) (by kernel_rfl)) rfl ⟨?_, below_setRow hB (by omega) _⟩
          first | rfl | (rw [hR]; rfl)
        · have hR : R = 0 := by rw [HR.out]; simp [hq, Hn.out]
          have b2 := heap_setCell_same w4 w.heap.size 0 _ _ (.int .i64 n) b0
          change _ = some (Obj.cells (stC ⟨n, true, false, la, lo, iso⟩) _ _) at b2
          have z0 := frozen0 b0 0
          replace b1 := (heap_setCell_other w4 ⟨w.heap.size, 0, none⟩ (w.heap.size + 1) (.int .i64 n) (by simp)).trans b1
          replace hB := hB.setCell (p := ⟨w.heap.size, 0, none⟩) (by simp) (.int .i64 n)
          clear HR HW HN HH HS
          go_wp2_with (first | (refine lb b2 rfl rfl rfl (by kernel_rfl) ?_) | (refine sb b2 rfl rfl rfl rfl (by kernel_rfl) ?_) | (refine lb b1 rfl rfl rfl (by kernel_rfl) ?_) | (refine sb b1 rfl rfl rfl rfl (by kernel_rfl) ?_))
          refine bodyPost_ret (rct rfl (srh b1) (by rfl) (by kernel_rfl)) rfl ⟨?_, below_setRow hB (by omega) _⟩
          first | rfl | (rw [hR]; rfl)
      · have hn := Hn.out
        have hR : R = 23 := by rw [HR.out]; simp [hn]
        clear hn
        clear HR HW HN HH HS
        go_wp2_with (first | (refine lb b0 rfl rfl rfl (by kernel_rfl) ?_) | (refine sb b0 rfl rfl rfl rfl (by kernel_rfl) ?_) | (refine lb b1 rfl rfl rfl (by kernel_rfl) ?_) | (refine sb b1 rfl rfl rfl rfl (by kernel_rfl) ?_))
        refine bodyPost_ret (rct rfl (srh b1) (by rfl) (by kernel_rfl)) rfl ⟨?_, below_setRow hB (by omega) _⟩
        first | rfl | (rw [hR]; rfl)
theorem rgoes_tt (mo la lo iso : Int) (hi : 0 ≤ iso ∧ iso ≤ 15) (n : Int) (w : World) :
    Calls Tryz.prog 44 #[stV ⟨mo, true, true, la, lo, iso⟩, .int .i64 n] w fun e w' => e = .returned (.tuple #[stV (if Dw.goesE ⟨mo, true, true, la, lo, iso⟩ n = 0 then ⟨n, true, true, la, lo, iso⟩ else ⟨mo, true, true, la, lo, iso⟩), .int .i64 (Dw.goesE ⟨mo, true, true, la, lo, iso⟩ n)]) ∧ Below w.heap.size w w' := by
  obtain ⟨V, hV⟩ : ∃ V, (w.alloc (.cells (stC ⟨mo, true, true, la, lo, iso⟩) 42)).alloc (.cells Z6 42) = V := ⟨_, rfl⟩
  have b0 : V.heap[w.heap.size]? = some (.cells (stC ⟨mo, true, true, la, lo, iso⟩) 42) := by rw [← hV]; exact heap_alloc2_old _ _ _
  have b1 : V.heap[w.heap.size + 1]? = some (.cells Z6 42) := by rw [← hV]; exact heap_alloc2_new _ _ _
  have hB : Below w.heap.size w V := by rw [← hV]; exact ((Below.refl _ w).alloc (Nat.le_refl _) _).alloc (by simp) _
  have HW := Lib.hid (fun w => rway_any mo n w)
  have HN := Lib.hid (fun w => rneeds_any n w)
  have HH := Lib.hid (fun w => rhome_any n w)
  have HS := Lib.hid (fun w => rsens_any ⟨mo, true, true, la, lo, iso⟩ hi w)
  have HR := Lib.hid (show Dw.goesE ⟨mo, true, true, la, lo, iso⟩ n = if Dw.wayB mo n = false then 20 else if true = false ∧ n ≠ 0 then 22 else if true = true ∧ n = 0 then 21 else if Dw.homeB n = true ∧ true = false then 23 else if Dw.soundN iso < Dw.needsI n then 24 else 0 from rfl)
  generalize Dw.goesE ⟨mo, true, true, la, lo, iso⟩ n = R at *
  generalize Dw.wayB mo n = wv at *
  generalize Dw.needsI n = nd at *
  generalize Dw.homeB n = hm at *
  dsimp only at HS
  generalize Dw.soundN iso = sn at *
  obtain ⟨c0, c1, c2, c3, c4, c5⟩ := cells6 b0
  clear hi
  go_enter Tryz.func44, Tryz.ntmps44
  go_wp2_with fail
  refine cb (HW.out _) fun w1 hb => ?_
  replace b0 := kp hb b0
  replace b1 := kp hb b1
  replace hB := tr hB hb
  clear hb
  clear hV
  clear c0 c1 c2 c3 c4 c5
  obtain ⟨c0, c1, c2, c3, c4, c5⟩ := cells6 b0
  cases wv
  · have hR : R = 20 := by rw [HR.out]; rfl
    clear HR HW HN HH HS
    go_wp2_with (first | (refine lb b0 rfl rfl rfl (by kernel_rfl) ?_) | (refine sb b0 rfl rfl rfl rfl (by kernel_rfl) ?_) | (refine lb b1 rfl rfl rfl (by kernel_rfl) ?_) | (refine sb b1 rfl rfl rfl rfl (by kernel_rfl) ?_))
    refine bodyPost_ret (rct rfl (srh b1) (by rfl) (by kernel_rfl)) rfl ⟨?_, below_setRow hB (by omega) _⟩
    first | rfl | (rw [hR]; rfl)
  · by_cases hn : n = 0
    · have hz : (n == 0) = true := by simpa using hn
      have hR : R = 21 := by rw [HR.out]; simp [hn]
      have Hn := Lib.hid hn
      clear hn
      clear HR HW HN HH HS
      go_wp2_with (first | (refine lb b0 rfl rfl rfl (by kernel_rfl) ?_) | (refine sb b0 rfl rfl rfl rfl (by kernel_rfl) ?_) | (refine lb b1 rfl rfl rfl (by kernel_rfl) ?_) | (refine sb b1 rfl rfl rfl rfl (by kernel_rfl) ?_))
      refine bodyPost_ret (rct rfl (srh b1) (by rfl) (by kernel_rfl)) rfl ⟨?_, below_setRow hB (by omega) _⟩
      first | rfl | (rw [hR]; rfl)
    · have hz : (n == 0) = false := by simpa using hn
      have Hn := Lib.hid hn
      clear hn
      go_wp2_with fail
      refine cb (HH.out _) fun w2 hb => ?_
      replace b0 := kp hb b0
      replace b1 := kp hb b1
      replace hB := tr hB hb
      clear hb
      clear c0 c1 c2 c3 c4 c5
      obtain ⟨c0, c1, c2, c3, c4, c5⟩ := cells6 b0
      cases hm
      · have hn := Hn.out
        clear hn
        go_wp2_with (first | (refine lb b0 rfl rfl rfl (by kernel_rfl) ?_) | (refine sb b0 rfl rfl rfl rfl (by kernel_rfl) ?_))
        refine cb (HS.out _) fun w3 hb => ?_
        replace b0 := kp hb b0
        replace b1 := kp hb b1
        replace hB := tr hB hb
        clear hb
        go_wp2_with fail
        refine cb (HN.out _) fun w4 hb => ?_
        replace b0 := kp hb b0
        replace b1 := kp hb b1
        replace hB := tr hB hb
        clear hb
        clear c0 c1 c2 c3 c4 c5
        obtain ⟨c0, c1, c2, c3, c4, c5⟩ := cells6 b0
        by_cases hq : sn < nd
        · have hR : R = 24 := by rw [HR.out]; simp [hq, Hn.out]
          clear HR HW HN HH HS
          go_wp2_with (first | (refine lb b0 rfl rfl rfl (by kernel_rfl) ?_) | (refine sb b0 rfl rfl rfl rfl (by kernel_rfl) ?_) | (refine lb b1 rfl rfl rfl (by kernel_rfl) ?_) | (refine sb b1 rfl rfl rfl rfl (by kernel_rfl) ?_))
          refine bodyPost_ret (rct rfl (srh b1) (by rfl) (by kernel_rfl)) rfl ⟨?_, below_setRow hB (by omega) _⟩
          first | rfl | (rw [hR]; rfl)
        · have hR : R = 0 := by rw [HR.out]; simp [hq, Hn.out]
          have b2 := heap_setCell_same w4 w.heap.size 0 _ _ (.int .i64 n) b0
          change _ = some (Obj.cells (stC ⟨n, true, true, la, lo, iso⟩) _ _) at b2
          have z0 := frozen0 b0 0
          replace b1 := (heap_setCell_other w4 ⟨w.heap.size, 0, none⟩ (w.heap.size + 1) (.int .i64 n) (by simp)).trans b1
          replace hB := hB.setCell (p := ⟨w.heap.size, 0, none⟩) (by simp) (.int .i64 n)
          clear HR HW HN HH HS
          go_wp2_with (first | (refine lb b2 rfl rfl rfl (by kernel_rfl) ?_) | (refine sb b2 rfl rfl rfl rfl (by kernel_rfl) ?_) | (refine lb b1 rfl rfl rfl (by kernel_rfl) ?_) | (refine sb b1 rfl rfl rfl rfl (by kernel_rfl) ?_))
          refine bodyPost_ret (rct rfl (srh b1) (by rfl) (by kernel_rfl)) rfl ⟨?_, below_setRow hB (by omega) _⟩
          first | rfl | (rw [hR]; rfl)
      · have hn := Hn.out
        clear hn
        go_wp2_with (first | (refine lb b0 rfl rfl rfl (by kernel_rfl) ?_) | (refine sb b0 rfl rfl rfl rfl (by kernel_rfl) ?_))
        refine cb (HS.out _) fun w3 hb => ?_
        replace b0 := kp hb b0
        replace b1 := kp hb b1
        replace hB := tr hB hb
        clear hb
        go_wp2_with fail
        refine cb (HN.out _) fun w4 hb => ?_
        replace b0 := kp hb b0
        replace b1 := kp hb b1
        replace hB := tr hB hb
        clear hb
        clear c0 c1 c2 c3 c4 c5
        obtain ⟨c0, c1, c2, c3, c4, c5⟩ := cells6 b0
        by_cases hq : sn < nd
        · have hR : R = 24 := by rw [HR.out]; simp [hq, Hn.out]
          clear HR HW HN HH HS
          go_wp2_with (first | (refine lb b0 rfl rfl rfl (by kernel_rfl) ?_) | (refine sb b0 rfl rfl rfl rfl (by kernel_rfl) ?_) | (refine lb b1 rfl rfl rfl (by kernel_rfl) ?_) | (refine sb b1 rfl rfl rfl rfl (by kernel_rfl) ?_))
          refine bodyPost_ret (rct rfl (srh b1) (by rfl) (by kernel_rfl)) rfl ⟨?_, below_setRow hB (by omega) _⟩
          first | rfl | (rw [hR]; rfl)
        · have hR : R = 0 := by rw [HR.out]; simp [hq, Hn.out]
          have b2 := heap_setCell_same w4 w.heap.size 0 _ _ (.int .i64 n) b0
          change _ = some (Obj.cells (stC ⟨n, true, true, la, lo, iso⟩) _ _) at b2
          have z0 := frozen0 b0 0
          replace b1 := (heap_setCell_other w4 ⟨w.heap.size, 0, none⟩ (w.heap.size + 1) (.int .i64 n) (by simp)).trans b1
          replace hB := hB.setCell (p := ⟨w.heap.size, 0, none⟩) (by simp) (.int .i64 n)
          clear HR HW HN HH HS
          go_wp2_with (first | (refine lb b2 rfl rfl rfl (by kernel_rfl) ?_) | (refine sb b2 rfl rfl rfl rfl (by kernel_rfl) ?_) | (refine lb b1 rfl rfl rfl (by kernel_rfl) ?_) | (refine sb b1 rfl rfl rfl rfl (by kernel_rfl) ?_))
          refine bodyPost_ret (rct rfl (srh b1) (by rfl) (by kernel_rfl)) rfl ⟨?_, below_setRow hB (by omega) _⟩
          first | rfl | (rw [hR]; rfl)
theorem rgoes_any (s : Dw.St) (hi : 0 ≤ s.iso ∧ s.iso ≤ 15) (n : Int) (w : World) :
    Calls Tryz.prog 44 #[stV s, .int .i64 n] w fun e w' => e = .returned (.tuple #[stV (if Dw.goesE s n = 0 then { s with mo := n } else s), .int .i64 (Dw.goesE s n)]) ∧ Below w.heap.size w w' := by
  obtain ⟨mo, ar, ho, la, lo, iso⟩ := s
  cases ar <;> cases ho
  · exact rgoes_ff mo la lo iso hi n w
  · exact rgoes_ft mo la lo iso hi n w
  · exact rgoes_tf mo la lo iso hi n w
  · exact rgoes_tt mo la lo iso hi n w
end Go.Proofs.YtnaokijcggbfdaaGreatDoor
