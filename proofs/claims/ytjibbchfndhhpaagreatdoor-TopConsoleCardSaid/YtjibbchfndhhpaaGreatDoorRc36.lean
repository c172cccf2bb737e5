/- What the statement's proof stands on, part 36: Sup5, Sup6, Law20, Stood20, Shown20, Show20, LawB20, Nb. -/
import Derived.Test.YtjibbchfndhhpaaGreatDoorRc32
import Derived.Test.YtjibbchfndhhpaaGreatDoorRc33
import Derived.Test.YtjibbchfndhhpaaGreatDoorRc22
import Derived.Test.YtjibbchfndhhpaaGreatDoorRc29
import Derived.WalkMore
import Derived.Test.YtjibbchfndhhpaaGreatDoorRc35
import Derived.Test.YtjibbchfndhhpaaGreatDoorRc18
set_option linter.unusedSimpArgs false
set_option linter.unusedVariables false
set_option maxRecDepth 100000
set_option maxHeartbeats 4000000
namespace Go.Proofs.YtjibbchfndhhpaaGreatDoor
open Go.RowKit Go.Shelf
attribute [local go_sem] Oper.semAt_some
namespace Dw
theorem legal_iso {s : St} (h : legal s = true) : 0 ≤ s.iso ∧ s.iso ≤ 15 := by
  obtain ⟨⟨_, _, h1, h2⟩, _⟩ := (legal_iff s).1 h
  exact ⟨h1, h2⟩
end Dw
theorem tail_facts {w0 w1 : World} {n : Nat} (hn : n = w0.heap.size) {y : Dw.Su} (hq : w1.heap[n + 3]? = some (.cells (suC y) 45 (0, 0))) (f4 : w1.heap[n + 4]? = some (.cells #[.int .i64 0] 62 (0, 0))) (hB : Below n w0 w1) :
    w1.cell? ⟨n + 4, 0, none⟩ = some (.int .i64 0) ∧ (w1.setRow (n + 3) (suC y)).cell? ⟨n + 4, 0, none⟩ = some (.int .i64 0) ∧ (w1.setRow (n + 3) (suC y)).frozen? ⟨n + 4, 0, none⟩ = false ∧
    ((w1.setRow (n + 3) (suC y)).setCell ⟨n + 4, 0, none⟩ (.int .i64 0)).heap[n + 3]? = some (.cells (suC y) 45 (0, 0)) ∧ ((w1.setRow (n + 3) (suC y)).setCell ⟨n + 4, 0, none⟩ (.int .i64 0)).heap[n + 4]? = some (.cells #[.int .i64 0] 62 (0, 0)) ∧
    Below n w0 ((w1.setRow (n + 3) (suC y)).setCell ⟨n + 4, 0, none⟩ (.int .i64 0)) := by
  subst hn
  have q1 := setRow_heap w1 (w0.heap.size + 3) _ (suC y) _ _ hq
  have q4 := (setRow_other w1 (w0.heap.size + 3) (w0.heap.size + 4) (suC y) (by omega)).trans f4
  have r4 := heap_setCell_same _ (w0.heap.size + 4) 0 _ _ (.int .i64 0) q4
  change _ = some (Obj.cells #[.int .i64 0] _ _) at r4
  exact ⟨cells1 f4, cells1 q4, frozen0 q4 0, (heap_setCell_other _ ⟨w0.heap.size + 4, 0, none⟩ (w0.heap.size + 3) (.int .i64 0) (by simp)).trans q1, r4,
    (below_setRow hB (show w0.heap.size ≤ w0.heap.size + 3 by omega) (suC y)).setCell (p := ⟨w0.heap.size + 4, 0, none⟩) (by simp) (.int .i64 0)⟩
theorem ssample_any (x : Dw.Su) (a b c : Nat) (hs : b < 18446744073709551616) (p : Dw.Pw) (hf : Dw.FlOk x.f) (hl : Dw.legal x.s = true) (w : World) (hn : NoneAt w) :
    Calls Tryz.prog 55 #[suV x, smV a b c, pwV p] w fun e w' => e = .returned (.tuple #[suV (Dw.sampleX x (Dw.voteI a b c) p), .int .i64 (Dw.sampleE x (Dw.voteI a b c) p)]) ∧ Below w.heap.size w w' := by
  obtain ⟨V, hV⟩ : ∃ V, ((((w.alloc (.cells (suC x) 45)).alloc (.cells (smC a b c) 72)).alloc (.cells (pwC p) 51)).alloc (.cells Z14 45)).alloc (.cells #[.int .i64 0] 62) = V := ⟨_, rfl⟩
  obtain ⟨vz, vB, b0, b1, b2, b3, b4⟩ := alloc5 w _ _ _ _ _ V hV
  obtain ⟨W, hW⟩ : ∃ W, V.setRow (w.heap.size + 3) (suC x) = W := ⟨_, rfl⟩
  have e3 := setRow_heap V (w.heap.size + 3) _ (suC x) _ _ b3
  have e0 := (setRow_other V (w.heap.size + 3) w.heap.size (suC x) (by omega)).trans b0
  have e1 := (setRow_other V (w.heap.size + 3) (w.heap.size + 1) (suC x) (by omega)).trans b1
  have e2 := (setRow_other V (w.heap.size + 3) (w.heap.size + 2) (suC x) (by omega)).trans b2
  have e4 := (setRow_other V (w.heap.size + 3) (w.heap.size + 4) (suC x) (by omega)).trans b4
  have hB := below_setRow vB (show w.heap.size ≤ w.heap.size + 3 by omega) (suC x)
  rw [hW] at e0 e1 e2 e3 e4 hB
  have hng := hn.pos
  have HV := Lib.hid (fun w => vote_any a b c hs w)
  generalize hv : Dw.voteI a b c = v at *
  have HSX := Lib.hid (show Dw.sampleX x v p = if x.ph = 3 then x else if x.ph ≠ 0 ∨ verdC (addV x.vo v) (addN x.vo x.n v) = 0 then Dw.voted x v else if Dw.resolveS x.s (verdC (addV x.vo v) (addN x.vo x.n v)) = x.s ∧ Dw.kept x = true then { Dw.voted x v with ph := 1 } else if Dw.writeE (Dw.voted x v) (Dw.resolveS x.s (verdC (addV x.vo v) (addN x.vo x.n v))) p = 0 then { Dw.writeX (Dw.voted x v) (Dw.resolveS x.s (verdC (addV x.vo v) (addN x.vo x.n v))) p with ph := 1 } else Dw.writeX (Dw.voted x v) (Dw.resolveS x.s (verdC (addV x.vo v) (addN x.vo x.n v))) p from rfl)
  have HSE := Lib.hid (show Dw.sampleE x v p = if x.ph = 3 then 26 else if x.ph ≠ 0 ∨ verdC (addV x.vo v) (addN x.vo x.n v) = 0 then 0 else if Dw.resolveS x.s (verdC (addV x.vo v) (addN x.vo x.n v)) = x.s ∧ Dw.kept x = true then 0 else Dw.writeE (Dw.voted x v) (Dw.resolveS x.s (verdC (addV x.vo v) (addN x.vo x.n v))) p from rfl)
  generalize Dw.sampleX x v p = SX at *
  generalize Dw.sampleE x v p = SE at *
  obtain ⟨-, -, x11, x12, x13⟩ := cells14 e0
  have HVn := Lib.hid hV; have HWn := Lib.hid hW
  have H3 := Lib.hid b3
  by_cases h3 : x.ph = 3
  · obtain ⟨xf, xs, ph, vo, n⟩ := x
    dsimp only at *
    subst h3
    have hX := HSX.out; have hE := HSE.out
    rw [if_pos rfl] at hX hE
    go_enter_defers Tryz.func55, Tryz.ntmps55
    go_wp2_with (first | (refine lb b0 rfl rfl rfl (by kernel_rfl) ?_) | (refine sb b0 rfl rfl rfl rfl (by kernel_rfl) ?_) | (refine lb b3 rfl rfl rfl (by kernel_rfl) ?_) | (refine sb b3 rfl rfl rfl rfl (by kernel_rfl) ?_))
    refine leave_stop rfl (by rfl) (by rfl) e3 e4 (by omega) (by simp [go_sem]) (fun w' hk => ⟨by first | rfl | rw [hX, hE], hB.trans (hk.below hB.size (fun k hk => by omega))⟩)
  · obtain ⟨xf, xs, ph, vo, n⟩ := x
    dsimp only at *
    have h3b : (ph == 3) = false := by simpa using h3
    have HSX := Lib.hid (HSX.out.trans (if_neg h3)); have HSE := Lib.hid (HSE.out.trans (if_neg h3))
    obtain ⟨s0, s1, s2⟩ := cells3 e1
    have HAd := Lib.hid (fun w => add_any vo n v w)
    have HVd := Lib.hid (fun w => verdict_any (addV vo v) (addN vo n v) w)
    generalize hvo : addV vo v = vo' at *
    generalize hvn : addN vo n v = vn' at *
    have hvd : Dw.voted ⟨xf, xs, ph, vo, n⟩ v = ⟨xf, xs, ph, vo', vn'⟩ := by unfold Dw.voted; rw [hvo, hvn]
    rw [hvd] at HSX HSE
    generalize verdC vo' vn' = d at *
    clear hvd
    have HKp := Lib.hid (fun w hn => skept_any ⟨xf, xs, ph, vo, n⟩ hf hl w hn)
    have HRs := Lib.hid (fun w => resolve_any xs (Dw.legal_iso hl) d w)
    have hlT := Dw.resolve_legal hl d
    generalize Dw.resolveS xs d = T at *
    go_enter_defers Tryz.func55, Tryz.ntmps55
    go_wp2_with (first | (refine lb b0 rfl rfl rfl (by kernel_rfl) ?_) | (refine sb b0 rfl rfl rfl rfl (by kernel_rfl) ?_) | (refine lb b3 rfl rfl rfl (by kernel_rfl) ?_) | (refine sb b3 rfl rfl rfl rfl (by kernel_rfl) ?_))
    refine wp_pure [0,1,2,3,4,5] 6 (by kernel_rfl) (by kernel_rfl) rfl ?_
    (apply rat; (focus (intro w' hk; obtain ⟨k0,k1,k2,k3,k4⟩ := look5 hk x12 x13 s0 s1 s2; repeat' (first | exact rn | ((first | refine' rv ?_ rfl rfl (by go_simp; first | done | with_reducible rfl | exact rfl) | refine' rc ?_ (by exact rfl) (by exact rfl) (by go_simp; first | done | (constructor <;> with_reducible rfl) | with_reducible rfl) (by first | first | exact HV.out w' | exact HAd.out w') | refine' rs ?_ rfl rfl); try simp only [Act.put, List.setIfInBounds_toArray, List.set_cons_zero, List.set_cons_succ])))))
    intro W2 hk2
    simp only [List.drop_succ_cons, List.drop_zero]
    replace e0 := kpi hk2 e0
    replace e2 := kpi hk2 e2
    replace e3 := kpi hk2 e3
    replace e4 := kpi hk2 e4
    replace hB := hB.trans (hk2.whole.mono hB.size)
    clear hk2 x11 x12 x13 s0 s1 s2 b0 b1 b2 b3 b4 e1 vB hV hW HAd HV
    have f3 := setRow_heap W2 (w.heap.size + 3) _ (suC ⟨xf, xs, ph, vo', vn'⟩) _ _ e3
    have f0 := (setRow_other W2 (w.heap.size + 3) w.heap.size (suC ⟨xf, xs, ph, vo', vn'⟩) (by omega)).trans e0
    have f2 := (setRow_other W2 (w.heap.size + 3) (w.heap.size + 2) (suC ⟨xf, xs, ph, vo', vn'⟩) (by omega)).trans e2
    have f4 := (setRow_other W2 (w.heap.size + 3) (w.heap.size + 4) (suC ⟨xf, xs, ph, vo', vn'⟩) (by omega)).trans e4
    replace hB := below_setRow hB (show w.heap.size ≤ w.heap.size + 3 by omega) (suC ⟨xf, xs, ph, vo', vn'⟩)
    obtain ⟨W3, hW3⟩ : ∃ W3, W2.setRow (w.heap.size + 3) (suC ⟨xf, xs, ph, vo', vn'⟩) = W3 := ⟨_, rfl⟩
    rw [hW3] at f0 f2 f3 f4 hB
    go_wp2_with (first | (refine wpList_store_part rfl 43 _ _ rfl 12 #[.int .i64 vo', .int .i64 vn'] (suC ⟨xf, xs, ph, vo', vn'⟩) rfl rfl e3 (by kernel_rfl) (Nat.le_of_ble_eq_true rfl) (by simp [Value.oneCell']) (by rfl) ?_) | (refine wpList_load_part rfl 43 _ rfl 12 #[.int .i64 vo', .int .i64 vn'] rfl f3 Tryz.underlying43 rfl (by kernel_rfl) (by rfl) ?_))
    clear hW3 e0 e2 e3 e4
    refine cb (HVd.out _) fun w4 hb => ?_
    replace f0 := kp hb f0
    replace f2 := kp hb f2
    replace f3 := kp hb f3
    replace f4 := kp hb f4
    replace hB := tr hB hb
    clear hb HVd
    obtain ⟨-, -, x11, -, -⟩ := cells14 f0
    by_cases hp : ph = 0
    · subst hp
      by_cases hd : d = 0
      · subst hd
        have hX := HSX.out; have hE := HSE.out
        rw [if_pos (.inr rfl)] at hX hE
        obtain ⟨c4, d4, z4, r1, r4, hB'⟩ := tail_facts rfl f3 f4 hB
        go_wp2_with (first | (refine lb f3 rfl rfl rfl (by kernel_rfl) ?_) | (refine sb f3 rfl rfl rfl rfl (by kernel_rfl) ?_))
        exact leave_ok rfl (by rfl) (by rfl) r1 r4 (by simp [go_sem]) ⟨by rw [hX, hE], hB'⟩
      · have hdb : (d == 0) = false := by simpa using hd
        have HX := Lib.hid (HSX.out.trans (if_neg (by simp [hd]))); have HE := Lib.hid (HSE.out.trans (if_neg (by simp [hd])))
        clear HSX HSE
        go_wp2_with (first | (refine lp 28 5 (stC xs) f0 rfl rfl rfl (by kernel_rfl) (by rfl) ?_))
        refine cb (HRs.out _) fun w5 hb => ?_
        replace f0 := kp hb f0
        replace f2 := kp hb f2
        replace f3 := kp hb f3
        replace f4 := kp hb f4
        replace hB := tr hB hb
        clear hb HRs x11
        have b9 := han w5 (.cells (stC T) 28)
        replace f0 := hao w5 (.cells (stC T) 28) f0
        replace f2 := hao w5 (.cells (stC T) 28) f2
        replace f3 := hao w5 (.cells (stC T) 28) f3
        replace f4 := hao w5 (.cells (stC T) 28) f4
        replace hB := hB.alloc hB.size (.cells (stC T) 28)
        obtain ⟨W6, hW6⟩ : ∃ W6, w5.alloc (.cells (stC T) 28) = W6 := ⟨_, rfl⟩
        rw [hW6] at b9 f0 f2 f3 f4 hB
        have hb9 : w5.heap.size ≠ w.heap.size + 3 := by intro h; rw [h, f3] at b9; injection b9 with h2; injection h2 with _ h3; exact absurd h3 (by decide)
        by_cases hT : T = xs
        · subst hT
          have hst : ∀ x y, (do eqGuard .neq 28 x y (stV T) (stV T); binOp .neq 28 (stV T) (stV T) : Sem Value).run Tryz.prog W6 = .ok (.bool false) W6 := fun x y => (st_neq x y T T W6).trans (by simp)
          have HST := Lib.hid hst
          clear hst
          go_wp2_with (first | (refine lb b9 rfl rfl rfl (by kernel_rfl) ?_) | (refine sb b9 rfl rfl rfl rfl (by kernel_rfl) ?_) | (refine lp 28 5 (stC T) f0 rfl rfl rfl (by kernel_rfl) (by rfl) ?_) | (refine wpList_bin rfl .neq 28 _ _ _ rfl (stV T) (stV T) (.bool false) rfl rfl (HST.out _ _) ?_) | (refine wpList_load_block_on rfl 45 _ rfl rfl f0 Tryz.underlying45 rfl (by kernel_rfl) ?_))
          refine cb (HKp.out _ (hn.next hB)) fun w7 hb => ?_
          replace b9 := kp hb b9
          replace f2 := kp hb f2
          replace f3 := kp hb f3
          replace f4 := kp hb f4
          replace hB := tr hB hb
          clear hb HKp f0 hW6
          generalize Dw.kept ⟨xf, T, 0, vo, n⟩ = kp at *
          cases kp
          · have hX := HX.out; have hE := HE.out
            rw [if_neg (by simp)] at hX hE
            clear HX HE
            go_wp2_with (first | (refine lb b9 rfl rfl rfl (by kernel_rfl) ?_) | (refine sb b9 rfl rfl rfl rfl (by kernel_rfl) ?_) | (refine lb f2 rfl rfl rfl (by kernel_rfl) ?_) | (refine sb f2 rfl rfl rfl rfl (by kernel_rfl) ?_))
            refine (sup_write ⟨xf, T, 0, vo', vn'⟩ T p hf hlT (w.heap.size + 3) _ (hn.next hB) (by omega) f3).mono ?_
            rintro e w9 ⟨hk, hq, ⟨he, rfl⟩ | ⟨he, rfl⟩⟩
            · have g4 := (hk.block _ (block_lt f4) (by omega)).trans f4
              have hB9 := hB.trans (hk.below hB.size (fun k hk => by omega))
              rw [if_pos he] at hX
              rw [he] at hE
              obtain ⟨Y, hY⟩ : ∃ Y, Dw.writeX ⟨xf, T, 0, vo', vn'⟩ T p = Y := ⟨_, rfl⟩
              rw [hY] at hq hX
              clear hY
              obtain ⟨yf, ys, yp, yv, yn⟩ := Y
              dsimp only at hX
              clear hk
              have g3 := heap_setCell_same w9 (w.heap.size + 3) 11 _ _ (.int .i64 1) hq
              change _ = some (Obj.cells (suC ⟨yf, ys, 1, yv, yn⟩) _ _) at g3
              replace g4 := (heap_setCell_other w9 ⟨w.heap.size + 3, 11, none⟩ (w.heap.size + 4) (.int .i64 1) (by simp)).trans g4
              have gB := hB9.setCell (p := ⟨w.heap.size + 3, 11, none⟩) (by simp) (.int .i64 1)
              obtain ⟨-, -, x11, -, -⟩ := cells14 hq
              have z11 := frozen0 hq 11
              obtain ⟨W8, hW8⟩ : ∃ W8, w9.setCell ⟨w.heap.size + 3, 11, none⟩ (.int .i64 1) = W8 := ⟨_, rfl⟩
              rw [hW8] at g3 g4 gB
              obtain ⟨c4, d4, z4, r1, r4, hB'⟩ := tail_facts rfl g3 g4 gB
              go_wp2_with (first | (refine lb g3 rfl rfl rfl (by kernel_rfl) ?_) | (refine sb g3 rfl rfl rfl rfl (by kernel_rfl) ?_))
              exact leave_ok rfl (by rfl) (by rfl) r1 r4 (by simp [go_sem]) ⟨by rw [hX, hE], hB'⟩
            · have g4 := (hk.block _ (block_lt f4) (by omega)).trans f4
              have hB9 := hB.trans (hk.below hB.size (fun k hk => by omega))
              rw [if_neg (by rw [he]; decide)] at hX
              rw [he] at hE
              clear hk
              go_wp2_with fail
              exact leave_stop rfl (by rfl) (by rfl) hq g4 (by omega) (by simp [go_sem]) (fun w' hk => ⟨by rw [hX, hE], hB9.trans (hk.below hB9.size (fun k hk => by omega))⟩)
          · have hX := HX.out; have hE := HE.out
            rw [if_pos (by simp)] at hX hE
            clear HX HE
            have g3 := heap_setCell_same w7 (w.heap.size + 3) 11 _ _ (.int .i64 1) f3
            change _ = some (Obj.cells (suC ⟨xf, T, 1, vo', vn'⟩) _ _) at g3
            have g4 := (heap_setCell_other w7 ⟨w.heap.size + 3, 11, none⟩ (w.heap.size + 4) (.int .i64 1) (by simp)).trans f4
            have gB := hB.setCell (p := ⟨w.heap.size + 3, 11, none⟩) (by simp) (.int .i64 1)
            obtain ⟨-, -, x11, -, -⟩ := cells14 f3
            have z11 := frozen0 f3 11
            obtain ⟨W8, hW8⟩ : ∃ W8, w7.setCell ⟨w.heap.size + 3, 11, none⟩ (.int .i64 1) = W8 := ⟨_, rfl⟩
            rw [hW8] at g3 g4 gB
            obtain ⟨c4, d4, z4, r1, r4, hB'⟩ := tail_facts rfl g3 g4 gB
            go_wp2_with (first | (refine lb g3 rfl rfl rfl (by kernel_rfl) ?_) | (refine sb g3 rfl rfl rfl rfl (by kernel_rfl) ?_))
            exact leave_ok rfl (by rfl) (by rfl) r1 r4 (by simp [go_sem]) ⟨by rw [hX, hE], hB'⟩
        · have hst : ∀ x y, (do eqGuard .neq 28 x y (stV T) (stV xs); binOp .neq 28 (stV T) (stV xs) : Sem Value).run Tryz.prog W6 = .ok (.bool true) W6 := fun x y => (st_neq x y T xs W6).trans (by rw [decide_eq_false hT]; rfl)
          have HST := Lib.hid hst
          clear hst
          have hX := HX.out; have hE := HE.out
          rw [if_neg (fun h => hT h.1)] at hX hE
          clear HX HE HKp
          go_wp2_with (first | (refine lb b9 rfl rfl rfl (by kernel_rfl) ?_) | (refine sb b9 rfl rfl rfl rfl (by kernel_rfl) ?_) | (refine lp 28 5 (stC xs) f0 rfl rfl rfl (by kernel_rfl) (by rfl) ?_) | (refine wpList_bin rfl .neq 28 _ _ _ rfl (stV T) (stV xs) (.bool true) rfl rfl (HST.out _ _) ?_) | (refine lb f2 rfl rfl rfl (by kernel_rfl) ?_) | (refine sb f2 rfl rfl rfl rfl (by kernel_rfl) ?_))
          refine (sup_write ⟨xf, xs, 0, vo', vn'⟩ T p hf hlT (w.heap.size + 3) _ (hn.next hB) (by omega) f3).mono ?_
          rintro e w9 ⟨hk, hq, ⟨he, rfl⟩ | ⟨he, rfl⟩⟩
          · have g4 := (hk.block _ (block_lt f4) (by omega)).trans f4
            have hB9 := hB.trans (hk.below hB.size (fun k hk => by omega))
            rw [if_pos he] at hX
            rw [he] at hE
            obtain ⟨Y, hY⟩ : ∃ Y, Dw.writeX ⟨xf, xs, 0, vo', vn'⟩ T p = Y := ⟨_, rfl⟩
            rw [hY] at hq hX
            clear hY
            obtain ⟨yf, ys, yp, yv, yn⟩ := Y
            dsimp only at hX
            clear hk
            have g3 := heap_setCell_same w9 (w.heap.size + 3) 11 _ _ (.int .i64 1) hq
            change _ = some (Obj.cells (suC ⟨yf, ys, 1, yv, yn⟩) _ _) at g3
            replace g4 := (heap_setCell_other w9 ⟨w.heap.size + 3, 11, none⟩ (w.heap.size + 4) (.int .i64 1) (by simp)).trans g4
            have gB := hB9.setCell (p := ⟨w.heap.size + 3, 11, none⟩) (by simp) (.int .i64 1)
            obtain ⟨-, -, x11, -, -⟩ := cells14 hq
            have z11 := frozen0 hq 11
            obtain ⟨W8, hW8⟩ : ∃ W8, w9.setCell ⟨w.heap.size + 3, 11, none⟩ (.int .i64 1) = W8 := ⟨_, rfl⟩
            rw [hW8] at g3 g4 gB
            obtain ⟨c4, d4, z4, r1, r4, hB'⟩ := tail_facts rfl g3 g4 gB
            go_wp2_with (first | (refine lb g3 rfl rfl rfl (by kernel_rfl) ?_) | (refine sb g3 rfl rfl rfl rfl (by kernel_rfl) ?_))
            exact leave_ok rfl (by rfl) (by rfl) r1 r4 (by simp [go_sem]) ⟨by rw [hX, hE], hB'⟩
          · have g4 := (hk.block _ (block_lt f4) (by omega)).trans f4
            have hB9 := hB.trans (hk.below hB.size (fun k hk => by omega))
            rw [if_neg (by rw [he]; decide)] at hX
            rw [he] at hE
            clear hk
            go_wp2_with fail
            exact leave_stop rfl (by rfl) (by rfl) hq g4 (by omega) (by simp [go_sem]) (fun w' hk => ⟨by rw [hX, hE], hB9.trans (hk.below hB9.size (fun k hk => by omega))⟩)
    · have hpb : (ph == 0) = false := by simpa using hp
      have hX := HSX.out; have hE := HSE.out
      rw [if_pos (.inl hp)] at hX hE
      obtain ⟨c4, d4, z4, r1, r4, hB'⟩ := tail_facts rfl f3 f4 hB
      go_wp2_with (first | (refine lb f3 rfl rfl rfl (by kernel_rfl) ?_) | (refine sb f3 rfl rfl rfl rfl (by kernel_rfl) ?_))
      exact leave_ok rfl (by rfl) (by rfl) r1 r4 (by simp [go_sem]) ⟨by rw [hX, hE], hB'⟩
end Go.Proofs.YtjibbchfndhhpaaGreatDoor
namespace Go.Proofs.YtjibbchfndhhpaaGreatDoor
open Go.RowKit Go.Shelf
attribute [local go_sem] Oper.semAt_some
namespace Dw
theorem cmd_26 {x : Su} (c : Cmd) (p : Pw) (h : x.ph = 2 ∨ x.ph = 3) : commandX x c p = x ∧ commandE x c p = 26 := by
  have : refusedE x c = 26 := by unfold refusedE; rw [if_pos h]
  unfold commandX commandE
  rw [this]
  exact ⟨if_neg (fun h => absurd h.1 (by decide)), if_neg (fun h => absurd h.1 (by decide))⟩
theorem cmd_25 {x : Su} {c : Cmd} (p : Pw) (h : x.ph = 0) (h2 : 1 ≤ c.ki ∧ c.ki ≤ 3) : commandX x c p = x ∧ commandE x c p = 25 := by
  have : refusedE x c = 25 := by unfold refusedE; rw [if_neg (by omega), if_pos ⟨h, h2⟩]
  unfold commandX commandE
  rw [this]
  exact ⟨if_neg (fun h => absurd h.1 (by decide)), if_neg (fun h => absurd h.1 (by decide))⟩
theorem cmd_go {x : Su} {c : Cmd} (p : Pw) (h : ¬ (x.ph = 2 ∨ x.ph = 3)) (h2 : ¬ (x.ph = 0 ∧ 1 ≤ c.ki ∧ c.ki ≤ 3)) :
    commandX x c p = (if deltaE x.s c = 0 ∧ deltaS x.s c ≠ x.s then writeX x (deltaS x.s c) p else x) ∧ commandE x c p = (if deltaE x.s c = 0 ∧ deltaS x.s c ≠ x.s then writeE x (deltaS x.s c) p else deltaE x.s c) := by
  have : refusedE x c = deltaE x.s c := by unfold refusedE; rw [if_neg h, if_neg h2]
  unfold commandX commandE
  rw [this]
  by_cases he : deltaE x.s c = 0
  · have : deltaS x.s c = deltaT x.s c := by unfold deltaS; rw [if_pos he]
    rw [this]
    exact ⟨rfl, rfl⟩
  · rw [if_neg (fun h => he h.1), if_neg (fun h => he h.1), if_neg (fun h => he h.1), if_neg (fun h => he h.1)]
    exact ⟨rfl, rfl⟩
end Dw
theorem scommand_core (x : Dw.Su) (c : Dw.Cmd) (p : Dw.Pw) (hf : Dw.FlOk x.f) (w : World) (hn : NoneAt w)
    (hd : ∀ w, Calls Tryz.prog 53 #[stV x.s, cmV c] w fun e w' => e = .returned (.tuple #[stV (Dw.deltaS x.s c), .int .i64 (Dw.deltaE x.s c)]) ∧ Below w.heap.size w w')
    (hlT : Dw.deltaE x.s c = 0 → Dw.legal (Dw.deltaS x.s c) = true) :
    Calls Tryz.prog 22 #[suV x, cmV c, pwV p] w fun e w' => e = .returned (.tuple #[suV (Dw.commandX x c p), .int .i64 (Dw.commandE x c p)]) ∧ Below w.heap.size w w' := by
  obtain ⟨V, hV⟩ : ∃ V, ((((w.alloc (.cells (suC x) 45)).alloc (.cells (cmC c) 67)).alloc (.cells (pwC p) 51)).alloc (.cells Z14 45)).alloc (.cells #[.int .i64 0] 62) = V := ⟨_, rfl⟩
  obtain ⟨vz, vB, b0, b1, b2, b3, b4⟩ := alloc5 w _ _ _ _ _ V hV
  obtain ⟨W, hW⟩ : ∃ W, V.setRow (w.heap.size + 3) (suC x) = W := ⟨_, rfl⟩
  have e3 := setRow_heap V (w.heap.size + 3) _ (suC x) _ _ b3
  have e0 := (setRow_other V (w.heap.size + 3) w.heap.size (suC x) (by omega)).trans b0
  have e1 := (setRow_other V (w.heap.size + 3) (w.heap.size + 1) (suC x) (by omega)).trans b1
  have e2 := (setRow_other V (w.heap.size + 3) (w.heap.size + 2) (suC x) (by omega)).trans b2
  have e4 := (setRow_other V (w.heap.size + 3) (w.heap.size + 4) (suC x) (by omega)).trans b4
  have hB := below_setRow vB (show w.heap.size ≤ w.heap.size + 3 by omega) (suC x)
  rw [hW] at e0 e1 e2 e3 e4 hB
  have hng := hn.pos
  have H26 := Lib.hid (fun h => Dw.cmd_26 (x := x) c p h)
  have H25 := Lib.hid (fun h h2 => Dw.cmd_25 (x := x) (c := c) p h h2)
  have HGO := Lib.hid (fun h h2 => Dw.cmd_go (x := x) (c := c) p h h2)
  have HD := Lib.hid hd
  clear hd
  obtain ⟨-, -, x11, -, -⟩ := cells14 e0
  obtain ⟨k0, -⟩ := cells4 e1
  obtain ⟨xf, xs, ph, vo, n⟩ := x
  obtain ⟨ki, cn, cla, clo⟩ := c
  dsimp only at *
  generalize Dw.commandX ⟨xf, xs, ph, vo, n⟩ ⟨ki, cn, cla, clo⟩ p = SX at *
  generalize Dw.commandE ⟨xf, xs, ph, vo, n⟩ ⟨ki, cn, cla, clo⟩ p = SE at *
  generalize Dw.deltaS xs ⟨ki, cn, cla, clo⟩ = T at *
  generalize Dw.deltaE xs ⟨ki, cn, cla, clo⟩ = E at *
  by_cases h2 : ph = 2
  · subst h2
    obtain ⟨hX, hE⟩ := H26.out (.inl rfl)
    go_enter_defers Tryz.func22, Tryz.ntmps22
    go_wp2_with fail
    go_step3
    go_wp2_with (first | (refine lb b0 rfl rfl rfl (by kernel_rfl) ?_) | (refine sb b0 rfl rfl rfl rfl (by kernel_rfl) ?_) | (refine lb b3 rfl rfl rfl (by kernel_rfl) ?_) | (refine sb b3 rfl rfl rfl rfl (by kernel_rfl) ?_))
    go_step3
    go_wp2_with fail
    exact leave_stop rfl (by rfl) (by rfl) e3 e4 (by omega) (by simp [go_sem]) (fun w' hk => ⟨by first | rfl | rw [hX, hE], hB.trans (hk.below hB.size (fun k hk => by omega))⟩)
  by_cases h3 : ph = 3
  · subst h3
    obtain ⟨hX, hE⟩ := H26.out (.inr rfl)
    go_enter_defers Tryz.func22, Tryz.ntmps22
    go_wp2_with fail
    go_step3
    go_wp2_with (first | (refine lb b0 rfl rfl rfl (by kernel_rfl) ?_) | (refine sb b0 rfl rfl rfl rfl (by kernel_rfl) ?_) | (refine lb b3 rfl rfl rfl (by kernel_rfl) ?_) | (refine sb b3 rfl rfl rfl rfl (by kernel_rfl) ?_))
    go_step3
    go_wp2_with fail
    exact leave_stop rfl (by rfl) (by rfl) e3 e4 (by omega) (by simp [go_sem]) (fun w' hk => ⟨by first | rfl | rw [hX, hE], hB.trans (hk.below hB.size (fun k hk => by omega))⟩)
  by_cases h0 : ph = 0
  · subst h0
    by_cases hk1 : ki = 1
    · subst hk1
      obtain ⟨hX, hE⟩ := H25.out rfl (by decide)
      go_enter_defers Tryz.func22, Tryz.ntmps22
      go_wp2_with fail
      go_step3
      go_wp2_with (first | (refine lb b0 rfl rfl rfl (by kernel_rfl) ?_) | (refine sb b0 rfl rfl rfl rfl (by kernel_rfl) ?_) | (refine lb b3 rfl rfl rfl (by kernel_rfl) ?_) | (refine sb b3 rfl rfl rfl rfl (by kernel_rfl) ?_))
      go_step3
      go_wp2_with fail
      exact leave_stop rfl (by rfl) (by rfl) e3 e4 (by omega) (by simp [go_sem]) (fun w' hk => ⟨by first | rfl | rw [hX, hE], hB.trans (hk.below hB.size (fun k hk => by omega))⟩)
    by_cases hk2 : ki = 2
    · subst hk2
      obtain ⟨hX, hE⟩ := H25.out rfl (by decide)
      go_enter_defers Tryz.func22, Tryz.ntmps22
      go_wp2_with fail
      go_step3
      go_wp2_with (first | (refine lb b0 rfl rfl rfl (by kernel_rfl) ?_) | (refine sb b0 rfl rfl rfl rfl (by kernel_rfl) ?_) | (refine lb b3 rfl rfl rfl (by kernel_rfl) ?_) | (refine sb b3 rfl rfl rfl rfl (by kernel_rfl) ?_))
      go_step3
      go_wp2_with fail
      exact leave_stop rfl (by rfl) (by rfl) e3 e4 (by omega) (by simp [go_sem]) (fun w' hk => ⟨by first | rfl | rw [hX, hE], hB.trans (hk.below hB.size (fun k hk => by omega))⟩)
    by_cases hk3 : ki = 3
    · subst hk3
      obtain ⟨hX, hE⟩ := H25.out rfl (by decide)
      go_enter_defers Tryz.func22, Tryz.ntmps22
      go_wp2_with fail
      go_step3
      go_wp2_with (first | (refine lb b0 rfl rfl rfl (by kernel_rfl) ?_) | (refine sb b0 rfl rfl rfl rfl (by kernel_rfl) ?_) | (refine lb b3 rfl rfl rfl (by kernel_rfl) ?_) | (refine sb b3 rfl rfl rfl rfl (by kernel_rfl) ?_))
      go_step3
      go_wp2_with fail
      exact leave_stop rfl (by rfl) (by rfl) e3 e4 (by omega) (by simp [go_sem]) (fun w' hk => ⟨by first | rfl | rw [hX, hE], hB.trans (hk.below hB.size (fun k hk => by omega))⟩)
    obtain ⟨hx, hee⟩ := HGO.out (by decide) (by omega)
    have HX := Lib.hid hx; have HE := Lib.hid hee
    have q1 : (ki == 1) = false := by simpa using hk1
    have q2 : (ki == 2) = false := by simpa using hk2
    have q3 : (ki == 3) = false := by simpa using hk3
    clear hx hee H26 H25 HGO h2 h3 hk1 hk2 hk3
    go_enter_defers Tryz.func22, Tryz.ntmps22
    go_wp2_with fail
    go_step3
    go_wp2_with (first | (refine lb b0 rfl rfl rfl (by kernel_rfl) ?_) | (refine sb b0 rfl rfl rfl rfl (by kernel_rfl) ?_) | (refine lb b3 rfl rfl rfl (by kernel_rfl) ?_) | (refine sb b3 rfl rfl rfl rfl (by kernel_rfl) ?_))
    go_step3
    go_wp2_with (first | (refine lp 28 5 (stC xs) e0 rfl rfl rfl (by kernel_rfl) (by rfl) ?_) | (refine lb e1 rfl rfl rfl (by kernel_rfl) ?_) | (refine sb e1 rfl rfl rfl rfl (by kernel_rfl) ?_))
    refine cb (HD.out _) fun w5 hb => ?_
    have f0 := kp hb e0
    have f2 := kp hb e2
    have f3 := kp hb e3
    have f4 := kp hb e4
    replace hB := tr hB hb
    clear hb x11 k0 e0 e1 e2 e3 e4 b0 b1 b2 b3 b4 hV hW vB
    have b9 := han w5 (.cells (stC T) 28)
    replace f0 := hao w5 (.cells (stC T) 28) f0
    replace f2 := hao w5 (.cells (stC T) 28) f2
    replace f3 := hao w5 (.cells (stC T) 28) f3
    replace f4 := hao w5 (.cells (stC T) 28) f4
    replace hB := hB.alloc hB.size (.cells (stC T) 28)
    obtain ⟨W6, hW6⟩ : ∃ W6, w5.alloc (.cells (stC T) 28) = W6 := ⟨_, rfl⟩
    rw [hW6] at b9 f0 f2 f3 f4 hB
    by_cases he0 : E = 0
    · subst he0
      have HLT := Lib.hid (hlT rfl)
      clear hlT
      by_cases hT : T = xs
      · subst hT
        have hst : ∀ x y, (do eqGuard .neq 28 x y (stV T) (stV T); binOp .neq 28 (stV T) (stV T) : Sem Value).run Tryz.prog W6 = .ok (.bool false) W6 := fun x y => (st_neq x y T T W6).trans (by simp)
        have HST := Lib.hid hst
        clear hst
        have hX := HX.out; have hE := HE.out
        rw [if_neg (by simp)] at hX hE
        clear HX HE
        obtain ⟨c4, d4, z4, r1, r4, hB'⟩ := tail_facts rfl f3 f4 hB
        go_wp2_with (first | (refine lb b9 rfl rfl rfl (by kernel_rfl) ?_) | (refine sb b9 rfl rfl rfl rfl (by kernel_rfl) ?_) | (refine lp 28 5 (stC T) f0 rfl rfl rfl (by kernel_rfl) (by rfl) ?_) | (refine wpList_bin rfl .neq 28 _ _ _ rfl (stV T) (stV T) (.bool false) rfl rfl (HST.out _ _) ?_) | (refine lb f3 rfl rfl rfl (by kernel_rfl) ?_) | (refine sb f3 rfl rfl rfl rfl (by kernel_rfl) ?_))
        exact leave_ok rfl (by rfl) (by rfl) r1 r4 (by simp [go_sem]) ⟨by first | rfl | rw [hX, hE], hB'⟩
      · have hst : ∀ x y, (do eqGuard .neq 28 x y (stV T) (stV xs); binOp .neq 28 (stV T) (stV xs) : Sem Value).run Tryz.prog W6 = .ok (.bool true) W6 := fun x y => (st_neq x y T xs W6).trans (by rw [decide_eq_false hT]; rfl)
        have HST := Lib.hid hst
        clear hst
        have hX := HX.out; have hE := HE.out
        rw [if_pos ⟨rfl, hT⟩] at hX hE
        clear HX HE
        go_wp2_with (first | (refine lb b9 rfl rfl rfl (by kernel_rfl) ?_) | (refine sb b9 rfl rfl rfl rfl (by kernel_rfl) ?_) | (refine lp 28 5 (stC xs) f0 rfl rfl rfl (by kernel_rfl) (by rfl) ?_) | (refine wpList_bin rfl .neq 28 _ _ _ rfl (stV T) (stV xs) (.bool true) rfl rfl (HST.out _ _) ?_) | (refine lb f2 rfl rfl rfl (by kernel_rfl) ?_) | (refine sb f2 rfl rfl rfl rfl (by kernel_rfl) ?_))
        refine (sup_write ⟨xf, xs, 0, vo, n⟩ T p hf HLT.out (w.heap.size + 3) _ (hn.next hB) (by omega) f3).mono ?_
        rintro e w9 ⟨hk, hq, ⟨he, rfl⟩ | ⟨he, rfl⟩⟩
        · have g4 := (hk.block _ (block_lt f4) (by omega)).trans f4
          have hB9 := hB.trans (hk.below hB.size (fun k hk => by omega))
          rw [he] at hE
          obtain ⟨Y, hY⟩ : ∃ Y, Dw.writeX ⟨xf, xs, 0, vo, n⟩ T p = Y := ⟨_, rfl⟩
          rw [hY] at hq hX
          clear hY hk
          obtain ⟨c4, d4, z4, r1, r4, hB'⟩ := tail_facts rfl hq g4 hB9
          go_wp2_with (first | (refine lb hq rfl rfl rfl (by kernel_rfl) ?_) | (refine sb hq rfl rfl rfl rfl (by kernel_rfl) ?_))
          exact leave_ok rfl (by rfl) (by rfl) r1 r4 (by simp [go_sem]) ⟨by first | rfl | rw [hX, hE], hB'⟩
        · have g4 := (hk.block _ (block_lt f4) (by omega)).trans f4
          have hB9 := hB.trans (hk.below hB.size (fun k hk => by omega))
          rw [he] at hE
          clear hk
          go_wp2_with fail
          exact leave_stop rfl (by rfl) (by rfl) hq g4 (by omega) (by simp [go_sem]) (fun w' hk => ⟨by rw [hX, hE], hB9.trans (hk.below hB9.size (fun k hk => by omega))⟩)
    · have hX := HX.out; have hE := HE.out
      rw [if_neg (fun h => he0 h.1)] at hX hE
      have heb : (E == 0) = false := by simpa using he0
      go_wp2_with fail
      exact leave_stop rfl (by rfl) (by rfl) f3 f4 (by omega) (by simp [go_sem]) (fun w' hk => ⟨by rw [hX, hE], hB.trans (hk.below hB.size (fun k hk => by omega))⟩)
  · obtain ⟨hx, hee⟩ := HGO.out (by omega) (by omega)
    have HX := Lib.hid hx; have HE := Lib.hid hee
    have q1 : (ph == 2) = false := by simpa using h2
    have q2 : (ph == 3) = false := by simpa using h3
    have q3 : (ph == 0) = false := by simpa using h0
    clear hx hee H26 H25 HGO h2 h3 h0
    go_enter_defers Tryz.func22, Tryz.ntmps22
    go_wp2_with fail
    go_step3
    go_wp2_with (first | (refine lb b0 rfl rfl rfl (by kernel_rfl) ?_) | (refine sb b0 rfl rfl rfl rfl (by kernel_rfl) ?_) | (refine lb b3 rfl rfl rfl (by kernel_rfl) ?_) | (refine sb b3 rfl rfl rfl rfl (by kernel_rfl) ?_))
    go_step3
    go_wp2_with (first | (refine lp 28 5 (stC xs) e0 rfl rfl rfl (by kernel_rfl) (by rfl) ?_) | (refine lb e1 rfl rfl rfl (by kernel_rfl) ?_) | (refine sb e1 rfl rfl rfl rfl (by kernel_rfl) ?_))
    refine cb (HD.out _) fun w5 hb => ?_
    have f0 := kp hb e0
    have f2 := kp hb e2
    have f3 := kp hb e3
    have f4 := kp hb e4
    replace hB := tr hB hb
    clear hb x11 k0 e0 e1 e2 e3 e4 b0 b1 b2 b3 b4 hV hW vB
    have b9 := han w5 (.cells (stC T) 28)
    replace f0 := hao w5 (.cells (stC T) 28) f0
    replace f2 := hao w5 (.cells (stC T) 28) f2
    replace f3 := hao w5 (.cells (stC T) 28) f3
    replace f4 := hao w5 (.cells (stC T) 28) f4
    replace hB := hB.alloc hB.size (.cells (stC T) 28)
    obtain ⟨W6, hW6⟩ : ∃ W6, w5.alloc (.cells (stC T) 28) = W6 := ⟨_, rfl⟩
    rw [hW6] at b9 f0 f2 f3 f4 hB
    by_cases he0 : E = 0
    · subst he0
      have HLT := Lib.hid (hlT rfl)
      clear hlT
      by_cases hT : T = xs
      · subst hT
        have hst : ∀ x y, (do eqGuard .neq 28 x y (stV T) (stV T); binOp .neq 28 (stV T) (stV T) : Sem Value).run Tryz.prog W6 = .ok (.bool false) W6 := fun x y => (st_neq x y T T W6).trans (by simp)
        have HST := Lib.hid hst
        clear hst
        have hX := HX.out; have hE := HE.out
        rw [if_neg (by simp)] at hX hE
        clear HX HE
        obtain ⟨c4, d4, z4, r1, r4, hB'⟩ := tail_facts rfl f3 f4 hB
        go_wp2_with (first | (refine lb b9 rfl rfl rfl (by kernel_rfl) ?_) | (refine sb b9 rfl rfl rfl rfl (by kernel_rfl) ?_) | (refine lp 28 5 (stC T) f0 rfl rfl rfl (by kernel_rfl) (by rfl) ?_) | (refine wpList_bin rfl .neq 28 _ _ _ rfl (stV T) (stV T) (.bool false) rfl rfl (HST.out _ _) ?_) | (refine lb f3 rfl rfl rfl (by kernel_rfl) ?_) | (refine sb f3 rfl rfl rfl rfl (by kernel_rfl) ?_))
        exact leave_ok rfl (by rfl) (by rfl) r1 r4 (by simp [go_sem]) ⟨by first | rfl | rw [hX, hE], hB'⟩
      · have hst : ∀ x y, (do eqGuard .neq 28 x y (stV T) (stV xs); binOp .neq 28 (stV T) (stV xs) : Sem Value).run Tryz.prog W6 = .ok (.bool true) W6 := fun x y => (st_neq x y T xs W6).trans (by rw [decide_eq_false hT]; rfl)
        have HST := Lib.hid hst
        clear hst
        have hX := HX.out; have hE := HE.out
        rw [if_pos ⟨rfl, hT⟩] at hX hE
        clear HX HE
        go_wp2_with (first | (refine lb b9 rfl rfl rfl (by kernel_rfl) ?_) | (refine sb b9 rfl rfl rfl rfl (by kernel_rfl) ?_) | (refine lp 28 5 (stC xs) f0 rfl rfl rfl (by kernel_rfl) (by rfl) ?_) | (refine wpList_bin rfl .neq 28 _ _ _ rfl (stV T) (stV xs) (.bool true) rfl rfl (HST.out _ _) ?_) | (refine lb f2 rfl rfl rfl (by kernel_rfl) ?_) | (refine sb f2 rfl rfl rfl rfl (by kernel_rfl) ?_))
        refine (sup_write ⟨xf, xs, ph, vo, n⟩ T p hf HLT.out (w.heap.size + 3) _ (hn.next hB) (by omega) f3).mono ?_
        rintro e w9 ⟨hk, hq, ⟨he, rfl⟩ | ⟨he, rfl⟩⟩
        · have g4 := (hk.block _ (block_lt f4) (by omega)).trans f4
          have hB9 := hB.trans (hk.below hB.size (fun k hk => by omega))
          rw [he] at hE
          obtain ⟨Y, hY⟩ : ∃ Y, Dw.writeX ⟨xf, xs, ph, vo, n⟩ T p = Y := ⟨_, rfl⟩
          rw [hY] at hq hX
          clear hY hk
          obtain ⟨c4, d4, z4, r1, r4, hB'⟩ := tail_facts rfl hq g4 hB9
          go_wp2_with (first | (refine lb hq rfl rfl rfl (by kernel_rfl) ?_) | (refine sb hq rfl rfl rfl rfl (by kernel_rfl) ?_))
          exact leave_ok rfl (by rfl) (by rfl) r1 r4 (by simp [go_sem]) ⟨by first | rfl | rw [hX, hE], hB'⟩
        · have g4 := (hk.block _ (block_lt f4) (by omega)).trans f4
          have hB9 := hB.trans (hk.below hB.size (fun k hk => by omega))
          rw [he] at hE
          clear hk
          go_wp2_with fail
          exact leave_stop rfl (by rfl) (by rfl) hq g4 (by omega) (by simp [go_sem]) (fun w' hk => ⟨by rw [hX, hE], hB9.trans (hk.below hB9.size (fun k hk => by omega))⟩)
    · have hX := HX.out; have hE := HE.out
      rw [if_neg (fun h => he0 h.1)] at hX hE
      have heb : (E == 0) = false := by simpa using he0
      go_wp2_with fail
      exact leave_stop rfl (by rfl) (by rfl) f3 f4 (by omega) (by simp [go_sem]) (fun w' hk => ⟨by rw [hX, hE], hB.trans (hk.below hB.size (fun k hk => by omega))⟩)
end Go.Proofs.YtjibbchfndhhpaaGreatDoor
namespace Go.Proofs.YtjibbchfndhhpaaGreatDoor
open Go.RowKit Go.Shelf
attribute [local go_sem] Oper.semAt_some
theorem scommand_any (x : Dw.Su) (c : Dw.Cmd) (p : Dw.Pw) (hf : Dw.FlOk x.f) (hl : Dw.legal x.s = true) (hla : c.la < 18446744073709551616) (hlo : c.lo < 18446744073709551616) (w : World) (hn : NoneAt w) :
    Calls Tryz.prog 22 #[suV x, cmV c, pwV p] w fun e w' => e = .returned (.tuple #[suV (Dw.commandX x c p), .int .i64 (Dw.commandE x c p)]) ∧ Below w.heap.size w w' :=
  scommand_core x c p hf w hn (fun w => delta_any x.s (Dw.legal_iso hl) c hla hlo w) (fun _ => Dw.deltaS_legal hl c)
abbrev wholeV : Value := .agg #[.int .i64 (-1), .string ⟨#[]⟩]
namespace Dw
end Dw
theorem ba_list (x y : List UInt8) : ((⟨x.toArray⟩ : ByteArray) == ⟨y.toArray⟩) = decide (x = y) := by
  rw [ba_tl]
  refine decide_eq_decide.2 ?_
  rw [ByteArray.toList_mk, ByteArray.toList_mk]
end Go.Proofs.YtjibbchfndhhpaaGreatDoor
namespace Go.Proofs.YtjibbchfndhhpaaGreatDoor
open Go.RowKit Go.Shelf
attribute [local go_sem] Oper.semAt_some
namespace Dw
def itS (x : Su) (v : Int) : Nat → Su
  | 0 => x
  | k + 1 => sampleX (itS x v k) v whole
theorem itS_three (x : Su) (v : Int) : seen3 x v = itS x v 3 := rfl
theorem itS_zero (x : Su) (v : Int) : x = itS x v 0 := rfl
theorem itS_succ (x : Su) (v : Int) (k : Nat) : itS x v (k + 1) = sampleX (itS x v k) v whole := rfl
theorem itS_ok {x : Su} (v : Int) (h : FlOk x.f) : ∀ k, FlOk (itS x v k).f
  | 0 => h
  | k + 1 => sampleX_ok (itS_ok v h k) v whole
theorem itS_legal {x : Su} (v : Int) (h : legal x.s = true) : ∀ k, legal (itS x v k).s = true
  | 0 => h
  | k + 1 => sample_legal (itS_legal v h k) v whole
end Dw
theorem sampleV (x : Dw.Su) (a b c : Nat) (hs : b < 18446744073709551616) (v : Int) (hv : Dw.voteI a b c = v) (hf : Dw.FlOk x.f) (hl : Dw.legal x.s = true) (w : World) (hn : NoneAt w) :
    Calls Tryz.prog 55 #[suV x, smV a b c, wholeV] w fun e w' => e = .returned (.tuple #[suV (Dw.sampleX x v Dw.whole), .int .i64 (Dw.sampleE x v Dw.whole)]) ∧ Below w.heap.size w w' := by
  rw [← hv]
  exact ssample_any x a b c hs Dw.whole hf hl w hn
end Go.Proofs.YtjibbchfndhhpaaGreatDoor
namespace Go.Proofs.YtjibbchfndhhpaaGreatDoor
open Go.RowKit Go.Shelf
attribute [local go_sem] Oper.semAt_some
end Go.Proofs.YtjibbchfndhhpaaGreatDoor
namespace Go.Proofs.YtjibbchfndhhpaaGreatDoor
open Go.RowKit Go.Shelf
end Go.Proofs.YtjibbchfndhhpaaGreatDoor
namespace Go.Proofs.YtjibbchfndhhpaaGreatDoor
open Go.RowKit Go.Shelf
namespace Dw
end Dw
end Go.Proofs.YtjibbchfndhhpaaGreatDoor
namespace Go.Proofs.YtjibbchfndhhpaaGreatDoor
open Go.RowKit Go.Shelf
attribute [local go_sem] Oper.semAt_some
theorem setRow_alloc (w : World) (z c : Array Value) (t : TypeId) (fr : Nat × Nat) : (w.alloc (.cells z t fr)).setRow w.heap.size c = w.alloc (.cells c t fr) := by
  unfold World.setRow World.alloc
  congr 1
  apply Array.ext
  · simp
  · intro i h1 h2
    simp only [Array.size_modify, Array.size_push] at h1
    rw [Array.getElem_modify, Array.getElem_push, Array.getElem_push]
    by_cases e : i < w.heap.size
    · rw [dif_pos e, dif_pos e, if_neg (by omega)]
    · rw [dif_neg e, dif_neg e, if_pos (by omega)]
section
variable {P : Program} {ops : Array Oper} {rest : List Oper} {o o2 : Oper} {a : Act} {w : World} {Q : Exit → Act → World → Prop} {z c : Array Value} {t : TypeId} {v : Operand} {d : Tmp}
theorem nb (hg : o.guard = none) (hd : o.dst = some d) (hop : o2.op = .store t (.tmp d) v) (hg2 : o2.guard = none) (ha : (execOp a.eval o).run P w = .ok (.value (.pointer (some ⟨w.heap.size, 0, none⟩))) (w.alloc (.cells z t)))
    (hp : (a.put (some d) (.pointer (some ⟨w.heap.size, 0, none⟩))).eval (.tmp d) = .pointer (some ⟨w.heap.size, 0, none⟩)) (hv : (a.put (some d) (.pointer (some ⟨w.heap.size, 0, none⟩))).eval v = .agg c) (hi : fits P t z c = true)
    (h : wpList P ops Q rest ((a.put (some d) (.pointer (some ⟨w.heap.size, 0, none⟩))).put o2.dst undef) (w.alloc (.cells c t))) : wpList P ops Q (o :: o2 :: rest) a w := by
  obtain ⟨h1, h2, h3⟩ := fits_spec hi
  refine wpList_plain hg fun K hK => ?_
  unfold Oper.wp
  rw [ha]
  show K (a.put o.dst (.pointer (some ⟨w.heap.size, 0, none⟩))) (w.alloc (.cells z t))
  rw [hd]
  exact hK _ _ (wpList_store_block hg2 t (.tmp d) v hop hp hv (han w (.cells z t)) h1 h2 h3 (by rw [setRow_alloc]; exact h))
end
end Go.Proofs.YtjibbchfndhhpaaGreatDoor
