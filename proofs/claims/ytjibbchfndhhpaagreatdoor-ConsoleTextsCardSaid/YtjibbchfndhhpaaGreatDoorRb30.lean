/- What the statement's proof stands on, part 30: Cmd1, Cmd2, Cmd4. -/
import Derived.Test.YtjibbchfndhhpaaGreatDoorRb25
import Derived.Test.YtjibbchfndhhpaaGreatDoorRb5
import Derived.Test.YtjibbchfndhhpaaGreatDoorRb21
import Derived.Test.YtjibbchfndhhpaaGreatDoorRb22
set_option linter.unusedSimpArgs false
set_option linter.unusedVariables false
set_option maxRecDepth 100000
set_option maxHeartbeats 4000000
namespace Go.Proofs.YtjibbchfndhhpaaGreatDoor
open Go.RowKit Go.Shelf
attribute [local go_sem] Oper.semAt_some
theorem first2_any (a0 a1 : Bool) (e0 e1 : Int) (b : Nat) (ty : TypeId) (w : World) (h : w.heap[b]? = some (.cells #[.bool a0, .int .i64 e0, .bool a1, .int .i64 e1] ty (0, 0))) :
    Calls Tryz.prog 121 #[.slice (some ⟨b, 0, none⟩) 2 2] w fun e w' => e = .returned (.int .i64 (if a0 = false then e0 else if a1 = false then e1 else 0)) ∧ Below w.heap.size w w' := by
  generalize hR : (if a0 = false then e0 else if a1 = false then e1 else 0) = R
  have HR := Lib.hid hR
  clear hR
  have hlt := block_lt h
  have H := Lib.hid h
  clear h
  go_enter Tryz.func121, Tryz.ntmps121
  go_wp2_with fail
  go_loopw [7] (fun i wr => ∃ j : Nat, j ≤ 2 ∧ i = .int .i64 j ∧ (1 ≤ j → a0 = true) ∧ (2 ≤ j → a1 = true) ∧ Below w.heap.size w wr) (fun i _ => 2 - (intOf i).toNat)
  case atStart => exact ⟨0, Nat.zero_le _, rfl, by omega, by omega, Below.refl _ _⟩
  case round =>
    obtain ⟨j, hj, rfl, h0, h1, hB⟩ := hrel
    have hc := (hB.block b hlt).trans H.out
    rcases (by omega : j = 0 ∨ j = 1 ∨ j = 2) with rfl | rfl | rfl
    · have c0 : wr.cell? ⟨b, 0, none⟩ = some (.bool a0) := by simp [cell_of_row _ _ _ _ _ _ hc]
      have c1 : wr.cell? ⟨b, 1, none⟩ = some (.int .i64 e0) := by simp [cell_of_row _ _ _ _ _ _ hc]
      have hB1 := hB.alloc hB.size (.cells #[.bool a0, .int .i64 e0] 177)
      clear hc
      have H0 := Lib.hid h0
      clear h0 h1
      cases a0
      · go_wp2_with fail
        go_ret
        refine ⟨?_, hB1⟩
        rw [← HR.out]
        (try rw [H0.out (by decide)]) <;> rfl
      · go_wp2_with fail
        go_roundw
        case rel => exact ⟨0 + 1, by decide, rfl, fun hx => by first | trivial | rfl | exact H0.out (by decide), fun hx => by first | trivial | rfl | exact absurd hx (by decide), hB1⟩
        case measure => first | done | (simp [intOf]; done) | (simp [intOf]; omega)
    · have c0 : wr.cell? ⟨b, 2, none⟩ = some (.bool a1) := by simp [cell_of_row _ _ _ _ _ _ hc]
      have c1 : wr.cell? ⟨b, 3, none⟩ = some (.int .i64 e1) := by simp [cell_of_row _ _ _ _ _ _ hc]
      have hB1 := hB.alloc hB.size (.cells #[.bool a1, .int .i64 e1] 177)
      clear hc
      have H0 := Lib.hid h0
      clear h0 h1
      cases a1
      · go_wp2_with fail
        go_ret
        refine ⟨?_, hB1⟩
        rw [← HR.out]
        (try rw [H0.out (by decide)]) <;> rfl
      · go_wp2_with fail
        go_roundw
        case rel => exact ⟨1 + 1, by decide, rfl, fun hx => by first | trivial | rfl | exact H0.out (by decide), fun hx => by first | trivial | rfl | exact absurd hx (by decide), hB1⟩
        case measure => first | done | (simp [intOf]; done) | (simp [intOf]; omega)
    · have H0 := Lib.hid h0; have H1 := Lib.hid h1
      clear h0 h1 hc
      go_wp2_with fail
      go_ret
      refine ⟨?_, hB⟩
      rw [← HR.out, H0.out (by decide), H1.out (by decide)]
      rfl
theorem first5_any (a0 a1 a2 a3 a4 : Bool) (e0 e1 e2 e3 e4 : Int) (b : Nat) (ty : TypeId) (w : World) (h : w.heap[b]? = some (.cells #[.bool a0, .int .i64 e0, .bool a1, .int .i64 e1, .bool a2, .int .i64 e2, .bool a3, .int .i64 e3, .bool a4, .int .i64 e4] ty (0, 0))) :
    Calls Tryz.prog 121 #[.slice (some ⟨b, 0, none⟩) 5 5] w fun e w' => e = .returned (.int .i64 (if a0 = false then e0 else if a1 = false then e1 else if a2 = false then e2 else if a3 = false then e3 else if a4 = false then e4 else 0)) ∧ Below w.heap.size w w' := by
  generalize hR : (if a0 = false then e0 else if a1 = false then e1 else if a2 = false then e2 else if a3 = false then e3 else if a4 = false then e4 else 0) = R
  have HR := Lib.hid hR
  clear hR
  have hlt := block_lt h
  have H := Lib.hid h
  clear h
  go_enter Tryz.func121, Tryz.ntmps121
  go_wp2_with fail
  go_loopw [7] (fun i wr => ∃ j : Nat, j ≤ 5 ∧ i = .int .i64 j ∧ ((1 ≤ j → a0 = true) ∧ (2 ≤ j → a1 = true) ∧ (3 ≤ j → a2 = true) ∧ (4 ≤ j → a3 = true) ∧ (5 ≤ j → a4 = true)) ∧ Below w.heap.size w wr) (fun i _ => 5 - (intOf i).toNat)
  case atStart => exact ⟨0, Nat.zero_le _, rfl, ⟨by omega, by omega, by omega, by omega, by omega⟩, Below.refl _ _⟩
  case round =>
    obtain ⟨j, hj, rfl, ⟨h0, h1, h2, h3, h4⟩, hB⟩ := hrel
    have hc := (hB.block b hlt).trans H.out
    rcases (by omega : j = 0 ∨ j = 1 ∨ j = 2 ∨ j = 3 ∨ j = 4 ∨ j = 5) with rfl | rfl | rfl | rfl | rfl | rfl
    · have c0 : wr.cell? ⟨b, 0, none⟩ = some (.bool a0) := by simp [cell_of_row _ _ _ _ _ _ hc]
      have c1 : wr.cell? ⟨b, 1, none⟩ = some (.int .i64 e0) := by simp [cell_of_row _ _ _ _ _ _ hc]
      have hB1 := hB.alloc hB.size (.cells #[.bool a0, .int .i64 e0] 177)
      clear hc
      have H0 := Lib.hid h0; have H1 := Lib.hid h1; have H2 := Lib.hid h2; have H3 := Lib.hid h3
      clear h0 h1 h2 h3 h4
      cases a0
      · go_wp2_with fail
        go_ret
        refine ⟨?_, hB1⟩
        rw [← HR.out]
        (try rw [H0.out (by decide)]) <;> (try rw [H1.out (by decide)]) <;> (try rw [H2.out (by decide)]) <;> (try rw [H3.out (by decide)]) <;> rfl
      · go_wp2_with fail
        go_roundw
        case rel => exact ⟨0 + 1, by decide, rfl, ⟨fun hx => by first | trivial | rfl | exact H0.out (by decide) | exact absurd hx (by decide), fun hx => by first | trivial | rfl | exact H1.out (by decide) | exact absurd hx (by decide), fun hx => by first | trivial | rfl | exact H2.out (by decide) | exact absurd hx (by decide), fun hx => by first | trivial | rfl | exact H3.out (by decide) | exact absurd hx (by decide), fun hx => by first | trivial | rfl | exact absurd hx (by decide)⟩, hB1⟩
        case measure => first | done | (simp [intOf]; done) | (simp [intOf]; omega)
    · have c0 : wr.cell? ⟨b, 2, none⟩ = some (.bool a1) := by simp [cell_of_row _ _ _ _ _ _ hc]
      have c1 : wr.cell? ⟨b, 3, none⟩ = some (.int .i64 e1) := by simp [cell_of_row _ _ _ _ _ _ hc]
      have hB1 := hB.alloc hB.size (.cells #[.bool a1, .int .i64 e1] 177)
      clear hc
      have H0 := Lib.hid h0; have H1 := Lib.hid h1; have H2 := Lib.hid h2; have H3 := Lib.hid h3
      clear h0 h1 h2 h3 h4
      cases a1
      · go_wp2_with fail
        go_ret
        refine ⟨?_, hB1⟩
        rw [← HR.out]
        (try rw [H0.out (by decide)]) <;> (try rw [H1.out (by decide)]) <;> (try rw [H2.out (by decide)]) <;> (try rw [H3.out (by decide)]) <;> rfl
      · go_wp2_with fail
        go_roundw
        case rel => exact ⟨1 + 1, by decide, rfl, ⟨fun hx => by first | trivial | rfl | exact H0.out (by decide) | exact absurd hx (by decide), fun hx => by first | trivial | rfl | exact H1.out (by decide) | exact absurd hx (by decide), fun hx => by first | trivial | rfl | exact H2.out (by decide) | exact absurd hx (by decide), fun hx => by first | trivial | rfl | exact H3.out (by decide) | exact absurd hx (by decide), fun hx => by first | trivial | rfl | exact absurd hx (by decide)⟩, hB1⟩
        case measure => first | done | (simp [intOf]; done) | (simp [intOf]; omega)
    · have c0 : wr.cell? ⟨b, 4, none⟩ = some (.bool a2) := by simp [cell_of_row _ _ _ _ _ _ hc]
      have c1 : wr.cell? ⟨b, 5, none⟩ = some (.int .i64 e2) := by simp [cell_of_row _ _ _ _ _ _ hc]
      have hB1 := hB.alloc hB.size (.cells #[.bool a2, .int .i64 e2] 177)
      clear hc
      have H0 := Lib.hid h0; have H1 := Lib.hid h1; have H2 := Lib.hid h2; have H3 := Lib.hid h3
      clear h0 h1 h2 h3 h4
      cases a2
      · go_wp2_with fail
        go_ret
        refine ⟨?_, hB1⟩
        rw [← HR.out]
        (try rw [H0.out (by decide)]) <;> (try rw [H1.out (by decide)]) <;> (try rw [H2.out (by decide)]) <;> (try rw [H3.out (by decide)]) <;> rfl
      · go_wp2_with fail
        go_roundw
        case rel => exact ⟨2 + 1, by decide, rfl, ⟨fun hx => by first | trivial | rfl | exact H0.out (by decide) | exact absurd hx (by decide), fun hx => by first | trivial | rfl | exact H1.out (by decide) | exact absurd hx (by decide), fun hx => by first | trivial | rfl | exact H2.out (by decide) | exact absurd hx (by decide), fun hx => by first | trivial | rfl | exact H3.out (by decide) | exact absurd hx (by decide), fun hx => by first | trivial | rfl | exact absurd hx (by decide)⟩, hB1⟩
        case measure => first | done | (simp [intOf]; done) | (simp [intOf]; omega)
    · have c0 : wr.cell? ⟨b, 6, none⟩ = some (.bool a3) := by simp [cell_of_row _ _ _ _ _ _ hc]
      have c1 : wr.cell? ⟨b, 7, none⟩ = some (.int .i64 e3) := by simp [cell_of_row _ _ _ _ _ _ hc]
      have hB1 := hB.alloc hB.size (.cells #[.bool a3, .int .i64 e3] 177)
      clear hc
      have H0 := Lib.hid h0; have H1 := Lib.hid h1; have H2 := Lib.hid h2; have H3 := Lib.hid h3
      clear h0 h1 h2 h3 h4
      cases a3
      · go_wp2_with fail
        go_ret
        refine ⟨?_, hB1⟩
        rw [← HR.out]
        (try rw [H0.out (by decide)]) <;> (try rw [H1.out (by decide)]) <;> (try rw [H2.out (by decide)]) <;> (try rw [H3.out (by decide)]) <;> rfl
      · go_wp2_with fail
        go_roundw
        case rel => exact ⟨3 + 1, by decide, rfl, ⟨fun hx => by first | trivial | rfl | exact H0.out (by decide) | exact absurd hx (by decide), fun hx => by first | trivial | rfl | exact H1.out (by decide) | exact absurd hx (by decide), fun hx => by first | trivial | rfl | exact H2.out (by decide) | exact absurd hx (by decide), fun hx => by first | trivial | rfl | exact H3.out (by decide) | exact absurd hx (by decide), fun hx => by first | trivial | rfl | exact absurd hx (by decide)⟩, hB1⟩
        case measure => first | done | (simp [intOf]; done) | (simp [intOf]; omega)
    · have c0 : wr.cell? ⟨b, 8, none⟩ = some (.bool a4) := by simp [cell_of_row _ _ _ _ _ _ hc]
      have c1 : wr.cell? ⟨b, 9, none⟩ = some (.int .i64 e4) := by simp [cell_of_row _ _ _ _ _ _ hc]
      have hB1 := hB.alloc hB.size (.cells #[.bool a4, .int .i64 e4] 177)
      clear hc
      have H0 := Lib.hid h0; have H1 := Lib.hid h1; have H2 := Lib.hid h2; have H3 := Lib.hid h3
      clear h0 h1 h2 h3 h4
      cases a4
      · go_wp2_with fail
        go_ret
        refine ⟨?_, hB1⟩
        rw [← HR.out]
        (try rw [H0.out (by decide)]) <;> (try rw [H1.out (by decide)]) <;> (try rw [H2.out (by decide)]) <;> (try rw [H3.out (by decide)]) <;> rfl
      · go_wp2_with fail
        go_roundw
        case rel => exact ⟨4 + 1, by decide, rfl, ⟨fun hx => by first | trivial | rfl | exact H0.out (by decide) | exact absurd hx (by decide), fun hx => by first | trivial | rfl | exact H1.out (by decide) | exact absurd hx (by decide), fun hx => by first | trivial | rfl | exact H2.out (by decide) | exact absurd hx (by decide), fun hx => by first | trivial | rfl | exact H3.out (by decide) | exact absurd hx (by decide), fun hx => by first | trivial | rfl | exact absurd hx (by decide)⟩, hB1⟩
        case measure => first | done | (simp [intOf]; done) | (simp [intOf]; omega)
    · have H0 := Lib.hid h0; have H1 := Lib.hid h1; have H2 := Lib.hid h2; have H3 := Lib.hid h3; have H4 := Lib.hid h4
      clear h0 h1 h2 h3 h4 hc
      go_wp2_with fail
      go_ret
      refine ⟨?_, hB⟩
      rw [← HR.out, H0.out (by decide), H1.out (by decide), H2.out (by decide), H3.out (by decide), H4.out (by decide)]
      rfl
theorem enough_any (s : Dw.St) (hi : 0 ≤ s.iso ∧ s.iso ≤ 15) (n : Int) (g : Nat) (w : World) (hg : w.heap[g]? = some (.cells (stC s) 140 (0, 0))) :
    Calls Tryz.prog 124 #[.pointer (some ⟨g, 0, none⟩), .int .i64 n] w fun e w' => e = .returned (.bool (decide (n ≤ Dw.soundN s.iso))) ∧ Below w.heap.size w w' := by
  have HS := Lib.hid (fun w => sound_any s hi w)
  generalize Dw.soundN s.iso = m at *
  go_enter Tryz.func124, Tryz.ntmps124
  go_wp2_with (first | (refine lp 28 0 (stC s) hg rfl rfl rfl (by kernel_rfl) (by rfl) ?_))
  refine cb (HS.out _) fun w1 hb => ?_
  clear hg
  go_wp2_with fail
  go_ret
  exact ⟨by first | rfl | simp, hb⟩
def CEnd (T : Dw.St) (er : Int) (g : Nat) (w : World) (e : Ending) (w' : World) : Prop :=
  e = .returned (.int .i64 er) ∧ KeepBut (fun k => k = g) w w' ∧ ∃ s', w'.heap[g]? = some (.cells (stC s') 140 (0, 0)) ∧ (er = 0 → s' = T)
theorem arm_any (s : Dw.St) (hi : 0 ≤ s.iso ∧ s.iso ≤ 15) (c : Dw.Cmd) (g : Nat) (w : World) (hg : w.heap[g]? = some (.cells (stC s) 140 (0, 0))) :
    Calls Tryz.prog 88 #[.pointer (some ⟨g, 0, none⟩), cmV c] w (CEnd { s with ar := true, mo := 1 } (Dw.armE s) g w) := by
  have hB := (Below.refl w.heap.size w).alloc (Nat.le_refl _) (.cells (cmC c) 67)
  have hg1 := (hB.block g (block_lt hg)).trans hg
  have hgl := block_lt hg
  have HE := Lib.hid (fun w h => enough_any s hi 2 g w h)
  have HR := Lib.hid (show Dw.armE s = if (!s.ar) = false then 21 else if decide (2 ≤ Dw.soundN s.iso) = false then 24 else 0 from by
    unfold Dw.armE; cases s.ar <;> simp)
  generalize Dw.armE s = R at *
  generalize decide (2 ≤ Dw.soundN s.iso) = en at *
  obtain ⟨c0, c1, -⟩ := cells6 hg1
  clear hg
  go_enter Tryz.func88, Tryz.ntmps88
  go_wp2_with fail
  generalize w.alloc _ = V at *
  refine wp_letterD [0,1,2,3,4,5,6,7,8,9] 10 11 (some 16) (NewRows V #[.bool (!s.ar), .int .i64 21, .bool en, .int .i64 24] 2 177) rfl rfl (by kernel_rfl) (by kernel_rfl) rfl (fun v A B h hk => h.keep hk) ?_
  (apply rat; (focus (intro w' hk; have k1 := look hk c1; repeat' (first | exact rn | ((first | refine' rv ?_ rfl rfl (by go_simp; first | done | with_reducible rfl | exact rfl) | refine' rc ?_ (by exact rfl) (by exact rfl) (by go_simp; first | done | (constructor <;> with_reducible rfl) | with_reducible rfl) (by exact HE.out w' (kpi hk hg1)) | refine' rs ?_ rfl rfl); try simp only [Act.put, List.setIfInBounds_toArray, List.set_cons_zero, List.set_cons_succ])))))
  refine ⟨rfl, sure_rows (fun w' _ => by go_simp), ?_⟩
  rintro v W2 hk2 ⟨b, rfl, hb, hbc⟩
  simp only [List.drop_succ_cons, List.drop_zero, List.setIfInBounds_toArray, List.set_cons_zero, List.set_cons_succ]
  have hg2 := kpi hk2 hg1
  replace hB := hB.trans (hk2.whole.mono hB.size)
  clear hk2 hg1 c0 c1 HE
  go_wp2_with fail
  refine (first2_any _ _ _ _ b _ _ hbc).mono ?_
  rintro e w3 ⟨he, hb3⟩
  rw [← HR.out] at he
  subst he
  have hg3 := kp hb3 hg2
  replace hB := tr hB hb3
  clear hb3 hg2 hbc
  have q0 := heap_setCell_same w3 g 1 _ _ (.bool true) hg3
  change _ = some (Obj.cells (stC { s with ar := true }) _ _) at q0
  have q1 := heap_setCell_same _ g 0 _ _ (.int .i64 1) q0
  change _ = some (Obj.cells (stC { s with ar := true, mo := 1 }) _ _) at q1
  have hK := (((keepB hB).mono (fun _ _ h => h.elim) : KeepBut (fun k => k = g) w w3).setCell (p := ⟨g, 1, none⟩) rfl (.bool true)).setCell (p := ⟨g, 0, none⟩) rfl (.int .i64 1)
  obtain ⟨c0, c1, -⟩ := cells6 hg3
  obtain ⟨d0, d1, -⟩ := cells6 q0
  have z0 := frozen0 hg3 1
  have z1 := frozen0 q0 0
  go_wp2_with fail
  go_ret
  exact ⟨rfl, hK, _, q1, fun _ => rfl⟩
theorem goes_ff (mo la lo iso : Int) (hi : 0 ≤ iso ∧ iso ≤ 15) (ki n : Int) (cla clo : Nat) (g : Nat) (w : World) (hg : w.heap[g]? = some (.cells (stC ⟨mo, false, false, la, lo, iso⟩) 140 (0, 0))) :
    Calls Tryz.prog 87 #[.pointer (some ⟨g, 0, none⟩), cmV ⟨ki, n, cla, clo⟩] w (CEnd ⟨n, false, false, la, lo, iso⟩ (Dw.goesE ⟨mo, false, false, la, lo, iso⟩ n) g w) := by
  have hB := (Below.refl w.heap.size w).alloc (Nat.le_refl _) (.cells (cmC ⟨ki, n, cla, clo⟩) 67)
  have hC := han w (.cells (cmC ⟨ki, n, cla, clo⟩) 67)
  have hg1 := (hB.block g (block_lt hg)).trans hg
  have hgl := block_lt hg
  have HE := Lib.hid (fun m w h => enough_any ⟨mo, false, false, la, lo, iso⟩ hi m g w h)
  have HW := Lib.hid (fun w => way_any mo n w)
  have HN := Lib.hid (fun w => needs_any n w)
  have HH := Lib.hid (fun w => home_any n w)
  obtain ⟨z, hz⟩ : ∃ z, (n == 0) = z := ⟨_, rfl⟩
  have hz' : (n != 0) = !z := by rw [← hz]; rfl
  obtain ⟨hm, hhm⟩ : ∃ z, Dw.homeB n = z := ⟨_, rfl⟩
  have hr : Dw.goesE ⟨mo, false, false, la, lo, iso⟩ n = if Dw.wayB mo n = false then 20 else if z = false then 22 else if true = false then 21 else if (!hm) = false then 23 else if decide (Dw.needsI n ≤ Dw.soundN iso) = false then 24 else 0 := by
    unfold Dw.goesE
    dsimp only
    subst hz
    rw [hhm]
    rcases Int.lt_or_le (Dw.soundN iso) (Dw.needsI n) with hq | hq
    · have hq2 : ¬ Dw.needsI n ≤ Dw.soundN iso := by omega
      by_cases hn : n = 0 <;> cases hm <;> simp [*] <;> omega
    · have hq2 : ¬ Dw.soundN iso < Dw.needsI n := by omega
      by_cases hn : n = 0 <;> cases hm <;> simp [*] <;> omega
  have HR := Lib.hid hr
  rw [hhm] at HH
  dsimp only at HE
  generalize Dw.goesE ⟨mo, false, false, la, lo, iso⟩ n = R at *
  generalize Dw.wayB mo n = wv at *
  generalize Dw.needsI n = nd at *
  generalize hen : decide (nd ≤ Dw.soundN iso) = en at *
  have HE := Lib.hid (fun w h => hen ▸ HE.out nd w h)
  obtain ⟨c0, c1, c2, -⟩ := cells6 hg1
  obtain ⟨k0, k1, -⟩ := cells4 hC
  clear hg hC hr hhm hen
  go_enter Tryz.func87, Tryz.ntmps87
  go_wp2_with fail
  generalize w.alloc _ = V at *
  refine wp_letterD [0,1,2,3,4,5,6,7,8,9,10,11,12,13,14,15,16,17,18,19,20,21,22,23,24,25,26,27,28,29,30,31,32,33,34,35,36,37,38,39,40,41,42,43,44,45,46,47,48,49] 50 51 (some 56) (NewRows V #[.bool wv, .int .i64 20, .bool z, .int .i64 22, .bool true, .int .i64 21, .bool (!hm), .int .i64 23, .bool en, .int .i64 24] 5 177) rfl rfl (by kernel_rfl) (by kernel_rfl) rfl (fun v A B h hk => h.keep hk) ?_
  (apply rat; (focus (intro w' hk; obtain ⟨q0,q1,q2,q3⟩ := look4 hk c0 c1 c2 k1; repeat' (first | exact rn | ((first | refine' rv ?_ rfl rfl (by go_simp; first | done | with_reducible rfl | exact rfl) | refine' rc ?_ (by exact rfl) (by exact rfl) (by go_simp; first | done | (constructor <;> with_reducible rfl) | with_reducible rfl) (by first | first | exact HW.out w' | exact HN.out w' | exact HH.out w' | exact HE.out w' (kpi hk hg1)) | refine' rs ?_ rfl rfl); try simp only [Act.put, List.setIfInBounds_toArray, List.set_cons_zero, List.set_cons_succ])))))
  refine ⟨rfl, sure_rows (fun w' _ => by go_simp), ?_⟩
  rintro v W2 hk2 ⟨b, rfl, hb, hbc⟩
  simp only [List.drop_succ_cons, List.drop_zero, List.setIfInBounds_toArray, List.set_cons_zero, List.set_cons_succ]
  have hg2 := kpi hk2 hg1
  have k3 := look hk2 k1
  replace hB := hB.trans (hk2.whole.mono hB.size)
  clear hk2 hg1 c0 c1 c2 k0 k1 HE HW HN HH hz hz'
  go_wp2_with fail
  refine (first5_any _ _ _ _ _ _ _ _ _ _ b _ _ hbc).mono ?_
  rintro e w3 ⟨he, hb3⟩
  rw [← HR.out] at he
  subst he
  have hg3 := kp hb3 hg2
  have k4 := (hb3.cell (lt_of_cell k3)).trans k3
  replace hB := tr hB hb3
  clear hb3 hg2 hbc k3
  have q0 := heap_setCell_same w3 g 0 _ _ (.int .i64 n) hg3
  change _ = some (Obj.cells (stC ⟨n, false, false, la, lo, iso⟩) _ _) at q0
  have hK := ((keepB hB).mono (fun _ _ h => h.elim) : KeepBut (fun k => k = g) w w3).setCell (p := ⟨g, 0, none⟩) rfl (.int .i64 n)
  obtain ⟨c0, -⟩ := cells6 hg3
  have z0 := frozen0 hg3 0
  go_wp2_with fail
  go_ret
  exact ⟨rfl, hK, _, q0, fun _ => rfl⟩
theorem goes_ft (mo la lo iso : Int) (hi : 0 ≤ iso ∧ iso ≤ 15) (ki n : Int) (cla clo : Nat) (g : Nat) (w : World) (hg : w.heap[g]? = some (.cells (stC ⟨mo, false, true, la, lo, iso⟩) 140 (0, 0))) :
    Calls Tryz.prog 87 #[.pointer (some ⟨g, 0, none⟩), cmV ⟨ki, n, cla, clo⟩] w (CEnd ⟨n, false, true, la, lo, iso⟩ (Dw.goesE ⟨mo, false, true, la, lo, iso⟩ n) g w) := by
  have hB := (Below.refl w.heap.size w).alloc (Nat.le_refl _) (.cells (cmC ⟨ki, n, cla, clo⟩) 67)
  have hC := han w (.cells (cmC ⟨ki, n, cla, clo⟩) 67)
  have hg1 := (hB.block g (block_lt hg)).trans hg
  have hgl := block_lt hg
  have HE := Lib.hid (fun m w h => enough_any ⟨mo, false, true, la, lo, iso⟩ hi m g w h)
  have HW := Lib.hid (fun w => way_any mo n w)
  have HN := Lib.hid (fun w => needs_any n w)
  have HH := Lib.hid (fun w => home_any n w)
  obtain ⟨z, hz⟩ : ∃ z, (n == 0) = z := ⟨_, rfl⟩
  have hz' : (n != 0) = !z := by rw [← hz]; rfl
  obtain ⟨hm, hhm⟩ : ∃ z, Dw.homeB n = z := ⟨_, rfl⟩
  have hr : Dw.goesE ⟨mo, false, true, la, lo, iso⟩ n = if Dw.wayB mo n = false then 20 else if z = false then 22 else if true = false then 21 else if true = false then 23 else if decide (Dw.needsI n ≤ Dw.soundN iso) = false then 24 else 0 := by
    unfold Dw.goesE
    dsimp only
    subst hz
    rw [hhm]
    rcases Int.lt_or_le (Dw.soundN iso) (Dw.needsI n) with hq | hq
    · have hq2 : ¬ Dw.needsI n ≤ Dw.soundN iso := by omega
      by_cases hn : n = 0 <;> cases hm <;> simp [*] <;> omega
    · have hq2 : ¬ Dw.soundN iso < Dw.needsI n := by omega
      by_cases hn : n = 0 <;> cases hm <;> simp [*] <;> omega
  have HR := Lib.hid hr
  rw [hhm] at HH
  dsimp only at HE
  generalize Dw.goesE ⟨mo, false, true, la, lo, iso⟩ n = R at *
  generalize Dw.wayB mo n = wv at *
  generalize Dw.needsI n = nd at *
  generalize hen : decide (nd ≤ Dw.soundN iso) = en at *
  have HE := Lib.hid (fun w h => hen ▸ HE.out nd w h)
  obtain ⟨c0, c1, c2, -⟩ := cells6 hg1
  obtain ⟨k0, k1, -⟩ := cells4 hC
  clear hg hC hr hhm hen
  go_enter Tryz.func87, Tryz.ntmps87
  go_wp2_with fail
  generalize w.alloc _ = V at *
  refine wp_letterD [0,1,2,3,4,5,6,7,8,9,10,11,12,13,14,15,16,17,18,19,20,21,22,23,24,25,26,27,28,29,30,31,32,33,34,35,36,37,38,39,40,41,42,43,44,45,46,47,48,49] 50 51 (some 56) (NewRows V #[.bool wv, .int .i64 20, .bool z, .int .i64 22, .bool true, .int .i64 21, .bool true, .int .i64 23, .bool en, .int .i64 24] 5 177) rfl rfl (by kernel_rfl) (by kernel_rfl) rfl (fun v A B h hk => h.keep hk) ?_
  (apply rat; (focus (intro w' hk; obtain ⟨q0,q1,q2,q3⟩ := look4 hk c0 c1 c2 k1; repeat' (first | exact rn | ((first | refine' rv ?_ rfl rfl (by go_simp; first | done | with_reducible rfl | exact rfl) | refine' rc ?_ (by exact rfl) (by exact rfl) (by go_simp; first | done | (constructor <;> with_reducible rfl) | with_reducible rfl) (by first | first | exact HW.out w' | exact HN.out w' | exact HH.out w' | exact HE.out w' (kpi hk hg1)) | refine' rs ?_ rfl rfl); try simp only [Act.put, List.setIfInBounds_toArray, List.set_cons_zero, List.set_cons_succ])))))
  refine ⟨rfl, sure_rows (fun w' _ => by go_simp), ?_⟩
  rintro v W2 hk2 ⟨b, rfl, hb, hbc⟩
  simp only [List.drop_succ_cons, List.drop_zero, List.setIfInBounds_toArray, List.set_cons_zero, List.set_cons_succ]
  have hg2 := kpi hk2 hg1
  have k3 := look hk2 k1
  replace hB := hB.trans (hk2.whole.mono hB.size)
  clear hk2 hg1 c0 c1 c2 k0 k1 HE HW HN HH hz hz'
  go_wp2_with fail
  refine (first5_any _ _ _ _ _ _ _ _ _ _ b _ _ hbc).mono ?_
  rintro e w3 ⟨he, hb3⟩
  rw [← HR.out] at he
  subst he
  have hg3 := kp hb3 hg2
  have k4 := (hb3.cell (lt_of_cell k3)).trans k3
  replace hB := tr hB hb3
  clear hb3 hg2 hbc k3
  have q0 := heap_setCell_same w3 g 0 _ _ (.int .i64 n) hg3
  change _ = some (Obj.cells (stC ⟨n, false, true, la, lo, iso⟩) _ _) at q0
  have hK := ((keepB hB).mono (fun _ _ h => h.elim) : KeepBut (fun k => k = g) w w3).setCell (p := ⟨g, 0, none⟩) rfl (.int .i64 n)
  obtain ⟨c0, -⟩ := cells6 hg3
  have z0 := frozen0 hg3 0
  go_wp2_with fail
  go_ret
  exact ⟨rfl, hK, _, q0, fun _ => rfl⟩
theorem goes_tf (mo la lo iso : Int) (hi : 0 ≤ iso ∧ iso ≤ 15) (ki n : Int) (cla clo : Nat) (g : Nat) (w : World) (hg : w.heap[g]? = some (.cells (stC ⟨mo, true, false, la, lo, iso⟩) 140 (0, 0))) :
    Calls Tryz.prog 87 #[.pointer (some ⟨g, 0, none⟩), cmV ⟨ki, n, cla, clo⟩] w (CEnd ⟨n, true, false, la, lo, iso⟩ (Dw.goesE ⟨mo, true, false, la, lo, iso⟩ n) g w) := by
  have hB := (Below.refl w.heap.size w).alloc (Nat.le_refl _) (.cells (cmC ⟨ki, n, cla, clo⟩) 67)
  have hC := han w (.cells (cmC ⟨ki, n, cla, clo⟩) 67)
  have hg1 := (hB.block g (block_lt hg)).trans hg
  have hgl := block_lt hg
  have HE := Lib.hid (fun m w h => enough_any ⟨mo, true, false, la, lo, iso⟩ hi m g w h)
  have HW := Lib.hid (fun w => way_any mo n w)
  have HN := Lib.hid (fun w => needs_any n w)
  have HH := Lib.hid (fun w => home_any n w)
  obtain ⟨z, hz⟩ : ∃ z, (n == 0) = z := ⟨_, rfl⟩
  have hz' : (n != 0) = !z := by rw [← hz]; rfl
  obtain ⟨hm, hhm⟩ : ∃ z, Dw.homeB n = z := ⟨_, rfl⟩
  have hr : Dw.goesE ⟨mo, true, false, la, lo, iso⟩ n = if Dw.wayB mo n = false then 20 else if true = false then 22 else if (!z) = false then 21 else if (!hm) = false then 23 else if decide (Dw.needsI n ≤ Dw.soundN iso) = false then 24 else 0 := by
    unfold Dw.goesE
    dsimp only
    subst hz
    rw [hhm]
    rcases Int.lt_or_le (Dw.soundN iso) (Dw.needsI n) with hq | hq
    · have hq2 : ¬ Dw.needsI n ≤ Dw.soundN iso := by omega
      by_cases hn : n = 0 <;> cases hm <;> simp [*] <;> omega
    · have hq2 : ¬ Dw.soundN iso < Dw.needsI n := by omega
      by_cases hn : n = 0 <;> cases hm <;> simp [*] <;> omega
  have HR := Lib.hid hr
  rw [hhm] at HH
  dsimp only at HE
  generalize Dw.goesE ⟨mo, true, false, la, lo, iso⟩ n = R at *
  generalize Dw.wayB mo n = wv at *
  generalize Dw.needsI n = nd at *
  generalize hen : decide (nd ≤ Dw.soundN iso) = en at *
  have HE := Lib.hid (fun w h => hen ▸ HE.out nd w h)
  obtain ⟨c0, c1, c2, -⟩ := cells6 hg1
  obtain ⟨k0, k1, -⟩ := cells4 hC
  clear hg hC hr hhm hen
  go_enter Tryz.func87, Tryz.ntmps87
  go_wp2_with fail
  generalize w.alloc _ = V at *
  refine wp_letterD [0,1,2,3,4,5,6,7,8,9,10,11,12,13,14,15,16,17,18,19,20,21,22,23,24,25,26,27,28,29,30,31,32,33,34,35,36,37,38,39,40,41,42,43,44,45,46,47,48,49] 50 51 (some 56) (NewRows V #[.bool wv, .int .i64 20, .bool true, .int .i64 22, .bool (!z), .int .i64 21, .bool (!hm), .int .i64 23, .bool en, .int .i64 24] 5 177) rfl rfl (by kernel_rfl) (by kernel_rfl) rfl (fun v A B h hk => h.keep hk) ?_
  (apply rat; (focus (intro w' hk; obtain ⟨q0,q1,q2,q3⟩ := look4 hk c0 c1 c2 k1; repeat' (first | exact rn | ((first | refine' rv ?_ rfl rfl (by go_simp; first | done | with_reducible rfl | exact rfl) | refine' rc ?_ (by exact rfl) (by exact rfl) (by go_simp; first | done | (constructor <;> with_reducible rfl) | with_reducible rfl) (by first | first | exact HW.out w' | exact HN.out w' | exact HH.out w' | exact HE.out w' (kpi hk hg1)) | refine' rs ?_ rfl rfl); try simp only [Act.put, List.setIfInBounds_toArray, List.set_cons_zero, List.set_cons_succ])))))
  refine ⟨rfl, sure_rows (fun w' _ => by go_simp), ?_⟩
  rintro v W2 hk2 ⟨b, rfl, hb, hbc⟩
  simp only [List.drop_succ_cons, List.drop_zero, List.setIfInBounds_toArray, List.set_cons_zero, List.set_cons_succ]
  have hg2 := kpi hk2 hg1
  have k3 := look hk2 k1
  replace hB := hB.trans (hk2.whole.mono hB.size)
  clear hk2 hg1 c0 c1 c2 k0 k1 HE HW HN HH hz hz'
  go_wp2_with fail
  refine (first5_any _ _ _ _ _ _ _ _ _ _ b _ _ hbc).mono ?_
  rintro e w3 ⟨he, hb3⟩
  rw [← HR.out] at he
  subst he
  have hg3 := kp hb3 hg2
  have k4 := (hb3.cell (lt_of_cell k3)).trans k3
  replace hB := tr hB hb3
  clear hb3 hg2 hbc k3
  have q0 := heap_setCell_same w3 g 0 _ _ (.int .i64 n) hg3
  change _ = some (Obj.cells (stC ⟨n, true, false, la, lo, iso⟩) _ _) at q0
  have hK := ((keepB hB).mono (fun _ _ h => h.elim) : KeepBut (fun k => k = g) w w3).setCell (p := ⟨g, 0, none⟩) rfl (.int .i64 n)
  obtain ⟨c0, -⟩ := cells6 hg3
  have z0 := frozen0 hg3 0
  go_wp2_with fail
  go_ret
  exact ⟨rfl, hK, _, q0, fun _ => rfl⟩
theorem goes_tt (mo la lo iso : Int) (hi : 0 ≤ iso ∧ iso ≤ 15) (ki n : Int) (cla clo : Nat) (g : Nat) (w : World) (hg : w.heap[g]? = some (.cells (stC ⟨mo, true, true, la, lo, iso⟩) 140 (0, 0))) :
    Calls Tryz.prog 87 #[.pointer (some ⟨g, 0, none⟩), cmV ⟨ki, n, cla, clo⟩] w (CEnd ⟨n, true, true, la, lo, iso⟩ (Dw.goesE ⟨mo, true, true, la, lo, iso⟩ n) g w) := by
  have hB := (Below.refl w.heap.size w).alloc (Nat.le_refl _) (.cells (cmC ⟨ki, n, cla, clo⟩) 67)
  have hC := han w (.cells (cmC ⟨ki, n, cla, clo⟩) 67)
  have hg1 := (hB.block g (block_lt hg)).trans hg
  have hgl := block_lt hg
  have HE := Lib.hid (fun m w h => enough_any ⟨mo, true, true, la, lo, iso⟩ hi m g w h)
  have HW := Lib.hid (fun w => way_any mo n w)
  have HN := Lib.hid (fun w => needs_any n w)
  have HH := Lib.hid (fun w => home_any n w)
  obtain ⟨z, hz⟩ : ∃ z, (n == 0) = z := ⟨_, rfl⟩
  have hz' : (n != 0) = !z := by rw [← hz]; rfl
  obtain ⟨hm, hhm⟩ : ∃ z, Dw.homeB n = z := ⟨_, rfl⟩
  have hr : Dw.goesE ⟨mo, true, true, la, lo, iso⟩ n = if Dw.wayB mo n = false then 20 else if true = false then 22 else if (!z) = false then 21 else if true = false then 23 else if decide (Dw.needsI n ≤ Dw.soundN iso) = false then 24 else 0 := by
    unfold Dw.goesE
    dsimp only
    subst hz
    rw [hhm]
    rcases Int.lt_or_le (Dw.soundN iso) (Dw.needsI n) with hq | hq
    · have hq2 : ¬ Dw.needsI n ≤ Dw.soundN iso := by omega
      by_cases hn : n = 0 <;> cases hm <;> simp [*] <;> omega
    · have hq2 : ¬ Dw.soundN iso < Dw.needsI n := by omega
      by_cases hn : n = 0 <;> cases hm <;> simp [*] <;> omega
  have HR := Lib.hid hr
  rw [hhm] at HH
  dsimp only at HE
  generalize Dw.goesE ⟨mo, true, true, la, lo, iso⟩ n = R at *
  generalize Dw.wayB mo n = wv at *
  generalize Dw.needsI n = nd at *
  generalize hen : decide (nd ≤ Dw.soundN iso) = en at *
  have HE := Lib.hid (fun w h => hen ▸ HE.out nd w h)
  obtain ⟨c0, c1, c2, -⟩ := cells6 hg1
  obtain ⟨k0, k1, -⟩ := cells4 hC
  clear hg hC hr hhm hen
  go_enter Tryz.func87, Tryz.ntmps87
  go_wp2_with fail
  generalize w.alloc _ = V at *
  refine wp_letterD [0,1,2,3,4,5,6,7,8,9,10,11,12,13,14,15,16,17,18,19,20,21,22,23,24,25,26,27,28,29,30,31,32,33,34,35,36,37,38,39,40,41,42,43,44,45,46,47,48,49] 50 51 (some 56) (NewRows V #[.bool wv, .int .i64 20, .bool true, .int .i64 22, .bool (!z), .int .i64 21, .bool true, .int .i64 23, .bool en, .int .i64 24] 5 177) rfl rfl (by kernel_rfl) (by kernel_rfl) rfl (fun v A B h hk => h.keep hk) ?_
  (apply rat; (focus (intro w' hk; obtain ⟨q0,q1,q2,q3⟩ := look4 hk c0 c1 c2 k1; repeat' (first | exact rn | ((first | refine' rv ?_ rfl rfl (by go_simp; first | done | with_reducible rfl | exact rfl) | refine' rc ?_ (by exact rfl) (by exact rfl) (by go_simp; first | done | (constructor <;> with_reducible rfl) | with_reducible rfl) (by first | first | exact HW.out w' | exact HN.out w' | exact HH.out w' | exact HE.out w' (kpi hk hg1)) | refine' rs ?_ rfl rfl); try simp only [Act.put, List.setIfInBounds_toArray, List.set_cons_zero, List.set_cons_succ])))))
  refine ⟨rfl, sure_rows (fun w' _ => by go_simp), ?_⟩
  rintro v W2 hk2 ⟨b, rfl, hb, hbc⟩
  simp only [List.drop_succ_cons, List.drop_zero, List.setIfInBounds_toArray, List.set_cons_zero, List.set_cons_succ]
  have hg2 := kpi hk2 hg1
  have k3 := look hk2 k1
  replace hB := hB.trans (hk2.whole.mono hB.size)
  clear hk2 hg1 c0 c1 c2 k0 k1 HE HW HN HH hz hz'
  go_wp2_with fail
  refine (first5_any _ _ _ _ _ _ _ _ _ _ b _ _ hbc).mono ?_
  rintro e w3 ⟨he, hb3⟩
  rw [← HR.out] at he
  subst he
  have hg3 := kp hb3 hg2
  have k4 := (hb3.cell (lt_of_cell k3)).trans k3
  replace hB := tr hB hb3
  clear hb3 hg2 hbc k3
  have q0 := heap_setCell_same w3 g 0 _ _ (.int .i64 n) hg3
  change _ = some (Obj.cells (stC ⟨n, true, true, la, lo, iso⟩) _ _) at q0
  have hK := ((keepB hB).mono (fun _ _ h => h.elim) : KeepBut (fun k => k = g) w w3).setCell (p := ⟨g, 0, none⟩) rfl (.int .i64 n)
  obtain ⟨c0, -⟩ := cells6 hg3
  have z0 := frozen0 hg3 0
  go_wp2_with fail
  go_ret
  exact ⟨rfl, hK, _, q0, fun _ => rfl⟩
theorem goes_any (s : Dw.St) (hi : 0 ≤ s.iso ∧ s.iso ≤ 15) (c : Dw.Cmd) (g : Nat) (w : World) (hg : w.heap[g]? = some (.cells (stC s) 140 (0, 0))) :
    Calls Tryz.prog 87 #[.pointer (some ⟨g, 0, none⟩), cmV c] w (CEnd { s with mo := c.n } (Dw.goesE s c.n) g w) := by
  obtain ⟨mo, ar, ho, la, lo, iso⟩ := s
  obtain ⟨ki, n, cla, clo⟩ := c
  cases ar <;> cases ho
  · exact goes_ff mo la lo iso hi ki n cla clo g w hg
  · exact goes_ft mo la lo iso hi ki n cla clo g w hg
  · exact goes_tf mo la lo iso hi ki n cla clo g w hg
  · exact goes_tt mo la lo iso hi ki n cla clo g w hg
theorem run_upd {P : Program} {T K E : TypeId} {r : Nat} {es : Array MapEntry} {clock : Nat} {k : Int} {v : Value} {w : World} (hT : P.underlying T = some (.map K E)) (hK : P.underlying K = some (.int .i64)) (hr : w.heap[r]? = some (.map es clock))
    (hn : Instr.findNow (.int .i64) (.int .i64 k) es.toList 0 = some none) :
    (Instr.mapUpdate T (.map (some r)) (.int .i64 k) v).run P w = .ok () (w.putObj r (.map (es.push { key := .int .i64 k, val := v, born := clock }) (clock + 1))) := by
  have h1 : (getObj r).run P w = .ok (.map es clock) w := by simp [getObj, Sem.run, hr]
  have h2 : ∀ o, (setObj r o).run P w = .ok () (w.putObj r o) := fun o => by simp [setObj, Sem.run, hr, World.putObj]
  have hc : ∀ b, (Instr.checkKey b 10000 K (.int .i64 k)).run P w = .ok () w := fun b => by
    show (Instr.checkKey b (9999 + 1) K (.int .i64 k)).run P w = _
    rw [Instr.checkKey]
    simp [Sem.run_bind, run_underlying hK w]
  simp [Instr.mapUpdate, Sem.run_bind, run_underlying hT w, run_underlying hK w, h1, h2, hc, Instr.findKey, hn]
theorem run_look {P : Program} {T K E : TypeId} {r : Nat} {es : Array MapEntry} {clock : Nat} {k : Int} {i : Nat} {v : Value} {w : World} (hT : P.underlying T = some (.map K E)) (hK : P.underlying K = some (.int .i64)) (hr : w.heap[r]? = some (.map es clock))
    (hn : Instr.findNow (.int .i64) (.int .i64 k) es.toList 0 = some (some (i, v))) :
    (Instr.lookup T (.map (some r)) (.int .i64 k) true).run P w = .ok (.tuple #[v, .bool true]) w := by
  have h1 : (getObj r).run P w = .ok (.map es clock) w := by simp [getObj, Sem.run, hr]
  have hc : ∀ b, (Instr.checkKey b 10000 K (.int .i64 k)).run P w = .ok () w := fun b => by
    show (Instr.checkKey b (9999 + 1) K (.int .i64 k)).run P w = _
    rw [Instr.checkKey]
    simp [Sem.run_bind, run_underlying hK w]
  simp [Instr.lookup, Sem.run_bind, run_underlying hT w, run_underlying hK w, h1, hc, Instr.findKey, hn]
theorem run_lookno {P : Program} {T K E : TypeId} {r : Nat} {es : Array MapEntry} {clock : Nat} {k : Int} {z : Value} {w : World} (hT : P.underlying T = some (.map K E)) (hK : P.underlying K = some (.int .i64)) (hr : w.heap[r]? = some (.map es clock))
    (hn : Instr.findNow (.int .i64) (.int .i64 k) es.toList 0 = some none) (hz : (zeroValue E).run P w = .ok z w) :
    (Instr.lookup T (.map (some r)) (.int .i64 k) true).run P w = .ok (.tuple #[z, .bool false]) w := by
  have h1 : (getObj r).run P w = .ok (.map es clock) w := by simp [getObj, Sem.run, hr]
  have hc : ∀ b, (Instr.checkKey b 10000 K (.int .i64 k)).run P w = .ok () w := fun b => by
    show (Instr.checkKey b (9999 + 1) K (.int .i64 k)).run P w = _
    rw [Instr.checkKey]
    simp [Sem.run_bind, run_underlying hK w]
  simp [Instr.lookup, Sem.run_bind, run_underlying hT w, run_underlying hK w, h1, hc, Instr.findKey, hn, hz]
theorem wpList_insert {P : Program} {w : World} {ops : Array Oper} {rest : List Oper} {o : Oper} {a : Act} {Q : Exit → Act → World → Prop} (hg : o.guard = none) (T : TypeId) (m k x : Operand) (hop : o.op = .insert T m k x)
    {r : Nat} {n : Int} {v : Value} {K E : TypeId} {es es' : Array MapEntry} {clock : Nat} (hm : a.eval m = .map (some r)) (hk : a.eval k = .int .i64 n) (hx : a.eval x = v)
    (hT : P.underlying T = some (.map K E)) (hK : P.underlying K = some (.int .i64)) (hr : w.heap[r]? = some (.map es clock)) (hn : Instr.findNow (.int .i64) (.int .i64 n) es.toList 0 = some none) (he : es.push { key := .int .i64 n, val := v, born := clock } = es')
    (h : wpList P ops Q rest (a.put o.dst undef) (w.putObj r (.map es' (clock + 1)))) : wpList P ops Q (o :: rest) a w := by
  refine wpList_plain hg fun KK hKK => ?_
  unfold Oper.wp
  have hl := run_upd (v := v) hT hK hr hn
  rw [he] at hl
  have e : (execOp a.eval o).run P w = .ok .skip (w.putObj r (.map es' (clock + 1))) := by
    unfold execOp
    rw [hop]
    simp only [hm, hk, hx]
    simp [hl, Result.andThen]
  rw [e]
  exact hKK _ _ h
theorem wpList_lookup {P : Program} {w : World} {ops : Array Oper} {rest : List Oper} {o : Oper} {a : Act} {Q : Exit → Act → World → Prop} (hg : o.guard = none) (T : TypeId) (m k : Operand) (hop : o.op = .lookup T m k true)
    {vm vk v : Value} (hm : a.eval m = vm) (hk : a.eval k = vk) (hl : (Instr.lookup T vm vk true).run P w = .ok v w)
    (h : wpList P ops Q rest (a.put o.dst v) w) : wpList P ops Q (o :: rest) a w := by
  refine wpList_plain hg fun KK hKK => ?_
  unfold Oper.wp
  have e : (execOp a.eval o).run P w = .ok (.value v) w := by
    unfold execOp
    rw [hop]
    simp only [hm, hk]
    simp [hl, Result.andThen]
  rw [e]
  exact hKK _ _ h
abbrev mth (g f : Nat) : Value := .func (.func f) #[.pointer (some ⟨g, 0, none⟩)] #[]
abbrev ent (g : Nat) (k : Int) (f b : Nat) : MapEntry := { key := .int .i64 k, val := mth g f, born := b }
abbrev es1 (g : Nat) : Array MapEntry := #[ent g 1 87 0]
abbrev es2 (g : Nat) : Array MapEntry := #[ent g 1 87 0, ent g 2 88 1]
abbrev es3 (g : Nat) : Array MapEntry := #[ent g 1 87 0, ent g 2 88 1, ent g 3 89 2]
abbrev es4 (g : Nat) : Array MapEntry := #[ent g 1 87 0, ent g 2 88 1, ent g 3 89 2, ent g 4 90 3]
abbrev es5 (g : Nat) : Array MapEntry := #[ent g 1 87 0, ent g 2 88 1, ent g 3 89 2, ent g 4 90 3, ent g 5 91 4]
abbrev es6 (g : Nat) : Array MapEntry := #[ent g 1 87 0, ent g 2 88 1, ent g 3 89 2, ent g 4 90 3, ent g 5 91 4, ent g 6 91 5]
theorem mapT : Tryz.prog.underlying 143 = some (.map 3 141) := Tryz.underlying143
theorem mapK : Tryz.prog.underlying 3 = some (.int .i64) := Tryz.underlying3
theorem delta_core (s : Dw.St) (c : Dw.Cmd) (F i : Nat) (T : Dw.St) (er : Int) (w : World) (hcf : ∀ args w, (callFunc F args).run Tryz.prog w = .ok (.enter F args) w)
    (hki : ∀ g, Instr.findNow (.int .i64) (.int .i64 c.ki) (es6 g).toList 0 = some (some (i, mth g F)))
    (HM : ∀ (g : Nat) (w' : World), w'.heap[g]? = some (.cells (stC s) 140 (0, 0)) → Calls Tryz.prog F #[.pointer (some ⟨g, 0, none⟩), cmV c] w' (CEnd T er g w')) :
    Calls Tryz.prog 53 #[stV s, cmV c] w fun e w' => e = .returned (.tuple #[stV (if er = 0 then T else s), .int .i64 er]) ∧ Below w.heap.size w w' := by
  have hmf : ∀ (fn : Fn) (first cap : Array Value) (w : World), (Instr.makeFunc fn first cap).run Tryz.prog w = .ok (.func fn first cap) w := fun _ _ _ _ => rfl
  have hmm : ∀ (t : TypeId) (w : World), (Instr.makeMap t none).run Tryz.prog w = .ok (.map (some w.heap.size)) (w.alloc (.map #[] 0)) := fun _ _ => rfl
  obtain ⟨V, hV⟩ : ∃ V, ((((w.alloc (.cells (stC s) 28)).alloc (.cells (cmC c) 67)).alloc (.cells Z6 28)).alloc (.cells (stC s) 140)).alloc (.map #[] 0) = V := ⟨_, rfl⟩
  obtain ⟨vz, vB, b0, b1, b2, b3, b4⟩ := alloc5 w _ _ _ _ _ V hV
  obtain ⟨M1, h1⟩ : ∃ M, V.putObj (w.heap.size + 4) (.map (es1 (w.heap.size + 3)) 1) = M := ⟨_, rfl⟩
  have k1 : KeepBut (fun k => k = w.heap.size + 4) V M1 := by rw [← h1]; exact (KeepBut.putObj _ rfl)
  have r1 : M1.heap[w.heap.size + 4]? = some (.map (es1 (w.heap.size + 3)) 1) := by rw [← h1]; exact World.putObj_heap_same (by have := vz; omega)
  obtain ⟨M2, h2⟩ : ∃ M, M1.putObj (w.heap.size + 4) (.map (es2 (w.heap.size + 3)) 2) = M := ⟨_, rfl⟩
  have k2 : KeepBut (fun k => k = w.heap.size + 4) V M2 := by rw [← h2]; exact k1.trans (KeepBut.putObj _ rfl)
  have r2 : M2.heap[w.heap.size + 4]? = some (.map (es2 (w.heap.size + 3)) 2) := by rw [← h2]; exact World.putObj_heap_same (by have := k1.size; omega)
  obtain ⟨M3, h3⟩ : ∃ M, M2.putObj (w.heap.size + 4) (.map (es3 (w.heap.size + 3)) 3) = M := ⟨_, rfl⟩
  have k3 : KeepBut (fun k => k = w.heap.size + 4) V M3 := by rw [← h3]; exact k2.trans (KeepBut.putObj _ rfl)
  have r3 : M3.heap[w.heap.size + 4]? = some (.map (es3 (w.heap.size + 3)) 3) := by rw [← h3]; exact World.putObj_heap_same (by have := k2.size; omega)
  obtain ⟨M4, h4⟩ : ∃ M, M3.putObj (w.heap.size + 4) (.map (es4 (w.heap.size + 3)) 4) = M := ⟨_, rfl⟩
  have k4 : KeepBut (fun k => k = w.heap.size + 4) V M4 := by rw [← h4]; exact k3.trans (KeepBut.putObj _ rfl)
  have r4 : M4.heap[w.heap.size + 4]? = some (.map (es4 (w.heap.size + 3)) 4) := by rw [← h4]; exact World.putObj_heap_same (by have := k3.size; omega)
  obtain ⟨M5, h5⟩ : ∃ M, M4.putObj (w.heap.size + 4) (.map (es5 (w.heap.size + 3)) 5) = M := ⟨_, rfl⟩
  have k5 : KeepBut (fun k => k = w.heap.size + 4) V M5 := by rw [← h5]; exact k4.trans (KeepBut.putObj _ rfl)
  have r5 : M5.heap[w.heap.size + 4]? = some (.map (es5 (w.heap.size + 3)) 5) := by rw [← h5]; exact World.putObj_heap_same (by have := k4.size; omega)
  obtain ⟨M6, h6⟩ : ∃ M, M5.putObj (w.heap.size + 4) (.map (es6 (w.heap.size + 3)) 6) = M := ⟨_, rfl⟩
  have k6 : KeepBut (fun k => k = w.heap.size + 4) V M6 := by rw [← h6]; exact k5.trans (KeepBut.putObj _ rfl)
  have r6 : M6.heap[w.heap.size + 4]? = some (.map (es6 (w.heap.size + 3)) 6) := by rw [← h6]; exact World.putObj_heap_same (by have := k5.size; omega)
  have hB := vB.trans (k6.below vB.size (fun k hk => by omega))
  have hLK : (Instr.lookup 143 (.map (some (w.heap.size + 4))) (.int .i64 c.ki) true).run Tryz.prog M6 = .ok (.tuple #[mth (w.heap.size + 3) F, .bool true]) M6 := run_look mapT mapK r6 (hki _)
  have e0 := (k6.block _ (block_lt b0) (by omega)).trans b0
  have e1 := (k6.block _ (block_lt b1) (by omega)).trans b1
  have e2 := (k6.block _ (block_lt b2) (by omega)).trans b2
  have e3 := (k6.block _ (block_lt b3) (by omega)).trans b3
  have HLK := Lib.hid hLK
  obtain ⟨x0, x1, -⟩ := cells4 e1
  clear hLK k1 k2 k3 k4 k5 k6 vB b1 b2 b3 r6
  go_enter Tryz.func53, Tryz.ntmps53
  go_wp2_with (first | (refine lb b0 rfl rfl rfl (by kernel_rfl) ?_) | (refine sb b0 rfl rfl rfl rfl (by kernel_rfl) ?_) | (refine wpList_insert rfl 143 _ _ _ rfl (es' := es1 (w.heap.size + 3)) rfl rfl rfl mapT mapK b4 (by rfl) (by rfl) ?_) | (refine wpList_insert rfl 143 _ _ _ rfl (es' := es2 (w.heap.size + 3)) rfl rfl rfl mapT mapK r1 (by rfl) (by rfl) ?_) | (refine wpList_insert rfl 143 _ _ _ rfl (es' := es3 (w.heap.size + 3)) rfl rfl rfl mapT mapK r2 (by rfl) (by rfl) ?_) | (refine wpList_insert rfl 143 _ _ _ rfl (es' := es4 (w.heap.size + 3)) rfl rfl rfl mapT mapK r3 (by rfl) (by rfl) ?_) | (refine wpList_insert rfl 143 _ _ _ rfl (es' := es5 (w.heap.size + 3)) rfl rfl rfl mapT mapK r4 (by rfl) (by rfl) ?_) | (refine wpList_insert rfl 143 _ _ _ rfl (es' := es6 (w.heap.size + 3)) rfl rfl rfl mapT mapK r5 (by rfl) (by rfl) ?_) | (refine wpList_lookup rfl 143 _ _ rfl rfl rfl HLK.out ?_) | (refine lb e1 rfl rfl rfl (by kernel_rfl) ?_) | (refine sb e1 rfl rfl rfl rfl (by kernel_rfl) ?_))
  refine (HM _ _ e3).mono ?_
  rintro e w7 ⟨rfl, hk, s', hs', hT⟩
  have f0 := (hk.block _ (block_lt e0) (by omega)).trans e0
  have f2 := (hk.block _ (block_lt e2) (by omega)).trans e2
  have hB7 := hB.trans (hk.below hB.size (fun k hk => by omega))
  clear hk HM e0 e1 e2 e3 x0 x1 hV h1 h2 h3 h4 h5 h6 HLK hki hcf
  by_cases her : er = 0
  · subst her
    obtain rfl := hT rfl
    go_wp2_with (first | (refine lp 28 0 (stC s') hs' rfl rfl rfl (by kernel_rfl) (by rfl) ?_) | (refine lb f2 rfl rfl rfl (by kernel_rfl) ?_) | (refine sb f2 rfl rfl rfl rfl (by kernel_rfl) ?_))
    refine bodyPost_ret (rct rfl (srh f2) (by rfl) (by kernel_rfl)) rfl ⟨?_, below_setRow hB7 (by omega) _⟩
    first | rfl | (rw [if_pos rfl]; rfl)
  · have her' : (er == 0) = false := by simpa using her
    go_wp2_with (first | (refine lb f0 rfl rfl rfl (by kernel_rfl) ?_) | (refine sb f0 rfl rfl rfl rfl (by kernel_rfl) ?_) | (refine lb f2 rfl rfl rfl (by kernel_rfl) ?_) | (refine sb f2 rfl rfl rfl rfl (by kernel_rfl) ?_))
    refine bodyPost_ret (rct rfl (srh f2) (by rfl) (by kernel_rfl)) rfl ⟨?_, below_setRow hB7 (by omega) _⟩
    first | (rw [if_neg her]; rfl) | rfl
theorem delta_none (s : Dw.St) (c : Dw.Cmd) (w : World)
    (hki : ∀ g, Instr.findNow (.int .i64) (.int .i64 c.ki) (es6 g).toList 0 = some none) :
    Calls Tryz.prog 53 #[stV s, cmV c] w fun e w' => e = .returned (.tuple #[stV s, .int .i64 1]) ∧ Below w.heap.size w w' := by
  have hmf : ∀ (fn : Fn) (first cap : Array Value) (w : World), (Instr.makeFunc fn first cap).run Tryz.prog w = .ok (.func fn first cap) w := fun _ _ _ _ => rfl
  have hmm : ∀ (t : TypeId) (w : World), (Instr.makeMap t none).run Tryz.prog w = .ok (.map (some w.heap.size)) (w.alloc (.map #[] 0)) := fun _ _ => rfl
  obtain ⟨V, hV⟩ : ∃ V, ((((w.alloc (.cells (stC s) 28)).alloc (.cells (cmC c) 67)).alloc (.cells Z6 28)).alloc (.cells (stC s) 140)).alloc (.map #[] 0) = V := ⟨_, rfl⟩
  obtain ⟨vz, vB, b0, b1, b2, b3, b4⟩ := alloc5 w _ _ _ _ _ V hV
  obtain ⟨M1, h1⟩ : ∃ M, V.putObj (w.heap.size + 4) (.map (es1 (w.heap.size + 3)) 1) = M := ⟨_, rfl⟩
  have k1 : KeepBut (fun k => k = w.heap.size + 4) V M1 := by rw [← h1]; exact (KeepBut.putObj _ rfl)
  have r1 : M1.heap[w.heap.size + 4]? = some (.map (es1 (w.heap.size + 3)) 1) := by rw [← h1]; exact World.putObj_heap_same (by have := vz; omega)
  obtain ⟨M2, h2⟩ : ∃ M, M1.putObj (w.heap.size + 4) (.map (es2 (w.heap.size + 3)) 2) = M := ⟨_, rfl⟩
  have k2 : KeepBut (fun k => k = w.heap.size + 4) V M2 := by rw [← h2]; exact k1.trans (KeepBut.putObj _ rfl)
  have r2 : M2.heap[w.heap.size + 4]? = some (.map (es2 (w.heap.size + 3)) 2) := by rw [← h2]; exact World.putObj_heap_same (by have := k1.size; omega)
  obtain ⟨M3, h3⟩ : ∃ M, M2.putObj (w.heap.size + 4) (.map (es3 (w.heap.size + 3)) 3) = M := ⟨_, rfl⟩
  have k3 : KeepBut (fun k => k = w.heap.size + 4) V M3 := by rw [← h3]; exact k2.trans (KeepBut.putObj _ rfl)
  have r3 : M3.heap[w.heap.size + 4]? = some (.map (es3 (w.heap.size + 3)) 3) := by rw [← h3]; exact World.putObj_heap_same (by have := k2.size; omega)
  obtain ⟨M4, h4⟩ : ∃ M, M3.putObj (w.heap.size + 4) (.map (es4 (w.heap.size + 3)) 4) = M := ⟨_, rfl⟩
  have k4 : KeepBut (fun k => k = w.heap.size + 4) V M4 := by rw [← h4]; exact k3.trans (KeepBut.putObj _ rfl)
  have r4 : M4.heap[w.heap.size + 4]? = some (.map (es4 (w.heap.size + 3)) 4) := by rw [← h4]; exact World.putObj_heap_same (by have := k3.size; omega)
  obtain ⟨M5, h5⟩ : ∃ M, M4.putObj (w.heap.size + 4) (.map (es5 (w.heap.size + 3)) 5) = M := ⟨_, rfl⟩
  have k5 : KeepBut (fun k => k = w.heap.size + 4) V M5 := by rw [← h5]; exact k4.trans (KeepBut.putObj _ rfl)
  have r5 : M5.heap[w.heap.size + 4]? = some (.map (es5 (w.heap.size + 3)) 5) := by rw [← h5]; exact World.putObj_heap_same (by have := k4.size; omega)
  obtain ⟨M6, h6⟩ : ∃ M, M5.putObj (w.heap.size + 4) (.map (es6 (w.heap.size + 3)) 6) = M := ⟨_, rfl⟩
  have k6 : KeepBut (fun k => k = w.heap.size + 4) V M6 := by rw [← h6]; exact k5.trans (KeepBut.putObj _ rfl)
  have r6 : M6.heap[w.heap.size + 4]? = some (.map (es6 (w.heap.size + 3)) 6) := by rw [← h6]; exact World.putObj_heap_same (by have := k5.size; omega)
  have hB := vB.trans (k6.below vB.size (fun k hk => by omega))
  have hLK : (Instr.lookup 143 (.map (some (w.heap.size + 4))) (.int .i64 c.ki) true).run Tryz.prog M6 = .ok (.tuple #[.nilFunc, .bool false]) M6 := run_lookno mapT mapK r6 (hki _) (by go_simp)
  have e0 := (k6.block _ (block_lt b0) (by omega)).trans b0
  have e1 := (k6.block _ (block_lt b1) (by omega)).trans b1
  have e2 := (k6.block _ (block_lt b2) (by omega)).trans b2
  have e3 := (k6.block _ (block_lt b3) (by omega)).trans b3
  have HLK := Lib.hid hLK
  obtain ⟨x0, x1, -⟩ := cells4 e1
  clear hLK k1 k2 k3 k4 k5 k6 vB b1 b2 b3 r6
  go_enter Tryz.func53, Tryz.ntmps53
  go_wp2_with (first | (refine lb b0 rfl rfl rfl (by kernel_rfl) ?_) | (refine sb b0 rfl rfl rfl rfl (by kernel_rfl) ?_) | (refine wpList_insert rfl 143 _ _ _ rfl (es' := es1 (w.heap.size + 3)) rfl rfl rfl mapT mapK b4 (by rfl) (by rfl) ?_) | (refine wpList_insert rfl 143 _ _ _ rfl (es' := es2 (w.heap.size + 3)) rfl rfl rfl mapT mapK r1 (by rfl) (by rfl) ?_) | (refine wpList_insert rfl 143 _ _ _ rfl (es' := es3 (w.heap.size + 3)) rfl rfl rfl mapT mapK r2 (by rfl) (by rfl) ?_) | (refine wpList_insert rfl 143 _ _ _ rfl (es' := es4 (w.heap.size + 3)) rfl rfl rfl mapT mapK r3 (by rfl) (by rfl) ?_) | (refine wpList_insert rfl 143 _ _ _ rfl (es' := es5 (w.heap.size + 3)) rfl rfl rfl mapT mapK r4 (by rfl) (by rfl) ?_) | (refine wpList_insert rfl 143 _ _ _ rfl (es' := es6 (w.heap.size + 3)) rfl rfl rfl mapT mapK r5 (by rfl) (by rfl) ?_) | (refine wpList_lookup rfl 143 _ _ rfl rfl rfl HLK.out ?_) | (refine lb e0 rfl rfl rfl (by kernel_rfl) ?_) | (refine sb e0 rfl rfl rfl rfl (by kernel_rfl) ?_) | (refine lb e2 rfl rfl rfl (by kernel_rfl) ?_) | (refine sb e2 rfl rfl rfl rfl (by kernel_rfl) ?_))
  refine bodyPost_ret (rct rfl (srh e2) (by rfl) (by kernel_rfl)) rfl ⟨?_, below_setRow hB (by omega) _⟩
  rfl
theorem delta_go (s : Dw.St) (hi : 0 ≤ s.iso ∧ s.iso ≤ 15) (c : Dw.Cmd) (h : c.ki = 1) (w : World) :
    Calls Tryz.prog 53 #[stV s, cmV c] w fun e w' => e = .returned (.tuple #[stV (Dw.deltaS s c), .int .i64 (Dw.deltaE s c)]) ∧ Below w.heap.size w w' := by
  have h1 : Dw.deltaE s c = Dw.goesE s c.n := by unfold Dw.deltaE; rw [if_pos h]
  have h2 : Dw.deltaS s c = if Dw.goesE s c.n = 0 then { s with mo := c.n } else s := by unfold Dw.deltaS; rw [h1]; unfold Dw.deltaT; rw [if_pos h]
  rw [h1, h2]
  exact delta_core s c 87 0 _ _ w (fun args w => by go_simp) (fun g => by rw [h]; rfl) (fun g w' hg => goes_any s hi c g w' hg)
theorem delta_arm (s : Dw.St) (hi : 0 ≤ s.iso ∧ s.iso ≤ 15) (c : Dw.Cmd) (h : c.ki = 2) (w : World) :
    Calls Tryz.prog 53 #[stV s, cmV c] w fun e w' => e = .returned (.tuple #[stV (Dw.deltaS s c), .int .i64 (Dw.deltaE s c)]) ∧ Below w.heap.size w w' := by
  have h0 : ¬ c.ki = 1 := by omega
  have h1 : Dw.deltaE s c = Dw.armE s := by unfold Dw.deltaE; rw [if_neg h0, if_pos h]
  have h2 : Dw.deltaS s c = if Dw.armE s = 0 then { s with ar := true, mo := 1 } else s := by unfold Dw.deltaS; rw [h1]; unfold Dw.deltaT; rw [if_neg h0, if_pos h]
  rw [h1, h2]
  exact delta_core s c 88 1 _ _ w (fun args w => by go_simp) (fun g => by rw [h]; rfl) (fun g w' hg => arm_any s hi c g w' hg)
end Go.Proofs.YtjibbchfndhhpaaGreatDoor
