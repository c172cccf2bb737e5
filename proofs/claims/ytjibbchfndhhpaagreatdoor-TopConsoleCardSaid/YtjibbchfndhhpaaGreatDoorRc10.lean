/- What the statement's proof stands on, part 10: Deb3. -/
import Derived.Test.YtjibbchfndhhpaaGreatDoorRc9
import Derived.Deep.RegionHeld3
import Derived.Deep.DrawnRows
import Derived.Outline
set_option linter.unusedSimpArgs false
set_option linter.unusedVariables false
set_option maxRecDepth 100000
set_option maxHeartbeats 4000000
namespace Go.Proofs.YtjibbchfndhhpaaGreatDoor
open Go.RowKit Go.Shelf
attribute [local go_sem] Oper.semAt_some
attribute [local go_sem ↓] Go.wp_at_zero Go.wp_at_succ
theorem all_any (c n : Int) (sv : Value) (zs : List Int) (hreach : zs.length * 8 ≤ 140737488351232) (w : World) (hI : Ints (fun _ => False) w sv zs) (hsv : ∃ a len cap, sv = .slice a len cap) :
    Calls Tryz.prog 133 #[.agg #[.int .i64 c, .int .i64 n], sv] w fun e w' => e = .returned (.agg #[.int .i64 (allC (c, n) zs).1, .int .i64 (allC (c, n) zs).2]) ∧ Below w.heap.size w w' := by
  refine (callsIn_wide (n := 9)).1 (callsIn_of_wp_marks Tryz.func133 rfl trivial (wpIn_wide.2 ?_) rfl)
  simp only [Tryz.ntmps133, List.size_toArray, List.length_cons, List.length_nil, Nat.reduceAdd, Nat.reduceSub, Array.replicate_succ, Array.replicate_zero, List.push_toArray, List.append_toArray, List.nil_append, List.cons_append]
  go_wp2_with fail
  go_region_held3 (fun w' => w'.cell? ⟨w.heap.size, 0, none⟩ = some (.int .i64 c) ∧ w'.cell? ⟨w.heap.size, 1, none⟩ = some (.int .i64 n)) (constructor <;> simp [go_sem])
    (first | (go_at_call 170; refine (values_any sv hsv _).mono ?_; rintro e w' ⟨rfl, rfl⟩) | (go_at_call 169; refine (counts_any _ _ _ _ _).mono ?_; rintro e w' ⟨rfl, rfl⟩))
  go_wp2_with fail
  obtain ⟨V, hV⟩ : ∃ V, (((((w.alloc (.cells #[.int .i64 c, .int .i64 n] 43)).alloc (.cells #[.int .i64 0, .int .i64 0] 43)).alloc (.cells #[sv] 94)).alloc (.cells #[.int .i64 c, .int .i64 n] 43)).alloc
    (.cells #[.func (.func 200) #[] #[.pointer (some ⟨w.heap.size + 1 + 1, 0, none⟩)]] 249)).drew = V := ⟨_, rfl⟩
  have kV : KeepBut (fun _ => False) w V := by rw [← hV]; exact ((((((KeepBut.refl _ w).alloc _).alloc _).alloc _).alloc _).alloc _).drew
  have vz : V.heap.size = w.heap.size + 5 := by rw [← hV]; simp
  have a0 : V.cell? ⟨w.heap.size, 0, none⟩ = some (.int .i64 c) := by rw [← hV]; simp [go_sem]
  have a1 : V.cell? ⟨w.heap.size, 1, none⟩ = some (.int .i64 n) := by rw [← hV]; simp [go_sem]
  have f0 : V.frozen? ⟨w.heap.size, 0, none⟩ = false := by rw [← hV]; simp [go_sem]
  have f1 : V.frozen? ⟨w.heap.size, 1, none⟩ = false := by rw [← hV]; simp [go_sem]
  have r0 : V.cell? ⟨w.heap.size + 1, 0, none⟩ = some (.int .i64 0) := by rw [← hV]; simp [go_sem]
  have r1 : V.cell? ⟨w.heap.size + 1, 1, none⟩ = some (.int .i64 0) := by rw [← hV]; simp [go_sem]
  have rf0 : V.frozen? ⟨w.heap.size + 1, 0, none⟩ = false := by rw [← hV]; simp [go_sem]
  have rf1 : V.frozen? ⟨w.heap.size + 1, 1, none⟩ = false := by rw [← hV]; simp [go_sem]
  have s0 : V.cell? ⟨w.heap.size + 1 + 1, 0, none⟩ = some sv := by rw [← hV]; simp [go_sem]
  have d0 : V.cell? ⟨w.heap.size + 1 + 1 + 1, 0, none⟩ = some (.int .i64 c) := by rw [← hV]; simp [go_sem]
  have d1 : V.cell? ⟨w.heap.size + 1 + 1 + 1, 1, none⟩ = some (.int .i64 n) := by rw [← hV]; simp [go_sem]
  have g0 : V.frozen? ⟨w.heap.size + 1 + 1 + 1, 0, none⟩ = false := by rw [← hV]; simp [go_sem]
  have g1 : V.frozen? ⟨w.heap.size + 1 + 1 + 1, 1, none⟩ = false := by rw [← hV]; simp [go_sem]
  have l0 : V.cell? ⟨w.heap.size + 1 + 1 + 1 + 1, 0, none⟩ = some (.func (.func 200) #[] #[.pointer (some ⟨w.heap.size + 1 + 1, 0, none⟩)]) := by rw [← hV]; simp [go_sem]
  have vI : Ints (fun k => k = w.heap.size ∨ k = w.heap.size + 1 + 1 + 1) V sv zs := by
    rcases hI with h | ⟨b, off, cap, e, hb, _, hc⟩
    · exact .inl h
    · exact .inr ⟨b, off, cap, e, by omega, by omega, fun j hj => (kV.cell (p := ⟨b, off + j, none⟩) hb id).trans (hc j hj)⟩
  rw [hV]
  have T := counts_tells (w.heap.size + 1 + 1 + 1 + 1) (w.heap.size + 1 + 1 + 1) (w.heap.size + 1 + 1) sv (c, n) zs hreach (fun k => k = w.heap.size) V (by omega) (by omega) (by omega) (by omega) l0 s0 vI d0 d1 g0 g1
  clear s0 d0 d1 g0 g1 l0 vI
  refine wpIn_wide.1 (wp_tells (n := 7) (gf := 199) rfl (enters_of Tryz.func199 (by kernel_rfl) rfl) T
    (by omega) (by omega) (fun _ => rfl)
    (fun pre U => (∃ x : Int × Int, x = pre.getLastD (c, n) ∧ U.cell? ⟨w.heap.size, 0, none⟩ = some (.int .i64 x.1) ∧ U.cell? ⟨w.heap.size, 1, none⟩ = some (.int .i64 x.2)) ∧ U.frozen? ⟨w.heap.size, 0, none⟩ = false ∧ U.frozen? ⟨w.heap.size, 1, none⟩ = false ∧
      U.cell? ⟨w.heap.size + 1, 0, none⟩ = some (.int .i64 0) ∧ U.cell? ⟨w.heap.size + 1, 1, none⟩ = some (.int .i64 0) ∧ U.frozen? ⟨w.heap.size + 1, 0, none⟩ = false ∧ U.frozen? ⟨w.heap.size + 1, 1, none⟩ = false ∧ Below w.heap.size w U)
    (fun _ _ _ => False)
    ?hI (fun _ _ _ _ h _ => h) ⟨⟨(c, n), rfl, a0, a1⟩, f0, f1, r0, r1, rf0, rf1, kV.below (Nat.le_refl _) (fun _ h => h.elim)⟩
    (fun x => { tmps := #[.agg #[.int .i64 c, .int .i64 n], sv, .pointer (some ⟨w.heap.size, 0, none⟩), undef, .pointer (some ⟨w.heap.size + 1, 0, none⟩), .agg #[.int .i64 c, .int .i64 n], sv,
      .func (.func 200) #[] #[.pointer (some ⟨w.heap.size + 1 + 1, 0, none⟩)],
      .func (.func 199) #[] #[.pointer (some ⟨w.heap.size + 1 + 1 + 1 + 1, 0, none⟩), .pointer (some ⟨w.heap.size + 1 + 1 + 1, 0, none⟩)], .agg #[.int .i64 x.1, .int .i64 x.2], undef], defers := [] })
    (fun _ x U => U.cell? ⟨w.heap.size, 0, none⟩ = some (.int .i64 x.1) ∧ U.cell? ⟨w.heap.size, 1, none⟩ = some (.int .i64 x.2) ∧ U.frozen? ⟨w.heap.size, 0, none⟩ = false ∧ U.frozen? ⟨w.heap.size, 1, none⟩ = false ∧
      U.cell? ⟨w.heap.size + 1, 0, none⟩ = some (.int .i64 0) ∧ U.cell? ⟨w.heap.size + 1, 1, none⟩ = some (.int .i64 0) ∧ U.frozen? ⟨w.heap.size + 1, 0, none⟩ = false ∧ U.frozen? ⟨w.heap.size + 1, 1, none⟩ = false ∧ Below w.heap.size w U)
    ?hIA ?assign ?body ?done ?stop)
  case hI =>
    rintro s A B ⟨⟨x, hx, b0, b1⟩, b2, b3, b4, b5, b6, b7, hb⟩ k
    have k' : KeepBut (fun k => w.heap.size + 3 ≤ k) A B := k.mono (fun _ _ h => by omega)
    have e1 : w.heap.size < A.heap.size := lt_of_cell b0
    have e2 : w.heap.size + 1 < A.heap.size := lt_of_cell b4
    exact ⟨⟨x, hx, (k'.cell e1 (by simp)).trans b0, (k'.cell (p := ⟨w.heap.size, 1, none⟩) e1 (by simp)).trans b1⟩, (k'.frozen (p := ⟨w.heap.size, 0, none⟩) e1 (by simp)).trans b2, (k'.frozen (p := ⟨w.heap.size, 1, none⟩) e1 (by simp)).trans b3,
      (k'.cell e2 (by simp)).trans b4, (k'.cell (p := ⟨w.heap.size + 1, 1, none⟩) e2 (by simp)).trans b5, (k'.frozen (p := ⟨w.heap.size + 1, 0, none⟩) e2 (by simp)).trans b6, (k'.frozen (p := ⟨w.heap.size + 1, 1, none⟩) e2 (by simp)).trans b7,
      hb.trans (k'.below (by omega) (by omega))⟩
  case hIA =>
    rintro _ x A B ⟨b0, b1, b2, b3, b4, b5, b6, b7, hb⟩ k
    have k' : KeepBut (fun k => w.heap.size + 3 ≤ k) A B := k.mono (fun _ _ h => by omega)
    have e1 : w.heap.size < A.heap.size := lt_of_cell b0
    have e2 : w.heap.size + 1 < A.heap.size := lt_of_cell b4
    exact ⟨(k'.cell e1 (by simp)).trans b0, (k'.cell (p := ⟨w.heap.size, 1, none⟩) e1 (by simp)).trans b1, (k'.frozen (p := ⟨w.heap.size, 0, none⟩) e1 (by simp)).trans b2, (k'.frozen (p := ⟨w.heap.size, 1, none⟩) e1 (by simp)).trans b3,
      (k'.cell e2 (by simp)).trans b4, (k'.cell (p := ⟨w.heap.size + 1, 1, none⟩) e2 (by simp)).trans b5, (k'.frozen (p := ⟨w.heap.size + 1, 0, none⟩) e2 (by simp)).trans b6, (k'.frozen (p := ⟨w.heap.size + 1, 1, none⟩) e2 (by simp)).trans b7,
      hb.trans (k'.below (by omega) (by omega))⟩
  case assign =>
    rintro l pre x suf U _ _ ⟨⟨y, hy, b0, b1⟩, b2, b3, b4, b5, b6, b7, hb⟩ K hK
    gi_wp2
    refine hK _ (((KeepBut.refl (fun k => k = w.heap.size) U).setCell (p := ⟨w.heap.size, 0, none⟩) rfl _).setCell (p := ⟨w.heap.size, 1, none⟩) rfl _) ?_
    obtain ⟨c0, c1, c2, c3, _, ot⟩ := after_store (v0 := .int .i64 x.1) (v1 := .int .i64 x.2) (X := fun _ => False) b0 b1 b2 b3 id (KeepBut.refl _ _)
    exact ⟨c0, c1, c2, c3, ot _ _ (by simp) id b4, ot _ _ (by simp) id b5, by simpa [go_sem] using b6, by simpa [go_sem] using b7, (hb.setCell (p := ⟨w.heap.size, 0, none⟩) (Nat.le_refl _) _).setCell (p := ⟨w.heap.size, 1, none⟩) (Nat.le_refl _) _⟩
  case body =>
    rintro l pre x suf U _ _ ⟨b0, b1, hr⟩
    gi_wp2
    exact ⟨KeepBut.refl _ _, ⟨x, by simp, b0, b1⟩, hr⟩
  case stop => exact fun _ _ _ _ _ _ h _ => h.elim
  case done =>
    rintro D U hD ⟨⟨x, hx, b0, b1⟩, b2, b3, b4, b5, b6, b7, hb⟩ hK
    have Hx := Lib.hid hx; clear hx
    go_wp2
    obtain ⟨c0, c1, _, _, _, _⟩ := after_store (v0 := .int .i64 x.1) (v1 := .int .i64 x.2) (X := fun _ => False) b4 b5 b6 b7 id (KeepBut.refl _ _)
    have hlt : w.heap.size + 1 < U.heap.size := lt_of_cell b4
    obtain ⟨Z, hZ⟩ : ∃ Z, (U.setCell ⟨w.heap.size + 1, 0, none⟩ (.int .i64 x.1)).setCell ⟨w.heap.size + 1, 1, none⟩ (.int .i64 x.2) = Z := ⟨_, rfl⟩
    have hKZ : Z.heap[D]? = some (.deferred (some [])) := by
      rw [← hZ, Below.heap_setCell _ _ _ _ (by simp; omega), Below.heap_setCell _ _ _ _ (by simp; omega)]; exact hK
    have hbZ : Below w.heap.size w Z := by rw [← hZ]; exact (hb.setCell (p := ⟨w.heap.size + 1, 0, none⟩) (by simp) _).setCell (p := ⟨w.heap.size + 1, 1, none⟩) (by simp) _
    rw [hZ] at c0 c1 ⊢
    have hlz : w.heap.size + 1 < Z.heap.size := lt_of_cell c0
    have d0 := ((KeepBut.putObj (X := fun k => k = D) (w := Z) (.deferred none) rfl).cell (p := ⟨w.heap.size + 1, 0, none⟩) hlz (by simp; omega)).trans c0
    have d1 := ((KeepBut.putObj (X := fun k => k = D) (w := Z) (.deferred none) rfl).cell (p := ⟨w.heap.size + 1, 1, none⟩) hlz (by simp; omega)).trans c1
    refine ⟨by simp, .inl ⟨_, _, rfl, run_takeDeferred hKZ, .agg #[.int .i64 x.1, .int .i64 x.2], by simp [results, Tryz.results133, go_sem, d0, d1], ?_, ?_⟩⟩
    · have hx := Hx.out
      have : x = allC (c, n) zs := by
        rw [hx]
        cases hz : zs.reverse with
        | nil => have : zs = [] := by simpa using hz
                 subst this; rfl
        | cons y ys =>
          have : zs = ys.reverse ++ [y] := by have := congrArg List.reverse hz; simpa using this
          subst this
          rw [scanC_snoc]; simp
      rw [this]
    · exact hbZ.trans ((KeepBut.putObj (X := fun k => k = D) (w := Z) (.deferred none) rfl).below (by omega) (by omega))
theorem bcell {W w1 : World} (hb : Below W.heap.size W w1) : (∀ b o, b < W.heap.size → w1.cell? ⟨b, o, none⟩ = W.cell? ⟨b, o, none⟩) ∧ (∀ b o, b < W.heap.size → w1.frozen? ⟨b, o, none⟩ = W.frozen? ⟨b, o, none⟩) :=
  ⟨fun b o h => hb.cell (p := ⟨b, o, none⟩) h, fun b o h => hb.frozen (p := ⟨b, o, none⟩) h⟩
def verdC (v n : Int) : Int := if 3 ≤ n ∧ (v = 1 ∨ v = 2) then v else 0
theorem verdict_any (v n : Int) (w : World) :
    Calls Tryz.prog 96 #[.agg #[.int .i64 v, .int .i64 n]] w fun e w' => e = .returned (.int .i64 (verdC v n)) ∧ Below w.heap.size w w' := by
  have sayl : saysB v = true → v = 1 ∨ v = 2 := by simp [saysB]
  have sayr : saysB v = false → ¬ (v = 1 ∨ v = 2) := by simp [saysB]
  go_enter Tryz.func96, Tryz.ntmps96
  by_cases hn : n < 3 <;> by_cases hs : saysB v = true
  all_goals
    go_wp2_with (go_at_call 137; refine (says_any _ _).mono ?_; rintro e w' ⟨rfl, rfl⟩)
    go_ret
    refine ⟨?_, by repeat (first | exact Below.refl _ _ | refine Below.alloc ?_ (by simp) _ | refine Below.drew ?_)⟩
    simp_all [verdC]
  all_goals omega
theorem add_any (v n u : Int) (w : World) :
    Calls Tryz.prog 94 #[.agg #[.int .i64 v, .int .i64 n], .int .i64 u] w fun e w' => e = .returned (.agg #[.int .i64 (addV v u), .int .i64 (addN v n u)]) ∧ Below w.heap.size w w' := by
  go_enter Tryz.func94, Tryz.ntmps94
  go_wp2_with fail
  refine (all_any v n _ [u] (by simp) _ ?hI ⟨_, _, _, rfl⟩).mono ?_
  case hI => exact .inr ⟨_, 0, _, rfl, by simp, id, by intro j hj; have : j = 0 := by simpa using hj
                                                       subst this; simp [go_sem]⟩
  rintro e w1 ⟨rfl, hb⟩
  obtain ⟨hc, hf⟩ := bcell hb
  have hz := hb.size
  simp only [World.size_alloc] at hz
  go_wp2_with fail
  have h0 : w1.cell? ⟨w.heap.size + 1, 0, none⟩ = some (.int .i64 0) := (hc _ _ (by simp)).trans (by simp [go_sem])
  have h1 : w1.cell? ⟨w.heap.size + 1, 1, none⟩ = some (.int .i64 0) := (hc _ _ (by simp)).trans (by simp [go_sem])
  refine bodyPost_ret (v := .agg #[.int .i64 (allC (v, n) [u]).1, .int .i64 (allC (v, n) [u]).2]) (by simp [results, Tryz.results94, go_sem, h0, h1]) rfl ⟨rfl, ?_⟩
  exact ((((((Below.refl _ _).alloc (Nat.le_refl _) _).alloc (by simp) _).alloc (by simp <;> omega) _).trans (hb.mono (by simp <;> omega))).setCell (by simp) _).setCell (by simp) _
end Go.Proofs.YtjibbchfndhhpaaGreatDoor
