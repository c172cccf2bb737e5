/- The statements of layer 18: their walks. -/
import Derived.Test.YtjooockdiolalaaDeb4
namespace Go.Proofs.Ytjooockdiolalaa
open Go.RowKit Go.Shelf

/-- A slice value that the call itself has made: its ints. -/
theorem ints_lit {w : World} {b : Nat} {zs : List Int} {c : Array Value} {ty : TypeId} {cap : Nat} (h : w.heap[b]? = some (.cells c ty (0, 0))) (hc : ∀ j, j < zs.length → c[j]? = some (.int .i64 (zs[j]?.getD 0))) : Ints (fun _ => False) w (.slice (some ⟨b, 0, none⟩) zs.length cap) zs :=
  .inr ⟨b, 0, cap, rfl, (Array.getElem?_eq_some_iff.1 h).1, id, fun j hj => by simp [World.cell?, h, hc j hj]⟩

set_option maxHeartbeats 1000000 in
theorem shown_any (w : World) : Calls Try.prog 7 #[] w fun e w' => e = .returned (.bool true) ∧ Below w.heap.size w w' := by
  go_enter Try.func7, Try.ntmps7
  go_wp2_with fail
  refine (all_any 0 0 _ [2, 0, 2, 2] (by simp) _ (ints_lit (World.alloc_heap_new _ _) (by intro j hj; simp at hj; rcases j with _ | _ | _ | _ | j <;> first | rfl | omega)) ⟨_, _, _, rfl⟩).mono ?_
  rintro e w1 ⟨rfl, hb1⟩
  rw [show allC (0, 0) [2, 0, 2, 2] = (2, 3) from rfl]
  go_wp2_with fail
  refine (verdict_any _ _ _).mono ?_
  rintro e w2 ⟨rfl, hb2⟩
  rw [show verdC 2 3 = 2 from rfl]
  go_wp2_with fail
  refine (all_any 0 0 _ [2, 2, 1, 2] (by simp) _ (ints_lit (World.alloc_heap_new _ _) (by intro j hj; simp at hj; rcases j with _ | _ | _ | _ | j <;> first | rfl | omega)) ⟨_, _, _, rfl⟩).mono ?_
  rintro e w3 ⟨rfl, hb3⟩
  rw [show allC (0, 0) [2, 2, 1, 2] = (2, 1) from rfl]
  go_wp2_with fail
  refine (verdict_any _ _ _).mono ?_
  rintro e w4 ⟨rfl, hb4⟩
  rw [show verdC 2 1 = 0 from rfl]
  go_wp2_with fail
  refine (add_any _ _ _ _).mono ?_
  rintro e w5 ⟨rfl, hb5⟩
  rw [show addV 1 1 = 1 from rfl, show addN 1 2 1 = 3 from rfl]
  go_wp2_with fail
  go_ret
  refine ⟨rfl, ?_⟩
  have k1 : Keep w w1 := ((KeepBut.refl _ w).alloc _).trans (KeepBut.of_below' hb1)
  have k3 : Keep w w3 := ((k1.trans (KeepBut.of_below' hb2)).alloc _).trans (KeepBut.of_below' hb3)
  exact ((k3.trans (KeepBut.of_below' hb4)).trans (KeepBut.of_below' hb5)).below (Nat.le_refl _) (fun _ h => h.elim)

set_option maxHeartbeats 2000000 in
theorem tells_all (c n : Int) (sv : Value) (zs : List Int) (v : Int) (w : World) (hI : Ints (fun _ => False) w sv zs) (hsv : ∃ a cap, sv = .slice a zs.length cap) :
    Calls Try.prog 3 #[.agg #[.int .i64 c, .int .i64 n], sv, .int .i64 v] w fun e w' => e = .returned (.bool true) ∧ Below w.heap.size w w' := by
  obtain ⟨sa, scap, rfl⟩ := hsv
  by_cases hl : (100 : Int) < (zs.length : Int)
  · go_enter Try.func3, Try.ntmps3
    go_wp2_with (go_at_call 7; refine (shown_any _).mono ?_; rintro e w1 ⟨rfl, hb1⟩)
    go_ret
    exact ⟨rfl, (((KeepBut.refl _ w).alloc _).trans (keepB hb1)).whole⟩
  · have hreach : zs.length * 8 ≤ 140737488351232 := by omega
    go_enter Try.func3, Try.ntmps3
    go_wp2_with fail
    refine (shown_any _).mono ?_
    rintro e w1 ⟨rfl, hb1⟩
    have k1 : Keep w w1 := ((KeepBut.refl _ w).alloc _).trans (keepB hb1)
    have c0 : w1.cell? ⟨w.heap.size, 0, none⟩ = some (.int .i64 c) := look (keepB hb1) (by simp [go_sem])
    have c1 : w1.cell? ⟨w.heap.size, 1, none⟩ = some (.int .i64 n) := look (keepB hb1) (by simp [go_sem])
    have z1 : w.heap.size < w1.heap.size := lt_of_cell c0
    clear hb1
    go_wp2_with fail
    have d0 : (w1.alloc (.cells #[.int .i64 c, .int .i64 n] 26)).cell? ⟨w.heap.size, 0, none⟩ = some (.int .i64 c) := look ((KeepBut.refl _ w1).alloc _) c0
    have d1 : (w1.alloc (.cells #[.int .i64 c, .int .i64 n] 26)).cell? ⟨w.heap.size, 1, none⟩ = some (.int .i64 n) := look ((KeepBut.refl _ w1).alloc _) c1
    have d2 : (w1.alloc (.cells #[.int .i64 c, .int .i64 n] 26)).cell? ⟨w1.heap.size, 0, none⟩ = some (.int .i64 c) := by simp [go_sem]
    have d3 : (w1.alloc (.cells #[.int .i64 c, .int .i64 n] 26)).cell? ⟨w1.heap.size, 1, none⟩ = some (.int .i64 n) := by simp [go_sem]
    have k2 : Keep w (w1.alloc (.cells #[.int .i64 c, .int .i64 n] 26)) := k1.alloc _
    generalize w1.alloc (.cells #[.int .i64 c, .int .i64 n] 26) = W at d0 d1 d2 d3 k2 ⊢
    have hIW : ∀ w', Keep W w' → Ints (fun _ => False) w' (.slice sa zs.length scap) zs := fun w' hk => hI.keep (k2.trans hk) (fun _ h => h)
    clear c0 c1 hI
    refine wp_pure (List.range 23) 23 (by kernel_rfl) (by kernel_rfl) rfl ?_
    rw [show List.range 23 = [0, 1, 2, 3, 4, 5, 6, 7, 8, 9, 10, 11, 12, 13, 14, 15, 16, 17, 18, 19, 20, 21, 22] from rfl]
    repeat' (first | (refine pl_nil ?_) | (refine pl_value (v := ?_) rfl rfl ?_ ?_; rotate_left 1; (focus (intro w' hk; have c0 := look hk d0; have c1 := look hk d1; have c2 := look hk d2; have c3 := look hk d3; go_simp; (first | done | with_reducible rfl | exact rfl))); (try simp only [Act.put, List.setIfInBounds_toArray, List.set_cons_zero, List.set_cons_succ])) | (refine pl_call (v := ?_) (f := ?_) (args := ?_) rfl rfl ?_ ?_ ?_; rotate_left 3; (focus (intro w' hk; go_simp; (first | done | (constructor <;> with_reducible rfl) | with_reducible rfl))); (focus (intro w' hk; first | (go_at_call 8; exact add_any _ _ _ _) | (go_at_call 9; exact radd_any _ _ _ _) | (go_at_call 10; exact all_any _ _ _ zs hreach _ (hIW _ hk) ⟨_, _, _, rfl⟩) | (go_at_call 11; exact rall_ints _ _ _ zs hreach _ (hIW _ hk)) | (go_at_call 12; exact verdict_any _ _ _) | (go_at_call 13; exact rverd_any _ _ _))); (try simp only [Act.put, List.setIfInBounds_toArray, List.set_cons_zero, List.set_cons_succ])) | (refine pl_skip rfl rfl ?_; (try simp only [Act.put, List.setIfInBounds_toArray, List.set_cons_zero, List.set_cons_succ])))
    intro w2 hk2
    simp only [List.drop_succ_cons, List.drop_zero]
    go_wp2_with fail
    go_ret
    exact ⟨rfl, (k2.trans hk2).whole⟩
end Go.Proofs.Ytjooockdiolalaa
