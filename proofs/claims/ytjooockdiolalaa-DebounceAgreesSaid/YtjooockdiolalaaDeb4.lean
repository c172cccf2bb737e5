/- The references' debounce; what the anchor of the statements shows. -/
import Derived.Test.YtjooockdiolalaaDeb3
import Derived.Test.YtjooockdiolalaaRegion
import Derived.RegionTactic
import Derived.Deep.RegionWith
namespace Go.Proofs.Ytjooockdiolalaa
open Go.RowKit Go.Shelf

theorem ret_agg2 {a b c d : Int} (h : a = c) (h' : b = d) : Ending.returned (.agg #[.int .i64 a, .int .i64 b]) = Ending.returned (.agg #[.int .i64 c, .int .i64 d]) := by rw [h, h']

set_option maxHeartbeats 400000 in
theorem rverd_any (v n : Int) (w : World)  :
    Calls Try.prog 13 #[.agg #[.int .i64 v, .int .i64 n]] w fun e w' => e = .returned (.int .i64 (verdC v n)) ∧ Below w.heap.size w w' := by
  go_enter Try.func13, Try.ntmps13
  go_wp2
  all_goals
    go_ret
    refine ⟨?_, (Below.refl _ _).alloc (Nat.le_refl _) _⟩
    simp_all [verdC]
  all_goals omega

set_option maxHeartbeats 400000 in
theorem radd_any (v n u : Int) (w : World)  :
    Calls Try.prog 9 #[.agg #[.int .i64 v, .int .i64 n], .int .i64 u] w fun e w' => e = .returned (.agg #[.int .i64 (addV v u), .int .i64 (addN v n u)]) ∧ Below w.heap.size w w' := by
  go_enter Try.func9, Try.ntmps9
  go_wp2
  all_goals
    go_tidy
    refine ret_ex rfl ?_
    apply Exists.intro
    apply And.intro
    · conv => lhs; simp [results, Try.results9, go_sem]
    · refine ⟨ret_agg2 ?_ ?_, by repeat (first | exact Below.refl _ _ | refine Below.alloc ?_ (by simp) _ | refine Below.setCell ?_ (by simp) _)⟩
      all_goals (simp_all [addV, addN] <;> omega)

/-- The world grows: nothing that lay there has changed. -/
theorem bsize {B : Nat} {w w' : World} (h : Below B w w') : w.heap.size ≤ w'.heap.size := h.size

set_option maxHeartbeats 2000000 in
theorem rall_any (c n : Int) (b off cap : Nat) (zs : List Int) (hreach : zs.length * 8 ≤ 140737488351232) (w : World) (hb : b < w.heap.size) (hz : ∀ j, j < zs.length → w.cell? ⟨b, off + j, none⟩ = some (.int .i64 (zs[j]?.getD 0))) :
    Calls Try.prog 11 #[.agg #[.int .i64 c, .int .i64 n], .slice (some ⟨b, off, none⟩) zs.length cap] w fun e w' => e = .returned (.agg #[.int .i64 (allC (c, n) zs).1, .int .i64 (allC (c, n) zs).2]) ∧ Below w.heap.size w w' := by
  go_enter Try.func11, Try.ntmps11
  go_wp2_with fail
  go_loopw [5] (fun i wr => ∃ k : Nat, k ≤ zs.length ∧ i = .int .i64 k ∧ wr.cell? ⟨w.heap.size, 0, none⟩ = some (.int .i64 (allC (c, n) (zs.take k)).1) ∧ wr.cell? ⟨w.heap.size, 1, none⟩ = some (.int .i64 (allC (c, n) (zs.take k)).2) ∧
      wr.frozen? ⟨w.heap.size, 0, none⟩ = false ∧ wr.frozen? ⟨w.heap.size, 1, none⟩ = false ∧ wr.heap[w.heap.size + 1]? = some (.cells #[.int .i64 0, .int .i64 0] 26 (0, 0)) ∧ Below w.heap.size w wr) (fun i _ => zs.length - (intOf i).toNat)
  case atStart => exact ⟨0, Nat.zero_le _, rfl, by simp [go_sem, allC], by simp [go_sem, allC], by simp [go_sem], by simp [go_sem], by have := World.alloc_heap_new (w.alloc (.cells #[.int .i64 c, .int .i64 n] 26)) (.cells #[.int .i64 0, .int .i64 0] 26); rwa [World.size_alloc] at this, ((Below.refl _ _).alloc (Nat.le_refl _) _).alloc (by simp) _⟩
  case round =>
    obtain ⟨k, hk, rfl, h0, h1, f0, f1, hR, hB⟩ := hrel
    have hs : w.heap.size + 2 ≤ wr.heap.size := (Array.getElem?_eq_some_iff.1 hR).1
    by_cases hlt : k < zs.length
    · have hcx : wr.cell? ⟨b, off + k, none⟩ = some (.int .i64 (zs[k]?.getD 0)) := (hB.cell (p := ⟨b, off + k, none⟩) hb).trans (hz k hlt)
      have hs1 := take_snoc' zs k hlt
      generalize zs[k]?.getD 0 = x at hcx hs1
      have Hs1 := Lib.hid hs1; clear hs1 hz
      have Hst := Lib.hid (allC_snoc (c, n) (zs.take k) x)
      generalize hcp : allC (c, n) (zs.take k) = cp at *
      have Hcp := Lib.hid hcp; clear hcp
      obtain ⟨cv, cn⟩ := cp
      have i1 : (0 : Int) ≤ (k : Int) := by omega
      have i2 : (k : Int) < (zs.length : Int) := by omega
      go_wp2_with fail
      refine wp_pure [0, 1, 2, 3, 4, 5] 6 (by kernel_rfl) (by kernel_rfl) rfl ?_
      repeat' (first | (refine pl_nil ?_) | (refine pl_value (v := ?_) rfl rfl ?_ ?_; rotate_left 1; (focus (intro w' hk; have c0 := look hk h0; have c1 := look hk h1; have c2 := look hk hcx; go_simp; (first | done | with_reducible rfl | exact rfl))); (try simp only [Act.put, List.setIfInBounds_toArray, List.set_cons_zero, List.set_cons_succ])) | (refine pl_call (v := ?_) (f := ?_) (args := ?_) rfl rfl ?_ ?_ ?_; rotate_left 3; (focus (intro w' hk; go_simp; (first | done | (constructor <;> with_reducible rfl) | with_reducible rfl))); (focus (intro w' hk; exact radd_any _ _ _ _)); (try simp only [Act.put, List.setIfInBounds_toArray, List.set_cons_zero, List.set_cons_succ])) | (refine pl_skip rfl rfl ?_; (try simp only [Act.put, List.setIfInBounds_toArray, List.set_cons_zero, List.set_cons_succ])))
      intro w1 hk1
      have g0 := look hk1 h0; have g1 := look hk1 h1
      have e0 := (kfrozen hk1 w.heap.size 0 (by omega)).trans f0; have e1 := (kfrozen hk1 w.heap.size 1 (by omega)).trans f1
      have hB1 := hB.trans (hk1.below (B := w.heap.size) (by omega) (fun _ h => h.elim))
      have hR1 := (hk1.block _ (by omega) id).trans hR
      clear h0 h1 f0 f1 hcx hR
      simp only [List.drop_succ_cons, List.drop_zero]
      go_wp2_with fail
      obtain ⟨d0, d1, d2, d3, _, _⟩ := after_store (v0 := .int .i64 (addV cv x)) (v1 := .int .i64 (addN cv cn x)) (X := fun _ => False) g0 g1 e0 e1 id (KeepBut.refl _ _)
      go_roundw
      case rel => exact ⟨k + 1, by omega, by go_num, by rw [Hs1.out, Hst.out]; exact d0, by rw [Hs1.out, Hst.out]; exact d1, d2, d3, by rw [Below.heap_setCell _ _ _ _ (by simp), Below.heap_setCell _ _ _ _ (by simp)]; exact hR1, (hB1.setCell (p := ⟨w.heap.size, 0, none⟩) (Nat.le_refl _) _).setCell (p := ⟨w.heap.size, 1, none⟩) (Nat.le_refl _) _⟩
      case measure => simp [intOf]; omega
    · obtain rfl : k = zs.length := by omega
      rw [List.take_length] at h0 h1
      have r0 : wr.cell? ⟨w.heap.size + 1, 0, none⟩ = some (.int .i64 0) := by simp [World.cell?, hR]
      have r1 : wr.cell? ⟨w.heap.size + 1, 1, none⟩ = some (.int .i64 0) := by simp [World.cell?, hR]
      have rf0 : wr.frozen? ⟨w.heap.size + 1, 0, none⟩ = false := by simp [World.frozen?, hR]
      have rf1 : wr.frozen? ⟨w.heap.size + 1, 1, none⟩ = false := by simp [World.frozen?, hR]
      clear hR hz
      generalize hcp : allC (c, n) zs = cp at *
      have Hcp := Lib.hid hcp; clear hcp
      go_wp2_with fail
      exact bodyPost_ret (v := .agg #[.int .i64 cp.1, .int .i64 cp.2]) (by simp [results, Try.results11, go_sem, r0, r1]) rfl ⟨by rw [Hcp.out], (hB.setCell (p := ⟨w.heap.size + 1, 0, none⟩) (by simp) _).setCell (p := ⟨w.heap.size + 1, 1, none⟩) (by simp) _⟩

set_option maxHeartbeats 1000000 in
theorem rall_nil (c n : Int) (sa : Option Addr) (cap : Nat) (w : World) :
    Calls Try.prog 11 #[.agg #[.int .i64 c, .int .i64 n], .slice sa 0 cap] w fun e w' => e = .returned (.agg #[.int .i64 c, .int .i64 n]) ∧ Below w.heap.size w w' := by
  go_enter Try.func11, Try.ntmps11
  go_wp2_with fail
  go_loopw [5] (fun i wr => i = .int .i64 0 ∧ wr = (w.alloc (.cells #[.int .i64 c, .int .i64 n] 26)).alloc (.cells #[.int .i64 0, .int .i64 0] 26)) (fun _ _ => 0)
  case atStart => exact ⟨rfl, rfl⟩
  case round =>
    obtain ⟨rfl, rfl⟩ := hrel
    go_wp2_with fail
    exact bodyPost_ret (v := .agg #[.int .i64 c, .int .i64 n]) (by simp [results, Try.results11, go_sem]) rfl ⟨rfl, ((Below.refl _ _).alloc (Nat.le_refl _) _).alloc (by simp) _⟩
theorem rall_ints (c n : Int) (sv : Value) (zs : List Int) (hreach : zs.length * 8 ≤ 140737488351232) (w : World) (hI : Ints (fun _ => False) w sv zs) :
    Calls Try.prog 11 #[.agg #[.int .i64 c, .int .i64 n], sv] w fun e w' => e = .returned (.agg #[.int .i64 (allC (c, n) zs).1, .int .i64 (allC (c, n) zs).2]) ∧ Below w.heap.size w w' := by
  rcases hI with ⟨a, cap, rfl, rfl⟩ | ⟨b, off, cap, rfl, hb, _, hc⟩
  · exact rall_nil c n a cap w
  · exact rall_any c n b off cap zs hreach w hb hc
end Go.Proofs.Ytjooockdiolalaa
