/- The walks of DebounceThree, DebounceStays and DebounceAgrees. -/
import Derived.Test.YtjooockdiolalaaDeb5
import Derived.Maps.AppendAt
namespace Go.Proofs.Ytjooockdiolalaa
open Go.RowKit Go.Shelf

theorem infoI : (Try.prog.info? 3).map (fun i => (i.zero, i.size, i.bytes)) = some (some (.int .i64 0), 1, 8) := by kernel_rfl

/-- An owned row of ints is a slice of ints. -/
theorem ints_own {w : World} {base : Nat} {e : TypeId} {v : Value} {zs : List Int} (h : w.ownsRow base e 1 v zs.length (zs.map (Value.int .i64))) : Ints (fun _ => False) w v zs := by
  rcases h.2 with ⟨h1, h2⟩ | ⟨g, cap, cur, rfl, hb, hg, h1, h2, h3, h4⟩
  · exact .inl ⟨none, 0, by rw [h1], List.eq_nil_of_length_eq_zero h2⟩
  · refine .inr ⟨g, 0, cap, rfl, (Array.getElem?_eq_some_iff.1 hg).1, id, fun j hj => ?_⟩
    have h5 : (cur.toList.take (zs.length * 1))[j]? = some (.int .i64 (zs[j]?.getD 0)) := by rw [h4]; simp [hj]
    rw [List.getElem?_take_of_lt (by omega)] at h5
    simpa [World.cell?, hg] using h5
theorem own_shape {w : World} {base : Nat} {e : TypeId} {size n : Nat} {v : Value} {xs : List Value} (h : w.ownsRow base e size v n xs) : ∃ a cap, v = .slice a n cap := by
  rcases h.2 with ⟨h1, h2⟩ | ⟨g, cap, cur, rfl, _⟩
  · exact ⟨none, 0, by rw [h1, h2]⟩
  · exact ⟨_, _, rfl⟩

theorem own_ge {w : World} {base : Nat} {e : TypeId} {size n : Nat} {v : Value} {xs : List Value} (h : w.ownsRow base e size v n xs) : ∀ k, v.ownBlock = some k → base ≤ k := by
  intro k hk
  rcases h.2 with ⟨h1, h2⟩ | ⟨g, cap, cur, rfl, hb, _⟩
  · rw [h1] at hk; cases hk
  · cases hk; exact hb
theorem allC_two (c : Int × Int) (l m : List Int) : allC c (l ++ m) = allC (allC c l) m := by simp [allC]
theorem three_math (c n : Int) (vv : Int) (h : vv = 1 ∨ vv = 2) (k : Nat) : 3 ≤ k → verdC (allC (c, n) (List.replicate k vv)).1 (allC (c, n) (List.replicate k vv)).2 = vv := by
  intro hk
  obtain ⟨j, rfl⟩ : ∃ j, k = j + 3 := ⟨k - 3, by omega⟩
  rw [← List.replicate_append_replicate, allC_two]
  generalize allC (c, n) (List.replicate j vv) = d
  obtain ⟨x, y⟩ := d
  simp only [allC, List.replicate, List.foldl, add1, addV, addN, if_pos h, verdC]
  by_cases e : x = vv
  · subst e
    simp only [if_true]
    have : ∀ z : Int, 3 ≤ (if 3 ≤ (if 3 ≤ (if 3 ≤ z then 3 else if z < 1 then 1 else z + 1) then (3 : Int) else if (if 3 ≤ z then 3 else if z < 1 then 1 else z + 1) < 1 then 1 else (if 3 ≤ z then 3 else if z < 1 then 1 else z + 1) + 1) then (3 : Int) else if (if 3 ≤ (if 3 ≤ z then 3 else if z < 1 then 1 else z + 1) then (3 : Int) else if (if 3 ≤ z then 3 else if z < 1 then 1 else z + 1) < 1 then 1 else (if 3 ≤ z then 3 else if z < 1 then 1 else z + 1) + 1) < 1 then 1 else (if 3 ≤ (if 3 ≤ z then 3 else if z < 1 then 1 else z + 1) then (3 : Int) else if (if 3 ≤ z then 3 else if z < 1 then 1 else z + 1) < 1 then 1 else (if 3 ≤ z then 3 else if z < 1 then 1 else z + 1) + 1) + 1) := by
      intro z; omega
    rw [if_pos ⟨this y, h⟩]
  · simp [e, h]
theorem fewer_math (c n : Int) (vv : Int) (h : vv = 1 ∨ vv = 2) (k : Nat) : k < 3 → verdC (allC (c, n) (List.replicate k vv)).1 (allC (c, n) (List.replicate k vv)).2 ≠ vv ∨ c = vv := by
  intro hk
  by_cases e : c = vv
  · exact .inr e
  refine .inl ?_
  have h0 : vv ≠ 0 := by omega
  rcases k with _ | _ | _ | k
  · simp only [allC, List.replicate, List.foldl, verdC]; split <;> omega
  · simp [allC, List.replicate, List.foldl, add1, addV, addN, h, e, verdC]; omega
  · simp [allC, List.replicate, List.foldl, add1, addV, addN, h, e, verdC]; omega
  · omega

set_option maxHeartbeats 2000000 in
theorem three_true (c n : Int) (m : Nat) (hm : m ≤ 255) (w : World) :
    Calls Try.prog 5 #[.agg #[.int .i64 c, .int .i64 n], .bool true, .int .u8 m] w fun e w' => e = .returned (.bool true) ∧ Below w.heap.size w w' := by
  obtain ⟨i0, hi, hz0, hz1, hz2⟩ := info_parts infoI
  have hvv : (2 : Int) = 1 ∨ (2 : Int) = 2 := by decide
  have M3 := three_math c n 2 hvv (m % 6)
  have M4 := fewer_math c n 2 hvv (m % 6)
  have H3 := Lib.hid M3; have H4 := Lib.hid M4; clear M3 M4 hvv
  go_enter Try.func5, Try.ntmps5
  go_wp2_with fail
  go_loopw [9, 10] (fun l i wr => ∃ j : Nat, j ≤ m % 6 ∧ i = .int .i64 j ∧ wr.ownsRow (w.heap.size + 1) 3 1 l j ((List.replicate j (2 : Int)).map (Value.int .i64)) ∧ Below (w.heap.size + 1) (w.alloc (.cells #[.int .i64 c, .int .i64 n] 23)) wr) (fun _ i _ => m % 6 - (intOf i).toNat)
  case atStart =>
    have hz := World.size_alloc w (.cells #[.int .i64 c, .int .i64 n] 23)
    have := World.alloc_heap_new (w.alloc (.cells #[.int .i64 c, .int .i64 n] 23)) (.cells #[] 3)
    rw [hz] at this
    exact ⟨0, by omega, rfl, ⟨by simp, .inr ⟨_, 0, #[], rfl, by omega, this, by omega, by simp [maxLen], by simp, by simp⟩⟩, (Below.refl _ _).alloc (by simp) _⟩
  case round =>
    obtain ⟨j, hj, rfl, hown, hk⟩ := hrel
    have hz : w.heap.size + 1 ≤ wr.heap.size := by have := hk.size; simpa using this
    by_cases hlt : j < m % 6
    · have hrep : (List.replicate (j + 1) (2 : Int)).map (Value.int .i64) = (List.replicate j (2 : Int)).map (Value.int .i64) ++ [.int .i64 2] := by rw [List.replicate_succ']; simp
      have Hrep := Lib.hid hrep; clear hrep
      go_wp2_with (at_builtin; refine wpList_append_own _ (by rfl) _ _ 24 (by rfl) (w.heap.size + 1) 3 i0 (.int .i64 0) 1 8 Try.underlying24 hi hz0 hz1 hz2 rfl (by decide) _ _ _ (by rfl) (hown.alloc _) ⟨wr.heap.size, 0, none⟩ 1 1 [.int .i64 2] (by rfl) (by rfl) (cell_one_new _ _ _) (by simp [Value.oneCell']) (by unfold maxLen; omega) (by omega) (by simp; omega) ?_; intro v' w1 hown' hgrow _)
      go_wp2_with fail
      go_roundw
      case rel => exact ⟨j + 1, by omega, by go_num, by rw [Hrep.out]; exact hown', (hk.alloc (by omega) _).grown hgrow (by simp; omega) (own_ge hown)⟩
      case measure => simp [intOf]; omega
    · obtain rfl : j = m % 6 := by omega
      have hlen : (List.replicate (m % 6) (2 : Int)).length = m % 6 := by simp
      have hI := ints_own (zs := List.replicate (m % 6) (2 : Int)) (by rw [hlen]; exact hown)
      obtain ⟨sa, scap, rfl⟩ := own_shape hown
      have c0 : wr.cell? ⟨w.heap.size, 0, none⟩ = some (.int .i64 c) := (hk.cell (p := ⟨w.heap.size, 0, none⟩) (by simp)).trans (by simp [go_sem])
      have c1 : wr.cell? ⟨w.heap.size, 1, none⟩ = some (.int .i64 n) := (hk.cell (p := ⟨w.heap.size, 1, none⟩) (by simp)).trans (by simp [go_sem])
      have kw : Below w.heap.size w wr := ((Below.refl _ w).alloc (Nat.le_refl _) _).trans (hk.mono (by omega))
      have HI := Lib.hid hI; clear hI hown hlen
      go_wp2_with fail
      refine (all_any c n _ (List.replicate (m % 6) (2 : Int)) (by simp; omega) _ HI.out ⟨_, _, _, rfl⟩).mono ?_
      rintro e w1 ⟨rfl, hb1⟩
      have d0 := (hb1.cell (p := ⟨w.heap.size, 0, none⟩) (lt_of_cell c0)).trans c0
      have d1 := (hb1.cell (p := ⟨w.heap.size, 1, none⟩) (lt_of_cell c1)).trans c1
      have hz1 : w.heap.size < w1.heap.size := lt_of_cell d0
      have kw1 : Below w.heap.size w w1 := kw.trans (hb1.mono (by omega))
      have M3 := H3.out
      have M4 := H4.out
      clear HI c0 c1 hb1 H3 H4 kw
      generalize hcp : allC (c, n) (List.replicate (m % 6) 2) = cp at *
      obtain ⟨p1, p2⟩ := cp
      have Hcp := Lib.hid hcp; clear hcp
      simp only [] at M3 M4 ⊢
      generalize hvd : verdC p1 p2 = vd at M3 M4
      have Hvd := Lib.hid hvd; clear hvd
      by_cases h3 : 3 ≤ m % 6
      · have M3' := Lib.hid (M3 h3); clear M3 M4
        go_wp2_with fail
        refine (verdict_any _ _ _).mono ?_
        rintro e w2 ⟨rfl, hb2⟩
        rw [Hvd.out, M3'.out]
        go_wp2_with fail
        refine (shown_any _).mono ?_
        rintro e w3 ⟨rfl, hb3⟩
        go_wp2_with fail
        go_ret
        exact ⟨rfl, ((kw1.alloc (by omega) _).trans (hb2.mono (by simp; omega))).trans (hb3.mono (by have := hb2.size; simp at this; omega))⟩
      · have M4' := M4 (by omega); clear M3 M4
        by_cases hne : vd = 2
        · have hc : c = 2 := M4'.resolve_left (fun h => h hne)
          subst hc
          have Hne := Lib.hid hne; clear hne M4'
          go_wp2_with fail
          refine (verdict_any _ _ _).mono ?_
          rintro e w2 ⟨rfl, hb2⟩
          have e0 := (hb2.cell (p := ⟨w.heap.size, 0, none⟩) (by simp; omega)).trans (look ((KeepBut.refl _ w1).alloc _) d0)
          have hz2 : w.heap.size < w2.heap.size := lt_of_cell e0
          rw [Hvd.out, Hne.out]
          go_wp2_with fail
          refine (shown_any _).mono ?_
          rintro e w3 ⟨rfl, hb3⟩
          go_wp2_with fail
          go_ret
          exact ⟨rfl, ((kw1.alloc (by omega) _).trans (hb2.mono (by simp; omega))).trans (hb3.mono (by have := hb2.size; simp at this; omega))⟩
        · clear M4'
          have b1 : (vd != 2) = true := by rw [bne_iff_ne]; exact hne
          have b2 : (vd == 2) = false := beq_eq_false_iff_ne.2 hne
          go_wp2_with fail
          refine (verdict_any _ _ _).mono ?_
          rintro e w2 ⟨rfl, hb2⟩
          rw [Hvd.out]
          go_wp2_with fail
          refine (shown_any _).mono ?_
          rintro e w3 ⟨rfl, hb3⟩
          go_wp2_with fail
          go_ret
          exact ⟨rfl, ((kw1.alloc (by omega) _).trans (hb2.mono (by simp; omega))).trans (hb3.mono (by have := hb2.size; simp at this; omega))⟩
set_option maxHeartbeats 2000000 in
theorem three_false (c n : Int) (m : Nat) (hm : m ≤ 255) (w : World) :
    Calls Try.prog 5 #[.agg #[.int .i64 c, .int .i64 n], .bool false, .int .u8 m] w fun e w' => e = .returned (.bool true) ∧ Below w.heap.size w w' := by
  obtain ⟨i0, hi, hz0, hz1, hz2⟩ := info_parts infoI
  have hvv : (1 : Int) = 1 ∨ (1 : Int) = 2 := by decide
  have M3 := three_math c n 1 hvv (m % 6)
  have M4 := fewer_math c n 1 hvv (m % 6)
  have H3 := Lib.hid M3; have H4 := Lib.hid M4; clear M3 M4 hvv
  go_enter Try.func5, Try.ntmps5
  go_wp2_with fail
  go_loopw [9, 10] (fun l i wr => ∃ j : Nat, j ≤ m % 6 ∧ i = .int .i64 j ∧ wr.ownsRow (w.heap.size + 1) 3 1 l j ((List.replicate j (1 : Int)).map (Value.int .i64)) ∧ Below (w.heap.size + 1) (w.alloc (.cells #[.int .i64 c, .int .i64 n] 23)) wr) (fun _ i _ => m % 6 - (intOf i).toNat)
  case atStart =>
    have hz := World.size_alloc w (.cells #[.int .i64 c, .int .i64 n] 23)
    have := World.alloc_heap_new (w.alloc (.cells #[.int .i64 c, .int .i64 n] 23)) (.cells #[] 3)
    rw [hz] at this
    exact ⟨0, by omega, rfl, ⟨by simp, .inr ⟨_, 0, #[], rfl, by omega, this, by omega, by simp [maxLen], by simp, by simp⟩⟩, (Below.refl _ _).alloc (by simp) _⟩
  case round =>
    obtain ⟨j, hj, rfl, hown, hk⟩ := hrel
    have hz : w.heap.size + 1 ≤ wr.heap.size := by have := hk.size; simpa using this
    by_cases hlt : j < m % 6
    · have hrep : (List.replicate (j + 1) (1 : Int)).map (Value.int .i64) = (List.replicate j (1 : Int)).map (Value.int .i64) ++ [.int .i64 1] := by rw [List.replicate_succ']; simp
      have Hrep := Lib.hid hrep; clear hrep
      go_wp2_with (at_builtin; refine wpList_append_own _ (by rfl) _ _ 24 (by rfl) (w.heap.size + 1) 3 i0 (.int .i64 0) 1 8 Try.underlying24 hi hz0 hz1 hz2 rfl (by decide) _ _ _ (by rfl) (hown.alloc _) ⟨wr.heap.size, 0, none⟩ 1 1 [.int .i64 1] (by rfl) (by rfl) (cell_one_new _ _ _) (by simp [Value.oneCell']) (by unfold maxLen; omega) (by omega) (by simp; omega) ?_; intro v' w1 hown' hgrow _)
      go_wp2_with fail
      go_roundw
      case rel => exact ⟨j + 1, by omega, by go_num, by rw [Hrep.out]; exact hown', (hk.alloc (by omega) _).grown hgrow (by simp; omega) (own_ge hown)⟩
      case measure => simp [intOf]; omega
    · obtain rfl : j = m % 6 := by omega
      have hlen : (List.replicate (m % 6) (1 : Int)).length = m % 6 := by simp
      have hI := ints_own (zs := List.replicate (m % 6) (1 : Int)) (by rw [hlen]; exact hown)
      obtain ⟨sa, scap, rfl⟩ := own_shape hown
      have c0 : wr.cell? ⟨w.heap.size, 0, none⟩ = some (.int .i64 c) := (hk.cell (p := ⟨w.heap.size, 0, none⟩) (by simp)).trans (by simp [go_sem])
      have c1 : wr.cell? ⟨w.heap.size, 1, none⟩ = some (.int .i64 n) := (hk.cell (p := ⟨w.heap.size, 1, none⟩) (by simp)).trans (by simp [go_sem])
      have kw : Below w.heap.size w wr := ((Below.refl _ w).alloc (Nat.le_refl _) _).trans (hk.mono (by omega))
      have HI := Lib.hid hI; clear hI hown hlen
      go_wp2_with fail
      refine (all_any c n _ (List.replicate (m % 6) (1 : Int)) (by simp; omega) _ HI.out ⟨_, _, _, rfl⟩).mono ?_
      rintro e w1 ⟨rfl, hb1⟩
      have d0 := (hb1.cell (p := ⟨w.heap.size, 0, none⟩) (lt_of_cell c0)).trans c0
      have d1 := (hb1.cell (p := ⟨w.heap.size, 1, none⟩) (lt_of_cell c1)).trans c1
      have hz1 : w.heap.size < w1.heap.size := lt_of_cell d0
      have kw1 : Below w.heap.size w w1 := kw.trans (hb1.mono (by omega))
      have M3 := H3.out
      have M4 := H4.out
      clear HI c0 c1 hb1 H3 H4 kw
      generalize hcp : allC (c, n) (List.replicate (m % 6) 1) = cp at *
      obtain ⟨p1, p2⟩ := cp
      have Hcp := Lib.hid hcp; clear hcp
      simp only [] at M3 M4 ⊢
      generalize hvd : verdC p1 p2 = vd at M3 M4
      have Hvd := Lib.hid hvd; clear hvd
      by_cases h3 : 3 ≤ m % 6
      · have M3' := Lib.hid (M3 h3); clear M3 M4
        go_wp2_with fail
        refine (verdict_any _ _ _).mono ?_
        rintro e w2 ⟨rfl, hb2⟩
        rw [Hvd.out, M3'.out]
        go_wp2_with fail
        refine (shown_any _).mono ?_
        rintro e w3 ⟨rfl, hb3⟩
        go_wp2_with fail
        go_ret
        exact ⟨rfl, ((kw1.alloc (by omega) _).trans (hb2.mono (by simp; omega))).trans (hb3.mono (by have := hb2.size; simp at this; omega))⟩
      · have M4' := M4 (by omega); clear M3 M4
        by_cases hne : vd = 1
        · have hc : c = 1 := M4'.resolve_left (fun h => h hne)
          subst hc
          have Hne := Lib.hid hne; clear hne M4'
          go_wp2_with fail
          refine (verdict_any _ _ _).mono ?_
          rintro e w2 ⟨rfl, hb2⟩
          have e0 := (hb2.cell (p := ⟨w.heap.size, 0, none⟩) (by simp; omega)).trans (look ((KeepBut.refl _ w1).alloc _) d0)
          have hz2 : w.heap.size < w2.heap.size := lt_of_cell e0
          rw [Hvd.out, Hne.out]
          go_wp2_with fail
          refine (shown_any _).mono ?_
          rintro e w3 ⟨rfl, hb3⟩
          go_wp2_with fail
          go_ret
          exact ⟨rfl, ((kw1.alloc (by omega) _).trans (hb2.mono (by simp; omega))).trans (hb3.mono (by have := hb2.size; simp at this; omega))⟩
        · clear M4'
          have b1 : (vd != 1) = true := by rw [bne_iff_ne]; exact hne
          have b2 : (vd == 1) = false := beq_eq_false_iff_ne.2 hne
          go_wp2_with fail
          refine (verdict_any _ _ _).mono ?_
          rintro e w2 ⟨rfl, hb2⟩
          rw [Hvd.out]
          go_wp2_with fail
          refine (shown_any _).mono ?_
          rintro e w3 ⟨rfl, hb3⟩
          go_wp2_with fail
          go_ret
          exact ⟨rfl, ((kw1.alloc (by omega) _).trans (hb2.mono (by simp; omega))).trans (hb3.mono (by have := hb2.size; simp at this; omega))⟩
theorem three_any (c n : Int) (air : Bool) (m : Int) (hm : (Lit.int .u8 m).wf = true) (w : World) :
    Calls Try.prog 5 #[.agg #[.int .i64 c, .int .i64 n], .bool air, .int .u8 m] w fun e w' => e = .returned (.bool true) ∧ Below w.heap.size w w' := by
  have hx : 0 ≤ m ∧ m ≤ 255 := by simpa [Lit.wf, IntKind.min, IntKind.max, IntKind.signed, IntKind.bits] using hm
  obtain ⟨k, rfl⟩ := Int.eq_ofNat_of_zero_le hx.1
  cases air
  · exact three_false c n k (by omega) w
  · exact three_true c n k (by omega) w
end Go.Proofs.Ytjooockdiolalaa
