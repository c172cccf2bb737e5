/- The walk of DebounceAgrees. -/
import Derived.Test.YtjooockdiolalaaDeb7
namespace Go.Proofs.Ytjooockdiolalaa
open Go.RowKit Go.Shelf

def saidL (l : List Int) : List Int := l.filter saysB
theorem saidL_snoc (l : List Int) (x : Int) : saidL (l ++ [x]) = if saysB x then saidL l ++ [x] else saidL l := by
  unfold saidL; rw [List.filter_append]; cases h : saysB x <;> simp [h]
theorem saidL_le (l : List Int) : (saidL l).length ≤ l.length := List.length_filter_le _ _
/-- The count, out of what was said, the last one first. -/
def countR : List Int → Int × Int
  | [] => (0, 0)
  | [x] => (x, 1)
  | x :: y :: t => if x = y then (x, if 3 ≤ (countR (y :: t)).2 then 3 else (countR (y :: t)).2 + 1) else (x, 1)
theorem countR_pos : ∀ (r : List Int) (x : Int), 1 ≤ (countR (x :: r)).2 ∧ (countR (x :: r)).2 ≤ 3 ∧ (countR (x :: r)).1 = x
  | [], x => by simp [countR]
  | y :: t, x => by
    have := countR_pos t y
    simp only [countR]
    split
    · split <;> exact ⟨by omega, by omega, rfl⟩
    · exact ⟨by omega, by omega, rfl⟩
theorem countR_step (r : List Int) (x : Int) (hx : x = 1 ∨ x = 2) : countR (x :: r) = add1 (countR r) x := by
  cases r with
  | nil => simp [countR, add1, addV, addN, hx]
  | cons y t =>
    have h := countR_pos t y
    simp only [countR, add1, addV, addN, if_pos hx, h.2.2]
    by_cases e : x = y
    · subst e; simp only [if_true]; split
      · rfl
      · rw [if_neg (by omega)]
    · rw [if_neg e, if_neg (Ne.symm e)]
theorem allC_said (l : List Int) : allC (0, 0) l = countR (saidL l).reverse := by
  have : ∀ (r : List Int), allC (0, 0) r.reverse = countR (saidL r.reverse).reverse := by
    intro r
    induction r with
    | nil => rfl
    | cons x r ih =>
      rw [List.reverse_cons, allC_snoc, saidL_snoc, ih]
      by_cases h : saysB x = true
      · rw [if_pos h, List.reverse_append, List.reverse_singleton, List.singleton_append]
        rw [countR_step _ _ (by simpa [saysB] using h)]
      · rw [if_neg h]
        have : ¬ (x = 1 ∨ x = 2) := by simpa [saysB] using h
        simp [add1, addV, addN, this]
  have := this l.reverse
  rwa [List.reverse_reverse] at this
theorem said_mem {l : List Int} {x : Int} (h : x ∈ saidL l) : x = 1 ∨ x = 2 := by
  have := (List.mem_filter.1 h).2
  simpa [saysB] using this
theorem countR_three (r : List Int) (h3 : 3 ≤ r.length) (h0 : ∀ x ∈ r, x = 1 ∨ x = 2) :
    verdC (countR r).1 (countR r).2 = if r[0]?.getD 0 = r[1]?.getD 0 ∧ r[1]?.getD 0 = r[2]?.getD 0 then r[0]?.getD 0 else 0 := by
  match r, h3 with
  | x :: y :: z :: t, _ =>
    have h := countR_pos t z
    have hx := h0 x (by simp)
    generalize hc : countR (z :: t) = d at h
    obtain ⟨d1, d2⟩ := d
    simp only [countR, hc]
    by_cases e1 : x = y
    · subst e1
      by_cases e2 : x = z
      · subst e2
        have : (3 : Int) ≤ (if 3 ≤ (if (3 : Int) ≤ d2 then (3 : Int) else d2 + 1) then 3 else (if (3 : Int) ≤ d2 then (3 : Int) else d2 + 1) + 1) := by
          simp only [] at h
          repeat' split
          all_goals omega
        simp only [if_true, verdC]
        rw [if_pos ⟨this, by simpa using hx⟩]
        simp
      · simp [e2, verdC]
    · simp [e1, verdC]
theorem countR_few (r : List Int) (h3 : r.length < 3) : verdC (countR r).1 (countR r).2 = 0 := by
  match r, h3 with
  | [], _ => simp [countR, verdC]
  | [x], _ => simp [countR, verdC]
  | [x, y], _ => simp only [countR]; split <;> simp [verdC]
theorem agree_few (l : List Int) (h : (saidL l).length < 3) : verdC (allC (0, 0) l).1 (allC (0, 0) l).2 = 0 := by
  rw [allC_said]; exact countR_few _ (by simpa using h)
theorem rev_at (l : List Int) (i : Nat) (h : i < l.length) : l.reverse[i]?.getD 0 = l[l.length - 1 - i]?.getD 0 := by
  rw [List.getElem?_reverse h]
theorem agree_three (l : List Int) (h : 3 ≤ (saidL l).length) : verdC (allC (0, 0) l).1 (allC (0, 0) l).2 =
    if (saidL l)[(saidL l).length - 1]?.getD 0 = (saidL l)[(saidL l).length - 2]?.getD 0 ∧ (saidL l)[(saidL l).length - 2]?.getD 0 = (saidL l)[(saidL l).length - 3]?.getD 0 then (saidL l)[(saidL l).length - 1]?.getD 0 else 0 := by
  rw [allC_said, countR_three _ (by simpa using h) (fun x hx => said_mem (by simpa using hx)), rev_at _ 0 (by omega), rev_at _ 1 (by omega), rev_at _ 2 (by omega)]
  simp only [Nat.sub_zero, Nat.sub_sub]
theorem verd_nz {l : List Int} (h : 3 ≤ (saidL l).length) : (saidL l)[(saidL l).length - 1]?.getD 0 ≠ 0 := by
  have hm : (saidL l)[(saidL l).length - 1] ∈ saidL l := List.getElem_mem (by omega)
  have := said_mem hm
  rw [List.getElem?_eq_getElem (by omega)]
  simp only [Option.getD_some]
  omega

set_option maxHeartbeats 4000000 in
theorem agrees_in (sa : Option Addr) (scap : Nat) (zs : List Int) (w : World) (hI : Ints (fun _ => False) w (.slice sa zs.length scap) zs) (hl : ¬ (100 : Int) < (zs.length : Int)) :
    Calls Try.prog 4 #[.slice sa zs.length scap] w fun e w' => e = .returned (.bool true) ∧ Below w.heap.size w w' := by
  obtain ⟨i0, hi, hz0, hz1, hz2⟩ := info_parts infoI
  have HI := Lib.hid hI; clear hI
  go_enter Try.func4, Try.ntmps4
  go_wp2_with fail
  refine (shown_any _).mono ?_
  rintro e w1 ⟨rfl, hb1⟩
  have hz : w.heap.size ≤ w1.heap.size := hb1.size
  go_wp2_with fail
  go_loopw [3, 4] (fun sv i wr => ∃ k : Nat, k ≤ zs.length ∧ i = .int .i64 k ∧ wr.ownsRow w1.heap.size 3 1 sv (saidL (zs.take k)).length ((saidL (zs.take k)).map (Value.int .i64)) ∧ Below w1.heap.size w1 wr) (fun _ i _ => zs.length - (intOf i).toNat)
  case atStart =>
    exact ⟨0, Nat.zero_le _, rfl, by simpa [saidL] using (show (w1.alloc (.cells #[] 3)).ownsRow w1.heap.size 3 1 (.slice (some ⟨w1.heap.size, 0, none⟩) 0 0) 0 [] from ⟨by simp, .inr ⟨_, 0, #[], rfl, by omega, World.alloc_heap_new _ _, by omega, by simp [maxLen], by simp, by simp⟩⟩), (Below.refl _ _).alloc (Nat.le_refl _) _⟩
  case round =>
    obtain ⟨k, hk, rfl, hown, hB⟩ := hrel
    have hBw : Below w.heap.size w wr := hb1.trans (hB.mono hz)
    by_cases hlt : k < zs.length
    · obtain ⟨b, off, rfl, hb, hcx⟩ := ints_at' HI.out hlt
      have hcx := (hBw.cell (p := ⟨b, off + k, none⟩) hb).trans hcx
      have hs1 := take_snoc' zs k hlt
      generalize zs[k]?.getD 0 = x at hcx hs1
      have Hs1 := Lib.hid hs1; clear hs1
      have Hsn := Lib.hid (saidL_snoc (zs.take k) x)
      have hsl : (saidL (zs.take k)).length ≤ k := Nat.le_trans (saidL_le _) (List.length_take_le _ _)
      generalize saidL (zs.take k) = S at *
      have i1 : (0 : Int) ≤ (k : Int) := by omega
      have i2 : (k : Int) < (zs.length : Int) := by omega
      have sx : saysB x = (x == 1 || x == 2) := rfl
      by_cases hs : saysB x = true
      · have Hs := Lib.hid hs
        have hx' : x = 1 ∨ x = 2 := by simpa [saysB] using hs
        clear hs sx
        rcases hx' with rfl | rfl
        all_goals
          go_wp2_with (at_builtin; refine wpList_append_own _ (by rfl) _ _ 24 (by rfl) w1.heap.size 3 i0 (.int .i64 0) 1 8 Try.underlying24 hi hz0 hz1 hz2 rfl (by decide) _ _ _ (by rfl) (hown.alloc _) ⟨wr.heap.size, 0, none⟩ 1 1 [_] (by rfl) (by rfl) (cell_one_new _ _ _) (by simp [Value.oneCell']) (by unfold maxLen; omega) (by omega) (by have := hB.size; simp; omega) ?_; intro v' w2 hown' hgrow _)
          have hBs := hB.size
          go_roundw
          case rel => exact ⟨k + 1, by omega, by go_num, by rw [Hs1.out, Hsn.out, if_pos Hs.out]; simpa using hown', (hB.alloc hBs _).grown hgrow (by simp; omega) (own_ge hown)⟩
          case measure => simp [intOf]; omega
      · have Hs := Lib.hid hs
        have hx' : ¬ (x = 1 ∨ x = 2) := by simpa [saysB] using hs
        have q1 : (x == 1) = false := beq_eq_false_iff_ne.2 (fun e => hx' (.inl e))
        have q2 : (x == 2) = false := beq_eq_false_iff_ne.2 (fun e => hx' (.inr e))
        clear hs sx hx'
        go_wp2_with fail
        go_roundw
        case rel => exact ⟨k + 1, by omega, by go_num, by rw [Hs1.out, Hsn.out, if_neg Hs.out]; exact hown, hB⟩
        case measure => simp [intOf]; omega
    · obtain rfl : k = zs.length := by omega
      rw [List.take_length] at hown
      have H3 := Lib.hid (agree_three zs)
      have Hf := Lib.hid (agree_few zs)
      have Hn := Lib.hid (@verd_nz zs)
      have hsl := saidL_le zs
      have HIr := Lib.hid (HI.out.keep (KeepBut.of_below' (X := fun _ => False) hb1 |>.trans (keepB hB)) (fun _ h => h))
      have Hlen := Lib.hid (show ((saidL zs).map (Value.int .i64)).length = (saidL zs).length by simp)
      obtain ⟨va, vc, rfl⟩ := own_shape hown
      have hcells : ∀ j, j < (saidL zs).length → ∃ g, va = some ⟨g, 0, none⟩ ∧ wr.cell? ⟨g, j, none⟩ = some (.int .i64 ((saidL zs)[j]?.getD 0)) := fun j hj => by
        obtain ⟨b, off, e, _, hc⟩ := ints_at' (ints_own hown) hj
        rcases hown.2 with ⟨h1, _⟩ | ⟨g, cap, cur, h1, _⟩
        · simp at h1; omega
        · simp at h1
          rw [h1.1] at e
          simp at e
          obtain ⟨rfl, rfl⟩ := e
          exact ⟨_, h1.1, by simpa using hc⟩
      clear hown
      generalize saidL zs = S at *
      go_wp2_with fail
      refine (all_any 0 0 _ zs (by omega) _ HIr.out ⟨_, _, _, rfl⟩).mono ?_
      rintro e w2 ⟨rfl, hb2⟩
      go_wp2_with fail
      refine (verdict_any _ _ _).mono ?_
      rintro e w3 ⟨rfl, hb3⟩
      have hBz : Below w.heap.size w w3 := (hBw.trans (hb2.mono hBw.size)).trans (hb3.mono (Nat.le_trans hBw.size hb2.size))
      have hk3 : Keep wr w3 := (keepB hb2).trans (keepB hb3)
      by_cases h3 : 3 ≤ S.length
      · have M3 := H3.out h3
        have Mn := Hn.out h3
        obtain ⟨g, rfl, q1⟩ := hcells (S.length - 1) (by omega)
        obtain ⟨_, e2, q2⟩ := hcells (S.length - 2) (by omega)
        obtain ⟨_, e3, q3⟩ := hcells (S.length - 3) (by omega)
        simp at e2 e3
        subst e2 e3
        have p1 := look hk3 q1; have p2 := look hk3 q2; have p3 := look hk3 q3
        clear hcells q1 q2 q3 H3 Hf Hn hb2 hb3 hk3 HIr HI
        generalize S[S.length - 1]?.getD 0 = x at *
        generalize S[S.length - 2]?.getD 0 = y at *
        generalize S[S.length - 3]?.getD 0 = z at *
        generalize S.length = m at *
        rw [M3]
        clear M3
        have a1 : (0 : Int) ≤ (m : Int) - 1 := by omega
        have a2 : (0 : Int) ≤ (m : Int) - 2 := by omega
        have a3 : (0 : Int) ≤ (m : Int) - 3 := by omega
        have b3 : (3 : Int) ≤ (m : Int) := by omega
        have b1 : (1 : Int) ≤ (m : Int) := by omega
        have b2 : (2 : Int) ≤ (m : Int) := by omega
        have g1 : (m : Int) - 1 < (m : Int) := by omega
        have g2 : (m : Int) - 2 < (m : Int) := by omega
        have g3 : (m : Int) - 3 < (m : Int) := by omega
        have dm : decide ((3 : Int) ≤ (m : Int)) = true := by simpa using b3
        have t2 : ((m : Int) - 2).toNat = m - 2 := by omega
        have t3 : ((m : Int) - 3).toNat = m - 3 := by omega
        have w1 : IntKind.i64.wrap ((m : Int) - 1) = (m : Int) - 1 := IntWalk.i64_in _ (by omega)
        have w2 : IntKind.i64.wrap ((m : Int) - 2) = (m : Int) - 2 := IntWalk.i64_in _ (by omega)
        have w3 : IntKind.i64.wrap ((m : Int) - 3) = (m : Int) - 3 := IntWalk.i64_in _ (by omega)
        by_cases exy : x = y
        · subst exy
          by_cases exz : x = z
          · subst exz
            rw [if_pos ⟨rfl, rfl⟩]
            clear Mn
            go_wp2_with fail
            refine wp_pure (List.range 28) 28 (by kernel_rfl) (by kernel_rfl) rfl ?_
            rw [show List.range 28 = [0, 1, 2, 3, 4, 5, 6, 7, 8, 9, 10, 11, 12, 13, 14, 15, 16, 17, 18, 19, 20, 21, 22, 23, 24, 25, 26, 27] from rfl]
            repeat' (first | (refine pl_nil ?_) | (refine pl_value (v := ?_) rfl rfl ?_ ?_; rotate_left 1; (focus (intro w' hk; have c0 := look hk p1; have c1 := look hk p2; have c2 := look hk p3; go_simp; (first | done | with_reducible rfl | exact rfl))); (try simp only [Act.put, List.setIfInBounds_toArray, List.set_cons_zero, List.set_cons_succ])) | (refine pl_skip rfl rfl ?_; (try simp only [Act.put, List.setIfInBounds_toArray, List.set_cons_zero, List.set_cons_succ])))
            intro w4 hk4
            have r1 := look hk4 p1
            have hB4 := hBz.trans (hk4.below (B := w.heap.size) hBz.size (fun _ h => h.elim))
            clear p1 p2 p3 hBz hk4
            simp only [List.drop_succ_cons, List.drop_nil]
            go_wp2_with fail
            go_ret
            exact ⟨rfl, hB4⟩
          · rw [if_neg (fun h => exz h.2)]
            have q : (x == z) = false := beq_eq_false_iff_ne.2 exz
            clear Mn exz
            go_wp2_with fail
            refine wp_pure (List.range 28) 28 (by kernel_rfl) (by kernel_rfl) rfl ?_
            rw [show List.range 28 = [0, 1, 2, 3, 4, 5, 6, 7, 8, 9, 10, 11, 12, 13, 14, 15, 16, 17, 18, 19, 20, 21, 22, 23, 24, 25, 26, 27] from rfl]
            repeat' (first | (refine pl_nil ?_) | (refine pl_value (v := ?_) rfl rfl ?_ ?_; rotate_left 1; (focus (intro w' hk; have c0 := look hk p1; have c1 := look hk p2; have c2 := look hk p3; go_simp; (first | done | with_reducible rfl | exact rfl))); (try simp only [Act.put, List.setIfInBounds_toArray, List.set_cons_zero, List.set_cons_succ])) | (refine pl_skip rfl rfl ?_; (try simp only [Act.put, List.setIfInBounds_toArray, List.set_cons_zero, List.set_cons_succ])))
            intro w4 hk4
            have hB4 := hBz.trans (hk4.below (B := w.heap.size) hBz.size (fun _ h => h.elim))
            clear p1 p2 p3 hBz hk4
            simp only [List.drop_succ_cons, List.drop_nil]
            go_wp2_with fail
            go_ret
            exact ⟨rfl, hB4⟩
        · rw [if_neg (fun h => exy h.1)]
          have q : (x == y) = false := beq_eq_false_iff_ne.2 exy
          clear Mn exy
          go_wp2_with fail
          refine wp_pure (List.range 28) 28 (by kernel_rfl) (by kernel_rfl) rfl ?_
          rw [show List.range 28 = [0, 1, 2, 3, 4, 5, 6, 7, 8, 9, 10, 11, 12, 13, 14, 15, 16, 17, 18, 19, 20, 21, 22, 23, 24, 25, 26, 27] from rfl]
          repeat' (first | (refine pl_nil ?_) | (refine pl_value (v := ?_) rfl rfl ?_ ?_; rotate_left 1; (focus (intro w' hk; have c0 := look hk p1; have c1 := look hk p2; have c2 := look hk p3; go_simp; (first | done | with_reducible rfl | exact rfl))); (try simp only [Act.put, List.setIfInBounds_toArray, List.set_cons_zero, List.set_cons_succ])) | (refine pl_skip rfl rfl ?_; (try simp only [Act.put, List.setIfInBounds_toArray, List.set_cons_zero, List.set_cons_succ])))
          intro w4 hk4
          have hB4 := hBz.trans (hk4.below (B := w.heap.size) hBz.size (fun _ h => h.elim))
          clear p1 p2 p3 hBz hk4
          simp only [List.drop_succ_cons, List.drop_nil]
          go_wp2_with fail
          go_ret
          exact ⟨rfl, hB4⟩
      · rw [Hf.out (by omega)]
        have hm3 : (S.length : Int) < 3 := by omega
        have dm : decide ((3 : Int) ≤ (S.length : Int)) = false := by simpa using hm3
        clear hcells H3 Hf Hn hb2 hb3 hk3 HIr HI h3
        generalize S.length = m at *
        go_wp2_with fail
        refine wp_pure (List.range 28) 28 (by kernel_rfl) (by kernel_rfl) rfl ?_
        rw [show List.range 28 = [0, 1, 2, 3, 4, 5, 6, 7, 8, 9, 10, 11, 12, 13, 14, 15, 16, 17, 18, 19, 20, 21, 22, 23, 24, 25, 26, 27] from rfl]
        repeat' (first | (refine pl_nil ?_) | (refine pl_value (v := ?_) rfl rfl ?_ ?_; rotate_left 1; (focus (intro w' hk; go_simp; (first | done | with_reducible rfl | exact rfl))); (try simp only [Act.put, List.setIfInBounds_toArray, List.set_cons_zero, List.set_cons_succ])) | (refine pl_skip rfl rfl ?_; (try simp only [Act.put, List.setIfInBounds_toArray, List.set_cons_zero, List.set_cons_succ])))
        intro w4 hk4
        have hB4 := hBz.trans (hk4.below (B := w.heap.size) hBz.size (fun _ h => h.elim))
        clear hBz hk4
        simp only [List.drop_succ_cons, List.drop_nil]
        go_wp2_with fail
        go_ret
        exact ⟨rfl, hB4⟩

set_option maxHeartbeats 1000000 in
theorem agrees_out (sa : Option Addr) (len cap : Nat) (w : World) (hl : (100 : Int) < (len : Int)) :
    Calls Try.prog 4 #[.slice sa len cap] w fun e w' => e = .returned (.bool true) ∧ Below w.heap.size w w' := by
  go_enter Try.func4, Try.ntmps4
  go_wp2_with fail
  refine (shown_any _).mono ?_
  rintro e w1 ⟨rfl, hb1⟩
  go_wp2_with fail
  go_ret
  exact ⟨rfl, hb1⟩
theorem agrees_any (sa : Option Addr) (len cap : Nat) (zs : List Int) (w : World) (hI : Ints (fun _ => False) w (.slice sa len cap) zs) (hlen : zs.length = len) :
    Calls Try.prog 4 #[.slice sa len cap] w fun e w' => e = .returned (.bool true) ∧ Below w.heap.size w w' := by
  subst hlen
  by_cases h : (100 : Int) < (zs.length : Int)
  · exact agrees_out sa _ cap w h
  · exact agrees_in sa cap zs w hI h
end Go.Proofs.Ytjooockdiolalaa
