/- What the statement's proof stands on, part 41: Scr3, RTurn21, RFlip21, FlipsR21. -/
import Derived.Test.YtnaokijcggbfdaaGreatDoorBe40
import Derived.Test.YtnaokijcggbfdaaGreatDoorBe28
import Derived.Test.YtnaokijcggbfdaaGreatDoorBe35
import Derived.Test.YtnaokijcggbfdaaGreatDoorBe2
set_option linter.unusedSimpArgs false
set_option linter.unusedVariables false
set_option maxRecDepth 100000
set_option maxHeartbeats 4000000
namespace Go.Proofs.YtnaokijcggbfdaaGreatDoor
open Go.RowKit Go.Shelf
attribute [local go_sem] Oper.semAt_some
abbrev fliC (x : Dw.Su) (v : Value) : Array Value := #[.string ⟨x.f.a.toArray⟩, .string ⟨x.f.b.toArray⟩, .int .i64 x.f.e0, .int .i64 x.f.e1, .int .i64 x.f.li, .int .i64 x.s.mo, .bool x.s.ar, .bool x.s.ho, .int .i64 x.s.la, .int .i64 x.s.lo, .int .i64 x.s.iso, .int .i64 x.ph, .int .i64 x.vo, .int .i64 x.n, v]
abbrev fliV (x : Dw.Su) (v : Value) : Value := .agg #[.string ⟨x.f.a.toArray⟩, .string ⟨x.f.b.toArray⟩, .int .i64 x.f.e0, .int .i64 x.f.e1, .int .i64 x.f.li, .int .i64 x.s.mo, .bool x.s.ar, .bool x.s.ho, .int .i64 x.s.la, .int .i64 x.s.lo, .int .i64 x.s.iso, .int .i64 x.ph, .int .i64 x.vo, .int .i64 x.n, v]
abbrev Z15 : Array Value := #[.string ⟨#[]⟩, .string ⟨#[]⟩, .int .i64 0, .int .i64 0, .int .i64 0, .int .i64 0, .bool false, .bool false, .int .i64 0, .int .i64 0, .int .i64 0, .int .i64 0, .int .i64 0, .int .i64 0, .slice none 0 0]
abbrev repC (r : Dw.Rep) : Array Value := #[.int .i64 r.e, .int .i64 r.ph, .int .i64 r.s.mo, .bool r.s.ar, .bool r.s.ho, .int .i64 r.s.la, .int .i64 r.s.lo, .int .i64 r.s.iso]
def repCells (l : List Dw.Rep) : List Value := l.flatMap fun r => (repC r).toList
abbrev RepsAt (w : World) (v : Value) (l : List Dw.Rep) : Prop := w.ownsRow 0 89 8 v l.length (repCells l)
theorem reps_next {w w' : World} {v : Value} {l : List Dw.Rep} (h : RepsAt w v l) (hb : Below w.heap.size w w') : RepsAt w' v l := by
  obtain ⟨hl, h | ⟨g, cap, cur, he, h0, hg, hr⟩⟩ := h
  · exact ⟨hl, .inl h⟩
  · exact ⟨hl, .inr ⟨g, cap, cur, he, h0, kp hb hg, hr⟩⟩
theorem reps_low {w : World} {B n : Nat} {v : Value} {l : List Dw.Rep} (h : w.ownsRow B 89 8 v n (repCells l)) (hn : n = l.length) : RepsAt w v l := by
  subst hn
  obtain ⟨hl, h | ⟨g, cap, cur, he, h0, hg, hr⟩⟩ := h
  · exact ⟨hl, .inl h⟩
  · exact ⟨hl, .inr ⟨g, cap, cur, he, Nat.zero_le _, hg, hr⟩⟩
theorem reps_row {w : World} {v : Value} {l : List Dw.Rep} (h : RepsAt w v l) {g : Nat} {c0 : Array Value} {fr : Nat × Nat} (hg : w.heap[g]? = some (.cells c0 64 fr)) (c : Array Value) : RepsAt (w.setRow g c) v l := by
  obtain ⟨hl, h | ⟨b, cap, cur, he, h0, hb, hr⟩⟩ := h
  · exact ⟨hl, .inl h⟩
  · have hne : b ≠ g := by
      rintro rfl
      rw [hg] at hb
      have := Option.some.inj hb
      injection this with _ h2 _
      exact absurd h2 (by decide)
    exact ⟨hl, .inr ⟨b, cap, cur, he, h0, (setRow_other w g b c hne).trans hb, hr⟩⟩
theorem repCells_len (l : List Dw.Rep) : (repCells l).length = l.length * 8 := by
  induction l with
  | nil => rfl
  | cons r l ih =>
    show ((repC r).toList ++ repCells l).length = _
    have h8 : (repC r).toList.length = 8 := rfl
    rw [List.length_append, ih, h8, show (r :: l).length = l.length + 1 from rfl]
    omega
theorem repCells_snoc (l : List Dw.Rep) (r : Dw.Rep) : repCells (l ++ [r]) = repCells l ++ (repC r).toList := by unfold repCells; simp
theorem new_bad (n : Nat) (hn : n ≤ 400) (l : Int) (hl : l < 0 ∨ 1000 < l) (w : World) :
    Calls Tryz.prog 38 #[.int .i64 n, .int .i64 l] w fun e w' => e = .returned (flashV [] [] 0 0 0) ∧ Below w.heap.size w w' := by
  have hB0 := (Below.refl w.heap.size w).alloc (Nat.le_refl _) (.cells (flashC [] [] 0 0 0) 25)
  have hC0 := han w (.cells (flashC [] [] 0 0 0) 25)
  have n1 : ¬ (n : Int) < 0 := by omega
  have n2 : ¬ (400 : Int) < (n : Int) := by omega
  rcases hl with hl | hl
  · go_enter Tryz.func38, Tryz.ntmps38
    go_wp2_with (first | (refine lb hC0 rfl rfl rfl (by kernel_rfl) ?_) | (refine sb hC0 rfl rfl rfl rfl (by kernel_rfl) ?_))
    exact bodyPost_ret (rcr rfl (srh hC0) (by rfl) (by kernel_rfl)) rfl ⟨rfl, below_setRow hB0 (Nat.le_refl _) _⟩
  · have n3 : ¬ l < 0 := by omega
    go_enter Tryz.func38, Tryz.ntmps38
    go_wp2_with (first | (refine lb hC0 rfl rfl rfl (by kernel_rfl) ?_) | (refine sb hC0 rfl rfl rfl rfl (by kernel_rfl) ?_))
    exact bodyPost_ret (rcr rfl (srh hC0) (by rfl) (by kernel_rfl)) rfl ⟨rfl, below_setRow hB0 (Nat.le_refl _) _⟩
theorem newF_any (n li : Int) (w : World) :
    Calls Tryz.prog 38 #[.int .i64 (Dw.size n), .int .i64 li] w fun e w' => e = .returned (flV (Dw.newF n li)) ∧ Below w.heap.size w w' := by
  obtain ⟨m, hm, hm4⟩ : ∃ m : Nat, Dw.size n = (m : Int) ∧ m ≤ 400 := by
    unfold Dw.size
    split
    · exact ⟨(24 * n + 24).toNat, by omega, by omega⟩
    · exact ⟨0, rfl, by omega⟩
  rw [hm]
  unfold Dw.newF
  by_cases hl : li < 0 ∨ 1000 < li
  · rw [if_pos hl]
    exact new_bad m hm4 li hl w
  · rw [if_neg hl]
    obtain ⟨l, rfl⟩ : ∃ l : Nat, li = (l : Int) := ⟨li.toNat, by omega⟩
    have h := new_any m l hm4 (by omega) w
    unfold Dw.size at hm
    by_cases hn : 1 ≤ n ∧ n ≤ 12
    · rw [if_pos hn] at hm ⊢
      obtain rfl : m = 24 * n.toNat + 24 := by omega
      exact h
    · rw [if_neg hn] at hm ⊢
      obtain rfl : m = 0 := by omega
      exact h
theorem begin_any (n li : Int) (w : World) (hn : NoneAt w) :
    Calls Tryz.prog 23 #[.int .i64 n, .int .i64 li] w fun e w' => e = .returned (fliV (Dw.beginF n li).x (.slice none 0 0)) ∧ Below w.heap.size w w' := by
  obtain ⟨V, hV⟩ : ∃ V, w.alloc (.cells Z15 64) = V := ⟨_, rfl⟩
  have b0 := han w (.cells Z15 64)
  have hB := (Below.refl w.heap.size w).alloc (Nat.le_refl _) (.cells Z15 64)
  rw [hV] at b0 hB
  have HS := Lib.hid (fun w => lsize_any n w)
  have HN := Lib.hid (fun w => newF_any n li w)
  have HBt := Lib.hid (fun w hn => boot_any (Dw.newF n li) (Dw.newF_ok n li) w hn)
  rw [show Dw.boot (Dw.newF n li) = (Dw.beginF n li).x from rfl] at HBt
  generalize (Dw.beginF n li).x = X at *
  generalize Dw.newF n li = F at *
  generalize Dw.size n = sz at *
  go_enter Tryz.func23, Tryz.ntmps23
  go_wp2_with fail
  try rw [hV]
  clear hV
  refine cb (HS.out _) fun w1 hb => ?_
  replace b0 := kp hb b0; replace hB := tr hB hb; clear hb HS
  go_wp2_with fail
  refine cb (HN.out _) fun w2 hb => ?_
  replace b0 := kp hb b0; replace hB := tr hB hb; clear hb HN
  go_wp2_with fail
  refine cb (HBt.out _ (hn.next hB)) fun w3 hb => ?_
  replace b0 := kp hb b0; replace hB := tr hB hb; clear hb HBt
  go_wp2_with (first | (refine sb b0 rfl rfl rfl rfl (by kernel_rfl) ?_))
  exact bodyPost_ret (rcr rfl (srh b0) (by rfl) (by kernel_rfl)) rfl ⟨rfl, below_setRow hB (Nat.le_refl _) _⟩
theorem RowAt.next {w w' : World} {b n : Nat} {f : Nat → Value} (h : RowAt w b n f) (hb : Below w.heap.size w w') : RowAt w' b n f := by
  obtain ⟨c, t, fr, h0, h⟩ := h
  exact ⟨c, t, fr, kp hb h0, h⟩
theorem rturned_any (s : List UInt8) (jn m : Nat) (hlt : jn < s.length) (hs : s.length ≤ 400) (hm8 : m < 8) (w : World) :
    Calls Tryz.prog 64 #[.string ⟨s.toArray⟩, .int .i64 jn, .int .i64 m] w fun e w' => e = .returned (.string ⟨(Dw.turnB s jn m).toArray⟩) ∧ Below w.heap.size w w' := by
  have HBT := Lib.hid (bit_u8 m hm8)
  have hj' : (jn : Int) < (s.length : Int) := by omega
  have hj0 : (0 : Int) ≤ (jn : Int) := by omega
  have m0 : (0 : Int) ≤ (m : Int) := by omega
  have m1 : (m : Int) ≤ 8 := by omega
  have hcv := Lib.run_convert_string_bytes (P := Tryz.prog) w 9 135 5 ⟨s.toArray⟩ Tryz.underlying9 Tryz.underlying135 Tryz.underlying5
  have hR := row_of_bytes w s
  have hB := Lib.bytesWorld_below w 5 ⟨s.toArray⟩
  generalize Lib.bytesWorld w 5 ⟨s.toArray⟩ = w1 at *
  generalize grownCap w _ 0 _ = cap at *
  have hsz := hB.size
  generalize w.heap.size = g at *
  have hck := hR.cell hlt
  have HT := Lib.hid (fun (W : World) (h : RowAt W g s.length (fun j => .int .u8 (((s.getD j 0).toNat : Nat) : Int))) => turn_back (W.setCell ⟨g, jn, none⟩ (.int .u8 ((s.getD jn 0 ^^^ UInt8.ofNat (2 ^ m)).toNat : Int))) g jn m cap s hlt (h.set jn _))
  have hx : bits .xor .u8 ((s.getD jn 0).toNat : Int) (2 ^ m % 256) = ((s.getD jn 0 ^^^ UInt8.ofNat (2 ^ m)).toNat : Int) := by rw [HBT.out]; exact xor_u8 _ _
  have HRW := Lib.hid hR
  have HL := Lib.hid hlt
  generalize Dw.turnB s jn m = T at *
  obtain ⟨x0, hx0⟩ : ∃ x, s.getD jn 0 = x := ⟨_, rfl⟩
  obtain ⟨bt, hbt⟩ : ∃ x, UInt8.ofNat (2 ^ m) = x := ⟨_, rfl⟩
  rw [hx0] at hck
  rw [hx0, hbt] at HT hx
  simp only [UInt8.toNat_xor] at hx HT
  clear hx0 hbt HBT hR hs hm8 hlt
  go_enter Tryz.func64, Tryz.ntmps64
  go_wp2_with fail
  refine wp_pure [0, 1, 2, 3, 4, 5, 6, 7, 8, 9] 10 (by kernel_rfl) (by kernel_rfl) rfl ?_
  (apply rat; (focus (intro w' hk; have k0 := look hk hck; (iterate 10 (refine' rv ?_ rfl rfl (by go_simp; first | done | with_reducible rfl | exact rfl); try simp only [Act.put, List.setIfInBounds_toArray, List.set_cons_zero, List.set_cons_succ])); (exact rn))))
  intro w2 hk2
  simp only [List.drop_succ_cons, List.drop_zero]
  have hB2 := hB.trans (hk2.whole.mono hsz)
  have hR2 := HRW.out.next hk2.whole
  have hfk := hR2.frozen HL.out
  have hck2 := look hk2 hck
  have kc := HT.out w2 hR2
  have HB3 := Lib.hid (hB2.setCell (p := ⟨g, jn, none⟩) (Nat.le_refl _) (.int .u8 ((x0.toNat ^^^ bt.toNat : Nat) : Int)))
  clear hB hB2 hk2 hck HT hR2 HRW hcv
  go_wp2_with fail
  go_ret
  exact ⟨rfl, HB3.out⟩
theorem quo8 (k : Int) (h0 : ¬ k < 0) (hk : k ≤ 9223372036854775807) : ∃ i m : Nat, k / 8 = (i : Int) ∧ k % 8 = (m : Int) ∧ m < 8 ∧ Int.tdiv k 8 = (i : Int) ∧ IntKind.i64.wrap (i : Int) = (i : Int) ∧ Int.tmod k 8 = (m : Int) ∧ IntKind.i64.wrap (m : Int) = (m : Int) ∧ (i : Int) ≤ 1152921504606846975 := by
  have h1 : (0 : Int) ≤ k := by omega
  have h2 : Int.tdiv k 8 = k / 8 := Int.tdiv_eq_ediv_of_nonneg h1
  have h3 : Int.tmod k 8 = k % 8 := Int.tmod_eq_emod_of_nonneg h1
  obtain ⟨i, hi⟩ : ∃ i : Nat, k / 8 = (i : Int) := ⟨(k / 8).toNat, by omega⟩
  obtain ⟨m, hm⟩ : ∃ m : Nat, k % 8 = (m : Int) := ⟨(k % 8).toNat, by omega⟩
  have h4 : (i : Int) ≤ 1152921504606846975 := by omega
  exact ⟨i, m, hi, hm, by omega, h2.trans hi, IntWalk.i64_in _ (by omega), h3.trans hm, IntWalk.i64_in _ (by omega), h4⟩
theorem rflip_any (f : Dw.Fl) (hf : Dw.FlOk f) (k : Int) (hk : -9223372036854775808 ≤ k ∧ k ≤ 9223372036854775807) (w : World) :
    Calls Tryz.prog 32 #[flV f, .int .i64 k] w fun e w' => e = .returned (flV (Dw.flip f k)) ∧ Below w.heap.size w w' := by
  obtain ⟨V, hV⟩ : ∃ V, (w.alloc (.cells (flC f) 66)).alloc (.cells (flashC [] [] 0 0 0) 66) = V := ⟨_, rfl⟩
  obtain ⟨bF, bR, hB⟩ := allocs2 _ _ _ _ hV
  obtain ⟨c0, c1, -⟩ := cells5 bF
  have ha := hf.a; have hb4 := hf.b
  clear hf
  by_cases h0 : k < 0
  · have HFL := Lib.hid (Dw.flip_neg f h0)
    clear ha hb4 hk
    go_enter Tryz.func32, Tryz.ntmps32
    go_wp2_with (first | (refine lb bF rfl rfl rfl (by kernel_rfl) ?_) | (refine sb bR rfl rfl rfl rfl (by kernel_rfl) ?_))
    exact bodyPost_ret (rcr rfl (srh bR) (by rfl) (by kernel_rfl)) rfl ⟨by rw [HFL.out], below_setRow hB (by omega) _⟩
  obtain ⟨i, m, e8, m8, hm8, d1, d2, d3, d4, hi60⟩ := quo8 k h0 hk.2
  have hfl : Dw.flip f k = if i < f.a.length then { f with a := Dw.turnB f.a i m } else if i < f.a.length + f.b.length then { f with b := Dw.turnB f.b (i - f.a.length) m } else f := by
    clear hk
    unfold Dw.flip
    rw [if_neg h0, e8, m8]
    by_cases q : i < f.a.length
    · rw [if_pos (by omega), if_pos q]; simp
    · rw [if_neg (by omega), if_neg q]
      by_cases q2 : i < f.a.length + f.b.length
      · rw [if_pos (by omega), if_pos q2, show ((i : Int) - (f.a.length : Int)).toNat = i - f.a.length by omega]; simp
      · rw [if_neg (by omega), if_neg q2]
  clear hk e8 m8
  have e1 : IntKind.i64.wrap ((f.a.length : Int) + (f.b.length : Int)) = (f.a.length : Int) + (f.b.length : Int) := IntWalk.i64_in _ (by omega)
  have e2 : wrap64 ((f.a.length : Int) + (f.b.length : Int)) = (f.a.length : Int) + (f.b.length : Int) := IntWalk.wrap64_in _ (by omega)
  by_cases q : i < f.a.length
  · have HT := Lib.hid (fun w => rturned_any f.a i m q ha hm8 w)
    have q1 : (i : Int) < (f.a.length : Int) := by clear d1 d2 d3 d4 e1 e2 hfl; omega
    have q2 : ¬ ((f.a.length : Int) + (f.b.length : Int) ≤ (i : Int)) := by clear d1 d2 d3 d4 e1 e2 hfl; omega
    rw [if_pos q] at hfl
    have HFL := Lib.hid hfl
    clear hfl hm8 q ha hb4 hi60
    generalize Dw.turnB f.a i m = T at *
    go_enter Tryz.func32, Tryz.ntmps32
    go_wp2_with fail
    refine cb (HT.out _) fun w1 hb => ?_
    replace bF := kp hb bF; replace bR := kp hb bR; replace hB := tr hB hb
    clear hb HT hV c0 c1
    obtain ⟨c0, c1, -⟩ := cells5 bF
    have hfn := frozen0 bF 0
    have bF3 : (w1.setCell ⟨w.heap.size, 0, none⟩ (.string ⟨T.toArray⟩)).heap[w.heap.size]? = some (.cells (flC { f with a := T }) 66 (0, 0)) := heap_setCell_same _ _ 0 _ _ (.string ⟨T.toArray⟩) bF
    have bR3 := (heap_setCell_other w1 ⟨w.heap.size, 0, none⟩ (w.heap.size + 1) (.string ⟨T.toArray⟩) (by show w.heap.size + 1 ≠ w.heap.size; omega)).trans bR
    have hB3 := hB.setCell (p := ⟨w.heap.size, 0, none⟩) (Nat.le_refl _) (.string ⟨T.toArray⟩)
    clear bF bR hB
    go_wp2_with (first | (refine lb bF3 rfl rfl rfl (by kernel_rfl) ?_) | (refine sb bR3 rfl rfl rfl rfl (by kernel_rfl) ?_))
    exact bodyPost_ret (rcr rfl (srh bR3) (by rfl) (by kernel_rfl)) rfl ⟨by rw [HFL.out], below_setRow hB3 (by omega) _⟩
  · rw [if_neg q] at hfl
    by_cases q2 : i < f.a.length + f.b.length
    · obtain ⟨j, hj⟩ : ∃ j, i - f.a.length = j := ⟨_, rfl⟩
      have HT := Lib.hid (fun w => rturned_any f.b j m (by clear d1 d2 d3 d4 e1 e2 hfl; omega) hb4 hm8 w)
      have r1 : ¬ (i : Int) < (f.a.length : Int) := by clear d1 d2 d3 d4 e1 e2 hfl; omega
      have r2 : ¬ ((f.a.length : Int) + (f.b.length : Int) ≤ (i : Int)) := by clear d1 d2 d3 d4 e1 e2 hfl; omega
      have r3 : IntKind.i64.wrap ((i : Int) - (f.a.length : Int)) = (j : Int) := by clear d1 d2 d3 d4 e1 e2 hfl; rw [show (i : Int) - (f.a.length : Int) = (j : Int) by omega]; exact IntWalk.i64_in _ (by omega)
      have r4 : wrap64 ((i : Int) - (f.a.length : Int)) = (j : Int) := by clear d1 d2 d3 d4 e1 e2 hfl r3; rw [show (i : Int) - (f.a.length : Int) = (j : Int) by omega]; exact IntWalk.wrap64_in _ (by omega)
      rw [if_pos q2, hj] at hfl
      have HFL := Lib.hid hfl
      clear hfl hm8 q ha hb4 hj q2 hi60
      generalize Dw.turnB f.b j m = T at *
      go_enter Tryz.func32, Tryz.ntmps32
      go_wp2_with fail
      refine cb (HT.out _) fun w1 hb => ?_
      replace bF := kp hb bF; replace bR := kp hb bR; replace hB := tr hB hb
      clear hb HT hV c0 c1
      obtain ⟨c0, c1, -⟩ := cells5 bF
      have hfn := frozen0 bF 1
      have bF3 : (w1.setCell ⟨w.heap.size, 1, none⟩ (.string ⟨T.toArray⟩)).heap[w.heap.size]? = some (.cells (flC { f with b := T }) 66 (0, 0)) := heap_setCell_same _ _ 1 _ _ (.string ⟨T.toArray⟩) bF
      have bR3 := (heap_setCell_other w1 ⟨w.heap.size, 1, none⟩ (w.heap.size + 1) (.string ⟨T.toArray⟩) (by show w.heap.size + 1 ≠ w.heap.size; omega)).trans bR
      have hB3 := hB.setCell (p := ⟨w.heap.size, 1, none⟩) (Nat.le_refl _) (.string ⟨T.toArray⟩)
      clear bF bR hB
      go_wp2_with (first | (refine lb bF3 rfl rfl rfl (by kernel_rfl) ?_) | (refine sb bR3 rfl rfl rfl rfl (by kernel_rfl) ?_))
      exact bodyPost_ret (rcr rfl (srh bR3) (by rfl) (by kernel_rfl)) rfl ⟨by rw [HFL.out], below_setRow hB3 (by omega) _⟩
    · have r2 : (f.a.length : Int) + (f.b.length : Int) ≤ (i : Int) := by clear d1 d2 d3 d4 e1 e2 hfl; omega
      rw [if_neg q2] at hfl
      have HFL := Lib.hid hfl
      clear hfl hm8 q ha hb4 q2 hi60
      go_enter Tryz.func32, Tryz.ntmps32
      go_wp2_with (first | (refine lb bF rfl rfl rfl (by kernel_rfl) ?_) | (refine sb bR rfl rfl rfl rfl (by kernel_rfl) ?_))
      exact bodyPost_ret (rcr rfl (srh bR) (by rfl) (by kernel_rfl)) rfl ⟨by rw [HFL.out], below_setRow hB (by omega) _⟩
theorem rfl_self (f : Dw.Fl) (u v : Operand) (w : World) : (do eqGuard .eql 66 u v (flV f) (flV f); binOp .eql 66 (flV f) (flV f) : Sem Value).run Tryz.prog w = .ok (.bool true) w := by
  go_simp
  simp [ba_list]
theorem fl_eqB (a b : Dw.Fl) (u v : Operand) (w : World) : (do eqGuard .eql 25 u v (flV a) (flV b); binOp .eql 25 (flV a) (flV b) : Sem Value).run Tryz.prog w = .ok (.bool (Dw.flE a b)) w := by
  unfold Dw.flE
  go_simp
  simp only [ba_list]
  by_cases q9 : a.li = b.li
  rotate_left
  · simp [q9]
  by_cases q10 : a.e1 = b.e1
  rotate_left
  · simp [q10]
  by_cases q11 : a.e0 = b.e0
  rotate_left
  · simp [q11]
  by_cases q12 : a.b = b.b
  rotate_left
  · simp [q12]
  by_cases q13 : a.a = b.a
  rotate_left
  · simp [q13]
  simp [q9, q10, q11, q12, q13]
theorem flips_r5 {t0 t3 t4 t7 t8 t9 t10 t11 t12 t13 t14 t15 t16 t17 t18 t19 t20 t21 t22 t23 t24 t25 t26 t27 t28 t29 t30 t31 t32 t33 t34 t35 t36 t37 t38 t39 t40 t41 t42 t43 t44 t45 t46 t47 t48 t49 t50 t51 t52 t53 t54 t55 t56 t57 t58 t59 t60 t61 t62 : Value} {R : Exit → Act → World → Prop} {w : World} {g2 g5 : Nat} {k : Int} {f F2 : Dw.Fl} {b : Bool} (x0 : w.cell? ⟨g2, 0, none⟩ = some (.string ⟨f.a.toArray⟩)) (x1 : w.cell? ⟨g2, 1, none⟩ = some (.string ⟨f.b.toArray⟩)) (x2 : w.cell? ⟨g2, 2, none⟩ = some (.int .i64 f.e0)) (x3 : w.cell? ⟨g2, 3, none⟩ = some (.int .i64 f.e1)) (x4 : w.cell? ⟨g2, 4, none⟩ = some (.int .i64 f.li)) (y0 : w.cell? ⟨g5, 0, none⟩ = some (.string ⟨F2.a.toArray⟩)) (y1 : w.cell? ⟨g5, 1, none⟩ = some (.string ⟨F2.b.toArray⟩)) (y2 : w.cell? ⟨g5, 2, none⟩ = some (.int .i64 F2.e0)) (y3 : w.cell? ⟨g5, 3, none⟩ = some (.int .i64 F2.e1)) (y4 : w.cell? ⟨g5, 4, none⟩ = some (.int .i64 F2.li))
    (HRF : Hid (∀ w, Calls Tryz.prog 32 #[flV f, .int .i64 k] w fun e w' => e = .returned (flV F2) ∧ Below w.heap.size w w'))
    (HF2 : Hid (∀ w, Calls Tryz.prog 31 #[flV F2, .int .i64 k] w fun e w' => e = .returned (flV f) ∧ Below w.heap.size w w'))
    (HE : Hid (Dw.flE F2 f = !b))
    (hR : ∀ (v43 v44 v45 v46 v47 v48 v49 v50 v51 v52 v53 v54 v55 v56 v57 v58 v59 v60 v61 v62 : Value) (w' : World), Keep w w' → wpList Tryz.prog (opsR 5 Tryz.f6) R [] { tmps := #[t0, .int .i64 k, .pointer (some ⟨g2, 0, none⟩), t3, .bool true, .pointer (some ⟨g5, 0, none⟩), .bool b, t7, t8, t9, t10, t11, t12, t13, t14, t15, t16, t17, t18, t19, t20, t21, t22, t23, t24, t25, t26, t27, t28, t29, t30, t31, t32, t33, t34, t35, t36, t37, t38, t39, t40, t41, t42, v43, v44, v45, v46, v47, v48, v49, v50, v51, v52, v53, v54, v55, v56, v57, v58, v59, v60, v61, v62], defers := [] } w') :
    (Code.region 5 (opsR 5 Tryz.f6) true).wp Tryz.prog R { tmps := #[t0, .int .i64 k, .pointer (some ⟨g2, 0, none⟩), t3, t4, .pointer (some ⟨g5, 0, none⟩), .bool b, t7, t8, t9, t10, t11, t12, t13, t14, t15, t16, t17, t18, t19, t20, t21, t22, t23, t24, t25, t26, t27, t28, t29, t30, t31, t32, t33, t34, t35, t36, t37, t38, t39, t40, t41, t42, t43, t44, t45, t46, t47, t48, t49, t50, t51, t52, t53, t54, t55, t56, t57, t58, t59, t60, t61, t62], defers := [] } w := by
  have e : findR 5 Tryz.f6.body.get! = findR 5 Tryz.f6.body.get! := rfl
  conv at e => rhs; whnf
  unfold opsR
  rw [e, Option.getD_some]
  clear e
  have HR := Lib.hid hR
  clear hR
  refine wp_pure [0, 1, 2, 3, 4, 5, 6, 7, 8, 9, 10, 11, 12, 13, 14, 15, 16, 17, 18, 19, 20] 21 (by kernel_rfl) (by kernel_rfl) rfl ?_
  (apply rat; (focus (intro w' hk; obtain ⟨i0,i1,i2,i3,i4,j0,j1,j2⟩ := look8 hk x0 x1 x2 x3 x4 y0 y1 y2; obtain ⟨j3,j4⟩ := look2 hk y3 y4; (iterate 3 (refine' rv ?_ rfl rfl (by go_simp; first | done | with_reducible rfl | exact rfl); try simp only [Act.put, List.setIfInBounds_toArray, List.set_cons_zero, List.set_cons_succ])); (refine' rc ?_ (by exact rfl) (by exact rfl) (by go_simp; first | done | (constructor <;> with_reducible rfl) | with_reducible rfl) (by exact HRF.out w'); try simp only [Act.put, List.setIfInBounds_toArray, List.set_cons_zero, List.set_cons_succ]); (refine' rv ?_ rfl rfl (by exact exec_bin rfl rfl rfl (rfl_self F2 _ _ w')); try simp only [Act.put, List.setIfInBounds_toArray, List.set_cons_zero, List.set_cons_succ]); (iterate 3 (refine' rv ?_ rfl rfl (by go_simp; first | done | with_reducible rfl | exact rfl); try simp only [Act.put, List.setIfInBounds_toArray, List.set_cons_zero, List.set_cons_succ])); (refine' rc ?_ (by exact rfl) (by exact rfl) (by go_simp; first | done | (constructor <;> with_reducible rfl) | with_reducible rfl) (by exact HF2.out w'); try simp only [Act.put, List.setIfInBounds_toArray, List.set_cons_zero, List.set_cons_succ]); (refine' rv ?_ rfl rfl (by go_simp; first | done | with_reducible rfl | exact rfl); try simp only [Act.put, List.setIfInBounds_toArray, List.set_cons_zero, List.set_cons_succ]); (refine' rv ?_ rfl rfl (by exact exec_bin rfl rfl rfl (fl_self f _ _ w')); try simp only [Act.put, List.setIfInBounds_toArray, List.set_cons_zero, List.set_cons_succ]); (iterate 4 (refine' rv ?_ rfl rfl (by go_simp; first | done | with_reducible rfl | exact rfl); try simp only [Act.put, List.setIfInBounds_toArray, List.set_cons_zero, List.set_cons_succ])); (refine' rv ?_ rfl rfl (by exact exec_bin rfl rfl rfl (show _ = Result.ok (Value.bool (!b)) w' from (fl_eqB F2 f _ _ w').trans (by rw [HE.out]))); try simp only [Act.put, List.setIfInBounds_toArray, List.set_cons_zero, List.set_cons_succ]); (iterate 5 (refine' rv ?_ rfl rfl (by go_simp; first | done | with_reducible rfl | exact rfl); try simp only [Act.put, List.setIfInBounds_toArray, List.set_cons_zero, List.set_cons_succ])); (exact rn))))
  intro w9 hk9
  exact HR.out _ _ _ _ _ _ _ _ _ _ _ _ _ _ _ _ _ _ _ _ w9 hk9
end Go.Proofs.YtnaokijcggbfdaaGreatDoor
