/- What the statement's proof stands on, part 29: Sup4, PlainCmd, PlainLaw20, Ev20, PlainFly. -/
import Derived.Test.YtcadgecnlahkgaaGreatDoorAh27
import Derived.Test.YtcadgecnlahkgaaGreatDoorAh26
import Derived.Test.YtcadgecnlahkgaaGreatDoorAh28
import Derived.Test.YtcadgecnlahkgaaGreatDoorAh13
set_option linter.unusedSimpArgs false
set_option linter.unusedVariables false
set_option maxRecDepth 100000
set_option maxHeartbeats 4000000
namespace Go.Proofs.YtcadgecnlahkgaaGreatDoor
open Go.RowKit Go.Shelf
attribute [local go_sem] Oper.semAt_some
namespace Dw
theorem ofS_lt (s : List UInt8) (i : Int) : (ofS s i).data < 18446744073709551616 := by
  unfold ofS
  split
  · exact (lastN_lt s _).2
  · decide
theorem readS_lt (a b : List UInt8) : (readS a b).data < 18446744073709551616 := by
  unfold readS
  split
  · decide
  · unfold best
    (repeat' split) <;> exact ofS_lt _ _
end Dw
theorem skept_any (x : Dw.Su) (hf : Dw.FlOk x.f) (hl : Dw.legal x.s = true) (w : World) (hn : NoneAt w) :
    Calls Tryz.prog 70 #[suV x] w fun e w' => e = .returned (.bool (Dw.kept x)) ∧ Below w.heap.size w w' := by
  have hB := (Below.refl w.heap.size w).alloc (Nat.le_refl _) (.cells (suC x) 33)
  have hC := han w (.cells (suC x) 33)
  obtain ⟨f, s, ph, vo, nn⟩ := x
  have HP := Lib.hid (fun w => pack_any s hl w)
  have HR := Lib.hid (fun w hn => read_any f.a f.b hf.a hf.b f.e0 f.e1 f.li w hn)
  have HK := Lib.hid (show Dw.kept ⟨f, s, ph, vo, nn⟩ = (decide (Dw.readE f.a f.b = 0) && decide (Dw.pack s = (Dw.readS f.a f.b).data)) from rfl)
  have hE2 := Dw.readE_two f.a f.b
  generalize Dw.kept ⟨f, s, ph, vo, nn⟩ = K at *
  generalize Dw.readE f.a f.b = er at *
  obtain ⟨⟨pb, pg, pq, pd⟩, hS⟩ : ∃ p, Dw.readS f.a f.b = p := ⟨_, rfl⟩
  rw [hS] at HK HR
  generalize Dw.pack s = pk at *
  clear hS hf hl
  have hNV := hn.next hB
  dsimp only at hC HK
  obtain ⟨x0, x1, -⟩ := cells14 hC
  obtain ⟨x00, x01, x02, x03, x04⟩ := x0
  go_enter Tryz.func70, Tryz.ntmps70
  go_wp2_with (first | (refine lp 27 0 (flC f) hC rfl rfl rfl (by kernel_rfl) (by rfl) ?_))
  refine cb (HR.out _ hNV) fun w1 hb => ?_
  have hC1 := kp hb hC
  replace hB := tr hB hb
  clear hb hC x00 x01 x02 x03 x04 x1 hNV hn HR
  have b4 := han w1 (.cells #[.int .i64 pb, .int .u64 pg, .int .u64 pq, .int .u64 pd] 110)
  have b1 := hao w1 (.cells #[.int .i64 pb, .int .u64 pg, .int .u64 pq, .int .u64 pd] 110) hC1
  replace hB := hB.alloc hB.size (.cells #[.int .i64 pb, .int .u64 pg, .int .u64 pq, .int .u64 pd] 110)
  obtain ⟨W, hW⟩ : ∃ W, w1.alloc (.cells #[.int .i64 pb, .int .u64 pg, .int .u64 pq, .int .u64 pd] 110) = W := ⟨_, rfl⟩
  rw [hW] at b4 b1 hB
  clear hC1
  obtain ⟨-, ⟨x5, x6, x7, x8, x9, x10⟩, -⟩ := cells14 b1
  obtain ⟨q0, q1, q2, q3⟩ := cells4 b4
  go_wp2_with fail
  try rw [hW]
  clear hW
  rcases hE2 with rfl | rfl
  · refine wp_pure [0,1,2,3,4,5,6,7,8,9] 10 (by kernel_rfl) (by kernel_rfl) rfl ?_
    (apply rat; (focus (intro w' hk; obtain ⟨k0,k1,k2,k3,k4,k5,k6⟩ := look7 hk x5 x6 x7 x8 x9 x10 q3; repeat' (first | exact rn | ((first | refine' rv ?_ rfl rfl (by go_simp; first | done | with_reducible rfl | exact rfl) | refine' rc ?_ (by exact rfl) (by exact rfl) (by go_simp; first | done | (constructor <;> with_reducible rfl) | with_reducible rfl) (by exact HP.out w') | refine' rs ?_ rfl rfl); try simp only [Act.put, List.setIfInBounds_toArray, List.set_cons_zero, List.set_cons_succ])))))
    intro w2 hk2
    simp only [List.drop_succ_cons, List.drop_zero]
    replace hB := hB.trans (hk2.whole.mono hB.size)
    clear hk2 x5 x6 x7 x8 x9 x10 q0 q1 q2 q3 b1 b4
    go_wp2_with fail
    go_ret
    refine ⟨ret_bool ?_, hB⟩
    rw [HK.out, Bool.eq_iff_iff]
    simp
    try omega
  · refine wp_pure [0,1,2,3,4,5,6,7,8,9] 10 (by kernel_rfl) (by kernel_rfl) rfl ?_
    (apply rat; (focus (intro w' hk; repeat' (first | exact rn | ((first | refine' rv ?_ rfl rfl (by go_simp; first | done | with_reducible rfl | exact rfl) | refine' rc ?_ (by exact rfl) (by exact rfl) (by go_simp; first | done | (constructor <;> with_reducible rfl) | with_reducible rfl) (by exact HP.out w') | refine' rs ?_ rfl rfl); try simp only [Act.put, List.setIfInBounds_toArray, List.set_cons_zero, List.set_cons_succ])))))
    intro w2 hk2
    simp only [List.drop_succ_cons, List.drop_zero]
    replace hB := hB.trans (hk2.whole.mono hB.size)
    clear hk2 x5 x6 x7 x8 x9 x10 q0 q1 q2 q3 b1 b4
    go_wp2_with fail
    go_ret
    refine ⟨ret_bool ?_, hB⟩
    rw [HK.out]
    simp
theorem boot_any (f : Dw.Fl) (hf : Dw.FlOk f) (w : World) (hn : NoneAt w) :
    Calls Tryz.prog 35 #[flV f] w fun e w' => e = .returned (suV (Dw.boot f)) ∧ Below w.heap.size w w' := by
  obtain ⟨V, hV⟩ : ∃ V, (w.alloc (.cells (flC f) 27)).alloc (.cells Z14 33) = V := ⟨_, rfl⟩
  have b0 : V.heap[w.heap.size]? = some (.cells (flC f) 27) := by rw [← hV]; exact heap_alloc2_old _ _ _
  have b1 : V.heap[w.heap.size + 1]? = some (.cells Z14 33) := by rw [← hV]; exact heap_alloc2_new _ _ _
  have hB : Below w.heap.size w V := by rw [← hV]; exact ((Below.refl _ w).alloc (Nat.le_refl _) _).alloc (by simp) _
  have HR := Lib.hid (fun w hn => read_any f.a f.b hf.a hf.b f.e0 f.e1 f.li w hn)
  have HT := Lib.hid (show Dw.boot f = ⟨f, if Dw.readE f.a f.b = 0 then Dw.unP (Dw.readS f.a f.b).data else Dw.st0, 0, 0, 0⟩ from rfl)
  have hE2 := Dw.readE_two f.a f.b
  have hlt := Dw.readS_lt f.a f.b
  have HD := Lib.hid (fun w => default_any w)
  generalize Dw.boot f = X at *
  generalize Dw.readE f.a f.b = er at *
  obtain ⟨⟨pb, pg, pq, pd⟩, hS⟩ : ∃ p, Dw.readS f.a f.b = p := ⟨_, rfl⟩
  rw [hS] at HT HR hlt
  dsimp only at HT hlt
  have HU := Lib.hid (fun w => unpack_any pd hlt w)
  have hbad : Dw.unE pd = 0 ∨ (Dw.unE pd = 13 ∧ Dw.unP pd = Dw.st0) := by
    unfold Dw.unE Dw.unP
    cases Dw.unOk pd
    · exact .inr ⟨rfl, rfl⟩
    · exact .inl rfl
  clear hS hlt
  obtain ⟨x0, x1, x2, x3, x4⟩ := cells5 b0
  go_enter Tryz.func35, Tryz.ntmps35
  go_wp2_with fail
  try rw [hV]
  clear hV
  refine wp_letter [0, 1, 2] 3 4 (NewBlock V Z14 33) rfl (by kernel_rfl) (by kernel_rfl) rfl (fun v A B h hk => h.keep hk) ?_
  (apply rat; (focus (intro w' hk; obtain ⟨k0,k1,k2,k3,k4⟩ := look5 hk x0 x1 x2 x3 x4; repeat' (first | exact rn | ((first | refine' rv ?_ rfl rfl (by go_simp; first | done | with_reducible rfl | exact rfl) | refine' rc ?_ (by exact rfl) (by exact rfl) (by go_simp; first | done | (constructor <;> with_reducible rfl) | with_reducible rfl) (by exact HD.out w') | refine' rs ?_ rfl rfl); try simp only [Act.put, List.setIfInBounds_toArray, List.set_cons_zero, List.set_cons_succ])))))
  refine ⟨rfl, sure_new (fun w' _ => by go_simp), ?_⟩
  rintro v W2 hk2 ⟨b, rfl, hb, hbc⟩
  simp only [List.drop_succ_cons, List.drop_zero, List.setIfInBounds_toArray]
  have hb1 : w.heap.size + 1 ≠ b := by have := block_lt b1; omega
  have hb0 : w.heap.size ≠ b := by have := block_lt b0; omega
  have hwb : w.heap.size ≤ b := by have := hB.size; omega
  replace b0 := (setRow_other W2 b w.heap.size (suC ⟨f, Dw.st0, 0, 0, 0⟩) hb0).trans (kpi hk2 b0)
  replace b1 := (setRow_other W2 b (w.heap.size + 1) (suC ⟨f, Dw.st0, 0, 0, 0⟩) hb1).trans (kpi hk2 b1)
  have b3 := setRow_heap W2 b _ (suC ⟨f, Dw.st0, 0, 0, 0⟩) _ _ hbc
  replace hB := below_setRow (hB.trans (hk2.whole.mono hB.size)) hwb (suC ⟨f, Dw.st0, 0, 0, 0⟩)
  clear x0 x1 x2 x3 x4 hk2 HD
  go_wp2_with (first | (refine lb hbc rfl rfl rfl (by kernel_rfl) ?_) | (refine sb hbc rfl rfl rfl rfl (by kernel_rfl) ?_) | (refine lb b0 rfl rfl rfl (by kernel_rfl) ?_) | (refine sb b0 rfl rfl rfl rfl (by kernel_rfl) ?_))
  refine cb (HR.out _ (hn.next hB)) fun w1 hb' => ?_
  replace b1 := kp hb' b1
  replace b3 := kp hb' b3
  replace hB := hB.trans (hb'.mono hB.size)
  clear hb' b0 HR hbc
  have b4 := han w1 (.cells #[.int .i64 pb, .int .u64 pg, .int .u64 pq, .int .u64 pd] 110)
  replace b1 := hao w1 (.cells #[.int .i64 pb, .int .u64 pg, .int .u64 pq, .int .u64 pd] 110) b1
  replace b3 := hao w1 (.cells #[.int .i64 pb, .int .u64 pg, .int .u64 pq, .int .u64 pd] 110) b3
  replace hB := hB.alloc hB.size (.cells #[.int .i64 pb, .int .u64 pg, .int .u64 pq, .int .u64 pd] 110)
  obtain ⟨W, hW⟩ : ∃ W, w1.alloc (.cells #[.int .i64 pb, .int .u64 pg, .int .u64 pq, .int .u64 pd] 110) = W := ⟨_, rfl⟩
  rw [hW] at b4 b1 b3 hB
  obtain ⟨q0, q1, q2, q3⟩ := cells4 b4
  rcases hE2 with rfl | rfl
  · go_wp2_with fail
    refine cb (HU.out _) fun w2 hb' => ?_
    replace b1 := kp hb' b1
    replace b3 := kp hb' b3
    replace hB := hB.trans (hb'.mono hB.size)
    clear hb' b4 q0 q1 q2 q3 HU hW
    have hT : X = ⟨f, Dw.unP pd, 0, 0, 0⟩ := by rw [HT.out]; rfl
    generalize hu : Dw.unP pd = U at *
    have b5 := han w2 (.cells (stC U) 29)
    replace b1 := hao w2 (.cells (stC U) 29) b1
    replace b3 := hao w2 (.cells (stC U) 29) b3
    replace hB := hB.alloc hB.size (.cells (stC U) 29)
    generalize hue : Dw.unE pd = E at *
    rcases hbad with rfl | ⟨rfl, rfl⟩
    · have r1 := (setRow_other _ b (w.heap.size + 1) (suC ⟨f, U, 0, 0, 0⟩) hb1).trans b1
      have r3 := setRow_heap _ b _ (suC ⟨f, U, 0, 0, 0⟩) _ _ b3
      have hB3 := below_setRow hB hwb (suC ⟨f, U, 0, 0, 0⟩)
      go_wp2_with (first | (refine lb b5 rfl rfl rfl (by kernel_rfl) ?_) | (refine sb b5 rfl rfl rfl rfl (by kernel_rfl) ?_) | (refine sp 29 5 (stC U) (suC ⟨f, U, 0, 0, 0⟩) b3 rfl rfl rfl rfl (by kernel_rfl) (by rfl) (by rfl) ?_) | (refine lb r3 rfl rfl rfl (by kernel_rfl) ?_) | (refine sb r3 rfl rfl rfl rfl (by kernel_rfl) ?_) | (refine lb r1 rfl rfl rfl (by kernel_rfl) ?_) | (refine sb r1 rfl rfl rfl rfl (by kernel_rfl) ?_))
      exact bodyPost_ret (rcr rfl (srh r1) (by rfl) (by kernel_rfl)) rfl ⟨by rw [hT], below_setRow hB3 (by omega) _⟩
    · go_wp2_with (first | (refine lb b3 rfl rfl rfl (by kernel_rfl) ?_) | (refine sb b3 rfl rfl rfl rfl (by kernel_rfl) ?_) | (refine lb b1 rfl rfl rfl (by kernel_rfl) ?_) | (refine sb b1 rfl rfl rfl rfl (by kernel_rfl) ?_))
      exact bodyPost_ret (rcr rfl (srh b1) (by rfl) (by kernel_rfl)) rfl ⟨by rw [hT], below_setRow hB (by omega) _⟩
  · have hT : X = ⟨f, Dw.st0, 0, 0, 0⟩ := by rw [HT.out]; rfl
    clear HU q0 q1 q2 q3
    go_wp2_with (first | (refine lb b3 rfl rfl rfl (by kernel_rfl) ?_) | (refine sb b3 rfl rfl rfl rfl (by kernel_rfl) ?_) | (refine lb b1 rfl rfl rfl (by kernel_rfl) ?_) | (refine sb b1 rfl rfl rfl rfl (by kernel_rfl) ?_))
    exact bodyPost_ret (rcr rfl (srh b1) (by rfl) (by kernel_rfl)) rfl ⟨by rw [hT], below_setRow hB (by omega) _⟩
end Go.Proofs.YtcadgecnlahkgaaGreatDoor
namespace Go.Proofs.YtcadgecnlahkgaaGreatDoor
open Go.RowKit Go.Shelf
namespace Dw
open Ieee
theorem c90 : double.read 4636033603912859648 = .number false 6333186975989760 (-1074 + ((uO - 46 : Nat) : Int)) := by
  rw [show -1074 + ((uO - 46 : Nat) : Int) = -46 by have := uO_eq; omega]
  decide +kernel
theorem c180 : double.read 4640537203540230144 = .number false 6333186975989760 (-1074 + ((uO - 45 : Nat) : Int)) := by
  rw [show -1074 + ((uO - 45 : Nat) : Int) = -45 by have := uO_eq; omega]
  decide +kernel
theorem v90 : 6333186975989760 * 2 ^ (uO - 46) = 90 * onU := by
  have := uO_eq
  rw [onU_pow, show (6333186975989760 : Nat) = 90 * 2 ^ 46 from rfl, Nat.mul_assoc, ← Nat.pow_add, show 46 + (uO - 46) = uO by omega]
theorem v180 : 6333186975989760 * 2 ^ (uO - 45) = 180 * onU := by
  have := uO_eq
  rw [onU_pow, show (6333186975989760 : Nat) = 180 * 2 ^ 45 from rfl, Nat.mul_assoc, ← Nat.pow_add, show 45 + (uO - 45) = uO by omega]
theorem fix90 {x : Nat} (h : fixE x 4636033603912859648 = 0) : x % 9223372036854775808 < 2047 * 4503599627370496 ∧ uv (x % 9223372036854775808) ≤ 90 * onU := by
  unfold fixE at h
  cases hn : nanB x
  · cases hg : fgt (absF x) 4636033603912859648
    · have := in_fin hn c90 hg
      rwa [v90] at this
    · rw [hn, hg] at h; exact absurd h (by decide)
  · rw [hn, if_pos rfl] at h; exact absurd h (by decide)
theorem fix180 {x : Nat} (h : fixE x 4640537203540230144 = 0) : x % 9223372036854775808 < 2047 * 4503599627370496 ∧ uv (x % 9223372036854775808) ≤ 180 * onU := by
  unfold fixE at h
  cases hn : nanB x
  · cases hg : fgt (absF x) 4640537203540230144
    · have := in_fin hn c180 hg
      rwa [v180] at this
    · rw [hn, hg] at h; exact absurd h (by decide)
  · rw [hn, if_pos rfl] at h; exact absurd h (by decide)
theorem home_ok {c : Cmd} (h : homeE c = 0) : fixE c.la 4636033603912859648 = 0 ∧ fixE c.lo 4640537203540230144 = 0 := by
  unfold homeE at h
  by_cases h1 : fixE c.la 4636033603912859648 = 0
  · rw [if_neg (fun h => h h1)] at h
    exact ⟨h1, h⟩
  · rw [if_pos h1] at h
    exact absurd h h1
theorem way_range {a b : Int} (h : wayB a b = true) : 0 ≤ b ∧ b ≤ 5 := by
  unfold wayB at h
  simp only [Bool.and_eq_true, decide_eq_true_eq] at h
  exact h.1.2
theorem goes_ok {s : St} {n : Int} (h : goesE s n = 0) : wayB s.mo n = true := by
  unfold goesE at h
  cases hw : wayB s.mo n
  · rw [if_pos hw] at h; exact absurd h (by decide)
  · rfl
theorem n4 {n : Int} (h : ¬ (n < 0 ∨ 3 < n)) : n = 0 ∨ n = 1 ∨ n = 2 ∨ n = 3 := by omega
theorem setOn_range {iso n : Int} (h : 0 ≤ iso ∧ iso ≤ 15) (hn : ¬ (n < 0 ∨ 3 < n)) : 0 ≤ setOn iso n ∧ setOn iso n ≤ 15 := by
  unfold setOn bitOn
  rcases n4 hn with rfl | rfl | rfl | rfl <;> (simp only [decide_eq_true_eq]; split <;> simp at * <;> omega)
theorem setOff_range {iso n : Int} (h : 0 ≤ iso ∧ iso ≤ 15) (hn : ¬ (n < 0 ∨ 3 < n)) : 0 ≤ setOff iso n ∧ setOff iso n ≤ 15 := by
  unfold setOff bitOn
  rcases n4 hn with rfl | rfl | rfl | rfl <;> (simp only [decide_eq_true_eq]; split <;> simp at * <;> omega)
theorem isoE_ok {s : St} {n : Int} (h : isoE s n = 0) : ¬ (n < 0 ∨ 3 < n) := by
  intro hn
  unfold isoE at h
  rw [if_pos hn] at h
  exact absurd h (by decide)
theorem resE_ok {n : Int} (h : resE n = 0) : ¬ (n < 0 ∨ 3 < n) := by
  intro hn
  unfold resE at h
  rw [if_pos hn] at h
  exact absurd h (by decide)
theorem delta_legal {s : St} (h : legal s = true) {c : Cmd} (he : deltaE s c = 0) : legal (deltaT s c) = true := by
  obtain ⟨⟨m0, m1, i0, i1⟩, hl, hh⟩ := (legal_iff s).1 h
  unfold deltaE at he
  unfold deltaT
  by_cases h1 : c.ki = 1
  · rw [if_pos h1] at he ⊢
    have := way_range (goes_ok he)
    exact (legal_iff _).2 ⟨⟨this.1, this.2, i0, i1⟩, hl, hh⟩
  rw [if_neg h1] at he ⊢
  by_cases h2 : c.ki = 2
  · rw [if_pos h2]
    exact (legal_iff _).2 ⟨⟨by show (0 : Int) ≤ 1; decide, by show (1 : Int) ≤ 5; decide, i0, i1⟩, hl, hh⟩
  rw [if_neg h2] at he ⊢
  by_cases h3 : c.ki = 3
  · rw [if_pos h3]
    exact (legal_iff _).2 ⟨⟨by show (0 : Int) ≤ 0; decide, by show (0 : Int) ≤ 5; decide, i0, i1⟩, hl, hh⟩
  rw [if_neg h3] at he ⊢
  by_cases h4 : c.ki = 4
  · rw [if_pos h4] at he ⊢
    obtain ⟨e1, e2⟩ := home_ok he
    have r1 := fix_range (fix90 e1).2
    have r2 := fix_range (fix180 e2).2
    exact (legal_iff _).2 ⟨⟨m0, m1, i0, i1⟩, ⟨by show -737280 ≤ fixV c.la; omega, by show fixV c.la ≤ 737280; omega, by show -1474560 ≤ fixV c.lo; omega, by show fixV c.lo ≤ 1474560; omega⟩, .inl rfl⟩
  rw [if_neg h4] at he ⊢
  by_cases h5 : c.ki = 5
  · rw [if_pos h5] at he ⊢
    have := setOn_range ⟨i0, i1⟩ (isoE_ok he)
    exact (legal_iff _).2 ⟨⟨m0, m1, this.1, this.2⟩, hl, hh⟩
  rw [if_neg h5] at he ⊢
  by_cases h6 : c.ki = 6
  · rw [if_pos h6] at he
    have := setOff_range ⟨i0, i1⟩ (resE_ok he)
    exact (legal_iff _).2 ⟨⟨m0, m1, this.1, this.2⟩, hl, hh⟩
  · rw [if_neg h6] at he
    exact absurd he (by decide)
theorem deltaS_ok {s : St} {c : Cmd} (h : deltaE s c = 0) : deltaS s c = deltaT s c := by unfold deltaS; rw [if_pos h]
theorem deltaS_no {s : St} {c : Cmd} (h : deltaE s c ≠ 0) : deltaS s c = s := by unfold deltaS; rw [if_neg h]
theorem deltaS_legal {s : St} (h : legal s = true) (c : Cmd) : legal (deltaS s c) = true := by
  by_cases he : deltaE s c = 0
  · rw [deltaS_ok he]; exact delta_legal h he
  · rw [deltaS_no he]; exact h
theorem write_no {x : Su} {t : St} {p : Pw} (h : (plan x.f (pack t)).2 ≠ 0) : writeX x t p = { x with ph := 2 } ∧ writeE x t p = 26 := by
  unfold writeX writeE
  rw [if_neg h, if_neg (fun q => h q.1)]
  exact ⟨rfl, rfl⟩
theorem write_ack {x : Su} {t : St} {p : Pw} (h : (plan x.f (pack t)).2 = 0) (ha : ackB x.f (wStp t p) = true) : writeX x t p = { x with f := (putG x.f (wStp t p)).1, s := t } ∧ writeE x t p = 0 := by
  unfold writeX writeE
  rw [if_pos h, if_pos ha, if_pos ⟨h, ha⟩]
  exact ⟨rfl, rfl⟩
theorem write_off {x : Su} {t : St} {p : Pw} (h : (plan x.f (pack t)).2 = 0) (ha : ackB x.f (wStp t p) = false) : writeX x t p = { x with f := (putG x.f (wStp t p)).1, ph := 3 } ∧ writeE x t p = 26 := by
  unfold writeX writeE
  rw [if_pos h, if_neg (by rw [ha]; decide), if_neg (fun q => by rw [ha] at q; exact absurd q.2 (by decide))]
  exact ⟨rfl, rfl⟩
theorem write_okf {x : Su} (h : FlOk x.f) (t : St) (p : Pw) : FlOk (writeX x t p).f := by
  by_cases h0 : (plan x.f (pack t)).2 = 0
  · have := putG_ok h (s := wStp t p) h0
    cases ha : ackB x.f (wStp t p)
    · rw [(write_off h0 ha).1]; exact this
    · rw [(write_ack h0 ha).1]; exact this
  · rw [(write_no h0).1]; exact h
theorem write_state (x : Su) (t : St) (p : Pw) : (writeX x t p).s = x.s ∨ (writeX x t p).s = t := by
  by_cases h0 : (plan x.f (pack t)).2 = 0
  · cases ha : ackB x.f (wStp t p)
    · rw [(write_off h0 ha).1]; exact .inl rfl
    · rw [(write_ack h0 ha).1]; exact .inr rfl
  · rw [(write_no h0).1]; exact .inl rfl
theorem write_legal {x : Su} {t : St} (h : legal x.s = true) (ht : legal t = true) (p : Pw) : legal (writeX x t p).s = true := by
  rcases write_state x t p with e | e <;> rw [e] <;> assumption
theorem commandX_ok {x : Su} (h : FlOk x.f) (c : Cmd) (p : Pw) : FlOk (commandX x c p).f := by
  unfold commandX
  split
  · exact write_okf h _ _
  · exact h
theorem command_legal {x : Su} (h : legal x.s = true) (c : Cmd) (p : Pw) : legal (commandX x c p).s = true := by
  unfold commandX
  by_cases hc : refusedE x c = 0 ∧ deltaT x.s c ≠ x.s
  · rw [if_pos hc]
    refine write_legal h (delta_legal h ?_) p
    have := hc.1
    unfold refusedE at this
    split at this
    · exact absurd this (by decide)
    · split at this
      · exact absurd this (by decide)
      · exact this
  · rw [if_neg hc]; exact h
end Dw
end Go.Proofs.YtcadgecnlahkgaaGreatDoor
namespace Go.Proofs.YtcadgecnlahkgaaGreatDoor
open Go.RowKit Go.Shelf
namespace Dw
abbrev whole : Pw := ⟨-1, []⟩
theorem refused_two {x : Su} {c : Cmd} (h : x.ph = 2 ∨ x.ph = 3) : refusedE x c = 26 := by unfold refusedE; rw [if_pos h]
theorem refused_hold {x : Su} {c : Cmd} (h : x.ph = 0) (hc : 1 ≤ c.ki ∧ c.ki ≤ 3) : refusedE x c = 25 := by unfold refusedE; rw [if_neg (by omega), if_pos ⟨h, hc⟩]
theorem refused_else {x : Su} {c : Cmd} (h : ¬ (x.ph = 2 ∨ x.ph = 3)) (h2 : ¬ (x.ph = 0 ∧ 1 ≤ c.ki ∧ c.ki ≤ 3)) : refusedE x c = deltaE x.s c := by unfold refusedE; rw [if_neg h, if_neg h2]
theorem sample_off {x : Su} (h : x.ph = 3) (v : Int) (p : Pw) : sampleX x v p = x ∧ sampleE x v p = 26 := by
  unfold sampleX sampleE
  rw [if_pos h, if_pos h]
  exact ⟨rfl, rfl⟩
theorem sample_still {x : Su} (h : x.ph ≠ 3) {v : Int} (p : Pw) (h2 : x.ph ≠ 0 ∨ verdC (addV x.vo v) (addN x.vo x.n v) = 0) : sampleX x v p = voted x v ∧ sampleE x v p = 0 := by
  have h2' : x.ph ≠ 0 ∨ verdC (voted x v).vo (voted x v).n = 0 := h2
  unfold sampleX sampleE
  rw [if_neg h, if_neg h]
  dsimp only
  rw [if_pos h2', if_pos h2']
  exact ⟨rfl, rfl⟩
theorem sample_kept {x : Su} (h : x.ph = 0) {v d : Int} (p : Pw) (hd : verdC (addV x.vo v) (addN x.vo x.n v) = d) (h0 : d ≠ 0) (ht : resolveS x.s d = x.s) (hk : kept x = true) :
    sampleX x v p = { voted x v with ph := 1 } ∧ sampleE x v p = 0 := by
  have hd' : verdC (voted x v).vo (voted x v).n = d := hd
  have hno : ¬ (x.ph ≠ 0 ∨ d = 0) := by rintro (q | q); exact q h; exact h0 q
  refine ⟨?_, ?_⟩
  · unfold sampleX
    rw [if_neg (show ¬ x.ph = 3 by omega)]
    dsimp only
    rw [hd', if_neg hno, if_pos ⟨ht, hk⟩]
  · unfold sampleE
    rw [if_neg (show ¬ x.ph = 3 by omega)]
    dsimp only
    rw [hd', if_neg hno, if_pos ⟨ht, hk⟩]
theorem sample_writes {x : Su} (h : x.ph = 0) {v d : Int} (p : Pw) (hd : verdC (addV x.vo v) (addN x.vo x.n v) = d) (h0 : d ≠ 0) (hk : ¬ (resolveS x.s d = x.s ∧ kept x = true)) :
    sampleX x v p = (if writeE (voted x v) (resolveS x.s d) p = 0 then { writeX (voted x v) (resolveS x.s d) p with ph := 1 } else writeX (voted x v) (resolveS x.s d) p) ∧ sampleE x v p = writeE (voted x v) (resolveS x.s d) p := by
  have hd' : verdC (voted x v).vo (voted x v).n = d := hd
  have hno : ¬ (x.ph ≠ 0 ∨ d = 0) := by rintro (q | q); exact q h; exact h0 q
  refine ⟨?_, ?_⟩
  · unfold sampleX
    rw [if_neg (show ¬ x.ph = 3 by omega)]
    dsimp only
    rw [hd', if_neg hno, if_neg hk]
  · unfold sampleE
    rw [if_neg (show ¬ x.ph = 3 by omega)]
    dsimp only
    rw [hd', if_neg hno, if_neg hk]
theorem sampleX_ok {x : Su} (h : FlOk x.f) (v : Int) (p : Pw) : FlOk (sampleX x v p).f := by
  by_cases h3 : x.ph = 3
  · rw [(sample_off h3 v p).1]; exact h
  by_cases h2 : x.ph ≠ 0 ∨ verdC (addV x.vo v) (addN x.vo x.n v) = 0
  · rw [(sample_still h3 p h2).1]; exact h
  · have h0 : x.ph = 0 := Decidable.byContradiction fun q => h2 (.inl q)
    have hd : verdC (addV x.vo v) (addN x.vo x.n v) ≠ 0 := fun q => h2 (.inr q)
    by_cases hk : resolveS x.s (verdC (addV x.vo v) (addN x.vo x.n v)) = x.s ∧ kept x = true
    · rw [(sample_kept h0 p rfl hd hk.1 hk.2).1]; exact h
    · rw [(sample_writes h0 p rfl hd hk).1]
      split
      · exact write_okf (x := voted x v) h _ _
      · exact write_okf (x := voted x v) h _ _
theorem sample_legal {x : Su} (h : legal x.s = true) (v : Int) (p : Pw) : legal (sampleX x v p).s = true := by
  by_cases h3 : x.ph = 3
  · rw [(sample_off h3 v p).1]; exact h
  by_cases h2 : x.ph ≠ 0 ∨ verdC (addV x.vo v) (addN x.vo x.n v) = 0
  · rw [(sample_still h3 p h2).1]; exact h
  · have h0 : x.ph = 0 := Decidable.byContradiction fun q => h2 (.inl q)
    have hd : verdC (addV x.vo v) (addN x.vo x.n v) ≠ 0 := fun q => h2 (.inr q)
    by_cases hk : resolveS x.s (verdC (addV x.vo v) (addN x.vo x.n v)) = x.s ∧ kept x = true
    · rw [(sample_kept h0 p rfl hd hk.1 hk.2).1]; exact h
    · rw [(sample_writes h0 p rfl hd hk).1]
      split
      · exact write_legal (x := voted x v) h (resolve_legal h _) p
      · exact write_legal (x := voted x v) h (resolve_legal h _) p
theorem boot_legal (f : Fl) : legal (boot f).s = true := by
  show legal (bootT f) = true
  unfold bootT
  split
  · exact unP_legal _
  · exact legal0
def seen3 (x : Su) (v : Int) : Su := sampleX (sampleX (sampleX x v whole) v whole) v whole
end Dw
end Go.Proofs.YtcadgecnlahkgaaGreatDoor
namespace Go.Proofs.YtcadgecnlahkgaaGreatDoor
open Go.RowKit Go.Shelf
namespace Dw
def g20 : Fl := ⟨ffs 72, ffs 72, 0, 0, 5⟩
abbrev arm20 : Cmd := ⟨2, 0, 0, 0⟩
abbrev go20 : Cmd := ⟨1, 2, 0, 0⟩
abbrev cut20 : Pw := ⟨0, []⟩
def y20 : Su := seen3 (boot g20) 1
def z20 : Su := commandX y20 arm20 whole
def u20 : Su := commandX z20 go20 cut20
def v20 : Su := seen3 (boot u20.f) 2
end Dw
end Go.Proofs.YtcadgecnlahkgaaGreatDoor
namespace Go.Proofs.YtcadgecnlahkgaaGreatDoor
open Go.RowKit Go.Shelf
namespace Dw
structure En where
  ki : Int
  c : Cmd
  va : Nat
  vb : Nat
  vc : Nat
  p : Pw
  at_ : Int
structure Rep where
  e : Int
  ph : Int
  s : St
structure Fli where
  x : Su
  out : List Rep
def turnB (s : List UInt8) (i b : Nat) : List UInt8 := s.set i (s.getD i 0 ^^^ UInt8.ofNat (2 ^ b))
def flip (f : Fl) (at_ : Int) : Fl :=
  if at_ < 0 then f else
  if at_ / 8 < (f.a.length : Int) then { f with a := turnB f.a (at_ / 8).toNat (at_ % 8).toNat } else
  if at_ / 8 < (f.a.length + f.b.length : Nat) then { f with b := turnB f.b (at_ / 8 - (f.a.length : Int)).toNat (at_ % 8).toNat } else f
theorem turnB_length (s : List UInt8) (i b : Nat) : (turnB s i b).length = s.length := by simp [turnB]
theorem flip_ok {f : Fl} (h : FlOk f) (k : Int) : FlOk (flip f k) := by
  unfold flip
  (repeat' split)
  · exact h
  · exact ⟨by show (turnB _ _ _).length ≤ 400; rw [turnB_length]; exact h.a, h.b, h.li, h.e0, h.e1⟩
  · exact ⟨h.a, by show (turnB _ _ _).length ≤ 400; rw [turnB_length]; exact h.b, h.li, h.e0, h.e1⟩
  · exact h
theorem flip_neg (f : Fl) {k : Int} (h : k < 0) : flip f k = f := by unfold flip; rw [if_pos h]
abbrev En.v (e : En) : Int := voteI e.va e.vb e.vc
def stepX (x : Su) (e : En) : Su :=
  if e.ki = 1 then commandX x e.c e.p else if e.ki = 2 then sampleX x e.v e.p else if e.ki = 3 then boot x.f else if e.ki = 4 then boot (flip x.f e.at_) else x
def stepE (x : Su) (e : En) : Int := if e.ki = 1 then commandE x e.c e.p else if e.ki = 2 then sampleE x e.v e.p else 0
def isK (e : En) : Bool := decide (1 ≤ e.ki) && decide (e.ki ≤ 4)
def repOf (x : Su) (e : En) : Rep := ⟨stepE x e, (stepX x e).ph, (stepX x e).s⟩
def stepF (f : Fli) (e : En) : Fli := if isK e then ⟨stepX f.x e, f.out ++ [repOf f.x e]⟩ else f
def runF (f : Fli) (l : List En) : Fli := l.foldl stepF f
theorem isK_no {e : En} (h : isK e = false) : e.ki ≠ 1 ∧ e.ki ≠ 2 ∧ e.ki ≠ 3 ∧ e.ki ≠ 4 := by
  unfold isK at h
  simp at h
  omega
theorem step_no {e : En} (h : isK e = false) (x : Su) : stepX x e = x := by
  obtain ⟨a, b, c, d⟩ := isK_no h
  unfold stepX
  rw [if_neg a, if_neg b, if_neg c, if_neg d]
theorem stepF_x (f : Fli) (e : En) : (stepF f e).x = stepX f.x e := by
  unfold stepF
  cases h : isK e
  · rw [if_neg (by decide)]; exact (step_no h _).symm
  · rw [if_pos rfl]
theorem stepX_ok {x : Su} (h : FlOk x.f) (e : En) : FlOk (stepX x e).f := by
  unfold stepX
  (repeat' split)
  · exact commandX_ok h _ _
  · exact sampleX_ok h _ _
  · exact h
  · exact flip_ok h _
  · exact h
theorem stepX_legal {x : Su} (h : legal x.s = true) (e : En) : legal (stepX x e).s = true := by
  unfold stepX
  (repeat' split)
  · exact command_legal h _ _
  · exact sample_legal h _ _
  · exact boot_legal _
  · exact boot_legal _
  · exact h
theorem stepF_ok {f : Fli} (h : FlOk f.x.f) (e : En) : FlOk (stepF f e).x.f := by rw [stepF_x]; exact stepX_ok h e
theorem stepF_legal {f : Fli} (h : legal f.x.s = true) (e : En) : legal (stepF f e).x.s = true := by rw [stepF_x]; exact stepX_legal h e
theorem runF_ok : ∀ (l : List En) (f : Fli), FlOk f.x.f → FlOk (runF f l).x.f
  | [], _, h => h
  | e :: l, f, h => runF_ok l (stepF f e) (stepF_ok h e)
theorem runF_legal : ∀ (l : List En) (f : Fli), legal f.x.s = true → legal (runF f l).x.s = true
  | [], _, h => h
  | e :: l, f, h => runF_legal l (stepF f e) (stepF_legal h e)
theorem runF_snoc (f : Fli) (l : List En) (e : En) : runF f (l ++ [e]) = stepF (runF f l) e := by unfold runF; rw [List.foldl_append]; rfl
theorem take_snoc {α : Type} {l : List α} {k : Nat} {e : α} (h : l[k]? = some e) : l.take (k + 1) = l.take k ++ [e] := by
  obtain ⟨hk, he⟩ := List.getElem?_eq_some_iff.1 h
  rw [← List.take_append_getElem hk, he]
theorem run_take {f : Fli} {l : List En} {k : Nat} {e : En} (h : l[k]? = some e) : runF f (l.take (k + 1)) = stepF (runF f (l.take k)) e := by rw [take_snoc h, runF_snoc]
theorem out_len (l : List En) : ∀ f : Fli, (runF f l).out.length = f.out.length + (l.filter isK).length := by
  induction l with
  | nil => intro f; rfl
  | cons e l ih =>
    intro f
    show (runF (stepF f e) l).out.length = _
    rw [ih, List.filter_cons]
    unfold stepF
    cases h : isK e
    · simp
    · simp; omega
structure Aud where
  ack : List St
  fly : Bool
  fs : St
def flE (f g : Fl) : Bool := decide (f.a = g.a ∧ f.b = g.b ∧ f.e0 = g.e0 ∧ f.e1 = g.e1 ∧ f.li = g.li)
theorem flE_iff (f g : Fl) : flE f g = true ↔ f = g := by
  obtain ⟨a, b, c, d, e⟩ := f
  obtain ⟨a', b', c', d', e'⟩ := g
  unfold flE
  simp
def aud0 : Aud := ⟨[], false, st0⟩
def audS (x y : Su) (e : En) (er : Int) (a : Aud) : Aud :=
  if e.ki = 1 ∨ e.ki = 2 then
    if er = 0 then (if flE x.f y.f then a else ⟨a.ack ++ [y.s], false, st0⟩)
    else (if x.ph ≠ 3 ∧ y.ph = 3 ∧ seenEq y.f.a y.f.b x.f.a x.f.b = false ∧ unE (readS y.f.a y.f.b).data = 0 then ⟨a.ack, true, unP (readS y.f.a y.f.b).data⟩ else a)
  else a
def audF : Fli → Aud → List En → Aud
  | _, a, [] => a
  | f, a, e :: l => audF (stepF f e) (audS f.x (stepF f e).x e (stepE f.x e) a) l
def lastA (l : List St) : St := l.getLastD st0
def saysA (a : Aud) : St := if a.fly then a.fs else lastA a.ack
def knownB (a : Aud) (s : St) : Bool := decide (s = st0) || (a.fly && decide (a.fs = s)) || decide (s ∈ a.ack)
theorem audS_else {x y : Su} {e : En} {er : Int} {a : Aud} (h1 : e.ki ≠ 1) (h2 : e.ki ≠ 2) : audS x y e er a = a := by unfold audS; rw [if_neg (by omega)]
theorem audS_same {x y : Su} {e : En} {er : Int} {a : Aud} (hf : y.f = x.f) (hp : x.ph = 3 ∨ y.ph ≠ 3) : audS x y e er a = a := by
  unfold audS
  split
  · split
    · rw [if_pos ((flE_iff _ _).2 hf.symm)]
    · rw [if_neg (fun q => by rcases hp with hp | hp; exact q.1 hp; exact hp q.2.1)]
  · rfl
theorem audS_ack {x y : Su} {e : En} {a : Aud} (he : e.ki = 1 ∨ e.ki = 2) (hn : x.f ≠ y.f) : audS x y e 0 a = ⟨a.ack ++ [y.s], false, st0⟩ := by
  unfold audS
  rw [if_pos he, if_pos rfl, if_neg (fun h => hn ((flE_iff _ _).1 h))]
theorem audS_off {x y : Su} {e : En} {er : Int} {a : Aud} (he : e.ki = 1 ∨ e.ki = 2) (h0 : er ≠ 0) (h1 : x.ph ≠ 3) (h2 : y.ph = 3) :
    audS x y e er a = if seenEq y.f.a y.f.b x.f.a x.f.b = false ∧ unE (readS y.f.a y.f.b).data = 0 then ⟨a.ack, true, unP (readS y.f.a y.f.b).data⟩ else a := by
  unfold audS
  rw [if_pos he, if_neg h0]
  by_cases h : seenEq y.f.a y.f.b x.f.a x.f.b = false ∧ unE (readS y.f.a y.f.b).data = 0
  · rw [if_pos h, if_pos ⟨h1, h2, h⟩]
  · rw [if_neg h, if_neg (fun q => h q.2.2)]
theorem lastA_snoc (l : List St) (s : St) : lastA (l ++ [s]) = s := by simp [lastA]
theorem unE_pack {t : St} (h : legal t = true) : unE (pack t) = 0 := by unfold unE; rw [if_pos (unOk_pack h)]
def saysC (c : Option Cur) : St := match c with | none => st0 | some k => unP k.data
theorem inv_bootT {n N : Nat} {f : Fl} {c : Option Cur} (h : Inv n N f c) : bootT f = saysC c := by
  have hr := inv_read h
  unfold bootT
  cases c with
  | none => rw [if_neg (by rw [hr.2]; decide)]; rfl
  | some k => rw [if_pos hr.2, hr.1]; rfl
structure Wrote2 (n N : Nat) (x : Su) (c : Option Cur) (t : St) (p : Pw) : Prop where
  res : (writeE x t p = 26 ∧ writeX x t p = { x with ph := 2 } ∧ x.f.li ≤ N) ∨
    (writeE x t p = 0 ∧ ∃ g k, writeX x t p = { x with f := g, s := t } ∧ g.li = x.f.li ∧ k.data = pack t ∧ k.seq = seqOf c + 1 ∧ Inv n (N + 1) g (some k)) ∨
    (writeE x t p = 26 ∧ 0 ≤ p.cut ∧ ∃ g, writeX x t p = { x with f := g, ph := 3 } ∧ g.li = x.f.li ∧ (Inv n (N + 1) g c ∨ ∃ k, k.data = pack t ∧ k.seq = seqOf c + 1 ∧ Inv n (N + 1) g (some k)))
theorem inv_write {n N : Nat} {x : Su} {c : Option Cur} (h : Inv n N x.f c) (hN : N + 1 < 18446744073709551615) (t : St) (p : Pw) : Wrote2 n N x c t p := by
  rcases step_done h hN (pack t) p.cut p.mask (pack_lt64 t) with ⟨h4, _, hli⟩ | hD
  · obtain ⟨e1, e2⟩ := write_no (x := x) (t := t) (p := p) (by rw [h4]; decide)
    exact ⟨.inl ⟨e2, e1, hli⟩⟩
  · have hg : putG x.f (wStp t p) = playL x.f (plan x.f (pack t)).1 0 p.cut p.mask := rfl
    have hli := hD.li
    rw [← hg] at hli
    rcases hD.res with ⟨_, hn, c', hs, hda, hI'⟩ | ⟨h0, h1, hn, hrest⟩
    · rw [← hg] at hn hI'
      have ha := ack_true (s := wStp t p) hn hda hI'
      obtain ⟨e1, e2⟩ := write_ack (x := x) (t := t) (p := p) hD.ok ha
      exact ⟨.inr (.inl ⟨e2, _, c', e1, hli, hda, hs, hI'⟩)⟩
    · rw [← hg] at hn hrest
      have ha := ack_false (s := wStp t p) hn
      obtain ⟨e1, e2⟩ := write_off (x := x) (t := t) (p := p) hD.ok ha
      refine ⟨.inr (.inr ⟨e2, h0, _, e1, hli, ?_⟩)⟩
      rcases hrest with hI' | ⟨c', hs, hda, hI'⟩
      · exact .inl hI'
      · exact .inr ⟨c', hda, hs, hI'⟩
theorem none_write {x : Su} (ha : x.f.a = []) (hb : x.f.b = []) (t : St) (p : Pw) : writeE x t p = 26 ∧ writeX x t p = { x with ph := 2 } := by
  have : (plan x.f (pack t)).2 ≠ 0 := by
    have e : even x.f.a x.f.b = false := by rw [ha, hb]; decide +kernel
    unfold plan
    rw [if_pos (by rw [e])]
    decide
  obtain ⟨e1, e2⟩ := write_no (x := x) (t := t) (p := p) this
  exact ⟨e2, e1⟩
theorem none_boot {f : Fl} (ha : f.a = []) (hb : f.b = []) : bootT f = st0 := by
  obtain ⟨_, r⟩ := rdN f.a f.b (by rw [ha]; exact sound_nil) (by rw [hb]; exact sound_nil)
  unfold bootT
  rw [if_neg (by rw [r]; decide)]
structure Fly (N : Nat) (x : Su) (a : Aud) : Prop where
  leg : legal x.s = true
  okf : FlOk x.f
  st : (x.f.a = [] ∧ x.f.b = []) ∨ ∃ n c, Inv n N x.f c
  is : x.ph ≠ 3 → x.s = bootT x.f
  now : bootT x.f = saysA a
theorem fly_mono {N : Nat} {x : Su} {a : Aud} (h : Fly N x a) : Fly (N + 1) x a := ⟨h.leg, h.okf, h.st.imp id fun ⟨n, c, q⟩ => ⟨n, c, inv_mono q (Nat.le_succ N)⟩, h.is, h.now⟩
theorem fly_write {N : Nat} {x : Su} {a : Aud} (h : Fly N x a) (hN : N + 1 < 18446744073709551615) (hp : x.ph ≠ 3) {t : St} (ht : legal t = true) (p : Pw) {e : En} (he : e.ki = 1 ∨ e.ki = 2) :
    Fly (N + 1) (writeX x t p) (audS x (writeX x t p) e (writeE x t p) a) ∧ (p.cut = -1 → (writeX x t p).ph ≠ 3 ∧ (a.fly = false → (audS x (writeX x t p) e (writeE x t p) a).fly = false)) ∧ (writeE x t p = 0 → (writeX x t p).ph = x.ph ∧ (writeX x t p).s = t) := by
  have hl := write_legal h.leg ht p
  have ho := write_okf h.okf t p
  have no : writeE x t p = 26 → writeX x t p = { x with ph := 2 } → _ := fun e1 e2 => by
    have hs : audS x (writeX x t p) e (writeE x t p) a = a := audS_same (by rw [e2]) (.inr (by rw [e2]; exact (by decide : (2 : Int) ≠ 3)))
    have q : Fly (N + 1) (writeX x t p) a := ⟨hl, ho, by rw [e2]; exact (fly_mono h).st, fun _ => by rw [e2]; exact h.is hp, by rw [e2]; exact h.now⟩
    exact (⟨by rw [hs]; exact q, fun _ => ⟨by rw [e2]; exact (by decide : (2 : Int) ≠ 3), fun q => by rw [hs]; exact q⟩, fun q => by rw [e1] at q; exact absurd q (by decide)⟩ :
      Fly (N + 1) (writeX x t p) (audS x (writeX x t p) e (writeE x t p) a) ∧ (p.cut = -1 → (writeX x t p).ph ≠ 3 ∧ (a.fly = false → (audS x (writeX x t p) e (writeE x t p) a).fly = false)) ∧ (writeE x t p = 0 → (writeX x t p).ph = x.ph ∧ (writeX x t p).s = t))
  rcases h.st with ⟨ha, hb⟩ | ⟨n, c, hI⟩
  · obtain ⟨e1, e2⟩ := none_write ha hb t p
    exact no e1 e2
  · rcases (inv_write hI hN t p).res with ⟨e1, e2, _⟩ | ⟨e1, g, k, e2, _, hd, _, hI'⟩ | ⟨e1, h0, g, e2, _, hI'⟩
    · exact no e1 e2
    · have hb : bootT g = t := by rw [inv_bootT hI']; show unP k.data = t; rw [hd, unP_pack ht]
      have hf : (writeX x t p).f = g := by rw [e2]
      have hs : (writeX x t p).s = t := by rw [e2]
      have hph : (writeX x t p).ph = x.ph := by rw [e2]
      rw [e1]
      by_cases hfg : x.f = g
      · have ea : audS x (writeX x t p) e 0 a = a := audS_same (by rw [hf, hfg]) (.inr (by rw [hph]; exact hp))
        rw [ea]
        exact ⟨⟨hl, ho, .inr ⟨n, _, by rw [hf]; exact hI'⟩, fun _ => by rw [hs, hf, hb], by rw [hf, ← hfg]; exact h.now⟩, fun _ => ⟨by rw [hph]; exact hp, id⟩, fun _ => ⟨hph, hs⟩⟩
      · have ea : audS x (writeX x t p) e 0 a = ⟨a.ack ++ [(writeX x t p).s], false, st0⟩ := audS_ack he (by rw [hf]; exact hfg)
        rw [ea]
        refine ⟨⟨hl, ho, .inr ⟨n, _, by rw [hf]; exact hI'⟩, fun _ => by rw [hs, hf, hb], ?_⟩, fun _ => ⟨by rw [hph]; exact hp, fun _ => rfl⟩, fun _ => ⟨hph, hs⟩⟩
        show _ = lastA (a.ack ++ [(writeX x t p).s])
        rw [lastA_snoc, hf, hb, hs]
    · have hf : (writeX x t p).f = g := by rw [e2]
      have hph : (writeX x t p).ph = 3 := by rw [e2]
      have hcut : p.cut = -1 → False := fun q => by omega
      refine ⟨?_, fun q => (hcut q).elim, fun q => by rw [e1] at q; exact absurd q (by decide)⟩
      rw [e1, audS_off he (by decide) hp hph, hf]
      rcases hI' with hI' | ⟨k, hd, hq, hI'⟩
      · rw [if_neg (fun q => by rw [seen_same hI hI'] at q; exact absurd q.1 (by decide))]
        exact ⟨hl, ho, .inr ⟨n, c, by rw [hf]; exact hI'⟩, fun q => absurd hph q, by rw [hf, inv_bootT hI', ← inv_bootT hI]; exact h.now⟩
      · obtain ⟨r1, r2⟩ := inv_read hI'
        have hda : (readS g.a g.b).data = pack t := by rw [r1]; exact hd
        rw [if_pos ⟨seen_new hI hI' hq, by rw [hda]; exact unE_pack ht⟩]
        refine ⟨hl, ho, .inr ⟨n, _, by rw [hf]; exact hI'⟩, fun q => absurd hph q, ?_⟩
        show _ = unP (readS g.a g.b).data
        rw [hf, inv_bootT hI', hda]
        show unP k.data = _
        rw [hd]
theorem fly_same {N : Nat} {x y : Su} {a : Aud} {e : En} {er : Int} (h : Fly N x a) (hf : y.f = x.f) (hs : y.s = x.s) (hp : y.ph = 3 ↔ x.ph = 3) : Fly (N + 1) y (audS x y e er a) ∧ audS x y e er a = a := by
  have ea : audS x y e er a = a := audS_same hf (by by_cases q : y.ph = 3; exact .inl (hp.1 q); exact .inr q)
  rw [ea]
  exact ⟨⟨by rw [hs]; exact h.leg, by rw [hf]; exact h.okf, by rw [hf]; exact (fly_mono h).st, fun q => by rw [hs, hf]; exact h.is (fun r => q (hp.2 r)), by rw [hf]; exact h.now⟩, rfl⟩
structure Next (N : Nat) (x y : Su) (a b : Aud) (p : Pw) : Prop where
  fly : Fly (N + 1) y b
  un : p.cut = -1 → x.ph ≠ 3 → a.fly = false → y.ph ≠ 3 ∧ b.fly = false
theorem next_same {N : Nat} {x y : Su} {a : Aud} {e : En} {er : Int} {p : Pw} (h : Fly N x a) (hf : y.f = x.f) (hs : y.s = x.s) (hp : y.ph = 3 ↔ x.ph = 3) : Next N x y a (audS x y e er a) p := by
  obtain ⟨q, ea⟩ := fly_same (e := e) (er := er) h hf hs hp
  exact ⟨q, fun _ h1 h2 => ⟨fun r => h1 (hp.1 r), by rw [ea]; exact h2⟩⟩
theorem fly_command {N : Nat} {x : Su} {a : Aud} (h : Fly N x a) (hN : N + 1 < 18446744073709551615) {e : En} (he : e.ki = 1) (c : Cmd) (p : Pw) : Next N x (commandX x c p) a (audS x (commandX x c p) e (commandE x c p) a) p := by
  by_cases hc : refusedE x c = 0 ∧ deltaT x.s c ≠ x.s
  · have e1 : commandX x c p = writeX x (deltaT x.s c) p := by unfold commandX; rw [if_pos hc]
    have e2 : commandE x c p = writeE x (deltaT x.s c) p := by unfold commandE; rw [if_pos hc]
    have h2 : ¬ (x.ph = 2 ∨ x.ph = 3) := fun q => by have := hc.1; rw [refused_two q] at this; exact absurd this (by decide)
    have h3 : ¬ (x.ph = 0 ∧ 1 ≤ c.ki ∧ c.ki ≤ 3) := fun q => by have := hc.1; rw [refused_hold q.1 q.2] at this; exact absurd this (by decide)
    have hd : deltaE x.s c = 0 := by rw [← refused_else h2 h3]; exact hc.1
    obtain ⟨f1, f2, -⟩ := fly_write h hN (fun q => h2 (.inr q)) (delta_legal h.leg hd) p (e := e) (.inl he)
    rw [e1, e2]
    exact ⟨f1, fun q _ r => ⟨(f2 q).1, (f2 q).2 r⟩⟩
  · have e1 : commandX x c p = x := by unfold commandX; rw [if_neg hc]
    rw [e1]
    exact next_same h rfl rfl Iff.rfl
theorem audS_ph {x y : Su} {e : En} {a : Aud} (k : Int) : audS x { y with ph := k } e 0 a = audS x y e 0 a := by
  unfold audS
  simp only [if_pos]
theorem fly_sample {N : Nat} {x : Su} {a : Aud} (h : Fly N x a) (hN : N + 1 < 18446744073709551615) {e : En} (he : e.ki = 2) (v : Int) (p : Pw) : Next N x (sampleX x v p) a (audS x (sampleX x v p) e (sampleE x v p) a) p := by
  by_cases h3 : x.ph = 3
  · rw [(sample_off h3 v p).1]
    exact next_same h rfl rfl Iff.rfl
  by_cases h2 : x.ph ≠ 0 ∨ verdC (addV x.vo v) (addN x.vo x.n v) = 0
  · rw [(sample_still h3 p h2).1]
    exact next_same h rfl rfl Iff.rfl
  have h0 : x.ph = 0 := Decidable.byContradiction fun q => h2 (.inl q)
  have hd : verdC (addV x.vo v) (addN x.vo x.n v) ≠ 0 := fun q => h2 (.inr q)
  by_cases hk : resolveS x.s (verdC (addV x.vo v) (addN x.vo x.n v)) = x.s ∧ kept x = true
  · rw [(sample_kept h0 p rfl hd hk.1 hk.2).1]
    exact next_same h rfl rfl (by show (1 : Int) = 3 ↔ x.ph = 3; omega)
  · obtain ⟨e1, e2⟩ := sample_writes h0 p rfl hd hk
    have ht := resolve_legal h.leg (verdC (addV x.vo v) (addN x.vo x.n v))
    generalize resolveS x.s (verdC (addV x.vo v) (addN x.vo x.n v)) = t at *
    have hy : Fly N (voted x v) a := ⟨h.leg, h.okf, h.st, h.is, h.now⟩
    obtain ⟨f1, f2, f3⟩ := fly_write hy hN (show x.ph ≠ 3 from h3) ht p (e := e) (.inr he)
    have ex : ∀ y er, audS (voted x v) y e er a = audS x y e er a := fun _ _ => rfl
    rw [ex] at f1 f2
    rw [e1, e2]
    by_cases hw : writeE (voted x v) t p = 0
    · rw [if_pos hw]
      obtain ⟨g1, g2⟩ := f3 hw
      rw [hw] at f1 f2 ⊢
      rw [audS_ph]
      have hz : (writeX (voted x v) t p).ph ≠ 3 := by rw [g1]; exact h3
      exact ⟨⟨f1.leg, f1.okf, f1.st, fun _ => f1.is hz, f1.now⟩, fun q _ r => ⟨(by decide : (1 : Int) ≠ 3), (f2 q).2 r⟩⟩
    · rw [if_neg hw]
      exact ⟨f1, fun q _ r => ⟨(f2 q).1, (f2 q).2 r⟩⟩
theorem fly_step {N : Nat} {x : Su} {a : Aud} (h : Fly N x a) (hN : N + 1 < 18446744073709551615) (e : En) (h4 : e.ki ≠ 4) : Next N x (stepX x e) a (audS x (stepX x e) e (stepE x e) a) e.p := by
  by_cases h1 : e.ki = 1
  · have e1 : stepX x e = commandX x e.c e.p := by unfold stepX; rw [if_pos h1]
    have e2 : stepE x e = commandE x e.c e.p := by unfold stepE; rw [if_pos h1]
    rw [e1, e2]
    exact fly_command h hN h1 _ _
  by_cases h2 : e.ki = 2
  · have e1 : stepX x e = sampleX x e.v e.p := by unfold stepX; rw [if_neg h1, if_pos h2]
    have e2 : stepE x e = sampleE x e.v e.p := by unfold stepE; rw [if_neg h1, if_pos h2]
    rw [e1, e2]
    exact fly_sample h hN h2 _ _
  rw [audS_else h1 h2]
  have hm := fly_mono h
  by_cases h3 : e.ki = 3
  · have e1 : stepX x e = boot x.f := by unfold stepX; rw [if_neg h1, if_neg h2, if_pos h3]
    rw [e1]
    exact ⟨⟨boot_legal _, hm.okf, hm.st, fun _ => rfl, hm.now⟩, fun _ _ r => ⟨(by decide : (0 : Int) ≠ 3), r⟩⟩
  · have e1 : stepX x e = x := by unfold stepX; rw [if_neg h1, if_neg h2, if_neg h3, if_neg h4]
    rw [e1]
    exact ⟨hm, fun _ q r => ⟨q, r⟩⟩
theorem audF_snoc : ∀ (l : List En) (f : Fli) (a : Aud) (e : En), audF f a (l ++ [e]) = audS (runF f l).x (stepF (runF f l) e).x e (stepE (runF f l).x e) (audF f a l)
  | [], _, _, _ => rfl
  | d :: l, f, a, e => audF_snoc l (stepF f d) (audS f.x (stepF f d).x d (stepE f.x d) a) e
theorem aud_take {f : Fli} {a : Aud} {l : List En} {k : Nat} {e : En} (h : l[k]? = some e) : audF f a (l.take (k + 1)) = audS (runF f (l.take k)).x (stepF (runF f (l.take k)) e).x e (stepE (runF f (l.take k)).x e) (audF f a (l.take k)) := by rw [take_snoc h, audF_snoc]
theorem fly_run : ∀ (l : List En) (N : Nat) (f : Fli) (a : Aud), Fly N f.x a → N + l.length < 18446744073709551615 → (∀ e ∈ l, e.ki ≠ 4) → Fly (N + l.length) (runF f l).x (audF f a l) ∧ ((∀ e ∈ l, e.p.cut = -1) → f.x.ph ≠ 3 → a.fly = false → (runF f l).x.ph ≠ 3 ∧ (audF f a l).fly = false)
  | [], _, _, _, h, _, _ => ⟨h, fun _ q r => ⟨q, r⟩⟩
  | e :: l, N, f, a, h, hN, h4 => by
    simp only [List.length_cons] at hN ⊢
    have hs := fly_step h (by omega) e (h4 e (List.mem_cons_self ..))
    rw [← stepF_x] at hs
    obtain ⟨r1, r2⟩ := fly_run l (N + 1) (stepF f e) _ hs.fly (by omega) fun x hx => h4 x (List.mem_cons_of_mem _ hx)
    refine ⟨?_, fun hc q r => ?_⟩
    · rw [show N + (l.length + 1) = N + 1 + l.length by omega]
      exact r1
    · obtain ⟨s1, s2⟩ := hs.un (hc e (List.mem_cons_self ..)) q r
      exact r2 (fun x hx => hc x (List.mem_cons_of_mem _ hx)) s1 s2
def newF (n li : Int) : Fl :=
  if li < 0 ∨ 1000 < li then ⟨[], [], 0, 0, 0⟩ else if 1 ≤ n ∧ n ≤ 12 then fNew n.toNat li else ⟨[], [], 0, 0, li⟩
def beginF (n li : Int) : Fli := ⟨boot (newF n li), []⟩
theorem newF_ok (n li : Int) : FlOk (newF n li) := by
  unfold newF
  split
  · exact ⟨by decide, by decide, by decide, by decide, by decide⟩
  · rename_i h
    split
    · exact new_ok (by omega) (by omega)
    · exact ⟨(by decide : 0 ≤ 400), (by decide : 0 ≤ 400), by show li ≤ 9223372036854775807; omega, (by decide : (-9223372036854775808 : Int) ≤ 0), (by decide : (-9223372036854775808 : Int) ≤ 0)⟩
theorem fly_begin (n li : Int) : Fly 0 (boot (newF n li)) aud0 := by
  refine ⟨boot_legal _, newF_ok n li, ?_, fun _ => rfl, ?_⟩
  · show ((newF n li).a = [] ∧ (newF n li).b = []) ∨ ∃ m c, Inv m 0 (newF n li) c
    unfold newF
    split
    · exact .inl ⟨rfl, rfl⟩
    · split
      · exact .inr ⟨_, _, new_inv (by omega) (by omega) li⟩
      · exact .inl ⟨rfl, rfl⟩
  · show bootT (newF n li) = st0
    unfold newF
    split
    · exact none_boot rfl rfl
    · split
      · exact inv_bootT (new_inv (by omega) (by omega) li)
      · exact none_boot rfl rfl
theorem knownB_says (a : Aud) : knownB a (saysA a) = true := by
  unfold knownB saysA
  cases ha : a.fly
  · rw [if_neg (by decide)]
    unfold lastA
    rcases hk : a.ack.getLast? with _ | t
    · rw [List.getLast?_eq_none_iff] at hk
      rw [hk]
      simp
    · have hm : t ∈ a.ack := List.mem_of_getLast? hk
      rw [List.getLastD_eq_getLast?, hk]
      simp [hm]
  · simp
theorem audS_more (x y : Su) (e : En) (er : Int) (a : Aud) : a.ack.length ≤ (audS x y e er a).ack.length := by
  unfold audS
  (repeat' split) <;> simp
theorem audF_more : ∀ (l : List En) (f : Fli) (a : Aud), a.ack.length ≤ (audF f a l).ack.length
  | [], _, _ => Nat.le_refl _
  | e :: l, f, _ => Nat.le_trans (audS_more ..) (audF_more l (stepF f e) _)
theorem audF_append : ∀ (l m : List En) (f : Fli) (a : Aud), audF f a (l ++ m) = audF (runF f l) (audF f a l) m
  | [], _, _, _ => rfl
  | e :: l, m, f, _ => audF_append l m (stepF f e) _
theorem audF_take (l : List En) (k : Nat) (f : Fli) (a : Aud) : (audF f a (l.take k)).ack.length ≤ (audF f a l).ack.length := by
  have := audF_append (l.take k) (l.drop k) f a
  rw [List.take_append_drop] at this
  rw [this]
  exact audF_more ..
end Dw
end Go.Proofs.YtcadgecnlahkgaaGreatDoor
