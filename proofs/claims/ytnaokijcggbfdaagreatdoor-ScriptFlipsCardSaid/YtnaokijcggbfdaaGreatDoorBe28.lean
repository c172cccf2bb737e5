/- What the statement's proof stands on, part 28: Sup4, PlainCmd, PlainLaw20, Ev20, PlainFly, PlainFlip. -/
import Derived.Test.YtnaokijcggbfdaaGreatDoorBe27
import Derived.Test.YtnaokijcggbfdaaGreatDoorBe26
import Derived.Test.YtnaokijcggbfdaaGreatDoorBe12
set_option linter.unusedSimpArgs false
set_option linter.unusedVariables false
set_option maxRecDepth 100000
set_option maxHeartbeats 4000000
namespace Go.Proofs.YtnaokijcggbfdaaGreatDoor
open Go.RowKit Go.Shelf
attribute [local go_sem] Oper.semAt_some
namespace Dw
theorem ofS_lt (s : List UInt8) (i : Int) : (ofS s i).data < 18446744073709551616 := by
  unfold ofS
  split
  · exact (lastN_lt s _).2
  · decide
theorem readS_lt (a b : List UInt8) : (readS a b).data < 18446744073709551616 := by
  unfold readS
  split
  · decide
  · unfold best
    (repeat' split) <;> exact ofS_lt _ _
end Dw
theorem skept_any (x : Dw.Su) (hf : Dw.FlOk x.f) (hl : Dw.legal x.s = true) (w : World) (hn : NoneAt w) :
    Calls Tryz.prog 40 #[suV x] w fun e w' => e = .returned (.bool (Dw.kept x)) ∧ Below w.heap.size w w' := by
  have hB := (Below.refl w.heap.size w).alloc (Nat.le_refl _) (.cells (suC x) 31)
  have hC := han w (.cells (suC x) 31)
  obtain ⟨f, s, ph, vo, nn⟩ := x
  have HP := Lib.hid (fun w => pack_any s hl w)
  have HR := Lib.hid (fun w hn => read_any f.a f.b hf.a hf.b f.e0 f.e1 f.li w hn)
  have HK := Lib.hid (show Dw.kept ⟨f, s, ph, vo, nn⟩ = (decide (Dw.readE f.a f.b = 0) && decide (Dw.pack s = (Dw.readS f.a f.b).data)) from rfl)
  have hE2 := Dw.readE_two f.a f.b
  generalize Dw.kept ⟨f, s, ph, vo, nn⟩ = K at *
  generalize Dw.readE f.a f.b = er at *
  obtain ⟨⟨pb, pg, pq, pd⟩, hS⟩ : ∃ p, Dw.readS f.a f.b = p := ⟨_, rfl⟩
  rw [hS] at HK HR
  generalize Dw.pack s = pk at *
  clear hS hf hl
  have hNV := hn.next hB
  dsimp only at hC HK
  obtain ⟨x0, x1, -⟩ := cells14 hC
  obtain ⟨x00, x01, x02, x03, x04⟩ := x0
  go_enter Tryz.func40, Tryz.ntmps40
  go_wp2_with (first | (refine lp 25 0 (flC f) hC rfl rfl rfl (by kernel_rfl) (by rfl) ?_))
  refine cb (HR.out _ hNV) fun w1 hb => ?_
  have hC1 := kp hb hC
  replace hB := tr hB hb
  clear hb hC x00 x01 x02 x03 x04 x1 hNV hn HR
  have b4 := han w1 (.cells #[.int .i64 pb, .int .u64 pg, .int .u64 pq, .int .u64 pd] 110)
  have b1 := hao w1 (.cells #[.int .i64 pb, .int .u64 pg, .int .u64 pq, .int .u64 pd] 110) hC1
  replace hB := hB.alloc hB.size (.cells #[.int .i64 pb, .int .u64 pg, .int .u64 pq, .int .u64 pd] 110)
  obtain ⟨W, hW⟩ : ∃ W, w1.alloc (.cells #[.int .i64 pb, .int .u64 pg, .int .u64 pq, .int .u64 pd] 110) = W := ⟨_, rfl⟩
  rw [hW] at b4 b1 hB
  clear hC1
  obtain ⟨-, ⟨x5, x6, x7, x8, x9, x10⟩, -⟩ := cells14 b1
  obtain ⟨q0, q1, q2, q3⟩ := cells4 b4
  go_wp2_with fail
  try rw [hW]
  clear hW
  rcases hE2 with rfl | rfl
  · refine wp_pure [0,1,2,3,4,5,6,7,8,9] 10 (by kernel_rfl) (by kernel_rfl) rfl ?_
    (apply rat; (focus (intro w' hk; obtain ⟨k0,k1,k2,k3,k4,k5,k6⟩ := look7 hk x5 x6 x7 x8 x9 x10 q3; repeat' (first | exact rn | ((first | refine' rv ?_ rfl rfl (by go_simp; first | done | with_reducible rfl | exact rfl) | refine' rc ?_ (by exact rfl) (by exact rfl) (by go_simp; first | done | (constructor <;> with_reducible rfl) | with_reducible rfl) (by exact HP.out w') | refine' rs ?_ rfl rfl); try simp only [Act.put, List.setIfInBounds_toArray, List.set_cons_zero, List.set_cons_succ])))))
    intro w2 hk2
    simp only [List.drop_succ_cons, List.drop_zero]
    replace hB := hB.trans (hk2.whole.mono hB.size)
    clear hk2 x5 x6 x7 x8 x9 x10 q0 q1 q2 q3 b1 b4
    go_wp2_with fail
    go_ret
    refine ⟨ret_bool ?_, hB⟩
    rw [HK.out, Bool.eq_iff_iff]
    simp
    try omega
  · refine wp_pure [0,1,2,3,4,5,6,7,8,9] 10 (by kernel_rfl) (by kernel_rfl) rfl ?_
    (apply rat; (focus (intro w' hk; repeat' (first | exact rn | ((first | refine' rv ?_ rfl rfl (by go_simp; first | done | with_reducible rfl | exact rfl) | refine' rc ?_ (by exact rfl) (by exact rfl) (by go_simp; first | done | (constructor <;> with_reducible rfl) | with_reducible rfl) (by exact HP.out w') | refine' rs ?_ rfl rfl); try simp only [Act.put, List.setIfInBounds_toArray, List.set_cons_zero, List.set_cons_succ])))))
    intro w2 hk2
    simp only [List.drop_succ_cons, List.drop_zero]
    replace hB := hB.trans (hk2.whole.mono hB.size)
    clear hk2 x5 x6 x7 x8 x9 x10 q0 q1 q2 q3 b1 b4
    go_wp2_with fail
    go_ret
    refine ⟨ret_bool ?_, hB⟩
    rw [HK.out]
    simp
theorem boot_any (f : Dw.Fl) (hf : Dw.FlOk f) (w : World) (hn : NoneAt w) :
    Calls Tryz.prog 15 #[flV f] w fun e w' => e = .returned (suV (Dw.boot f)) ∧ Below w.heap.size w w' := by
  obtain ⟨V, hV⟩ : ∃ V, (w.alloc (.cells (flC f) 25)).alloc (.cells Z14 31) = V := ⟨_, rfl⟩
  have b0 : V.heap[w.heap.size]? = some (.cells (flC f) 25) := by rw [← hV]; exact heap_alloc2_old _ _ _
  have b1 : V.heap[w.heap.size + 1]? = some (.cells Z14 31) := by rw [← hV]; exact heap_alloc2_new _ _ _
  have hB : Below w.heap.size w V := by rw [← hV]; exact ((Below.refl _ w).alloc (Nat.le_refl _) _).alloc (by simp) _
  have HR := Lib.hid (fun w hn => read_any f.a f.b hf.a hf.b f.e0 f.e1 f.li w hn)
  have HT := Lib.hid (show Dw.boot f = ⟨f, if Dw.readE f.a f.b = 0 then Dw.unP (Dw.readS f.a f.b).data else Dw.st0, 0, 0, 0⟩ from rfl)
  have hE2 := Dw.readE_two f.a f.b
  have hlt := Dw.readS_lt f.a f.b
  have HD := Lib.hid (fun w => default_any w)
  generalize Dw.boot f = X at *
  generalize Dw.readE f.a f.b = er at *
  obtain ⟨⟨pb, pg, pq, pd⟩, hS⟩ : ∃ p, Dw.readS f.a f.b = p := ⟨_, rfl⟩
  rw [hS] at HT HR hlt
  dsimp only at HT hlt
  have HU := Lib.hid (fun w => unpack_any pd hlt w)
  have hbad : Dw.unE pd = 0 ∨ (Dw.unE pd = 13 ∧ Dw.unP pd = Dw.st0) := by
    unfold Dw.unE Dw.unP
    cases Dw.unOk pd
    · exact .inr ⟨rfl, rfl⟩
    · exact .inl rfl
  clear hS hlt
  obtain ⟨x0, x1, x2, x3, x4⟩ := cells5 b0
  go_enter Tryz.func15, Tryz.ntmps15
  go_wp2_with fail
  try rw [hV]
  clear hV
  refine wp_letter [0, 1, 2] 3 4 (NewBlock V Z14 31) rfl (by kernel_rfl) (by kernel_rfl) rfl (fun v A B h hk => h.keep hk) ?_
  (apply rat; (focus (intro w' hk; obtain ⟨k0,k1,k2,k3,k4⟩ := look5 hk x0 x1 x2 x3 x4; repeat' (first | exact rn | ((first | refine' rv ?_ rfl rfl (by go_simp; first | done | with_reducible rfl | exact rfl) | refine' rc ?_ (by exact rfl) (by exact rfl) (by go_simp; first | done | (constructor <;> with_reducible rfl) | with_reducible rfl) (by exact HD.out w') | refine' rs ?_ rfl rfl); try simp only [Act.put, List.setIfInBounds_toArray, List.set_cons_zero, List.set_cons_succ])))))
  refine ⟨rfl, sure_new (fun w' _ => by go_simp), ?_⟩
  rintro v W2 hk2 ⟨b, rfl, hb, hbc⟩
  simp only [List.drop_succ_cons, List.drop_zero, List.setIfInBounds_toArray]
  have hb1 : w.heap.size + 1 ≠ b := by have := block_lt b1; omega
  have hb0 : w.heap.size ≠ b := by have := block_lt b0; omega
  have hwb : w.heap.size ≤ b := by have := hB.size; omega
  replace b0 := (setRow_other W2 b w.heap.size (suC ⟨f, Dw.st0, 0, 0, 0⟩) hb0).trans (kpi hk2 b0)
  replace b1 := (setRow_other W2 b (w.heap.size + 1) (suC ⟨f, Dw.st0, 0, 0, 0⟩) hb1).trans (kpi hk2 b1)
  have b3 := setRow_heap W2 b _ (suC ⟨f, Dw.st0, 0, 0, 0⟩) _ _ hbc
  replace hB := below_setRow (hB.trans (hk2.whole.mono hB.size)) hwb (suC ⟨f, Dw.st0, 0, 0, 0⟩)
  clear x0 x1 x2 x3 x4 hk2 HD
  go_wp2_with (first | (refine lb hbc rfl rfl rfl (by kernel_rfl) ?_) | (refine sb hbc rfl rfl rfl rfl (by kernel_rfl) ?_) | (refine lb b0 rfl rfl rfl (by kernel_rfl) ?_) | (refine sb b0 rfl rfl rfl rfl (by kernel_rfl) ?_))
  refine cb (HR.out _ (hn.next hB)) fun w1 hb' => ?_
  replace b1 := kp hb' b1
  replace b3 := kp hb' b3
  replace hB := hB.trans (hb'.mono hB.size)
  clear hb' b0 HR hbc
  have b4 := han w1 (.cells #[.int .i64 pb, .int .u64 pg, .int .u64 pq, .int .u64 pd] 110)
  replace b1 := hao w1 (.cells #[.int .i64 pb, .int .u64 pg, .int .u64 pq, .int .u64 pd] 110) b1
  replace b3 := hao w1 (.cells #[.int .i64 pb, .int .u64 pg, .int .u64 pq, .int .u64 pd] 110) b3
  replace hB := hB.alloc hB.size (.cells #[.int .i64 pb, .int .u64 pg, .int .u64 pq, .int .u64 pd] 110)
  obtain ⟨W, hW⟩ : ∃ W, w1.alloc (.cells #[.int .i64 pb, .int .u64 pg, .int .u64 pq, .int .u64 pd] 110) = W := ⟨_, rfl⟩
  rw [hW] at b4 b1 b3 hB
  obtain ⟨q0, q1, q2, q3⟩ := cells4 b4
  rcases hE2 with rfl | rfl
  · go_wp2_with fail
    refine cb (HU.out _) fun w2 hb' => ?_
    replace b1 := kp hb' b1
    replace b3 := kp hb' b3
    replace hB := hB.trans (hb'.mono hB.size)
    clear hb' b4 q0 q1 q2 q3 HU hW
    have hT : X = ⟨f, Dw.unP pd, 0, 0, 0⟩ := by rw [HT.out]; rfl
    generalize hu : Dw.unP pd = U at *
    have b5 := han w2 (.cells (stC U) 27)
    replace b1 := hao w2 (.cells (stC U) 27) b1
    replace b3 := hao w2 (.cells (stC U) 27) b3
    replace hB := hB.alloc hB.size (.cells (stC U) 27)
    generalize hue : Dw.unE pd = E at *
    rcases hbad with rfl | ⟨rfl, rfl⟩
    · have r1 := (setRow_other _ b (w.heap.size + 1) (suC ⟨f, U, 0, 0, 0⟩) hb1).trans b1
      have r3 := setRow_heap _ b _ (suC ⟨f, U, 0, 0, 0⟩) _ _ b3
      have hB3 := below_setRow hB hwb (suC ⟨f, U, 0, 0, 0⟩)
      go_wp2_with (first | (refine lb b5 rfl rfl rfl (by kernel_rfl) ?_) | (refine sb b5 rfl rfl rfl rfl (by kernel_rfl) ?_) | (refine sp 27 5 (stC U) (suC ⟨f, U, 0, 0, 0⟩) b3 rfl rfl rfl rfl (by kernel_rfl) (by rfl) (by rfl) ?_) | (refine lb r3 rfl rfl rfl (by kernel_rfl) ?_) | (refine sb r3 rfl rfl rfl rfl (by kernel_rfl) ?_) | (refine lb r1 rfl rfl rfl (by kernel_rfl) ?_) | (refine sb r1 rfl rfl rfl rfl (by kernel_rfl) ?_))
      exact bodyPost_ret (rcr rfl (srh r1) (by rfl) (by kernel_rfl)) rfl ⟨by rw [hT], below_setRow hB3 (by omega) _⟩
    · go_wp2_with (first | (refine lb b3 rfl rfl rfl (by kernel_rfl) ?_) | (refine sb b3 rfl rfl rfl rfl (by kernel_rfl) ?_) | (refine lb b1 rfl rfl rfl (by kernel_rfl) ?_) | (refine sb b1 rfl rfl rfl rfl (by kernel_rfl) ?_))
      exact bodyPost_ret (rcr rfl (srh b1) (by rfl) (by kernel_rfl)) rfl ⟨by rw [hT], below_setRow hB (by omega) _⟩
  · have hT : X = ⟨f, Dw.st0, 0, 0, 0⟩ := by rw [HT.out]; rfl
    clear HU q0 q1 q2 q3
    go_wp2_with (first | (refine lb b3 rfl rfl rfl (by kernel_rfl) ?_) | (refine sb b3 rfl rfl rfl rfl (by kernel_rfl) ?_) | (refine lb b1 rfl rfl rfl (by kernel_rfl) ?_) | (refine sb b1 rfl rfl rfl rfl (by kernel_rfl) ?_))
    exact bodyPost_ret (rcr rfl (srh b1) (by rfl) (by kernel_rfl)) rfl ⟨by rw [hT], below_setRow hB (by omega) _⟩
end Go.Proofs.YtnaokijcggbfdaaGreatDoor
namespace Go.Proofs.YtnaokijcggbfdaaGreatDoor
open Go.RowKit Go.Shelf
namespace Dw
open Ieee
theorem c90 : double.read 4636033603912859648 = .number false 6333186975989760 (-1074 + ((uO - 46 : Nat) : Int)) := by
  rw [show -1074 + ((uO - 46 : Nat) : Int) = -46 by have := uO_eq; omega]
  decide +kernel
theorem c180 : double.read 4640537203540230144 = .number false 6333186975989760 (-1074 + ((uO - 45 : Nat) : Int)) := by
  rw [show -1074 + ((uO - 45 : Nat) : Int) = -45 by have := uO_eq; omega]
  decide +kernel
theorem v90 : 6333186975989760 * 2 ^ (uO - 46) = 90 * onU := by
  have := uO_eq
  rw [onU_pow, show (6333186975989760 : Nat) = 90 * 2 ^ 46 from rfl, Nat.mul_assoc, ← Nat.pow_add, show 46 + (uO - 46) = uO by omega]
theorem v180 : 6333186975989760 * 2 ^ (uO - 45) = 180 * onU := by
  have := uO_eq
  rw [onU_pow, show (6333186975989760 : Nat) = 180 * 2 ^ 45 from rfl, Nat.mul_assoc, ← Nat.pow_add, show 45 + (uO - 45) = uO by omega]
theorem fix90 {x : Nat} (h : fixE x 4636033603912859648 = 0) : x % 9223372036854775808 < 2047 * 4503599627370496 ∧ uv (x % 9223372036854775808) ≤ 90 * onU := by
  unfold fixE at h
  cases hn : nanB x
  · cases hg : fgt (absF x) 4636033603912859648
    · have := in_fin hn c90 hg
      rwa [v90] at this
    · rw [hn, hg] at h; exact absurd h (by decide)
  · rw [hn, if_pos rfl] at h; exact absurd h (by decide)
theorem fix180 {x : Nat} (h : fixE x 4640537203540230144 = 0) : x % 9223372036854775808 < 2047 * 4503599627370496 ∧ uv (x % 9223372036854775808) ≤ 180 * onU := by
  unfold fixE at h
  cases hn : nanB x
  · cases hg : fgt (absF x) 4640537203540230144
    · have := in_fin hn c180 hg
      rwa [v180] at this
    · rw [hn, hg] at h; exact absurd h (by decide)
  · rw [hn, if_pos rfl] at h; exact absurd h (by decide)
theorem home_ok {c : Cmd} (h : homeE c = 0) : fixE c.la 4636033603912859648 = 0 ∧ fixE c.lo 4640537203540230144 = 0 := by
  unfold homeE at h
  by_cases h1 : fixE c.la 4636033603912859648 = 0
  · rw [if_neg (fun h => h h1)] at h
    exact ⟨h1, h⟩
  · rw [if_pos h1] at h
    exact absurd h h1
theorem way_range {a b : Int} (h : wayB a b = true) : 0 ≤ b ∧ b ≤ 5 := by
  unfold wayB at h
  simp only [Bool.and_eq_true, decide_eq_true_eq] at h
  exact h.1.2
theorem goes_ok {s : St} {n : Int} (h : goesE s n = 0) : wayB s.mo n = true := by
  unfold goesE at h
  cases hw : wayB s.mo n
  · rw [if_pos hw] at h; exact absurd h (by decide)
  · rfl
theorem n4 {n : Int} (h : ¬ (n < 0 ∨ 3 < n)) : n = 0 ∨ n = 1 ∨ n = 2 ∨ n = 3 := by omega
theorem setOn_range {iso n : Int} (h : 0 ≤ iso ∧ iso ≤ 15) (hn : ¬ (n < 0 ∨ 3 < n)) : 0 ≤ setOn iso n ∧ setOn iso n ≤ 15 := by
  unfold setOn bitOn
  rcases n4 hn with rfl | rfl | rfl | rfl <;> (simp only [decide_eq_true_eq]; split <;> simp at * <;> omega)
theorem setOff_range {iso n : Int} (h : 0 ≤ iso ∧ iso ≤ 15) (hn : ¬ (n < 0 ∨ 3 < n)) : 0 ≤ setOff iso n ∧ setOff iso n ≤ 15 := by
  unfold setOff bitOn
  rcases n4 hn with rfl | rfl | rfl | rfl <;> (simp only [decide_eq_true_eq]; split <;> simp at * <;> omega)
theorem isoE_ok {s : St} {n : Int} (h : isoE s n = 0) : ¬ (n < 0 ∨ 3 < n) := by
  intro hn
  unfold isoE at h
  rw [if_pos hn] at h
  exact absurd h (by decide)
theorem resE_ok {n : Int} (h : resE n = 0) : ¬ (n < 0 ∨ 3 < n) := by
  intro hn
  unfold resE at h
  rw [if_pos hn] at h
  exact absurd h (by decide)
theorem delta_legal {s : St} (h : legal s = true) {c : Cmd} (he : deltaE s c = 0) : legal (deltaT s c) = true := by
  obtain ⟨⟨m0, m1, i0, i1⟩, hl, hh⟩ := (legal_iff s).1 h
  unfold deltaE at he
  unfold deltaT
  by_cases h1 : c.ki = 1
  · rw [if_pos h1] at he ⊢
    have := way_range (goes_ok he)
    exact (legal_iff _).2 ⟨⟨this.1, this.2, i0, i1⟩, hl, hh⟩
  rw [if_neg h1] at he ⊢
  by_cases h2 : c.ki = 2
  · rw [if_pos h2]
    exact (legal_iff _).2 ⟨⟨by show (0 : Int) ≤ 1; decide, by show (1 : Int) ≤ 5; decide, i0, i1⟩, hl, hh⟩
  rw [if_neg h2] at he ⊢
  by_cases h3 : c.ki = 3
  · rw [if_pos h3]
    exact (legal_iff _).2 ⟨⟨by show (0 : Int) ≤ 0; decide, by show (0 : Int) ≤ 5; decide, i0, i1⟩, hl, hh⟩
  rw [if_neg h3] at he ⊢
  by_cases h4 : c.ki = 4
  · rw [if_pos h4] at he ⊢
    obtain ⟨e1, e2⟩ := home_ok he
    have r1 := fix_range (fix90 e1).2
    have r2 := fix_range (fix180 e2).2
    exact (legal_iff _).2 ⟨⟨m0, m1, i0, i1⟩, ⟨by show -737280 ≤ fixV c.la; omega, by show fixV c.la ≤ 737280; omega, by show -1474560 ≤ fixV c.lo; omega, by show fixV c.lo ≤ 1474560; omega⟩, .inl rfl⟩
  rw [if_neg h4] at he ⊢
  by_cases h5 : c.ki = 5
  · rw [if_pos h5] at he ⊢
    have := setOn_range ⟨i0, i1⟩ (isoE_ok he)
    exact (legal_iff _).2 ⟨⟨m0, m1, this.1, this.2⟩, hl, hh⟩
  rw [if_neg h5] at he ⊢
  by_cases h6 : c.ki = 6
  · rw [if_pos h6] at he
    have := setOff_range ⟨i0, i1⟩ (resE_ok he)
    exact (legal_iff _).2 ⟨⟨m0, m1, this.1, this.2⟩, hl, hh⟩
  · rw [if_neg h6] at he
    exact absurd he (by decide)
theorem deltaS_ok {s : St} {c : Cmd} (h : deltaE s c = 0) : deltaS s c = deltaT s c := by unfold deltaS; rw [if_pos h]
theorem deltaS_no {s : St} {c : Cmd} (h : deltaE s c ≠ 0) : deltaS s c = s := by unfold deltaS; rw [if_neg h]
theorem deltaS_legal {s : St} (h : legal s = true) (c : Cmd) : legal (deltaS s c) = true := by
  by_cases he : deltaE s c = 0
  · rw [deltaS_ok he]; exact delta_legal h he
  · rw [deltaS_no he]; exact h
theorem write_no {x : Su} {t : St} {p : Pw} (h : (plan x.f (pack t)).2 ≠ 0) : writeX x t p = { x with ph := 2 } ∧ writeE x t p = 26 := by
  unfold writeX writeE
  rw [if_neg h, if_neg (fun q => h q.1)]
  exact ⟨rfl, rfl⟩
theorem write_ack {x : Su} {t : St} {p : Pw} (h : (plan x.f (pack t)).2 = 0) (ha : ackB x.f (wStp t p) = true) : writeX x t p = { x with f := (putG x.f (wStp t p)).1, s := t } ∧ writeE x t p = 0 := by
  unfold writeX writeE
  rw [if_pos h, if_pos ha, if_pos ⟨h, ha⟩]
  exact ⟨rfl, rfl⟩
theorem write_off {x : Su} {t : St} {p : Pw} (h : (plan x.f (pack t)).2 = 0) (ha : ackB x.f (wStp t p) = false) : writeX x t p = { x with f := (putG x.f (wStp t p)).1, ph := 3 } ∧ writeE x t p = 26 := by
  unfold writeX writeE
  rw [if_pos h, if_neg (by rw [ha]; decide), if_neg (fun q => by rw [ha] at q; exact absurd q.2 (by decide))]
  exact ⟨rfl, rfl⟩
theorem write_okf {x : Su} (h : FlOk x.f) (t : St) (p : Pw) : FlOk (writeX x t p).f := by
  by_cases h0 : (plan x.f (pack t)).2 = 0
  · have := putG_ok h (s := wStp t p) h0
    cases ha : ackB x.f (wStp t p)
    · rw [(write_off h0 ha).1]; exact this
    · rw [(write_ack h0 ha).1]; exact this
  · rw [(write_no h0).1]; exact h
theorem write_state (x : Su) (t : St) (p : Pw) : (writeX x t p).s = x.s ∨ (writeX x t p).s = t := by
  by_cases h0 : (plan x.f (pack t)).2 = 0
  · cases ha : ackB x.f (wStp t p)
    · rw [(write_off h0 ha).1]; exact .inl rfl
    · rw [(write_ack h0 ha).1]; exact .inr rfl
  · rw [(write_no h0).1]; exact .inl rfl
theorem write_legal {x : Su} {t : St} (h : legal x.s = true) (ht : legal t = true) (p : Pw) : legal (writeX x t p).s = true := by
  rcases write_state x t p with e | e <;> rw [e] <;> assumption
theorem commandX_ok {x : Su} (h : FlOk x.f) (c : Cmd) (p : Pw) : FlOk (commandX x c p).f := by
  unfold commandX
  split
  · exact write_okf h _ _
  · exact h
theorem command_legal {x : Su} (h : legal x.s = true) (c : Cmd) (p : Pw) : legal (commandX x c p).s = true := by
  unfold commandX
  by_cases hc : refusedE x c = 0 ∧ deltaT x.s c ≠ x.s
  · rw [if_pos hc]
    refine write_legal h (delta_legal h ?_) p
    have := hc.1
    unfold refusedE at this
    split at this
    · exact absurd this (by decide)
    · split at this
      · exact absurd this (by decide)
      · exact this
  · rw [if_neg hc]; exact h
end Dw
end Go.Proofs.YtnaokijcggbfdaaGreatDoor
namespace Go.Proofs.YtnaokijcggbfdaaGreatDoor
open Go.RowKit Go.Shelf
namespace Dw
abbrev whole : Pw := ⟨-1, []⟩
theorem refused_two {x : Su} {c : Cmd} (h : x.ph = 2 ∨ x.ph = 3) : refusedE x c = 26 := by unfold refusedE; rw [if_pos h]
theorem sample_off {x : Su} (h : x.ph = 3) (v : Int) (p : Pw) : sampleX x v p = x ∧ sampleE x v p = 26 := by
  unfold sampleX sampleE
  rw [if_pos h, if_pos h]
  exact ⟨rfl, rfl⟩
theorem sample_still {x : Su} (h : x.ph ≠ 3) {v : Int} (p : Pw) (h2 : x.ph ≠ 0 ∨ verdC (addV x.vo v) (addN x.vo x.n v) = 0) : sampleX x v p = voted x v ∧ sampleE x v p = 0 := by
  have h2' : x.ph ≠ 0 ∨ verdC (voted x v).vo (voted x v).n = 0 := h2
  unfold sampleX sampleE
  rw [if_neg h, if_neg h]
  dsimp only
  rw [if_pos h2', if_pos h2']
  exact ⟨rfl, rfl⟩
theorem sample_kept {x : Su} (h : x.ph = 0) {v d : Int} (p : Pw) (hd : verdC (addV x.vo v) (addN x.vo x.n v) = d) (h0 : d ≠ 0) (ht : resolveS x.s d = x.s) (hk : kept x = true) :
    sampleX x v p = { voted x v with ph := 1 } ∧ sampleE x v p = 0 := by
  have hd' : verdC (voted x v).vo (voted x v).n = d := hd
  have hno : ¬ (x.ph ≠ 0 ∨ d = 0) := by rintro (q | q); exact q h; exact h0 q
  refine ⟨?_, ?_⟩
  · unfold sampleX
    rw [if_neg (show ¬ x.ph = 3 by omega)]
    dsimp only
    rw [hd', if_neg hno, if_pos ⟨ht, hk⟩]
  · unfold sampleE
    rw [if_neg (show ¬ x.ph = 3 by omega)]
    dsimp only
    rw [hd', if_neg hno, if_pos ⟨ht, hk⟩]
theorem sample_writes {x : Su} (h : x.ph = 0) {v d : Int} (p : Pw) (hd : verdC (addV x.vo v) (addN x.vo x.n v) = d) (h0 : d ≠ 0) (hk : ¬ (resolveS x.s d = x.s ∧ kept x = true)) :
    sampleX x v p = (if writeE (voted x v) (resolveS x.s d) p = 0 then { writeX (voted x v) (resolveS x.s d) p with ph := 1 } else writeX (voted x v) (resolveS x.s d) p) ∧ sampleE x v p = writeE (voted x v) (resolveS x.s d) p := by
  have hd' : verdC (voted x v).vo (voted x v).n = d := hd
  have hno : ¬ (x.ph ≠ 0 ∨ d = 0) := by rintro (q | q); exact q h; exact h0 q
  refine ⟨?_, ?_⟩
  · unfold sampleX
    rw [if_neg (show ¬ x.ph = 3 by omega)]
    dsimp only
    rw [hd', if_neg hno, if_neg hk]
  · unfold sampleE
    rw [if_neg (show ¬ x.ph = 3 by omega)]
    dsimp only
    rw [hd', if_neg hno, if_neg hk]
theorem sampleX_ok {x : Su} (h : FlOk x.f) (v : Int) (p : Pw) : FlOk (sampleX x v p).f := by
  by_cases h3 : x.ph = 3
  · rw [(sample_off h3 v p).1]; exact h
  by_cases h2 : x.ph ≠ 0 ∨ verdC (addV x.vo v) (addN x.vo x.n v) = 0
  · rw [(sample_still h3 p h2).1]; exact h
  · have h0 : x.ph = 0 := Decidable.byContradiction fun q => h2 (.inl q)
    have hd : verdC (addV x.vo v) (addN x.vo x.n v) ≠ 0 := fun q => h2 (.inr q)
    by_cases hk : resolveS x.s (verdC (addV x.vo v) (addN x.vo x.n v)) = x.s ∧ kept x = true
    · rw [(sample_kept h0 p rfl hd hk.1 hk.2).1]; exact h
    · rw [(sample_writes h0 p rfl hd hk).1]
      split
      · exact write_okf (x := voted x v) h _ _
      · exact write_okf (x := voted x v) h _ _
theorem sample_legal {x : Su} (h : legal x.s = true) (v : Int) (p : Pw) : legal (sampleX x v p).s = true := by
  by_cases h3 : x.ph = 3
  · rw [(sample_off h3 v p).1]; exact h
  by_cases h2 : x.ph ≠ 0 ∨ verdC (addV x.vo v) (addN x.vo x.n v) = 0
  · rw [(sample_still h3 p h2).1]; exact h
  · have h0 : x.ph = 0 := Decidable.byContradiction fun q => h2 (.inl q)
    have hd : verdC (addV x.vo v) (addN x.vo x.n v) ≠ 0 := fun q => h2 (.inr q)
    by_cases hk : resolveS x.s (verdC (addV x.vo v) (addN x.vo x.n v)) = x.s ∧ kept x = true
    · rw [(sample_kept h0 p rfl hd hk.1 hk.2).1]; exact h
    · rw [(sample_writes h0 p rfl hd hk).1]
      split
      · exact write_legal (x := voted x v) h (resolve_legal h _) p
      · exact write_legal (x := voted x v) h (resolve_legal h _) p
theorem boot_legal (f : Fl) : legal (boot f).s = true := by
  show legal (bootT f) = true
  unfold bootT
  split
  · exact unP_legal _
  · exact legal0
def seen3 (x : Su) (v : Int) : Su := sampleX (sampleX (sampleX x v whole) v whole) v whole
end Dw
end Go.Proofs.YtnaokijcggbfdaaGreatDoor
namespace Go.Proofs.YtnaokijcggbfdaaGreatDoor
open Go.RowKit Go.Shelf
namespace Dw
def g20 : Fl := ⟨ffs 72, ffs 72, 0, 0, 5⟩
abbrev arm20 : Cmd := ⟨2, 0, 0, 0⟩
abbrev go20 : Cmd := ⟨1, 2, 0, 0⟩
abbrev cut20 : Pw := ⟨0, []⟩
def y20 : Su := seen3 (boot g20) 1
def z20 : Su := commandX y20 arm20 whole
def u20 : Su := commandX z20 go20 cut20
end Dw
end Go.Proofs.YtnaokijcggbfdaaGreatDoor
namespace Go.Proofs.YtnaokijcggbfdaaGreatDoor
open Go.RowKit Go.Shelf
namespace Dw
structure En where
  ki : Int
  c : Cmd
  va : Nat
  vb : Nat
  vc : Nat
  p : Pw
  at_ : Int
structure Rep where
  e : Int
  ph : Int
  s : St
structure Fli where
  x : Su
  out : List Rep
def turnB (s : List UInt8) (i b : Nat) : List UInt8 := s.set i (s.getD i 0 ^^^ UInt8.ofNat (2 ^ b))
def flip (f : Fl) (at_ : Int) : Fl :=
  if at_ < 0 then f else
  if at_ / 8 < (f.a.length : Int) then { f with a := turnB f.a (at_ / 8).toNat (at_ % 8).toNat } else
  if at_ / 8 < (f.a.length + f.b.length : Nat) then { f with b := turnB f.b (at_ / 8 - (f.a.length : Int)).toNat (at_ % 8).toNat } else f
theorem turnB_length (s : List UInt8) (i b : Nat) : (turnB s i b).length = s.length := by simp [turnB]
theorem flip_ok {f : Fl} (h : FlOk f) (k : Int) : FlOk (flip f k) := by
  unfold flip
  (repeat' split)
  · exact h
  · exact ⟨by show (turnB _ _ _).length ≤ 400; rw [turnB_length]; exact h.a, h.b, h.li, h.e0, h.e1⟩
  · exact ⟨h.a, by show (turnB _ _ _).length ≤ 400; rw [turnB_length]; exact h.b, h.li, h.e0, h.e1⟩
  · exact h
theorem flip_neg (f : Fl) {k : Int} (h : k < 0) : flip f k = f := by unfold flip; rw [if_pos h]
abbrev En.v (e : En) : Int := voteI e.va e.vb e.vc
def stepX (x : Su) (e : En) : Su :=
  if e.ki = 1 then commandX x e.c e.p else if e.ki = 2 then sampleX x e.v e.p else if e.ki = 3 then boot x.f else if e.ki = 4 then boot (flip x.f e.at_) else x
def stepE (x : Su) (e : En) : Int := if e.ki = 1 then commandE x e.c e.p else if e.ki = 2 then sampleE x e.v e.p else 0
def isK (e : En) : Bool := decide (1 ≤ e.ki) && decide (e.ki ≤ 4)
def repOf (x : Su) (e : En) : Rep := ⟨stepE x e, (stepX x e).ph, (stepX x e).s⟩
def stepF (f : Fli) (e : En) : Fli := if isK e then ⟨stepX f.x e, f.out ++ [repOf f.x e]⟩ else f
def runF (f : Fli) (l : List En) : Fli := l.foldl stepF f
theorem isK_no {e : En} (h : isK e = false) : e.ki ≠ 1 ∧ e.ki ≠ 2 ∧ e.ki ≠ 3 ∧ e.ki ≠ 4 := by
  unfold isK at h
  simp at h
  omega
theorem step_no {e : En} (h : isK e = false) (x : Su) : stepX x e = x := by
  obtain ⟨a, b, c, d⟩ := isK_no h
  unfold stepX
  rw [if_neg a, if_neg b, if_neg c, if_neg d]
theorem stepF_x (f : Fli) (e : En) : (stepF f e).x = stepX f.x e := by
  unfold stepF
  cases h : isK e
  · rw [if_neg (by decide)]; exact (step_no h _).symm
  · rw [if_pos rfl]
theorem stepX_ok {x : Su} (h : FlOk x.f) (e : En) : FlOk (stepX x e).f := by
  unfold stepX
  (repeat' split)
  · exact commandX_ok h _ _
  · exact sampleX_ok h _ _
  · exact h
  · exact flip_ok h _
  · exact h
theorem stepX_legal {x : Su} (h : legal x.s = true) (e : En) : legal (stepX x e).s = true := by
  unfold stepX
  (repeat' split)
  · exact command_legal h _ _
  · exact sample_legal h _ _
  · exact boot_legal _
  · exact boot_legal _
  · exact h
theorem stepF_ok {f : Fli} (h : FlOk f.x.f) (e : En) : FlOk (stepF f e).x.f := by rw [stepF_x]; exact stepX_ok h e
theorem stepF_legal {f : Fli} (h : legal f.x.s = true) (e : En) : legal (stepF f e).x.s = true := by rw [stepF_x]; exact stepX_legal h e
theorem runF_ok : ∀ (l : List En) (f : Fli), FlOk f.x.f → FlOk (runF f l).x.f
  | [], _, h => h
  | e :: l, f, h => runF_ok l (stepF f e) (stepF_ok h e)
theorem runF_legal : ∀ (l : List En) (f : Fli), legal f.x.s = true → legal (runF f l).x.s = true
  | [], _, h => h
  | e :: l, f, h => runF_legal l (stepF f e) (stepF_legal h e)
theorem runF_snoc (f : Fli) (l : List En) (e : En) : runF f (l ++ [e]) = stepF (runF f l) e := by unfold runF; rw [List.foldl_append]; rfl
theorem take_snoc {α : Type} {l : List α} {k : Nat} {e : α} (h : l[k]? = some e) : l.take (k + 1) = l.take k ++ [e] := by
  obtain ⟨hk, he⟩ := List.getElem?_eq_some_iff.1 h
  rw [← List.take_append_getElem hk, he]
theorem run_take {f : Fli} {l : List En} {k : Nat} {e : En} (h : l[k]? = some e) : runF f (l.take (k + 1)) = stepF (runF f (l.take k)) e := by rw [take_snoc h, runF_snoc]
theorem out_len (l : List En) : ∀ f : Fli, (runF f l).out.length = f.out.length + (l.filter isK).length := by
  induction l with
  | nil => intro f; rfl
  | cons e l ih =>
    intro f
    show (runF (stepF f e) l).out.length = _
    rw [ih, List.filter_cons]
    unfold stepF
    cases h : isK e
    · simp
    · simp; omega
def LastIs (f : Fli) : Prop := f.out = [] ∨ ∃ o r, f.out = o ++ [r] ∧ r.ph = f.x.ph ∧ r.s = f.x.s
theorem last_step {f : Fli} (h : LastIs f) (e : En) : LastIs (stepF f e) := by
  unfold stepF
  cases hk : isK e
  · exact h
  · exact .inr ⟨f.out, repOf f.x e, rfl, rfl, rfl⟩
structure Aud where
  ack : List St
  fly : Bool
  fs : St
def flE (f g : Fl) : Bool := decide (f.a = g.a ∧ f.b = g.b ∧ f.e0 = g.e0 ∧ f.e1 = g.e1 ∧ f.li = g.li)
theorem flE_iff (f g : Fl) : flE f g = true ↔ f = g := by
  obtain ⟨a, b, c, d, e⟩ := f
  obtain ⟨a', b', c', d', e'⟩ := g
  unfold flE
  simp
def lastA (l : List St) : St := l.getLastD st0
def saysA (a : Aud) : St := if a.fly then a.fs else lastA a.ack
structure Fly (N : Nat) (x : Su) (a : Aud) : Prop where
  leg : legal x.s = true
  okf : FlOk x.f
  st : (x.f.a = [] ∧ x.f.b = []) ∨ ∃ n c, Inv n N x.f c
  is : x.ph ≠ 3 → x.s = bootT x.f
  now : bootT x.f = saysA a
structure Next (N : Nat) (x y : Su) (a b : Aud) (p : Pw) : Prop where
  fly : Fly (N + 1) y b
  un : p.cut = -1 → x.ph ≠ 3 → a.fly = false → y.ph ≠ 3 ∧ b.fly = false
def newF (n li : Int) : Fl :=
  if li < 0 ∨ 1000 < li then ⟨[], [], 0, 0, 0⟩ else if 1 ≤ n ∧ n ≤ 12 then fNew n.toNat li else ⟨[], [], 0, 0, li⟩
def beginF (n li : Int) : Fli := ⟨boot (newF n li), []⟩
theorem newF_ok (n li : Int) : FlOk (newF n li) := by
  unfold newF
  split
  · exact ⟨by decide, by decide, by decide, by decide, by decide⟩
  · rename_i h
    split
    · exact new_ok (by omega) (by omega)
    · exact ⟨(by decide : 0 ≤ 400), (by decide : 0 ≤ 400), by show li ≤ 9223372036854775807; omega, (by decide : (-9223372036854775808 : Int) ≤ 0), (by decide : (-9223372036854775808 : Int) ≤ 0)⟩
end Dw
end Go.Proofs.YtnaokijcggbfdaaGreatDoor
namespace Go.Proofs.YtnaokijcggbfdaaGreatDoor
open Go.RowKit Go.Shelf
namespace Dw
theorem turnB_at {s : List UInt8} {i : Nat} (b : Nat) (h : i < s.length) : (turnB s i b).getD i 0 = s.getD i 0 ^^^ UInt8.ofNat (2 ^ b) := by
  unfold turnB
  rw [List.getD_eq_getElem?_getD, List.getElem?_set_self h]
  rfl
theorem turnB_turnB (s : List UInt8) (i b : Nat) : turnB (turnB s i b) i b = s := by
  by_cases h : i < s.length
  · have e : turnB (turnB s i b) i b = (turnB s i b).set i ((turnB s i b).getD i 0 ^^^ UInt8.ofNat (2 ^ b)) := rfl
    rw [e, turnB_at b h, UInt8.xor_assoc, UInt8.xor_self, UInt8.xor_zero]
    unfold turnB
    rw [List.set_set, List.getD_eq_getElem?_getD, List.getElem?_eq_getElem h]
    exact List.set_getElem_self h
  · unfold turnB
    rw [List.set_eq_of_length_le (by rw [List.length_set]; omega), List.set_eq_of_length_le (by omega)]
theorem bit_ne : ∀ b : Nat, b < 8 → UInt8.ofNat (2 ^ b) ≠ 0 := by decide
theorem turnB_ne {s : List UInt8} {i b : Nat} (h : i < s.length) (hb : b < 8) : turnB s i b ≠ s := fun q => by
  have h1 := turnB_at b h
  rw [q] at h1
  have h2 : s.getD i 0 ^^^ (s.getD i 0 ^^^ UInt8.ofNat (2 ^ b)) = s.getD i 0 ^^^ s.getD i 0 := by rw [← h1]
  rw [← UInt8.xor_assoc, UInt8.xor_self, UInt8.zero_xor] at h2
  exact bit_ne b hb h2
theorem flip_flip (f : Fl) (k : Int) : flip (flip f k) k = f := by
  by_cases h0 : k < 0
  · rw [flip_neg _ h0, flip_neg _ h0]
  by_cases h1 : k / 8 < (f.a.length : Int)
  · have e : flip f k = { f with a := turnB f.a (k / 8).toNat (k % 8).toNat } := by unfold flip; rw [if_neg h0, if_pos h1]
    rw [e]
    unfold flip
    dsimp only
    rw [if_neg h0, if_pos (by rw [turnB_length]; exact h1), turnB_turnB]
  by_cases h2 : k / 8 < (f.a.length + f.b.length : Nat)
  · have e : flip f k = { f with b := turnB f.b (k / 8 - (f.a.length : Int)).toNat (k % 8).toNat } := by unfold flip; rw [if_neg h0, if_neg h1, if_pos h2]
    rw [e]
    unfold flip
    dsimp only
    rw [if_neg h0, if_neg h1, if_pos (by rw [turnB_length]; exact h2), turnB_turnB]
  · have e : flip f k = f := by unfold flip; rw [if_neg h0, if_neg h1, if_neg h2]
    rw [e, e]
theorem flip_ne {f : Fl} {k : Int} (h0 : 0 ≤ k) (h2 : k / 8 < (f.a.length + f.b.length : Nat)) : flip f k ≠ f := by
  by_cases h1 : k / 8 < (f.a.length : Int)
  · have e : flip f k = { f with a := turnB f.a (k / 8).toNat (k % 8).toNat } := by unfold flip; rw [if_neg (by omega), if_pos h1]
    rw [e]
    intro q
    exact turnB_ne (by omega) (by omega) (congrArg Fl.a q)
  · have e : flip f k = { f with b := turnB f.b (k / 8 - (f.a.length : Int)).toNat (k % 8).toNat } := by unfold flip; rw [if_neg (by omega), if_neg h1, if_pos h2]
    rw [e]
    intro q
    exact turnB_ne (by omega) (by omega) (congrArg Fl.b q)
theorem flip_out {f : Fl} {k : Int} (h : k < 0 ∨ ((f.a.length + f.b.length : Nat) : Int) ≤ k / 8) : flip f k = f := by
  unfold flip
  rcases h with h | h
  · rw [if_pos h]
  · by_cases h0 : k < 0
    · rw [if_pos h0]
    · rw [if_neg h0, if_neg (by omega), if_neg (by omega)]
end Dw
end Go.Proofs.YtnaokijcggbfdaaGreatDoor
