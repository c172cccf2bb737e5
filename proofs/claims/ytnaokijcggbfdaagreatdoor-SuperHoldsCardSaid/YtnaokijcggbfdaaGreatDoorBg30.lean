/- What the statement's proof stands on, part 30: Sup4, PlainCmd, PlainLaw20, Ev20, PlainMod20. -/
import Derived.Test.YtnaokijcggbfdaaGreatDoorBg28
import Derived.Test.YtnaokijcggbfdaaGreatDoorBg27
import Derived.Test.YtnaokijcggbfdaaGreatDoorBg29
import Derived.Test.YtnaokijcggbfdaaGreatDoorBg18
set_option linter.unusedSimpArgs false
set_option linter.unusedVariables false
set_option maxRecDepth 100000
set_option maxHeartbeats 4000000
namespace Go.Proofs.YtnaokijcggbfdaaGreatDoor
open Go.RowKit Go.Shelf
attribute [local go_sem] Oper.semAt_some
namespace Dw
theorem ofS_lt (s : List UInt8) (i : Int) : (ofS s i).data < 18446744073709551616 := by
  unfold ofS
  split
  · exact (lastN_lt s _).2
  · decide
theorem readS_lt (a b : List UInt8) : (readS a b).data < 18446744073709551616 := by
  unfold readS
  split
  · decide
  · unfold best
    (repeat' split) <;> exact ofS_lt _ _
end Dw
theorem skept_any (x : Dw.Su) (hf : Dw.FlOk x.f) (hl : Dw.legal x.s = true) (w : World) (hn : NoneAt w) :
    Calls Tryz.prog 40 #[suV x] w fun e w' => e = .returned (.bool (Dw.kept x)) ∧ Below w.heap.size w w' := by
  have hB := (Below.refl w.heap.size w).alloc (Nat.le_refl _) (.cells (suC x) 31)
  have hC := han w (.cells (suC x) 31)
  obtain ⟨f, s, ph, vo, nn⟩ := x
  have HP := Lib.hid (fun w => pack_any s hl w)
  have HR := Lib.hid (fun w hn => read_any f.a f.b hf.a hf.b f.e0 f.e1 f.li w hn)
  have HK := Lib.hid (show Dw.kept ⟨f, s, ph, vo, nn⟩ = (decide (Dw.readE f.a f.b = 0) && decide (Dw.pack s = (Dw.readS f.a f.b).data)) from rfl)
  have hE2 := Dw.readE_two f.a f.b
  generalize Dw.kept ⟨f, s, ph, vo, nn⟩ = K at *
  generalize Dw.readE f.a f.b = er at *
  obtain ⟨⟨pb, pg, pq, pd⟩, hS⟩ : ∃ p, Dw.readS f.a f.b = p := ⟨_, rfl⟩
  rw [hS] at HK HR
  generalize Dw.pack s = pk at *
  clear hS hf hl
  have hNV := hn.next hB
  dsimp only at hC HK
  obtain ⟨x0, x1, -⟩ := cells14 hC
  obtain ⟨x00, x01, x02, x03, x04⟩ := x0
  go_enter Tryz.func40, Tryz.ntmps40
  go_wp2_with (first | (refine lp 25 0 (flC f) hC rfl rfl rfl (by kernel_rfl) (by rfl) ?_))
  refine cb (HR.out _ hNV) fun w1 hb => ?_
  have hC1 := kp hb hC
  replace hB := tr hB hb
  clear hb hC x00 x01 x02 x03 x04 x1 hNV hn HR
  have b4 := han w1 (.cells #[.int .i64 pb, .int .u64 pg, .int .u64 pq, .int .u64 pd] 110)
  have b1 := hao w1 (.cells #[.int .i64 pb, .int .u64 pg, .int .u64 pq, .int .u64 pd] 110) hC1
  replace hB := hB.alloc hB.size (.cells #[.int .i64 pb, .int .u64 pg, .int .u64 pq, .int .u64 pd] 110)
  obtain ⟨W, hW⟩ : ∃ W, w1.alloc (.cells #[.int .i64 pb, .int .u64 pg, .int .u64 pq, .int .u64 pd] 110) = W := ⟨_, rfl⟩
  rw [hW] at b4 b1 hB
  clear hC1
  obtain ⟨-, ⟨x5, x6, x7, x8, x9, x10⟩, -⟩ := cells14 b1
  obtain ⟨q0, q1, q2, q3⟩ := cells4 b4
  go_wp2_with fail
  try rw [hW]
  clear hW
  rcases hE2 with rfl | rfl
  · refine wp_pure [0,1,2,3,4,5,6,7,8,9] 10 (by kernel_rfl) (by kernel_rfl) rfl ?_
    (apply rat; (focus (intro w' hk; obtain ⟨k0,k1,k2,k3,k4,k5,k6⟩ := look7 hk x5 x6 x7 x8 x9 x10 q3; repeat' (first | exact rn | ((first | refine' rv ?_ rfl rfl (by go_simp; first | done | with_reducible rfl | exact rfl) | refine' rc ?_ (by exact rfl) (by exact rfl) (by go_simp; first | done | (constructor <;> with_reducible rfl) | with_reducible rfl) (by exact HP.out w') | refine' rs ?_ rfl rfl); try simp only [Act.put, List.setIfInBounds_toArray, List.set_cons_zero, List.set_cons_succ])))))
    intro w2 hk2
    simp only [List.drop_succ_cons, List.drop_zero]
    replace hB := hB.trans (hk2.whole.mono hB.size)
    clear hk2 x5 x6 x7 x8 x9 x10 q0 q1 q2 q3 b1 b4
    go_wp2_with fail
    go_ret
    refine ⟨ret_bool ?_, hB⟩
    rw [HK.out, Bool.eq_iff_iff]
    simp
    try omega
  · refine wp_pure [0,1,2,3,4,5,6,7,8,9] 10 (by kernel_rfl) (by kernel_rfl) rfl ?_
    (apply rat; (focus (intro w' hk; repeat' (first | exact rn | ((first | refine' rv ?_ rfl rfl (by go_simp; first | done | with_reducible rfl | exact rfl) | refine' rc ?_ (by exact rfl) (by exact rfl) (by go_simp; first | done | (constructor <;> with_reducible rfl) | with_reducible rfl) (by exact HP.out w') | refine' rs ?_ rfl rfl); try simp only [Act.put, List.setIfInBounds_toArray, List.set_cons_zero, List.set_cons_succ])))))
    intro w2 hk2
    simp only [List.drop_succ_cons, List.drop_zero]
    replace hB := hB.trans (hk2.whole.mono hB.size)
    clear hk2 x5 x6 x7 x8 x9 x10 q0 q1 q2 q3 b1 b4
    go_wp2_with fail
    go_ret
    refine ⟨ret_bool ?_, hB⟩
    rw [HK.out]
    simp
theorem boot_any (f : Dw.Fl) (hf : Dw.FlOk f) (w : World) (hn : NoneAt w) :
    Calls Tryz.prog 15 #[flV f] w fun e w' => e = .returned (suV (Dw.boot f)) ∧ Below w.heap.size w w' := by
  obtain ⟨V, hV⟩ : ∃ V, (w.alloc (.cells (flC f) 25)).alloc (.cells Z14 31) = V := ⟨_, rfl⟩
  have b0 : V.heap[w.heap.size]? = some (.cells (flC f) 25) := by rw [← hV]; exact heap_alloc2_old _ _ _
  have b1 : V.heap[w.heap.size + 1]? = some (.cells Z14 31) := by rw [← hV]; exact heap_alloc2_new _ _ _
  have hB : Below w.heap.size w V := by rw [← hV]; exact ((Below.refl _ w).alloc (Nat.le_refl _) _).alloc (by simp) _
  have HR := Lib.hid (fun w hn => read_any f.a f.b hf.a hf.b f.e0 f.e1 f.li w hn)
  have HT := Lib.hid (show Dw.boot f = ⟨f, if Dw.readE f.a f.b = 0 then Dw.unP (Dw.readS f.a f.b).data else Dw.st0, 0, 0, 0⟩ from rfl)
  have hE2 := Dw.readE_two f.a f.b
  have hlt := Dw.readS_lt f.a f.b
  have HD := Lib.hid (fun w => default_any w)
  generalize Dw.boot f = X at *
  generalize Dw.readE f.a f.b = er at *
  obtain ⟨⟨pb, pg, pq, pd⟩, hS⟩ : ∃ p, Dw.readS f.a f.b = p := ⟨_, rfl⟩
  rw [hS] at HT HR hlt
  dsimp only at HT hlt
  have HU := Lib.hid (fun w => unpack_any pd hlt w)
  have hbad : Dw.unE pd = 0 ∨ (Dw.unE pd = 13 ∧ Dw.unP pd = Dw.st0) := by
    unfold Dw.unE Dw.unP
    cases Dw.unOk pd
    · exact .inr ⟨rfl, rfl⟩
    · exact .inl rfl
  clear hS hlt
  obtain ⟨x0, x1, x2, x3, x4⟩ := cells5 b0
  go_enter Tryz.func15, Tryz.ntmps15
  go_wp2_with fail
  try rw [hV]
  clear hV
  refine wp_letter [0, 1, 2] 3 4 (NewBlock V Z14 31) rfl (by kernel_rfl) (by kernel_rfl) rfl (fun v A B h hk => h.keep hk) ?_
  (apply rat; (focus (intro w' hk; obtain ⟨k0,k1,k2,k3,k4⟩ := look5 hk x0 x1 x2 x3 x4; repeat' (first | exact rn | ((first | refine' rv ?_ rfl rfl (by go_simp; first | done | with_reducible rfl | exact rfl) | refine' rc ?_ (by exact rfl) (by exact rfl) (by go_simp; first | done | (constructor <;> with_reducible rfl) | with_reducible rfl) (by exact HD.out w') | refine' rs ?_ rfl rfl); try simp only [Act.put, List.setIfInBounds_toArray, List.set_cons_zero, List.set_cons_succ])))))
  refine ⟨rfl, sure_new (fun w' _ => by go_simp), ?_⟩
  rintro v W2 hk2 ⟨b, rfl, hb, hbc⟩
  simp only [List.drop_succ_cons, List.drop_zero, List.setIfInBounds_toArray]
  have hb1 : w.heap.size + 1 ≠ b := by have := block_lt b1; omega
  have hb0 : w.heap.size ≠ b := by have := block_lt b0; omega
  have hwb : w.heap.size ≤ b := by have := hB.size; omega
  replace b0 := (setRow_other W2 b w.heap.size (suC ⟨f, Dw.st0, 0, 0, 0⟩) hb0).trans (kpi hk2 b0)
  replace b1 := (setRow_other W2 b (w.heap.size + 1) (suC ⟨f, Dw.st0, 0, 0, 0⟩) hb1).trans (kpi hk2 b1)
  have b3 := setRow_heap W2 b _ (suC ⟨f, Dw.st0, 0, 0, 0⟩) _ _ hbc
  replace hB := below_setRow (hB.trans (hk2.whole.mono hB.size)) hwb (suC ⟨f, Dw.st0, 0, 0, 0⟩)
  clear x0 x1 x2 x3 x4 hk2 HD
  go_wp2_with (first | (refine lb hbc rfl rfl rfl (by kernel_rfl) ?_) | (refine sb hbc rfl rfl rfl rfl (by kernel_rfl) ?_) | (refine lb b0 rfl rfl rfl (by kernel_rfl) ?_) | (refine sb b0 rfl rfl rfl rfl (by kernel_rfl) ?_))
  refine cb (HR.out _ (hn.next hB)) fun w1 hb' => ?_
  replace b1 := kp hb' b1
  replace b3 := kp hb' b3
  replace hB := hB.trans (hb'.mono hB.size)
  clear hb' b0 HR hbc
  have b4 := han w1 (.cells #[.int .i64 pb, .int .u64 pg, .int .u64 pq, .int .u64 pd] 110)
  replace b1 := hao w1 (.cells #[.int .i64 pb, .int .u64 pg, .int .u64 pq, .int .u64 pd] 110) b1
  replace b3 := hao w1 (.cells #[.int .i64 pb, .int .u64 pg, .int .u64 pq, .int .u64 pd] 110) b3
  replace hB := hB.alloc hB.size (.cells #[.int .i64 pb, .int .u64 pg, .int .u64 pq, .int .u64 pd] 110)
  obtain ⟨W, hW⟩ : ∃ W, w1.alloc (.cells #[.int .i64 pb, .int .u64 pg, .int .u64 pq, .int .u64 pd] 110) = W := ⟨_, rfl⟩
  rw [hW] at b4 b1 b3 hB
  obtain ⟨q0, q1, q2, q3⟩ := cells4 b4
  rcases hE2 with rfl | rfl
  · go_wp2_with fail
    refine cb (HU.out _) fun w2 hb' => ?_
    replace b1 := kp hb' b1
    replace b3 := kp hb' b3
    replace hB := hB.trans (hb'.mono hB.size)
    clear hb' b4 q0 q1 q2 q3 HU hW
    have hT : X = ⟨f, Dw.unP pd, 0, 0, 0⟩ := by rw [HT.out]; rfl
    generalize hu : Dw.unP pd = U at *
    have b5 := han w2 (.cells (stC U) 27)
    replace b1 := hao w2 (.cells (stC U) 27) b1
    replace b3 := hao w2 (.cells (stC U) 27) b3
    replace hB := hB.alloc hB.size (.cells (stC U) 27)
    generalize hue : Dw.unE pd = E at *
    rcases hbad with rfl | ⟨rfl, rfl⟩
    · have r1 := (setRow_other _ b (w.heap.size + 1) (suC ⟨f, U, 0, 0, 0⟩) hb1).trans b1
      have r3 := setRow_heap _ b _ (suC ⟨f, U, 0, 0, 0⟩) _ _ b3
      have hB3 := below_setRow hB hwb (suC ⟨f, U, 0, 0, 0⟩)
      go_wp2_with (first | (refine lb b5 rfl rfl rfl (by kernel_rfl) ?_) | (refine sb b5 rfl rfl rfl rfl (by kernel_rfl) ?_) | (refine sp 27 5 (stC U) (suC ⟨f, U, 0, 0, 0⟩) b3 rfl rfl rfl rfl (by kernel_rfl) (by rfl) (by rfl) ?_) | (refine lb r3 rfl rfl rfl (by kernel_rfl) ?_) | (refine sb r3 rfl rfl rfl rfl (by kernel_rfl) ?_) | (refine lb r1 rfl rfl rfl (by kernel_rfl) ?_) | (refine sb r1 rfl rfl rfl rfl (by kernel_rfl) ?_))
      exact bodyPost_ret (rcr rfl (srh r1) (by rfl) (by kernel_rfl)) rfl ⟨by rw [hT], below_setRow hB3 (by omega) _⟩
    · go_wp2_with (first | (refine lb b3 rfl rfl rfl (by kernel_rfl) ?_) | (refine sb b3 rfl rfl rfl rfl (by kernel_rfl) ?_) | (refine lb b1 rfl rfl rfl (by kernel_rfl) ?_) | (refine sb b1 rfl rfl rfl rfl (by kernel_rfl) ?_))
      exact bodyPost_ret (rcr rfl (srh b1) (by rfl) (by kernel_rfl)) rfl ⟨by rw [hT], below_setRow hB (by omega) _⟩
  · have hT : X = ⟨f, Dw.st0, 0, 0, 0⟩ := by rw [HT.out]; rfl
    clear HU q0 q1 q2 q3
    go_wp2_with (first | (refine lb b3 rfl rfl rfl (by kernel_rfl) ?_) | (refine sb b3 rfl rfl rfl rfl (by kernel_rfl) ?_) | (refine lb b1 rfl rfl rfl (by kernel_rfl) ?_) | (refine sb b1 rfl rfl rfl rfl (by kernel_rfl) ?_))
    exact bodyPost_ret (rcr rfl (srh b1) (by rfl) (by kernel_rfl)) rfl ⟨by rw [hT], below_setRow hB (by omega) _⟩
end Go.Proofs.YtnaokijcggbfdaaGreatDoor
namespace Go.Proofs.YtnaokijcggbfdaaGreatDoor
open Go.RowKit Go.Shelf
namespace Dw
open Ieee
theorem c90 : double.read 4636033603912859648 = .number false 6333186975989760 (-1074 + ((uO - 46 : Nat) : Int)) := by
  rw [show -1074 + ((uO - 46 : Nat) : Int) = -46 by have := uO_eq; omega]
  decide +kernel
theorem c180 : double.read 4640537203540230144 = .number false 6333186975989760 (-1074 + ((uO - 45 : Nat) : Int)) := by
  rw [show -1074 + ((uO - 45 : Nat) : Int) = -45 by have := uO_eq; omega]
  decide +kernel
theorem v90 : 6333186975989760 * 2 ^ (uO - 46) = 90 * onU := by
  have := uO_eq
  rw [onU_pow, show (6333186975989760 : Nat) = 90 * 2 ^ 46 from rfl, Nat.mul_assoc, ← Nat.pow_add, show 46 + (uO - 46) = uO by omega]
theorem v180 : 6333186975989760 * 2 ^ (uO - 45) = 180 * onU := by
  have := uO_eq
  rw [onU_pow, show (6333186975989760 : Nat) = 180 * 2 ^ 45 from rfl, Nat.mul_assoc, ← Nat.pow_add, show 45 + (uO - 45) = uO by omega]
theorem fix90 {x : Nat} (h : fixE x 4636033603912859648 = 0) : x % 9223372036854775808 < 2047 * 4503599627370496 ∧ uv (x % 9223372036854775808) ≤ 90 * onU := by
  unfold fixE at h
  cases hn : nanB x
  · cases hg : fgt (absF x) 4636033603912859648
    · have := in_fin hn c90 hg
      rwa [v90] at this
    · rw [hn, hg] at h; exact absurd h (by decide)
  · rw [hn, if_pos rfl] at h; exact absurd h (by decide)
theorem fix180 {x : Nat} (h : fixE x 4640537203540230144 = 0) : x % 9223372036854775808 < 2047 * 4503599627370496 ∧ uv (x % 9223372036854775808) ≤ 180 * onU := by
  unfold fixE at h
  cases hn : nanB x
  · cases hg : fgt (absF x) 4640537203540230144
    · have := in_fin hn c180 hg
      rwa [v180] at this
    · rw [hn, hg] at h; exact absurd h (by decide)
  · rw [hn, if_pos rfl] at h; exact absurd h (by decide)
theorem home_ok {c : Cmd} (h : homeE c = 0) : fixE c.la 4636033603912859648 = 0 ∧ fixE c.lo 4640537203540230144 = 0 := by
  unfold homeE at h
  by_cases h1 : fixE c.la 4636033603912859648 = 0
  · rw [if_neg (fun h => h h1)] at h
    exact ⟨h1, h⟩
  · rw [if_pos h1] at h
    exact absurd h h1
theorem way_range {a b : Int} (h : wayB a b = true) : 0 ≤ b ∧ b ≤ 5 := by
  unfold wayB at h
  simp only [Bool.and_eq_true, decide_eq_true_eq] at h
  exact h.1.2
theorem goes_ok {s : St} {n : Int} (h : goesE s n = 0) : wayB s.mo n = true := by
  unfold goesE at h
  cases hw : wayB s.mo n
  · rw [if_pos hw] at h; exact absurd h (by decide)
  · rfl
theorem n4 {n : Int} (h : ¬ (n < 0 ∨ 3 < n)) : n = 0 ∨ n = 1 ∨ n = 2 ∨ n = 3 := by omega
theorem setOn_range {iso n : Int} (h : 0 ≤ iso ∧ iso ≤ 15) (hn : ¬ (n < 0 ∨ 3 < n)) : 0 ≤ setOn iso n ∧ setOn iso n ≤ 15 := by
  unfold setOn bitOn
  rcases n4 hn with rfl | rfl | rfl | rfl <;> (simp only [decide_eq_true_eq]; split <;> simp at * <;> omega)
theorem setOff_range {iso n : Int} (h : 0 ≤ iso ∧ iso ≤ 15) (hn : ¬ (n < 0 ∨ 3 < n)) : 0 ≤ setOff iso n ∧ setOff iso n ≤ 15 := by
  unfold setOff bitOn
  rcases n4 hn with rfl | rfl | rfl | rfl <;> (simp only [decide_eq_true_eq]; split <;> simp at * <;> omega)
theorem isoE_ok {s : St} {n : Int} (h : isoE s n = 0) : ¬ (n < 0 ∨ 3 < n) := by
  intro hn
  unfold isoE at h
  rw [if_pos hn] at h
  exact absurd h (by decide)
theorem resE_ok {n : Int} (h : resE n = 0) : ¬ (n < 0 ∨ 3 < n) := by
  intro hn
  unfold resE at h
  rw [if_pos hn] at h
  exact absurd h (by decide)
theorem delta_legal {s : St} (h : legal s = true) {c : Cmd} (he : deltaE s c = 0) : legal (deltaT s c) = true := by
  obtain ⟨⟨m0, m1, i0, i1⟩, hl, hh⟩ := (legal_iff s).1 h
  unfold deltaE at he
  unfold deltaT
  by_cases h1 : c.ki = 1
  · rw [if_pos h1] at he ⊢
    have := way_range (goes_ok he)
    exact (legal_iff _).2 ⟨⟨this.1, this.2, i0, i1⟩, hl, hh⟩
  rw [if_neg h1] at he ⊢
  by_cases h2 : c.ki = 2
  · rw [if_pos h2]
    exact (legal_iff _).2 ⟨⟨by show (0 : Int) ≤ 1; decide, by show (1 : Int) ≤ 5; decide, i0, i1⟩, hl, hh⟩
  rw [if_neg h2] at he ⊢
  by_cases h3 : c.ki = 3
  · rw [if_pos h3]
    exact (legal_iff _).2 ⟨⟨by show (0 : Int) ≤ 0; decide, by show (0 : Int) ≤ 5; decide, i0, i1⟩, hl, hh⟩
  rw [if_neg h3] at he ⊢
  by_cases h4 : c.ki = 4
  · rw [if_pos h4] at he ⊢
    obtain ⟨e1, e2⟩ := home_ok he
    have r1 := fix_range (fix90 e1).2
    have r2 := fix_range (fix180 e2).2
    exact (legal_iff _).2 ⟨⟨m0, m1, i0, i1⟩, ⟨by show -737280 ≤ fixV c.la; omega, by show fixV c.la ≤ 737280; omega, by show -1474560 ≤ fixV c.lo; omega, by show fixV c.lo ≤ 1474560; omega⟩, .inl rfl⟩
  rw [if_neg h4] at he ⊢
  by_cases h5 : c.ki = 5
  · rw [if_pos h5] at he ⊢
    have := setOn_range ⟨i0, i1⟩ (isoE_ok he)
    exact (legal_iff _).2 ⟨⟨m0, m1, this.1, this.2⟩, hl, hh⟩
  rw [if_neg h5] at he ⊢
  by_cases h6 : c.ki = 6
  · rw [if_pos h6] at he
    have := setOff_range ⟨i0, i1⟩ (resE_ok he)
    exact (legal_iff _).2 ⟨⟨m0, m1, this.1, this.2⟩, hl, hh⟩
  · rw [if_neg h6] at he
    exact absurd he (by decide)
theorem deltaS_ok {s : St} {c : Cmd} (h : deltaE s c = 0) : deltaS s c = deltaT s c := by unfold deltaS; rw [if_pos h]
theorem deltaS_no {s : St} {c : Cmd} (h : deltaE s c ≠ 0) : deltaS s c = s := by unfold deltaS; rw [if_neg h]
theorem deltaS_legal {s : St} (h : legal s = true) (c : Cmd) : legal (deltaS s c) = true := by
  by_cases he : deltaE s c = 0
  · rw [deltaS_ok he]; exact delta_legal h he
  · rw [deltaS_no he]; exact h
theorem delta_keeps {s : St} {c : Cmd} (h : ¬ (1 ≤ c.ki ∧ c.ki ≤ 3)) : (deltaT s c).ar = s.ar ∧ (deltaT s c).mo = s.mo := by
  unfold deltaT
  rw [if_neg (by omega), if_neg (by omega), if_neg (by omega)]
  split
  · exact ⟨rfl, rfl⟩
  · split <;> exact ⟨rfl, rfl⟩
theorem write_no {x : Su} {t : St} {p : Pw} (h : (plan x.f (pack t)).2 ≠ 0) : writeX x t p = { x with ph := 2 } ∧ writeE x t p = 26 := by
  unfold writeX writeE
  rw [if_neg h, if_neg (fun q => h q.1)]
  exact ⟨rfl, rfl⟩
theorem write_ack {x : Su} {t : St} {p : Pw} (h : (plan x.f (pack t)).2 = 0) (ha : ackB x.f (wStp t p) = true) : writeX x t p = { x with f := (putG x.f (wStp t p)).1, s := t } ∧ writeE x t p = 0 := by
  unfold writeX writeE
  rw [if_pos h, if_pos ha, if_pos ⟨h, ha⟩]
  exact ⟨rfl, rfl⟩
theorem write_off {x : Su} {t : St} {p : Pw} (h : (plan x.f (pack t)).2 = 0) (ha : ackB x.f (wStp t p) = false) : writeX x t p = { x with f := (putG x.f (wStp t p)).1, ph := 3 } ∧ writeE x t p = 26 := by
  unfold writeX writeE
  rw [if_pos h, if_neg (by rw [ha]; decide), if_neg (fun q => by rw [ha] at q; exact absurd q.2 (by decide))]
  exact ⟨rfl, rfl⟩
theorem write_okf {x : Su} (h : FlOk x.f) (t : St) (p : Pw) : FlOk (writeX x t p).f := by
  by_cases h0 : (plan x.f (pack t)).2 = 0
  · have := putG_ok h (s := wStp t p) h0
    cases ha : ackB x.f (wStp t p)
    · rw [(write_off h0 ha).1]; exact this
    · rw [(write_ack h0 ha).1]; exact this
  · rw [(write_no h0).1]; exact h
theorem write_state (x : Su) (t : St) (p : Pw) : (writeX x t p).s = x.s ∨ (writeX x t p).s = t := by
  by_cases h0 : (plan x.f (pack t)).2 = 0
  · cases ha : ackB x.f (wStp t p)
    · rw [(write_off h0 ha).1]; exact .inl rfl
    · rw [(write_ack h0 ha).1]; exact .inr rfl
  · rw [(write_no h0).1]; exact .inl rfl
theorem write_legal {x : Su} {t : St} (h : legal x.s = true) (ht : legal t = true) (p : Pw) : legal (writeX x t p).s = true := by
  rcases write_state x t p with e | e <;> rw [e] <;> assumption
theorem write_votes (x : Su) (t : St) (p : Pw) : (writeX x t p).vo = x.vo ∧ (writeX x t p).n = x.n := by
  by_cases h0 : (plan x.f (pack t)).2 = 0
  · cases ha : ackB x.f (wStp t p)
    · rw [(write_off h0 ha).1]; exact ⟨rfl, rfl⟩
    · rw [(write_ack h0 ha).1]; exact ⟨rfl, rfl⟩
  · rw [(write_no h0).1]; exact ⟨rfl, rfl⟩
theorem write_whole (x : Su) (t : St) {p : Pw} (hp : p.cut = -1) :
    (writeX x t p = { x with ph := 2 } ∧ writeE x t p = 26) ∨
    (writeE x t p = 0 ∧ ∃ g, writeX x t p = { x with f := g, s := t } ∧ readE g.a g.b = 0 ∧ (readS g.a g.b).data = pack t) := by
  by_cases h0 : (plan x.f (pack t)).2 = 0
  · right
    obtain ⟨h1, h2, h3, -⟩ := plan_done p.mask (pack_lt64 t) h0
    have hg : putG x.f (wStp t p) = playL x.f (plan x.f (pack t)).1 0 (-1) p.mask := by
      rw [putG_eq]
      show playL x.f (plan x.f (pack t)).1 0 p.cut p.mask = _
      rw [hp]
    rw [← hg] at h1 h2 h3
    have ha : ackB x.f (wStp t p) = true := by
      unfold ackB
      rw [show (wStp t p).data = pack t from rfl, h1, h2, h3]
      simp
    obtain ⟨e1, e2⟩ := write_ack (x := x) (t := t) (p := p) h0 ha
    exact ⟨e2, _, e1, h2, h3⟩
  · exact .inl (write_no h0)
theorem commandX_ok {x : Su} (h : FlOk x.f) (c : Cmd) (p : Pw) : FlOk (commandX x c p).f := by
  unfold commandX
  split
  · exact write_okf h _ _
  · exact h
theorem command_legal {x : Su} (h : legal x.s = true) (c : Cmd) (p : Pw) : legal (commandX x c p).s = true := by
  unfold commandX
  by_cases hc : refusedE x c = 0 ∧ deltaT x.s c ≠ x.s
  · rw [if_pos hc]
    refine write_legal h (delta_legal h ?_) p
    have := hc.1
    unfold refusedE at this
    split at this
    · exact absurd this (by decide)
    · split at this
      · exact absurd this (by decide)
      · exact this
  · rw [if_neg hc]; exact h
theorem command_refused {x : Su} {c : Cmd} (p : Pw) (h : refusedE x c ≠ 0) : commandX x c p = x ∧ commandE x c p = refusedE x c := by
  unfold commandX commandE
  rw [if_neg (fun q => h q.1), if_neg (fun q => h q.1)]
  exact ⟨rfl, rfl⟩
theorem refused_iff (x : Su) (c : Cmd) : refusedE x c ≠ 0 ↔ (x.ph = 2 ∨ x.ph = 3 ∨ (x.ph = 0 ∧ 1 ≤ c.ki ∧ c.ki ≤ 3) ∨ deltaE x.s c ≠ 0) := by
  unfold refusedE
  split
  · rename_i h
    exact ⟨fun _ => by rcases h with h | h; exact .inl h; exact .inr (.inl h), fun _ => by decide⟩
  · rename_i h
    split
    · rename_i h2
      exact ⟨fun _ => .inr (.inr (.inl h2)), fun _ => by decide⟩
    · rename_i h2
      exact ⟨fun q => .inr (.inr (.inr q)), fun q => by rcases q with q | q | q | q; exact absurd (.inl q) h; exact absurd (.inr q) h; exact absurd q h2; exact q⟩
end Dw
end Go.Proofs.YtnaokijcggbfdaaGreatDoor
namespace Go.Proofs.YtnaokijcggbfdaaGreatDoor
open Go.RowKit Go.Shelf
namespace Dw
abbrev whole : Pw := ⟨-1, []⟩
theorem refused_two {x : Su} {c : Cmd} (h : x.ph = 2 ∨ x.ph = 3) : refusedE x c = 26 := by unfold refusedE; rw [if_pos h]
theorem refused_hold {x : Su} {c : Cmd} (h : x.ph = 0) (hc : 1 ≤ c.ki ∧ c.ki ≤ 3) : refusedE x c = 25 := by unfold refusedE; rw [if_neg (by omega), if_pos ⟨h, hc⟩]
theorem refused_else {x : Su} {c : Cmd} (h : ¬ (x.ph = 2 ∨ x.ph = 3)) (h2 : ¬ (x.ph = 0 ∧ 1 ≤ c.ki ∧ c.ki ≤ 3)) : refusedE x c = deltaE x.s c := by unfold refusedE; rw [if_neg h, if_neg h2]
theorem sample_off {x : Su} (h : x.ph = 3) (v : Int) (p : Pw) : sampleX x v p = x ∧ sampleE x v p = 26 := by
  unfold sampleX sampleE
  rw [if_pos h, if_pos h]
  exact ⟨rfl, rfl⟩
theorem sample_still {x : Su} (h : x.ph ≠ 3) {v : Int} (p : Pw) (h2 : x.ph ≠ 0 ∨ verdC (addV x.vo v) (addN x.vo x.n v) = 0) : sampleX x v p = voted x v ∧ sampleE x v p = 0 := by
  have h2' : x.ph ≠ 0 ∨ verdC (voted x v).vo (voted x v).n = 0 := h2
  unfold sampleX sampleE
  rw [if_neg h, if_neg h]
  dsimp only
  rw [if_pos h2', if_pos h2']
  exact ⟨rfl, rfl⟩
theorem sample_kept {x : Su} (h : x.ph = 0) {v d : Int} (p : Pw) (hd : verdC (addV x.vo v) (addN x.vo x.n v) = d) (h0 : d ≠ 0) (ht : resolveS x.s d = x.s) (hk : kept x = true) :
    sampleX x v p = { voted x v with ph := 1 } ∧ sampleE x v p = 0 := by
  have hd' : verdC (voted x v).vo (voted x v).n = d := hd
  have hno : ¬ (x.ph ≠ 0 ∨ d = 0) := by rintro (q | q); exact q h; exact h0 q
  refine ⟨?_, ?_⟩
  · unfold sampleX
    rw [if_neg (show ¬ x.ph = 3 by omega)]
    dsimp only
    rw [hd', if_neg hno, if_pos ⟨ht, hk⟩]
  · unfold sampleE
    rw [if_neg (show ¬ x.ph = 3 by omega)]
    dsimp only
    rw [hd', if_neg hno, if_pos ⟨ht, hk⟩]
theorem sample_writes {x : Su} (h : x.ph = 0) {v d : Int} (p : Pw) (hd : verdC (addV x.vo v) (addN x.vo x.n v) = d) (h0 : d ≠ 0) (hk : ¬ (resolveS x.s d = x.s ∧ kept x = true)) :
    sampleX x v p = (if writeE (voted x v) (resolveS x.s d) p = 0 then { writeX (voted x v) (resolveS x.s d) p with ph := 1 } else writeX (voted x v) (resolveS x.s d) p) ∧ sampleE x v p = writeE (voted x v) (resolveS x.s d) p := by
  have hd' : verdC (voted x v).vo (voted x v).n = d := hd
  have hno : ¬ (x.ph ≠ 0 ∨ d = 0) := by rintro (q | q); exact q h; exact h0 q
  refine ⟨?_, ?_⟩
  · unfold sampleX
    rw [if_neg (show ¬ x.ph = 3 by omega)]
    dsimp only
    rw [hd', if_neg hno, if_neg hk]
  · unfold sampleE
    rw [if_neg (show ¬ x.ph = 3 by omega)]
    dsimp only
    rw [hd', if_neg hno, if_neg hk]
theorem sampleX_ok {x : Su} (h : FlOk x.f) (v : Int) (p : Pw) : FlOk (sampleX x v p).f := by
  by_cases h3 : x.ph = 3
  · rw [(sample_off h3 v p).1]; exact h
  by_cases h2 : x.ph ≠ 0 ∨ verdC (addV x.vo v) (addN x.vo x.n v) = 0
  · rw [(sample_still h3 p h2).1]; exact h
  · have h0 : x.ph = 0 := Decidable.byContradiction fun q => h2 (.inl q)
    have hd : verdC (addV x.vo v) (addN x.vo x.n v) ≠ 0 := fun q => h2 (.inr q)
    by_cases hk : resolveS x.s (verdC (addV x.vo v) (addN x.vo x.n v)) = x.s ∧ kept x = true
    · rw [(sample_kept h0 p rfl hd hk.1 hk.2).1]; exact h
    · rw [(sample_writes h0 p rfl hd hk).1]
      split
      · exact write_okf (x := voted x v) h _ _
      · exact write_okf (x := voted x v) h _ _
theorem sample_legal {x : Su} (h : legal x.s = true) (v : Int) (p : Pw) : legal (sampleX x v p).s = true := by
  by_cases h3 : x.ph = 3
  · rw [(sample_off h3 v p).1]; exact h
  by_cases h2 : x.ph ≠ 0 ∨ verdC (addV x.vo v) (addN x.vo x.n v) = 0
  · rw [(sample_still h3 p h2).1]; exact h
  · have h0 : x.ph = 0 := Decidable.byContradiction fun q => h2 (.inl q)
    have hd : verdC (addV x.vo v) (addN x.vo x.n v) ≠ 0 := fun q => h2 (.inr q)
    by_cases hk : resolveS x.s (verdC (addV x.vo v) (addN x.vo x.n v)) = x.s ∧ kept x = true
    · rw [(sample_kept h0 p rfl hd hk.1 hk.2).1]; exact h
    · rw [(sample_writes h0 p rfl hd hk).1]
      split
      · exact write_legal (x := voted x v) h (resolve_legal h _) p
      · exact write_legal (x := voted x v) h (resolve_legal h _) p
theorem boot_legal (f : Fl) : legal (boot f).s = true := by
  show legal (bootT f) = true
  unfold bootT
  split
  · exact unP_legal _
  · exact legal0
structure Holds (s0 : St) (vo n : Int) (x : Su) : Prop where
  ph : x.ph = 0 ∨ x.ph = 2
  vo : x.vo = vo
  n : x.n = n
  ar : x.s.ar = s0.ar
  mo : x.s.mo = s0.mo
  ok : FlOk x.f
  leg : legal x.s = true
theorem holds_boot {f : Fl} (h : FlOk f) : Holds (boot f).s 0 0 (boot f) := ⟨.inl rfl, rfl, rfl, rfl, rfl, h, boot_legal f⟩
theorem holds_sample {s0 : St} {vo n : Int} {x : Su} (h : Holds s0 vo n x) {v : Int} (hv : verdC (addV vo v) (addN vo n v) = 0) (p : Pw) : Holds s0 (addV vo v) (addN vo n v) (sampleX x v p) := by
  have h3 : x.ph ≠ 3 := by have := h.ph; omega
  have e := (sample_still h3 (v := v) p (.inr (by rw [h.vo, h.n]; exact hv))).1
  rw [e]
  exact ⟨h.ph, by show addV x.vo v = _; rw [h.vo], by show addN x.vo x.n v = _; rw [h.vo, h.n], h.ar, h.mo, h.ok, h.leg⟩
structure HoldsC (s0 : St) (vo n : Int) (x : Su) (c : Cmd) : Prop where
  nx : Holds s0 vo n (commandX x c whole)
  ref : 1 ≤ c.ki ∧ c.ki ≤ 3 → (commandE x c whole = 25 ∨ commandE x c whole = 26) ∧ commandX x c whole = x
theorem holds_command {s0 : St} {vo n : Int} {x : Su} (h : Holds s0 vo n x) (c : Cmd) : HoldsC s0 vo n x c := by
  by_cases hr : refusedE x c = 0
  · have h2 : ¬ (x.ph = 2 ∨ x.ph = 3) := fun q => by rw [refused_two q] at hr; exact absurd hr (by decide)
    have hp : x.ph = 0 := by have := h.ph; omega
    have hc : ¬ (1 ≤ c.ki ∧ c.ki ≤ 3) := fun q => by rw [refused_hold hp q] at hr; exact absurd hr (by decide)
    have hk := delta_keeps (s := x.s) hc
    have hd : deltaE x.s c = 0 := by rw [← refused_else h2 (fun q => hc q.2)]; exact hr
    refine ⟨?_, fun q => absurd q hc⟩
    by_cases ht : deltaT x.s c = x.s
    · have e : commandX x c whole = x := by unfold commandX; rw [if_neg (fun q => q.2 ht)]
      rw [e]; exact h
    · have e : commandX x c whole = writeX x (deltaT x.s c) whole := by unfold commandX; rw [if_pos ⟨hr, ht⟩]
      have hok := write_okf h.ok (deltaT x.s c) whole
      have hle := write_legal h.leg (delta_legal h.leg hd) whole
      obtain ⟨v1, v2⟩ := write_votes x (deltaT x.s c) whole
      rw [e]
      rcases write_whole x (deltaT x.s c) (p := whole) rfl with ⟨e2, -⟩ | ⟨-, g, e2, -, -⟩
      · refine ⟨by rw [e2]; exact .inr rfl, v1.trans h.vo, v2.trans h.n, by rw [e2]; exact h.ar, by rw [e2]; exact h.mo, hok, hle⟩
      · refine ⟨by rw [e2]; exact .inl hp, v1.trans h.vo, v2.trans h.n, by rw [e2]; exact hk.1.trans h.ar, by rw [e2]; exact hk.2.trans h.mo, hok, hle⟩
  · obtain ⟨e1, e2⟩ := command_refused whole hr
    refine ⟨by rw [e1]; exact h, fun hc => ⟨?_, e1⟩⟩
    rw [e2]
    by_cases h2 : x.ph = 2 ∨ x.ph = 3
    · exact .inr (refused_two h2)
    · have hp : x.ph = 0 := by have := h.ph; omega
      exact .inl (refused_hold hp hc)
def seen3 (x : Su) (v : Int) : Su := sampleX (sampleX (sampleX x v whole) v whole) v whole
theorem kept_of {x : Su} (h1 : readE x.f.a x.f.b = 0) (h2 : (readS x.f.a x.f.b).data = pack x.s) : kept x = true := by
  unfold kept
  rw [h1, h2]
  simp
structure Steady (n N : Nat) (x : Su) (k : Cur) : Prop where
  inv : Inv n N x.f (some k)
  data : k.data = pack x.s
  leg : legal x.s = true
  ok : FlOk x.f
theorem inv_boot {n N : Nat} {f : Fl} {k : Cur} {t : St} (h : Inv n N f (some k)) (hd : k.data = pack t) (ht : legal t = true) : boot f = ⟨f, t, 0, 0, 0⟩ := by
  obtain ⟨r1, r2⟩ := inv_read h
  unfold boot bootT
  rw [if_pos r2, r1, hd, unP_pack ht]
theorem steady_boot {n N : Nat} {x : Su} {k : Cur} (h : Steady n N x k) : boot x.f = ⟨x.f, x.s, 0, 0, 0⟩ := inv_boot h.inv h.data h.leg
theorem steady_kept {n N : Nat} {x : Su} {k : Cur} (h : Steady n N x k) : kept x = true := by
  obtain ⟨r1, r2⟩ := inv_read h.inv
  exact kept_of r2 (by rw [r1]; exact h.data)
end Dw
end Go.Proofs.YtnaokijcggbfdaaGreatDoor
namespace Go.Proofs.YtnaokijcggbfdaaGreatDoor
open Go.RowKit Go.Shelf
namespace Dw
def g20 : Fl := ⟨ffs 72, ffs 72, 0, 0, 5⟩
abbrev arm20 : Cmd := ⟨2, 0, 0, 0⟩
abbrev go20 : Cmd := ⟨1, 2, 0, 0⟩
abbrev cut20 : Pw := ⟨0, []⟩
def y20 : Su := seen3 (boot g20) 1
def z20 : Su := commandX y20 arm20 whole
def u20 : Su := commandX z20 go20 cut20
def v20 : Su := seen3 (boot u20.f) 2
theorem ok20 : FlOk g20 := ⟨by rw [g20, ffs_length]; omega, by rw [g20, ffs_length]; omega, by decide, by decide, by decide⟩
theorem ev20a : commandE (boot g20) arm20 whole = 25 := by decide +kernel
theorem ev20b : y20.ph = 1 ∧ kept y20 = true := by decide +kernel
theorem ev20c : commandE y20 arm20 whole = 0 ∧ z20.s.ar = true := by decide +kernel
theorem ev20d : commandE z20 go20 cut20 = 26 ∧ u20.ph = 3 := by decide +kernel
theorem ev20e : v20.ph = 1 ∧ v20.s = ⟨1, true, false, 0, 0, 0⟩ := by decide +kernel
theorem vote20 : voteI 0 0 0 = 1 := by decide +kernel
theorem vote20b : voteI 4621819117588971520 0 4602678819172646912 = 2 := by decide +kernel
end Dw
end Go.Proofs.YtnaokijcggbfdaaGreatDoor
namespace Go.Proofs.YtnaokijcggbfdaaGreatDoor
open Go.RowKit Go.Shelf
namespace Dw
structure Goes (n k : Nat) (li : Int) (x : Su) : Prop where
  ph : x.ph = 1 ∨ x.ph = 2
  li : x.f.li = li
  st : ∃ c, Steady n (k + 1) x c
variable {n k : Nat} {li : Int} {x : Su}
theorem Goes.ok (h : Goes n k li x) : FlOk x.f := by obtain ⟨_, h⟩ := h.st; exact h.ok
theorem Goes.leg (h : Goes n k li x) : legal x.s = true := by obtain ⟨_, h⟩ := h.st; exact h.leg
theorem Goes.kept (h : Goes n k li x) : Dw.kept x = true := by obtain ⟨_, h⟩ := h.st; exact steady_kept h
theorem Goes.boot (h : Goes n k li x) : Dw.boot x.f = ⟨x.f, x.s, 0, 0, 0⟩ := by obtain ⟨_, h⟩ := h.st; exact steady_boot h
end Dw
end Go.Proofs.YtnaokijcggbfdaaGreatDoor
