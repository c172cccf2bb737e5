/- What the statement's proof stands on, part 25: Plan, PlanOk, Jour1. -/
import Derived.Test.YtjibbchfndhhpaaGreatDoorRc24
import Derived.Test.YtjibbchfndhhpaaGreatDoorRc22
set_option linter.unusedSimpArgs false
set_option linter.unusedVariables false
set_option maxRecDepth 100000
set_option maxHeartbeats 4000000
namespace Go.Proofs.YtjibbchfndhhpaaGreatDoor
open Go.RowKit Go.Shelf
attribute [local go_sem] Oper.semAt_some
namespace Dw
theorem dec_lt (p : List UInt8) : (decodeR p).seq < 18446744073709551616 ∧ (decodeR p).data < 18446744073709551616 := by
  unfold decodeR
  split
  · unfold recOf
    have h1 := get_lt ((p.drop 2).take 8)
    have h2 := get_lt ((p.drop 10).take 8)
    have e1 : ((p.drop 2).take 8).length ≤ 8 := by simp; omega
    have e2 : ((p.drop 10).take 8).length ≤ 8 := by simp; omega
    exact ⟨Nat.lt_of_lt_of_le h1 (pow256 e1), Nat.lt_of_lt_of_le h2 (pow256 e2)⟩
  · exact ⟨by decide, by decide⟩
theorem lastN_lt (s : List UInt8) (k : Nat) : (lastN s k).1.seq < 18446744073709551616 ∧ (lastN s k).1.data < 18446744073709551616 := by
  induction k with
  | zero =>
    unfold lastN
    rw [List.range_zero, List.foldl_nil]
    exact ⟨by decide, by decide⟩
  | succ k ih =>
    rw [lastN_succ]
    unfold lastStep
    split
    · exact dec_lt _
    · exact ih
theorem gen_lt (s : List UInt8) : genN s < 18446744073709551616 := by
  unfold genN
  split
  · exact (dec_lt _).1
  · decide
theorem ofT_lt (s : List UInt8) (i : Int) : (ofT s i).gen < 18446744073709551616 ∧ (ofT s i).seq < 18446744073709551616 ∧ (ofT s i).data < 18446744073709551616 := ⟨gen_lt s, (lastN_lt s _).1, (lastN_lt s _).2⟩
theorem bank_five (a b : List UInt8) : ((best a b).bank = -1 ∧ sound a = false ∧ sound b = false) ∨ ((best a b).bank = 0 ∧ sound a = true ∧ sound b = false) ∨ ((best a b).bank = 0 ∧ sound a = true ∧ sound b = true ∧ genN b ≤ genN a) ∨
    ((best a b).bank = 1 ∧ sound b = true ∧ sound a = false) ∨ ((best a b).bank = 1 ∧ sound b = true ∧ sound a = true ∧ genN a < genN b) := by
  unfold best ofS
  cases ha : sound a <;> cases hb : sound b <;> simp [psNone]
  by_cases h : genN a < genN b
  · rw [if_pos h]; exact .inr ⟨rfl, h⟩
  · rw [if_neg h]; exact .inl ⟨rfl, by omega⟩
theorem next_le (s : List UInt8) : next s ≤ 12 := by
  have h := slots_le s.length
  unfold next
  split <;> omega
theorem read_two (a b : List UInt8) : (readS a b = psZero ∧ readE a b = 10 ∧ sound a = false ∧ sound b = false) ∨ (∃ k : Nat, k < 2 ∧ ∃ g q d : Nat, g < 18446744073709551616 ∧ q < 18446744073709551616 ∧ d < 18446744073709551616 ∧ readS a b = ⟨k, g, q, d⟩ ∧ readE a b = 0) := by
  rcases bank_five a b with ⟨_, h2, h3⟩ | ⟨_, h2, h3⟩ | ⟨_, h2, h3, h4⟩ | ⟨_, h2, h3⟩ | ⟨_, h2, h3, h4⟩
  · obtain ⟨r1, r2⟩ := rdN a b h2 h3
    exact .inl ⟨r1, r2, h2, h3⟩
  · obtain ⟨r1, r2⟩ := rd0 a b h2 (.inl h3)
    obtain ⟨l1, l2, l3⟩ := ofT_lt a 0
    exact .inr ⟨0, by decide, _, _, _, l1, l2, l3, r1, r2⟩
  · obtain ⟨r1, r2⟩ := rd0 a b h2 (.inr h4)
    obtain ⟨l1, l2, l3⟩ := ofT_lt a 0
    exact .inr ⟨0, by decide, _, _, _, l1, l2, l3, r1, r2⟩
  · obtain ⟨r1, r2⟩ := rd1 a b h2 (.inl h3)
    obtain ⟨l1, l2, l3⟩ := ofT_lt b 1
    exact .inr ⟨1, by decide, _, _, _, l1, l2, l3, r1, r2⟩
  · obtain ⟨r1, r2⟩ := rd1 a b h2 (.inr h4)
    obtain ⟨l1, l2, l3⟩ := ofT_lt b 1
    exact .inr ⟨1, by decide, _, _, _, l1, l2, l3, r1, r2⟩
end Dw
theorem plan_any (f : Dw.Fl) (hf : Dw.FlOk f) (d : Nat) (hd : d < 18446744073709551616) (w : World) (hn : NoneAt w) :
    Calls Tryz.prog 127 #[flV f, .int .u64 d] w fun e w' => (∃ v, e = .returned (.tuple #[v, .int .i64 (Dw.plan f d).2]) ∧ OwnOps w.heap.size w' v (Dw.plan f d).1) ∧ Below w.heap.size w w' := by
  have H1 := Lib.hid (fun w => first_any f hf d hd w)
  have HF := Lib.hid (fun k hk g q hg hq w => fresh_any f hf k hk g q d hg hq hd w)
  have HA := Lib.hid (fun b s q hs hq w => pappend_any b s q d hs hq hd w)
  clear hd
  have hB := (Below.refl w.heap.size w).alloc (Nat.le_refl _) (.cells (flashC f.a f.b f.e0 f.e1 f.li) 41)
  have hF0 := han w (.cells (flashC f.a f.b f.e0 f.e1 f.li) 41)
  obtain ⟨c0, c1, c2, c3, c4⟩ := cells5 hF0
  have HF0 := Lib.hid hF0
  have hrd := Dw.read_two f.a f.b
  go_enter Tryz.func127, Tryz.ntmps127
  go_wp2_with fail
  refine cb (even_any f.a f.b hf.a hf.b f.e0 f.e1 f.li _) fun w1 hb => ?_
  have hF := kp hb HF0.out
  replace hB := tr hB hb
  clear hb HF0 hF0 c0 c1 c2 c3 c4
  obtain ⟨c0, c1, c2, c3, c4⟩ := cells5 hF
  cases hev : Dw.even f.a f.b with
  | false =>
    have HE := Lib.hid (show Dw.plan f d = ([], 1) from by unfold Dw.plan; rw [if_pos hev])
    clear hev hrd
    go_wp2_with fail
    refine bodyPost_ret (results_tmp2 rfl _ _ _) rfl ?_
    rw [HE.out]
    exact ⟨⟨_, rfl, World.ownsRow_nil _ _ _ _⟩, hB⟩
  | true =>
    have HEV := Lib.hid hev
    clear hev
    go_wp2_with fail
    refine cb (read_any f.a f.b hf.a hf.b f.e0 f.e1 f.li _ (hn.next hB)) fun w2 hb => ?_
    replace hF := kp hb hF
    replace hB := tr hB hb
    clear hb c0 c1 c2 c3 c4
    rcases hrd with ⟨r1, r2, _⟩ | ⟨k, hk, g, q, d0, hg, hq, _, r1, r2⟩
    · have HE := Lib.hid (show Dw.plan f d = Dw.firstP f d from by unfold Dw.plan; rw [if_neg (by rw [HEV.out]; decide), if_pos (by rw [r2]; decide)]; rfl)
      rw [r1, r2, show Dw.psZero = ⟨0, 0, 0, 0⟩ from rfl]
      clear r1 r2
      have hA := han w2 (.cells #[.int .i64 0, .int .u64 0, .int .u64 0, .int .u64 0] 106)
      replace hF := hao w2 (.cells #[.int .i64 0, .int .u64 0, .int .u64 0, .int .u64 0] 106) hF
      replace hB := hB.alloc hB.size (.cells #[.int .i64 0, .int .u64 0, .int .u64 0, .int .u64 0] 106)
      obtain ⟨c0, c1, c2, c3, c4⟩ := cells5 hF
      clear hA
      go_wp2_with fail
      refine (H1.out _).mono ?_
      rintro e w3 ⟨⟨v, rfl, own⟩, hb⟩
      go_wp2_with fail
      refine bodyPost_ret (results_tmp2 rfl _ _ _) rfl ?_
      have hsz := hB.size
      rw [HE.out]
      exact ⟨⟨_, rfl, own_weaken own (by omega)⟩, hB.trans (hb.mono hB.size)⟩
    · have HP := Lib.hid (show Dw.plan f d = if q = 18446744073709551615 then ([], 11) else if 0 < Dw.next (f.bk k) then (Dw.appendOps k (Dw.next (f.bk k)) (q + 1) d, 0) else if g = 18446744073709551615 then ([], 11) else if Dw.wornB f (Dw.other k) = true then ([], 4) else (Dw.freshF f (Dw.other k) (g + 1) (q + 1) d, 0) from by
        unfold Dw.plan
        rw [if_neg (by rw [HEV.out]; decide), if_neg (by rw [r2]; decide), r1]
        rfl)
      rw [r1, r2]
      clear r1 r2
      obtain ⟨q1, hq1⟩ : ∃ q1 : Nat, q1 = (q + 1) % 18446744073709551616 := ⟨_, rfl⟩
      obtain ⟨g1, hg1⟩ : ∃ g1 : Nat, g1 = (g + 1) % 18446744073709551616 := ⟨_, rfl⟩
      have hq1l : q1 < 18446744073709551616 := by omega
      have hg1l : g1 < 18446744073709551616 := by omega
      have hw1 : IntKind.u64.wrap ((q : Int) + 1) = (q1 : Int) := by rw [show IntKind.u64.wrap ((q : Int) + 1) = ((q : Int) + 1) % 18446744073709551616 from by simp [IntKind.wrap, IntKind.bits, IntKind.signed]]; omega
      have hw2 : ((q : Int) + 1) % 18446744073709551616 = (q1 : Int) := by omega
      have hw3 : IntKind.u64.wrap ((g : Int) + 1) = (g1 : Int) := by rw [show IntKind.u64.wrap ((g : Int) + 1) = ((g : Int) + 1) % 18446744073709551616 from by simp [IntKind.wrap, IntKind.bits, IntKind.signed]]; omega
      have hw4 : ((g : Int) + 1) % 18446744073709551616 = (g1 : Int) := by omega
      have Hq1 := Lib.hid hq1; have Hg1 := Lib.hid hg1; have Hq := Lib.hid hq; have Hg := Lib.hid hg; have Hq1l := Lib.hid hq1l; have Hg1l := Lib.hid hg1l
      clear hq1 hg1 hq hg hq1l hg1l
      rcases (by omega : k = 0 ∨ k = 1) with rfl | rfl
      · have hz2 := hB.size
        have hA := han w2 (.cells #[.int .i64 0, .int .u64 g, .int .u64 q, .int .u64 d0] 106)
        replace hF := hao w2 (.cells #[.int .i64 0, .int .u64 g, .int .u64 q, .int .u64 d0] 106) hF
        replace hB := hB.alloc hB.size (.cells #[.int .i64 0, .int .u64 g, .int .u64 q, .int .u64 d0] 106)
        have hns := Dw.next_le (f.a)
        rw [show f.bk 0 = f.a from rfl, show Dw.other 0 = 1 from rfl] at HP
        obtain ⟨c0, c1, c2, c3, c4⟩ := cells5 hF
        obtain ⟨a0, a1, a2, a3⟩ := cells4 hA
        go_wp2_with fail
        generalize w2.alloc _ = W at *
        generalize w2.heap.size = ga at *
        refine wp_pure [0,1,2,3,4,5,6,7,8,9,10] 11 (by kernel_rfl) (by kernel_rfl) rfl ?_
        (apply rat; (focus (intro w' hk; obtain ⟨k0,k1⟩ := look2 hk a0 c0; (iterate 2 (refine' rv ?_ rfl rfl (by go_simp; first | done | with_reducible rfl | exact rfl); try simp only [Act.put, List.setIfInBounds_toArray, List.set_cons_zero, List.set_cons_succ])); (refine' rc ?_ (by exact rfl) (by exact rfl) (by go_simp; first | done | (constructor <;> with_reducible rfl) | with_reducible rfl) (by exact other_any _ 0 rfl (by decide) w'); try simp only [Act.put, List.setIfInBounds_toArray, List.set_cons_zero, List.set_cons_succ]); (iterate 5 (refine' rv ?_ rfl rfl (by go_simp; first | done | with_reducible rfl | exact rfl); try simp only [Act.put, List.setIfInBounds_toArray, List.set_cons_zero, List.set_cons_succ])); (refine' rc ?_ (by exact rfl) (by exact rfl) (by go_simp; first | done | (constructor <;> with_reducible rfl) | with_reducible rfl) (by first | exact next_any (f.a) (by first | exact hf.a | exact hf.b) w'); try simp only [Act.put, List.setIfInBounds_toArray, List.set_cons_zero, List.set_cons_succ]); (iterate 2 (refine' rv ?_ rfl rfl (by go_simp; first | done | with_reducible rfl | exact rfl); try simp only [Act.put, List.setIfInBounds_toArray, List.set_cons_zero, List.set_cons_succ])); (exact rn))))
        intro W3 hk3
        simp only [List.drop_succ_cons, List.drop_zero]
        replace hF := kpi hk3 hF
        replace hA := kpi hk3 hA
        replace hB := hB.trans (hk3.whole.mono hB.size)
        clear hk3 c0 c1 c2 c3 c4 a0 a1 a2 a3
        obtain ⟨c0, c1, c2, c3, c4⟩ := cells5 hF
        obtain ⟨a0, a1, a2, a3⟩ := cells4 hA
        rw [show Dw.other 0 = 1 from rfl]
        generalize Dw.next (f.a) = nx at *
        have hsz := hB.size
        by_cases e1 : q = 18446744073709551615
        · have HE := Lib.hid (show Dw.plan f d = ([], 11) from by rw [HP.out, if_pos e1])
          have b1 : ((q : Int) == 18446744073709551615) = true := by rw [beq_iff_eq]; omega
          clear e1 HP
          go_wp2_with fail
          refine bodyPost_ret (results_tmp2 rfl _ _ _) rfl ?_
          rw [HE.out]
          exact ⟨⟨_, rfl, World.ownsRow_nil _ _ _ _⟩, hB⟩
        · have b1 : ((q : Int) == 18446744073709551615) = false := by rw [beq_eq_false_iff_ne]; omega
          have hq1e : q1 = q + 1 := by have := Hq1.out; have := Hq.out; omega
          have hp2 := HP.out.trans (if_neg e1)
          rw [← hq1e] at hp2
          have HP2 := Lib.hid hp2
          clear HP e1 hq1e hp2
          by_cases e2 : 0 < nx
          · have HE := Lib.hid (HP2.out.trans (if_pos e2))
            clear HP2
            have b2 : (0 : Int) < (nx : Int) := by omega
            go_wp2_with fail
            refine (HA.out 0 nx q1 (by omega) Hq1l.out _).mono ?_
            rintro e w4 ⟨⟨v, rfl, own⟩, hb⟩
            go_wp2_with fail
            refine bodyPost_ret (results_tmp2 rfl _ _ _) rfl ?_
            rw [HE.out]
            exact ⟨⟨_, rfl, own_weaken own (by omega)⟩, hB.trans (hb.mono hB.size)⟩
          · have b2 : ¬ (0 : Int) < (nx : Int) := by omega
            have HP3 := Lib.hid (HP2.out.trans (if_neg e2))
            clear e2 HP2
            by_cases e3 : g = 18446744073709551615
            · have b3 : ((g : Int) == 18446744073709551615) = true := by rw [beq_iff_eq]; omega
              have HE := Lib.hid (HP3.out.trans (if_pos e3))
              clear e3 HP3
              go_wp2_with fail
              refine bodyPost_ret (results_tmp2 rfl _ _ _) rfl ?_
              rw [HE.out]
              exact ⟨⟨_, rfl, World.ownsRow_nil _ _ _ _⟩, hB⟩
            · have b3 : ((g : Int) == 18446744073709551615) = false := by rw [beq_eq_false_iff_ne]; omega
              have hg1e : g1 = g + 1 := by have := Hg1.out; have := Hg.out; omega
              have hp4 := HP3.out.trans (if_neg e3)
              rw [← hg1e] at hp4
              have HP4 := Lib.hid hp4
              clear e3 hg1e HP3 hp4
              generalize hfr : Dw.freshF f 1 g1 q1 d = fr at *
              have Hfr := Lib.hid hfr
              clear hfr
              generalize hwo : Dw.wornB f 1 = wo at *
              have Hwo := Lib.hid hwo
              clear hwo
              go_wp2_with fail
              refine cb (worn_any f 1 (by decide) _) fun w4 hb => ?_
              replace hF := kp hb hF
              replace hA := kp hb hA
              replace hB := tr hB hb
              clear hb c0 c1 c2 c3 c4 a0 a1 a2 a3
              obtain ⟨c0, c1, c2, c3, c4⟩ := cells5 hF
              obtain ⟨a0, a1, a2, a3⟩ := cells4 hA
              rw [Hwo.out]
              cases wo with
              | true =>
                have HE := Lib.hid (HP4.out.trans (if_pos rfl))
                clear HP4
                go_wp2_with fail
                refine bodyPost_ret (results_tmp2 rfl _ _ _) rfl ?_
                rw [HE.out]
                exact ⟨⟨_, rfl, World.ownsRow_nil _ _ _ _⟩, hB⟩
              | false =>
                have HE := Lib.hid (HP4.out.trans (if_neg (by decide)))
                clear HP4
                go_wp2_with fail
                refine (HF.out 1 (by decide) g1 q1 Hg1l.out Hq1l.out _).mono ?_
                rintro e w5 ⟨⟨v, rfl, own⟩, hb⟩
                rw [Hfr.out] at own
                go_wp2_with fail
                refine bodyPost_ret (results_tmp2 rfl _ _ _) rfl ?_
                have hsz2 := hB.size
                rw [HE.out]
                exact ⟨⟨_, rfl, own_weaken own (by omega)⟩, hB.trans (hb.mono hB.size)⟩
      · have hz2 := hB.size
        have hA := han w2 (.cells #[.int .i64 1, .int .u64 g, .int .u64 q, .int .u64 d0] 106)
        replace hF := hao w2 (.cells #[.int .i64 1, .int .u64 g, .int .u64 q, .int .u64 d0] 106) hF
        replace hB := hB.alloc hB.size (.cells #[.int .i64 1, .int .u64 g, .int .u64 q, .int .u64 d0] 106)
        have hns := Dw.next_le (f.b)
        rw [show f.bk 1 = f.b from rfl, show Dw.other 1 = 0 from rfl] at HP
        obtain ⟨c0, c1, c2, c3, c4⟩ := cells5 hF
        obtain ⟨a0, a1, a2, a3⟩ := cells4 hA
        go_wp2_with fail
        generalize w2.alloc _ = W at *
        generalize w2.heap.size = ga at *
        refine wp_pure [0,1,2,3,4,5,6,7,8,9,10] 11 (by kernel_rfl) (by kernel_rfl) rfl ?_
        (apply rat; (focus (intro w' hk; obtain ⟨k0,k1⟩ := look2 hk a0 c1; (iterate 2 (refine' rv ?_ rfl rfl (by go_simp; first | done | with_reducible rfl | exact rfl); try simp only [Act.put, List.setIfInBounds_toArray, List.set_cons_zero, List.set_cons_succ])); (refine' rc ?_ (by exact rfl) (by exact rfl) (by go_simp; first | done | (constructor <;> with_reducible rfl) | with_reducible rfl) (by exact other_any _ 1 rfl (by decide) w'); try simp only [Act.put, List.setIfInBounds_toArray, List.set_cons_zero, List.set_cons_succ]); (iterate 5 (refine' rv ?_ rfl rfl (by go_simp; first | done | with_reducible rfl | exact rfl); try simp only [Act.put, List.setIfInBounds_toArray, List.set_cons_zero, List.set_cons_succ])); (refine' rc ?_ (by exact rfl) (by exact rfl) (by go_simp; first | done | (constructor <;> with_reducible rfl) | with_reducible rfl) (by first | exact next_any (f.b) (by first | exact hf.a | exact hf.b) w'); try simp only [Act.put, List.setIfInBounds_toArray, List.set_cons_zero, List.set_cons_succ]); (iterate 2 (refine' rv ?_ rfl rfl (by go_simp; first | done | with_reducible rfl | exact rfl); try simp only [Act.put, List.setIfInBounds_toArray, List.set_cons_zero, List.set_cons_succ])); (exact rn))))
        intro W3 hk3
        simp only [List.drop_succ_cons, List.drop_zero]
        replace hF := kpi hk3 hF
        replace hA := kpi hk3 hA
        replace hB := hB.trans (hk3.whole.mono hB.size)
        clear hk3 c0 c1 c2 c3 c4 a0 a1 a2 a3
        obtain ⟨c0, c1, c2, c3, c4⟩ := cells5 hF
        obtain ⟨a0, a1, a2, a3⟩ := cells4 hA
        rw [show Dw.other 1 = 0 from rfl]
        generalize Dw.next (f.b) = nx at *
        have hsz := hB.size
        by_cases e1 : q = 18446744073709551615
        · have HE := Lib.hid (show Dw.plan f d = ([], 11) from by rw [HP.out, if_pos e1])
          have b1 : ((q : Int) == 18446744073709551615) = true := by rw [beq_iff_eq]; omega
          clear e1 HP
          go_wp2_with fail
          refine bodyPost_ret (results_tmp2 rfl _ _ _) rfl ?_
          rw [HE.out]
          exact ⟨⟨_, rfl, World.ownsRow_nil _ _ _ _⟩, hB⟩
        · have b1 : ((q : Int) == 18446744073709551615) = false := by rw [beq_eq_false_iff_ne]; omega
          have hq1e : q1 = q + 1 := by have := Hq1.out; have := Hq.out; omega
          have hp2 := HP.out.trans (if_neg e1)
          rw [← hq1e] at hp2
          have HP2 := Lib.hid hp2
          clear HP e1 hq1e hp2
          by_cases e2 : 0 < nx
          · have HE := Lib.hid (HP2.out.trans (if_pos e2))
            clear HP2
            have b2 : (0 : Int) < (nx : Int) := by omega
            go_wp2_with fail
            refine (HA.out 1 nx q1 (by omega) Hq1l.out _).mono ?_
            rintro e w4 ⟨⟨v, rfl, own⟩, hb⟩
            go_wp2_with fail
            refine bodyPost_ret (results_tmp2 rfl _ _ _) rfl ?_
            rw [HE.out]
            exact ⟨⟨_, rfl, own_weaken own (by omega)⟩, hB.trans (hb.mono hB.size)⟩
          · have b2 : ¬ (0 : Int) < (nx : Int) := by omega
            have HP3 := Lib.hid (HP2.out.trans (if_neg e2))
            clear e2 HP2
            by_cases e3 : g = 18446744073709551615
            · have b3 : ((g : Int) == 18446744073709551615) = true := by rw [beq_iff_eq]; omega
              have HE := Lib.hid (HP3.out.trans (if_pos e3))
              clear e3 HP3
              go_wp2_with fail
              refine bodyPost_ret (results_tmp2 rfl _ _ _) rfl ?_
              rw [HE.out]
              exact ⟨⟨_, rfl, World.ownsRow_nil _ _ _ _⟩, hB⟩
            · have b3 : ((g : Int) == 18446744073709551615) = false := by rw [beq_eq_false_iff_ne]; omega
              have hg1e : g1 = g + 1 := by have := Hg1.out; have := Hg.out; omega
              have hp4 := HP3.out.trans (if_neg e3)
              rw [← hg1e] at hp4
              have HP4 := Lib.hid hp4
              clear e3 hg1e HP3 hp4
              generalize hfr : Dw.freshF f 0 g1 q1 d = fr at *
              have Hfr := Lib.hid hfr
              clear hfr
              generalize hwo : Dw.wornB f 0 = wo at *
              have Hwo := Lib.hid hwo
              clear hwo
              go_wp2_with fail
              refine cb (worn_any f 0 (by decide) _) fun w4 hb => ?_
              replace hF := kp hb hF
              replace hA := kp hb hA
              replace hB := tr hB hb
              clear hb c0 c1 c2 c3 c4 a0 a1 a2 a3
              obtain ⟨c0, c1, c2, c3, c4⟩ := cells5 hF
              obtain ⟨a0, a1, a2, a3⟩ := cells4 hA
              rw [Hwo.out]
              cases wo with
              | true =>
                have HE := Lib.hid (HP4.out.trans (if_pos rfl))
                clear HP4
                go_wp2_with fail
                refine bodyPost_ret (results_tmp2 rfl _ _ _) rfl ?_
                rw [HE.out]
                exact ⟨⟨_, rfl, World.ownsRow_nil _ _ _ _⟩, hB⟩
              | false =>
                have HE := Lib.hid (HP4.out.trans (if_neg (by decide)))
                clear HP4
                go_wp2_with fail
                refine (HF.out 0 (by decide) g1 q1 Hg1l.out Hq1l.out _).mono ?_
                rintro e w5 ⟨⟨v, rfl, own⟩, hb⟩
                rw [Hfr.out] at own
                go_wp2_with fail
                refine bodyPost_ret (results_tmp2 rfl _ _ _) rfl ?_
                have hsz2 := hB.size
                rw [HE.out]
                exact ⟨⟨_, rfl, own_weaken own (by omega)⟩, hB.trans (hb.mono hB.size)⟩
end Go.Proofs.YtjibbchfndhhpaaGreatDoor
namespace Go.Proofs.YtjibbchfndhhpaaGreatDoor
namespace Dw
def Len (f : Fl) (L : Nat) : Prop := f.a.length = L ∧ f.b.length = L
theorem len_bk {f : Fl} {L k : Nat} (h : Len f L) : (f.bk k).length = L := by unfold Fl.bk; split; exact h.1; exact h.2
theorem bop_len {s : List UInt8} {o : Op} (h : o.kind = 1 → o.at_ + o.data.length ≤ s.length) : (bOp s o).length = s.length := by
  unfold bOp
  split
  · rename_i hk
    have h := h hk
    rw [over_length]
    rw [andB_length, sub_length _ _ _ h]; exact h
  · rw [ffs_length]
theorem btear_len {s : List UInt8} {o : Op} (m : List UInt8) (h : o.kind = 1 → o.at_ + o.data.length ≤ s.length) : (bTear s o m).length = s.length := by
  unfold bTear
  split
  · rename_i hk
    have h := h hk
    rw [over_length]
    rw [tornB_length, sub_length _ _ _ h]; exact h
  · rw [eraB_length]
theorem op_in {f : Fl} {o : Op} (ho : OpOk f o) : o.kind = 1 → o.at_ + o.data.length ≤ (f.bk o.bank).length := fun hk => by
  rcases ho.2 with h | h
  · exact h.2.1
  · omega
theorem op_er {f : Fl} {o : Op} (ho : OpOk f o) : f.er o.bank + cost o ≤ f.er o.bank ∨ f.er o.bank + cost o ≤ f.li := by
  unfold cost
  rcases ho.2 with h | h
  · left; rw [if_pos h.1]; simp
  · right; rw [if_neg (by omega)]; have := h.2.1; simp; omega
theorem put_ok {f : Fl} {L : Nat} (hf : FlOk f) (hl : Len f L) {k c : Nat} {s : List UInt8} (hs : s.length = L) (hc : f.er k + c ≤ f.er k ∨ f.er k + c ≤ f.li) : FlOk ((f.put k s).wearN k c) ∧ Len ((f.put k s).wearN k c) L := by
  obtain ⟨h1, h2, h3, h4, h5⟩ := hf
  obtain ⟨l1, l2⟩ := hl
  have hc' := hc
  unfold Fl.er at hc'
  unfold Fl.put Fl.wearN
  by_cases h : k = 0
  · simp only [h, if_true] at hc' ⊢
    exact ⟨⟨by simp; omega, h2, h3, by simp; omega, h5⟩, by simp; exact hs, l2⟩
  · simp only [h, if_false] at hc' ⊢
    exact ⟨⟨h1, by simp; omega, h3, h4, by simp; omega⟩, l1, by simp; exact hs⟩
theorem do_ok {f : Fl} {L : Nat} (hf : FlOk f) (hl : Len f L) {o : Op} (ho : OpOk f o) : FlOk (doOp f o) ∧ Len (doOp f o) L :=
  put_ok hf hl (by rw [bop_len (op_in ho)]; exact len_bk hl) (op_er ho)
theorem tear_ok {f : Fl} {L : Nat} (hf : FlOk f) (hl : Len f L) {o : Op} (ho : OpOk f o) (m : List UInt8) : FlOk (tearOp f o m) ∧ Len (tearOp f o m) L :=
  put_ok hf hl (by rw [btear_len m (op_in ho)]; exact len_bk hl) (op_er ho)
theorem play_ok {L : Nat} (cut : Int) (m : List UInt8) : ∀ (ops : List Op) (f : Fl) (i : Nat), FlOk f → Len f L → OpsOk f ops → FlOk (playL f ops i cut m).1 ∧ Len (playL f ops i cut m).1 L
  | [], _, _, hf, hl, _ => ⟨hf, hl⟩
  | o :: os, f, i, hf, hl, ho => by
    unfold playL
    split
    · exact tear_ok hf hl ho.1 m
    · have h := do_ok hf hl ho.1
      exact play_ok cut m os (doOp f o) (i + 1) h.1 h.2 ho.2.2
theorem prog_mem {b a L : Nat} {x : List UInt8} (hb : b < 2) (h1 : a + x.length ≤ L) (h2 : a % 2 = 0) (h3 : x.length % 2 = 0) : (⟨1, b, a, x⟩ : Op).kind = 1 ∧ (⟨1, b, a, x⟩ : Op).bank < 2 ∧ (⟨1, b, a, x⟩ : Op).at_ + (⟨1, b, a, x⟩ : Op).data.length ≤ L ∧ (⟨1, b, a, x⟩ : Op).at_ % 2 = 0 ∧ (⟨1, b, a, x⟩ : Op).data.length % 2 = 0 := ⟨rfl, hb, h1, h2, h3⟩
theorem two_len : ([90, 60] : List UInt8).length = 2 := rfl
theorem progs_ok {L : Nat} : ∀ (ops : List Op) (f : Fl), FlOk f → Len f L → (∀ o ∈ ops, o.kind = 1 ∧ o.bank < 2 ∧ o.at_ + o.data.length ≤ L ∧ o.at_ % 2 = 0 ∧ o.data.length % 2 = 0) → OpsOk f ops
  | [], _, _, _, _ => trivial
  | o :: os, f, hf, hl, h => by
    obtain ⟨h1, h2, h3, h4, h5⟩ := h o (by simp)
    have ho : OpOk f o := ⟨h2, .inl ⟨h1, by rw [len_bk hl]; exact h3, h4, h5⟩⟩
    have hd := do_ok hf hl ho
    exact ⟨ho, hd.1, progs_ok os _ hd.1 hd.2 fun p hp => h p (by simp [hp])⟩
theorem even_len {a b : List UInt8} (h : even a b = true) : ∃ n, 1 ≤ n ∧ n ≤ 12 ∧ a.length = 24 * n + 24 ∧ b.length = 24 * n + 24 := by
  unfold even at h
  obtain ⟨h1, h2⟩ := of_decide_eq_true h
  obtain ⟨e1, e2⟩ := slots_pos h1
  obtain ⟨e3, e4⟩ := slots_pos (show 0 < slots b.length by omega)
  exact ⟨slots a.length, h1, e2, e1, by omega⟩
theorem tail_ok {f : Fl} {n b g q d : Nat} (hf : FlOk f) (hn : 1 ≤ n) (hl : Len f (24 * n + 24)) (hb : b < 2) (hw : f.er b < f.li) : OpsOk f (freshTail b g q d) := by
  have ho : OpOk f ⟨2, b, 0, []⟩ := ⟨hb, .inr ⟨rfl, hw, by simp⟩⟩
  have hd := do_ok hf hl ho
  refine ⟨ho, hd.1, progs_ok _ _ hd.1 hd.2 fun o h => ?_⟩
  simp only [List.mem_cons, List.not_mem_nil, or_false] at h
  rcases h with rfl | rfl | rfl | rfl
  · exact prog_mem hb (by rw [body_length]; omega) (by omega) (by rw [body_length])
  · exact prog_mem hb (by rw [two_len]; omega) (by omega) (by rw [two_len])
  · exact prog_mem hb (by rw [body_length]; omega) (by omega) (by rw [body_length])
  · exact prog_mem hb (by rw [two_len]; omega) (by omega) (by rw [two_len])
theorem fresh_ok {f : Fl} {n b g q d : Nat} (hf : FlOk f) (hn : 1 ≤ n) (hl : Len f (24 * n + 24)) (hb : b < 2) (hw : wornB f b = false) : OpsOk f (freshF f b g q d) ∧ 0 < (freshF f b g q d).length ∧ (freshF f b g q d).length ≤ 6 := by
  have hw' : f.er b < f.li := by unfold wornB at hw; have := of_decide_eq_false hw; omega
  refine ⟨?_, by unfold freshF; rw [fresh_len]; split <;> omega, by unfold freshF; rw [fresh_len]; split <;> omega⟩
  unfold freshF freshOps
  split
  · have ho : OpOk f (killOp b) := ⟨hb, .inl ⟨rfl, by rw [show (killOp b).bank = b from rfl, len_bk hl]; show 0 + 2 ≤ _; omega, rfl, by unfold killOp; show ([0, 0] : List UInt8).length % 2 = 0; decide⟩⟩
    have hd := do_ok hf hl ho
    refine ⟨ho, hd.1, tail_ok hd.1 hn hd.2 hb ?_⟩
    have : (doOp f (killOp b)).er b = f.er b ∧ (doOp f (killOp b)).li = f.li := by
      unfold doOp killOp cost Fl.er Fl.wearN Fl.put
      by_cases h : b = 0 <;> simp [h]
    rw [this.1, this.2]; exact hw'
  · exact tail_ok hf hn hl hb hw'
theorem plan_ok {f : Fl} (hf : FlOk f) {d : Nat} (h : (plan f d).2 = 0) : ∃ L, Len f L ∧ OpsOk f (plan f d).1 ∧ 0 < (plan f d).1.length ∧ (plan f d).1.length ≤ 6 := by
  unfold plan at h ⊢
  cases hev : even f.a f.b with
  | false => rw [hev] at h; simp at h
  | true =>
    obtain ⟨n, hn1, hn2, hla, hlb⟩ := even_len hev
    have hl : Len f (24 * n + 24) := ⟨hla, hlb⟩
    rw [hev, if_neg (by decide)] at h
    rw [if_neg (by decide)]
    refine ⟨24 * n + 24, hl, ?_⟩
    rcases read_two f.a f.b with ⟨_, r2, _⟩ | ⟨k, hk, g, q, d0, _, _, _, r1, r2⟩
    · rw [if_pos (by rw [r2]; decide)] at h ⊢
      cases w0 : wornB f 0 with
      | false => rw [if_pos rfl]; exact fresh_ok hf hn1 hl (by decide) w0
      | true =>
        rw [w0, if_neg (by decide)] at h
        rw [if_neg (by decide)]
        cases w1 : wornB f 1 with
        | false => rw [if_pos rfl]; exact fresh_ok hf hn1 hl (by decide) w1
        | true => rw [w1, if_neg (by decide)] at h; simp at h
    · rw [if_neg (by rw [r2]; decide), r1] at h ⊢
      dsimp only at h ⊢
      rw [Int.toNat_natCast] at h ⊢
      by_cases e1 : q = 18446744073709551615
      · rw [if_pos e1] at h; simp at h
      · rw [if_neg e1] at h ⊢
        by_cases e2 : 0 < next (f.bk k)
        · rw [if_pos e2]
          obtain ⟨hj, _⟩ := next_pos (f.bk k) n (by rw [len_bk hl, slots_n n hn1 hn2]) e2
          refine ⟨progs_ok _ _ hf hl fun o ho => ?_, (by decide : 0 < 2), (by decide : 2 ≤ 6)⟩
          unfold appendOps at ho
          simp only [List.mem_cons, List.not_mem_nil, or_false] at ho
          rcases ho with rfl | rfl
          · exact prog_mem hk (by rw [body_length]; omega) (by omega) (by rw [body_length])
          · exact prog_mem hk (by rw [two_len]; omega) (by omega) (by rw [two_len])
        · rw [if_neg e2] at h ⊢
          by_cases e3 : g = 18446744073709551615
          · rw [if_pos e3] at h; simp at h
          · rw [if_neg e3] at h ⊢
            cases hw : wornB f (other k) with
            | true => rw [hw, if_pos rfl] at h; simp at h
            | false =>
              rw [if_neg (by decide)]
              exact fresh_ok hf hn1 hl (by unfold other; split <;> omega) hw
end Dw
end Go.Proofs.YtjibbchfndhhpaaGreatDoor
namespace Go.Proofs.YtjibbchfndhhpaaGreatDoor
open Go.RowKit Go.Shelf
attribute [local go_sem] Oper.semAt_some
namespace Dw
structure Stp where
  data : Nat
  cut : Int
  mask : List UInt8
def putG (f : Fl) (s : Stp) : Fl × Nat := playL f (plan f s.data).1 0 s.cut s.mask
def ackB (f : Fl) (s : Stp) : Bool := decide ((putG f s).2 = (plan f s.data).1.length) && (decide (readE (putG f s).1.a (putG f s).1.b = 0) && decide ((readS (putG f s).1.a (putG f s).1.b).data = s.data))
theorem readE_two (a b : List UInt8) : readE a b = 0 ∨ readE a b = 10 := by unfold readE; split <;> simp
end Dw
abbrev stpC (s : Dw.Stp) : Array Value := #[.int .u64 s.data, .int .i64 s.cut, .string ⟨s.mask.toArray⟩]
abbrev stpV (s : Dw.Stp) : Value := .agg (stpC s)
abbrev seenC (a b : List UInt8) : Array Value := #[.int .i64 (Dw.readS a b).bank, .int .u64 (Dw.readS a b).gen, .int .u64 (Dw.readS a b).seq, .int .u64 (Dw.readS a b).data, .int .i64 (Dw.readE a b)]
abbrev seenV (a b : List UInt8) : Value := .agg (seenC a b)
theorem look_any (f : Dw.Fl) (hf : Dw.FlOk f) (w : World) (hn : NoneAt w) :
    Calls Tryz.prog 129 #[flV f] w fun e w' => e = .returned (seenV f.a f.b) ∧ Below w.heap.size w w' := by
  obtain ⟨V, hV⟩ : ∃ V, (w.alloc (.cells (flashC f.a f.b f.e0 f.e1 f.li) 41)).alloc (.cells #[.int .i64 0, .int .u64 0, .int .u64 0, .int .u64 0, .int .i64 0] 187) = V := ⟨_, rfl⟩
  have b0 : V.heap[w.heap.size]? = some (.cells (flashC f.a f.b f.e0 f.e1 f.li) 41) := by rw [← hV]; exact heap_alloc2_old _ _ _
  have b1 : V.heap[w.heap.size + 1]? = some (.cells #[.int .i64 0, .int .u64 0, .int .u64 0, .int .u64 0, .int .i64 0] 187) := by rw [← hV]; exact heap_alloc2_new _ _ _
  have vB : Below w.heap.size w V := by rw [← hV]; exact ((Below.refl _ w).alloc (Nat.le_refl _) _).alloc (by simp) _
  obtain ⟨c0, c1, c2, c3, c4⟩ := cells5 b0
  obtain ⟨⟨pb, pg, pq, pd⟩, hS⟩ : ∃ p, Dw.readS f.a f.b = p := ⟨_, rfl⟩
  obtain ⟨pe, hE⟩ : ∃ p, Dw.readE f.a f.b = p := ⟨_, rfl⟩
  have HS := Lib.hid hS; have HE := Lib.hid hE
  clear hS hE
  go_enter Tryz.func129, Tryz.ntmps129
  go_wp2_with fail
  refine cb (read_any f.a f.b hf.a hf.b f.e0 f.e1 f.li _ (hn.next vB)) fun w1 hb => ?_
  replace b1 := kp hb b1
  replace vB := tr vB hb
  clear hb hV c0 c1 c2 c3 c4 b0
  rw [HS.out, HE.out]
  have b2 := hao w1 (.cells #[.int .i64 pb, .int .u64 pg, .int .u64 pq, .int .u64 pd] 106) b1
  have hn2 := han w1 (.cells #[.int .i64 pb, .int .u64 pg, .int .u64 pq, .int .u64 pd] 106)
  have vB2 := vB.alloc vB.size (.cells #[.int .i64 pb, .int .u64 pg, .int .u64 pq, .int .u64 pd] 106)
  obtain ⟨s0, s1, s2, s3⟩ := cells4 hn2
  go_wp2_with (refine sb b2 rfl rfl rfl rfl (by kernel_rfl) ?_)
  refine bodyPost_ret (rcr rfl (srh b2) (by rfl) (by kernel_rfl)) rfl ⟨by rw [seenV, seenC, HS.out, HE.out], below_setRow vB2 (by omega) _⟩
def putV (f : Dw.Fl) (s : Dw.Stp) : Value := if (Dw.plan f s.data).2 = 0 then .tuple #[flV (Dw.putG f s).1, .bool (Dw.ackB f s), .int .i64 0] else .tuple #[flV f, .bool false, .int .i64 (Dw.plan f s.data).2]
theorem put12_any (f : Dw.Fl) (hf : Dw.FlOk f) (s : Dw.Stp) (hd : s.data < 18446744073709551616) (w : World) (hn : NoneAt w) :
    Calls Tryz.prog 92 #[flV f, stpV s] w fun e w' => e = .returned (putV f s) ∧ Below w.heap.size w w' := by
  obtain ⟨V, hV⟩ : ∃ V, ((w.alloc (.cells (flashC f.a f.b f.e0 f.e1 f.li) 41)).alloc (.cells (stpC s) 149)).alloc (.cells (flashC [] [] 0 0 0) 41) = V := ⟨_, rfl⟩
  obtain ⟨vz, vB, b0, b1, b2⟩ := alloc3 w _ _ _ V hV
  obtain ⟨c0, c1, c2, c3, c4⟩ := cells5 b0
  obtain ⟨s0, s1, s2⟩ := cells3 b1
  obtain ⟨data, cut, m⟩ := s
  dsimp only at *
  go_enter Tryz.func92, Tryz.ntmps92
  go_wp2_with fail
  refine (plan_any f hf data hd _ (hn.next vB)).mono ?_
  rintro e w1 ⟨⟨v, rfl, own⟩, hb⟩
  replace b0 := kp hb b0
  replace b1 := kp hb b1
  replace b2 := kp hb b2
  replace vB := tr vB hb
  clear hb hV c0 c1 c2 c3 c4 s0 s1 s2
  obtain ⟨c0, c1, c2, c3, c4⟩ := cells5 b0
  obtain ⟨s0, s1, s2⟩ := cells3 b1
  by_cases hpe : (Dw.plan f data).2 = 0
  · obtain ⟨L, hlen, hok, hpos, hle⟩ := Dw.plan_ok hf hpe
    have hat := own_at own hpos
    have hgok := (Dw.play_ok cut m _ f 0 hf hlen hok).1
    have HP := Lib.hid (play_any f hf _ (by omega) hok v cut m w1 hat)
    have HE := Lib.hid (show putV f ⟨data, cut, m⟩ = .tuple #[flV (Dw.playL f (Dw.plan f data).1 0 cut m).1, .bool (Dw.ackB f ⟨data, cut, m⟩), .int .i64 0] from if_pos hpe)
    have HA0 := Lib.hid (show Dw.ackB f ⟨data, cut, m⟩ = (decide ((Dw.playL f (Dw.plan f data).1 0 cut m).2 = (Dw.plan f data).1.length) && (decide (Dw.readE (Dw.playL f (Dw.plan f data).1 0 cut m).1.a (Dw.playL f (Dw.plan f data).1 0 cut m).1.b = 0) && decide ((Dw.readS (Dw.playL f (Dw.plan f data).1 0 cut m).1.a (Dw.playL f (Dw.plan f data).1 0 cut m).1.b).data = data))) from rfl)
    obtain ⟨ob, cap, oc, ot, ofr, rfl, _, _⟩ := hat
    rw [hpe]
    clear own hpe hok hpos hle hlen
    generalize (Dw.plan f data).1.length = len at *
    generalize Dw.playL f (Dw.plan f data).1 0 cut m = R at *
    obtain ⟨g, n⟩ := R
    dsimp only at *
    go_wp2_with fail
    refine cb HP.out fun w2 hb => ?_
    replace b1 := kp hb b1
    replace b2 := kp hb b2
    replace vB := tr vB hb
    clear hb c0 c1 c2 c3 c4 s0 s1 s2 b0
    have b9 := han w2 (.cells (flashC g.a g.b g.e0 g.e1 g.li) 41)
    replace b1 := hao w2 (.cells (flashC g.a g.b g.e0 g.e1 g.li) 41) b1
    replace b2 := hao w2 (.cells (flashC g.a g.b g.e0 g.e1 g.li) 41) b2
    replace vB := vB.alloc vB.size (.cells (flashC g.a g.b g.e0 g.e1 g.li) 41)
    obtain ⟨W2, hW2⟩ : ∃ W2, w2.alloc (.cells (flashC g.a g.b g.e0 g.e1 g.li) 41) = W2 := ⟨_, rfl⟩
    rw [hW2] at b1 b2 b9 vB
    obtain ⟨e0, e1, e2, e3, e4⟩ := cells5 b9
    go_wp2_with fail
    refine cb (look_any g hgok _ (hn.next vB)) fun w3 hb => ?_
    replace b1 := kp hb b1
    replace b2 := kp hb b2
    replace b9 := kp hb b9
    replace vB := tr vB hb
    clear hb e0 e1 e2 e3 e4 hW2
    have hg11 := block_lt b2
    have hE2 := Dw.readE_two g.a g.b
    obtain ⟨⟨pb, pg, pq, pd⟩, hS⟩ : ∃ p, Dw.readS g.a g.b = p := ⟨_, rfl⟩
    obtain ⟨pe, hE⟩ : ∃ p, Dw.readE g.a g.b = p := ⟨_, rfl⟩
    have HA1 := HA0.out
    rw [hS, hE] at HA1
    rw [hE] at hE2
    rw [seenV, seenC, hS, hE]
    have HA1 := Lib.hid HA1
    clear HA0 hS hE
    replace b1 := hao w3 (.cells #[.int .i64 pb, .int .u64 pg, .int .u64 pq, .int .u64 pd, .int .i64 pe] 187) b1
    replace b2 := hao w3 (.cells #[.int .i64 pb, .int .u64 pg, .int .u64 pq, .int .u64 pd, .int .i64 pe] 187) b2
    replace b9 := hao w3 (.cells #[.int .i64 pb, .int .u64 pg, .int .u64 pq, .int .u64 pd, .int .i64 pe] 187) b9
    have b11 := han w3 (.cells #[.int .i64 pb, .int .u64 pg, .int .u64 pq, .int .u64 pd, .int .i64 pe] 187)
    replace vB := vB.alloc vB.size (.cells #[.int .i64 pb, .int .u64 pg, .int .u64 pq, .int .u64 pd, .int .i64 pe] 187)
    obtain ⟨e0, e1, e2, e3, e4⟩ := cells5 b9
    obtain ⟨q0, q1, q2, q3, q4⟩ := cells5 b11
    obtain ⟨s0, s1, s2⟩ := cells3 b1
    by_cases h1 : n = len
    · have hb1 : ((n : Int) == (len : Int)) = true := by rw [h1, beq_self_eq_true]
      rcases hE2 with rfl | rfl
      · have HA := Lib.hid (HA1.out.trans (by rw [h1, decide_eq_true rfl, decide_eq_true rfl, Bool.true_and, Bool.true_and]))
        clear HA1 h1
        go_wp2_with fail
        generalize w3.alloc _ = W3 at *
        refine RT.wp_letter (fun k => k = w.heap.size + 2) (fun k => decide (15 ≤ k)) [0,1,2,3,4,5,6,7,8,9,10,11,12,13,14,15,16,17,18,19,20,21] 22 23 (RT.Stored W3 (w.heap.size + 2) (flashC g.a g.b g.e0 g.e1 g.li) 41) rfl (by kernel_rfl) (by kernel_rfl) rfl (fun A B h hk => h.keep hk) ?_
        (apply RT.rat; (focus (intro w' w'' hk hk2; obtain ⟨k0,k1,k2,k3,k4,k6⟩ := look6 hk e0 e1 e2 e3 e4 q4; have l5 := (hk2.cell (lt_of_cell q3) (fun h => absurd (show w3.heap.size = w.heap.size + 2 from h) (by omega))).trans q3; have l7 := (hk2.cell (lt_of_cell s0) (fun h => absurd (show w.heap.size + 1 = w.heap.size + 2 from h) (by omega))).trans s0; repeat' (first | exact RT.rn | ((first | refine' RT.rv ?_ rfl rfl rfl (by go_simp; first | done | with_reducible rfl | exact rfl) | refine' RT.rl ?_ rfl rfl rfl (by go_simp; first | done | with_reducible rfl | exact rfl) | refine' RT.rs ?_ rfl rfl); try simp only [Act.put, List.setIfInBounds_toArray, List.set_cons_zero, List.set_cons_succ])))))
        refine RT.pl_nil ⟨rfl, RT.stb b2 rfl rfl rfl (by kernel_rfl), ?_⟩
        rintro w5 ⟨hk5, b5⟩
        simp only [List.drop_succ_cons, List.drop_zero]
        replace vB := vB.trans (hk5.below vB.size (fun g hg => by omega))
        go_wp2_with fail
        refine bodyPost_ret (rct2 rfl b5 (by rfl) (by kernel_rfl)) rfl ⟨?_, vB⟩
        rw [HE.out, HA.out]
        exact congrArg (fun b => Ending.returned (.tuple #[flV g, .bool b, .int .i64 0])) (beq_nat pd data)
      · have HA := Lib.hid (HA1.out.trans (show _ = false from by rw [decide_eq_false (show ¬ (10 : Int) = 0 by decide), Bool.false_and, Bool.and_false]))
        clear HA1 h1
        go_wp2_with fail
        generalize w3.alloc _ = W3 at *
        refine RT.wp_letter (fun k => k = w.heap.size + 2) (fun k => decide (15 ≤ k)) [0,1,2,3,4,5,6,7,8,9,10,11,12,13,14,15,16,17,18,19,20,21] 22 23 (RT.Stored W3 (w.heap.size + 2) (flashC g.a g.b g.e0 g.e1 g.li) 41) rfl (by kernel_rfl) (by kernel_rfl) rfl (fun A B h hk => h.keep hk) ?_
        (apply RT.rat; (focus (intro w' w'' hk hk2; obtain ⟨k0,k1,k2,k3,k4,k6⟩ := look6 hk e0 e1 e2 e3 e4 q4; have l5 := (hk2.cell (lt_of_cell q3) (fun h => absurd (show w3.heap.size = w.heap.size + 2 from h) (by omega))).trans q3; have l7 := (hk2.cell (lt_of_cell s0) (fun h => absurd (show w.heap.size + 1 = w.heap.size + 2 from h) (by omega))).trans s0; repeat' (first | exact RT.rn | ((first | refine' RT.rv ?_ rfl rfl rfl (by go_simp; first | done | with_reducible rfl | exact rfl) | refine' RT.rl ?_ rfl rfl rfl (by go_simp; first | done | with_reducible rfl | exact rfl) | refine' RT.rs ?_ rfl rfl); try simp only [Act.put, List.setIfInBounds_toArray, List.set_cons_zero, List.set_cons_succ])))))
        refine RT.pl_nil ⟨rfl, RT.stb b2 rfl rfl rfl (by kernel_rfl), ?_⟩
        rintro w5 ⟨hk5, b5⟩
        simp only [List.drop_succ_cons, List.drop_zero]
        replace vB := vB.trans (hk5.below vB.size (fun g hg => by omega))
        go_wp2_with fail
        refine bodyPost_ret (rct2 rfl b5 (by rfl) (by kernel_rfl)) rfl ⟨?_, vB⟩
        rw [HE.out, HA.out]
        rfl
    · have hb1 : ((n : Int) == (len : Int)) = false := by rw [beq_eq_false_iff_ne]; omega
      have HA := Lib.hid (HA1.out.trans (show _ = false from by rw [decide_eq_false h1, Bool.false_and]))
      clear HA1 h1 hE2
      go_wp2_with fail
      generalize w3.alloc _ = W3 at *
      refine RT.wp_letter (fun k => k = w.heap.size + 2) (fun k => decide (15 ≤ k)) [0,1,2,3,4,5,6,7,8,9,10,11,12,13,14,15,16,17,18,19,20,21] 22 23 (RT.Stored W3 (w.heap.size + 2) (flashC g.a g.b g.e0 g.e1 g.li) 41) rfl (by kernel_rfl) (by kernel_rfl) rfl (fun A B h hk => h.keep hk) ?_
      (apply RT.rat; (focus (intro w' w'' hk hk2; obtain ⟨k0,k1,k2,k3,k4,k6⟩ := look6 hk e0 e1 e2 e3 e4 q4; have l5 := (hk2.cell (lt_of_cell q3) (fun h => absurd (show w3.heap.size = w.heap.size + 2 from h) (by omega))).trans q3; have l7 := (hk2.cell (lt_of_cell s0) (fun h => absurd (show w.heap.size + 1 = w.heap.size + 2 from h) (by omega))).trans s0; repeat' (first | exact RT.rn | ((first | refine' RT.rv ?_ rfl rfl rfl (by go_simp; first | done | with_reducible rfl | exact rfl) | refine' RT.rl ?_ rfl rfl rfl (by go_simp; first | done | with_reducible rfl | exact rfl) | refine' RT.rs ?_ rfl rfl); try simp only [Act.put, List.setIfInBounds_toArray, List.set_cons_zero, List.set_cons_succ])))))
      refine RT.pl_nil ⟨rfl, RT.stb b2 rfl rfl rfl (by kernel_rfl), ?_⟩
      rintro w5 ⟨hk5, b5⟩
      simp only [List.drop_succ_cons, List.drop_zero]
      replace vB := vB.trans (hk5.below vB.size (fun g hg => by omega))
      go_wp2_with fail
      refine bodyPost_ret (rct2 rfl b5 (by rfl) (by kernel_rfl)) rfl ⟨?_, vB⟩
      rw [HE.out, HA.out]
      rfl
  · have HE := Lib.hid (show putV f ⟨data, cut, m⟩ = .tuple #[flV f, .bool false, .int .i64 (Dw.plan f data).2] from if_neg hpe)
    have hpb : ((Dw.plan f data).2 != 0) = true := by simpa using hpe
    clear own hpe
    generalize (Dw.plan f data).2 = pe at *
    go_wp2_with (refine sb b2 rfl rfl rfl rfl (by kernel_rfl) ?_)
    refine bodyPost_ret (rct2 rfl (srh b2) (by rfl) (by kernel_rfl)) rfl ⟨?_, below_setRow vB (by omega) _⟩
    rw [HE.out]
    rfl
end Go.Proofs.YtjibbchfndhhpaaGreatDoor
