/- What the statement's proof stands on, part 33: Vote. -/
import Derived.Test.YtjibbchfndhhpaaGreatDoorRc17
import Derived.Test.YtjibbchfndhhpaaGreatDoorRc6
import Derived.Laws.FloatArith
import Derived.Laws.Externs
set_option linter.unusedSimpArgs false
set_option linter.unusedVariables false
set_option maxRecDepth 100000
set_option maxHeartbeats 4000000
namespace Go.Proofs.YtjibbchfndhhpaaGreatDoor
open Go.RowKit Go.Shelf
attribute [local go_sem] Oper.semAt_some
theorem unary_neg_float (k : FloatKind) (b : Nat) : Op.unary .neg (.float k b) = pure (.float k (Op.negFloat k b)) := rfl
attribute [local go_sem] unary_neg_float
theorem and_not63 (x : Nat) (h : x < 18446744073709551616) : (bits .andNot .u64 (x : Int) 9223372036854775808).toNat = Dw.absF x := by
  have e := u64_andNot_nat x 9223372036854775808 h (by decide)
  rw [show ((9223372036854775808 : Nat) : Int) = 9223372036854775808 from rfl] at e
  rw [e, Int.toNat_natCast, show 18446744073709551615 - 9223372036854775808 = 2 ^ 63 - 1 from by decide, Nat.and_two_pow_sub_one_eq_mod]
  rfl
theorem abs_any (x : Nat) (h : x < 18446744073709551616) (w : World) :
    Calls Tryz.prog 158 #[.float .f64 x] w fun e w' => e = .returned (.float .f64 (Dw.absF x)) ∧ Below w.heap.size w w' := by
  have hx := and_not63 x h
  have HX := Lib.hid hx
  clear hx h
  go_enter Tryz.func158, Tryz.ntmps158
  go_wp2_with fail
  rw [run_callFunc_extern Tryz.func188 (by kernel_rfl) (by kernel_rfl) (by kernel_rfl) (e := Extern.MathFloatBits.float64bits) (by kernel_rfl), show (Extern.MathFloatBits.float64bits #[.float .f64 x]).run Tryz.prog w = .ok (.int .u64 (x : Int)) w from rfl]
  simp only [Result.andThen]
  rw [Oper.upon_value]
  go_wp2_with fail
  rw [run_callFunc_extern Tryz.func187 (by kernel_rfl) (by kernel_rfl) (by kernel_rfl) (e := Extern.MathFloatBits.float64frombits) (by kernel_rfl), show ∀ n : Int, (Extern.MathFloatBits.float64frombits #[.int .u64 n]).run Tryz.prog w = .ok (.float .f64 n.toNat) w from fun _ => rfl]
  simp only [Result.andThen]
  rw [Oper.upon_value]
  go_wp2_with fail
  go_ret
  exact ⟨by simp only [HX.out]; rfl, Below.refl _ _⟩
theorem isnan_any (x : Nat) (w : World) :
    Calls Tryz.prog 184 #[.float .f64 x] w fun e w' => e = .returned (.bool (Dw.nanB x)) ∧ Below w.heap.size w w' := by
  go_enter Tryz.func184, Tryz.ntmps184
  go_wp2_with fail
  go_ret
  exact ⟨rfl, Below.refl _ _⟩
theorem isinfP (x : Nat) (w : World) :
    Calls Tryz.prog 185 #[.float .f64 x, .int .i64 (1)] w fun e w' => ∃ b, e = .returned (.bool b) ∧ Below w.heap.size w w' := by
  go_enter Tryz.func185, Tryz.ntmps185
  go_wp2_with fail
  go_ret
  exact ⟨_, rfl, Below.refl _ _⟩
theorem isinfM (x : Nat) (w : World) :
    Calls Tryz.prog 185 #[.float .f64 x, .int .i64 (-1)] w fun e w' => ∃ b, e = .returned (.bool b) ∧ Below w.heap.size w w' := by
  go_enter Tryz.func185, Tryz.ntmps185
  go_wp2_with fail
  go_ret
  exact ⟨_, rfl, Below.refl _ _⟩
theorem signbit_any (x : Nat) (w : World) :
    Calls Tryz.prog 186 #[.float .f64 x] w fun e w' => ∃ b, e = .returned (.bool b) ∧ Below w.heap.size w w' := by
  go_enter Tryz.func186, Tryz.ntmps186
  go_wp2_with fail
  rw [run_callFunc_extern Tryz.func188 (by kernel_rfl) (by kernel_rfl) (by kernel_rfl) (e := Extern.MathFloatBits.float64bits) (by kernel_rfl), show (Extern.MathFloatBits.float64bits #[.float .f64 x]).run Tryz.prog w = .ok (.int .u64 (x : Int)) w from rfl]
  simp only [Result.andThen]
  rw [Oper.upon_value]
  go_wp2_with fail
  go_ret
  exact ⟨_, rfl, Below.refl _ _⟩
theorem class_any (x : Nat) (w : World) :
    Calls Tryz.prog 157 #[.float .f64 x] w fun e w' => ∃ k : Int, e = .returned (.int .i64 k) ∧ (if Dw.nanB x then k = 5 else ¬ k = 5) ∧ Below w.heap.size w w' := by
  have HN := Lib.hid (fun w => isnan_any x w)
  have HQ : ∀ (k : Int) (b : Bool), (if b = true then k = 5 else ¬ k = 5) = (if b then k = 5 else ¬ k = 5) := fun _ _ => rfl
  generalize Dw.nanB x = b at *
  go_enter Tryz.func157, Tryz.ntmps157
  go_wp2_with fail
  refine cb (HN.out _) fun w1 hb1 => ?_
  cases b
  · go_wp2_with fail
    refine (isinfP x _).mono ?_
    rintro e w2 ⟨b2, rfl, hb2⟩
    replace hb2 := tr hb1 hb2
    cases b2
    · go_wp2_with fail
      refine (isinfM x _).mono ?_
      rintro e w3 ⟨b3, rfl, hb3⟩
      replace hb3 := tr hb2 hb3
      cases b3
      · generalize hz : (FloatKind.f64.format.order x 0 == some Ordering.eq) = bz
        cases bz
        · go_wp2_with fail
          refine (signbit_any x _).mono ?_
          rintro e w4 ⟨b4, rfl, hb4⟩
          replace hb4 := tr hb3 hb4
          cases b4
          · go_wp2_with fail
            go_ret
            exact ⟨_, rfl, by decide, hb4⟩
          · go_wp2_with fail
            go_ret
            exact ⟨_, rfl, by decide, hb4⟩
        · go_wp2_with fail
          go_ret
          exact ⟨_, rfl, by decide, hb3⟩
      · go_wp2_with fail
        go_ret
        exact ⟨_, rfl, by decide, hb3⟩
    · go_wp2_with fail
      go_ret
      exact ⟨_, rfl, by decide, hb2⟩
  · go_wp2_with fail
    go_ret
    exact ⟨_, rfl, by decide, hb1⟩
theorem broken_any (a s t : Nat) (b : Nat) (ty : TypeId) (w : World) (h : w.heap[b]? = some (.cells #[.float .f64 a, .float .f64 s, .float .f64 t] ty (0, 0))) :
    Calls Tryz.prog 134 #[.slice (some ⟨b, 0, none⟩) 3 3] w fun e w' => e = .returned (.bool (Dw.nanB a || Dw.nanB s || Dw.nanB t)) ∧ Below w.heap.size w w' := by
  have hlt := block_lt h
  have H0 := Lib.hid (fun w => class_any a w)
  have H1 := Lib.hid (fun w => class_any s w)
  have H2 := Lib.hid (fun w => class_any t w)
  generalize Dw.nanB a = na at *
  generalize Dw.nanB s = ns at *
  generalize Dw.nanB t = nt at *
  go_enter Tryz.func134, Tryz.ntmps134
  go_wp2_with fail
  go_loopw [7] (fun i wr => ∃ j : Nat, j ≤ 3 ∧ i = .int .i64 j ∧ (1 ≤ j → na = false) ∧ (2 ≤ j → ns = false) ∧ (3 ≤ j → nt = false) ∧ Below w.heap.size w wr) (fun i _ => 3 - (intOf i).toNat)
  case atStart => exact ⟨0, Nat.zero_le _, rfl, by omega, by omega, by omega, Below.refl _ _⟩
  case round =>
    obtain ⟨j, hj, rfl, h1, h2, h3, hB⟩ := hrel
    have hc := (hB.block b hlt).trans h
    obtain ⟨c0, c1, c2⟩ := cells3 hc
    rcases (by omega : j = 0 ∨ j = 1 ∨ j = 2 ∨ j = 3) with rfl | rfl | rfl | rfl
    · clear hc h
      go_wp2_with fail
      refine (H0.out _).mono ?_
      rintro e w1 ⟨k, rfl, hk, hb⟩
      have hB1 := tr hB hb
      clear hb c0 c1 c2
      cases na
      · have hk5 : ¬ k = 5 := hk
        go_wp2_with fail
        go_roundw
        case rel => exact ⟨1, by decide, rfl, fun hx => by first | trivial | rfl | exact h1 (by decide), fun hx => by first | trivial | rfl | exact h2 (by decide) | exact absurd hx (by decide), fun hx => by first | trivial | rfl | exact h3 (by decide) | exact absurd hx (by decide), hB1⟩
        case measure => first | done | (simp [intOf]; done) | (simp [intOf]; omega)
      · obtain rfl : k = 5 := hk
        go_wp2_with fail
        go_ret
        exact ⟨by simp, hB1⟩
    · clear hc h
      go_wp2_with fail
      refine (H1.out _).mono ?_
      rintro e w1 ⟨k, rfl, hk, hb⟩
      have hB1 := tr hB hb
      clear hb c0 c1 c2
      cases ns
      · have hk5 : ¬ k = 5 := hk
        go_wp2_with fail
        go_roundw
        case rel => exact ⟨2, by decide, rfl, fun hx => by first | trivial | rfl | exact h1 (by decide), fun hx => by first | trivial | rfl | exact h2 (by decide) | exact absurd hx (by decide), fun hx => by first | trivial | rfl | exact h3 (by decide) | exact absurd hx (by decide), hB1⟩
        case measure => first | done | (simp [intOf]; done) | (simp [intOf]; omega)
      · obtain rfl : k = 5 := hk
        go_wp2_with fail
        go_ret
        exact ⟨by simp, hB1⟩
    · clear hc h
      go_wp2_with fail
      refine (H2.out _).mono ?_
      rintro e w1 ⟨k, rfl, hk, hb⟩
      have hB1 := tr hB hb
      clear hb c0 c1 c2
      cases nt
      · have hk5 : ¬ k = 5 := hk
        go_wp2_with fail
        go_roundw
        case rel => exact ⟨3, by decide, rfl, fun hx => by first | trivial | rfl | exact h1 (by decide), fun hx => by first | trivial | rfl | exact h2 (by decide) | exact absurd hx (by decide), fun hx => by first | trivial | rfl | exact h3 (by decide) | exact absurd hx (by decide), hB1⟩
        case measure => first | done | (simp [intOf]; done) | (simp [intOf]; omega)
      · obtain rfl : k = 5 := hk
        go_wp2_with fail
        go_ret
        exact ⟨by simp, hB1⟩
    · clear hc h c0 c1 c2
      go_wp2_with fail
      go_ret
      refine ⟨?_, hB⟩
      rw [h1 (by decide), h2 (by decide), h3 (by decide)]
      rfl
def cnt3 (x y z : Bool) : Nat → Int
  | 0 => 0
  | 1 => if x then 1 else 0
  | 2 => (if x then 1 else 0) + (if y then 1 else 0)
  | _ => (if x then 1 else 0) + (if y then 1 else 0) + (if z then 1 else 0)
theorem count3_any (x y z : Bool) (b : Nat) (ty : TypeId) (w : World) (h : w.heap[b]? = some (.cells #[.bool x, .bool y, .bool z] ty (0, 0))) :
    Calls Tryz.prog 171 #[.slice (some ⟨b, 0, none⟩) 3 3] w fun e w' => e = .returned (.int .i64 (cnt3 x y z 3)) ∧ Below w.heap.size w w' := by
  obtain ⟨c0, c1, c2⟩ := cells3 h
  clear h
  go_enter Tryz.func171, Tryz.ntmps171
  go_wp2_with fail
  go_loopw [2, 7] (fun n i wr => ∃ j : Nat, j ≤ 3 ∧ i = .int .i64 j ∧ n = .int .i64 (cnt3 x y z j) ∧ wr = w) (fun _ i _ => 3 - (intOf i).toNat)
  case atStart => exact ⟨0, Nat.zero_le _, rfl, rfl, rfl⟩
  case round =>
    obtain ⟨j, hj, rfl, rfl, rfl⟩ := hrel
    rcases (by omega : j = 0 ∨ j = 1 ∨ j = 2 ∨ j = 3) with rfl | rfl | rfl | rfl
    · cases x
      · go_wp2_with fail
        exact ⟨⟨1, by decide, rfl, int_val (by (try cases x) <;> (try cases y) <;> (try cases z) <;> decide +kernel), trivial⟩, by simp [intOf]⟩
      · go_wp2_with fail
        exact ⟨⟨1, by decide, rfl, int_val (by (try cases x) <;> (try cases y) <;> (try cases z) <;> decide +kernel), trivial⟩, by simp [intOf]⟩
    · cases y
      · go_wp2_with fail
        exact ⟨⟨2, by decide, rfl, int_val (by (try cases x) <;> (try cases y) <;> (try cases z) <;> decide +kernel), trivial⟩, by simp [intOf]⟩
      · go_wp2_with fail
        exact ⟨⟨2, by decide, rfl, int_val (by (try cases x) <;> (try cases y) <;> (try cases z) <;> decide +kernel), trivial⟩, by simp [intOf]⟩
    · cases z
      · go_wp2_with fail
        exact ⟨⟨3, by decide, rfl, int_val (by (try cases x) <;> (try cases y) <;> (try cases z) <;> decide +kernel), trivial⟩, by simp [intOf]⟩
      · go_wp2_with fail
        exact ⟨⟨3, by decide, rfl, int_val (by (try cases x) <;> (try cases y) <;> (try cases z) <;> decide +kernel), trivial⟩, by simp [intOf]⟩
    · go_wp2_with fail
      go_ret
      exact ⟨rfl, Below.refl _ _⟩
abbrev smC (a s t : Nat) : Array Value := #[.float .f64 a, .float .f64 s, .float .f64 t]
abbrev smV (a s t : Nat) : Value := .agg #[.float .f64 a, .float .f64 s, .float .f64 t]
theorem air_any (a s t : Nat) (hs : s < 18446744073709551616) (w : World) :
    Calls Tryz.prog 135 #[smV a s t] w fun e w' => e = .returned (.int .i64 (Dw.airN a s t)) ∧ Below w.heap.size w w' := by
  have hB := (Below.refl w.heap.size w).alloc (Nat.le_refl _) (.cells (smC a s t) 72)
  have hC := han w (.cells (smC a s t) 72)
  obtain ⟨c0, c1, c2⟩ := cells3 hC
  have HA := Lib.hid (fun w => abs_any s hs w)
  have HR := Lib.hid (show Dw.airN a s t = cnt3 (Dw.fgt a 4611686018427387904) (Dw.fgt (Dw.absF s) 4613937818241073152) (Dw.fgt t 4598175219545276416) 3 from rfl)
  generalize Dw.absF s = av at *
  have e0 : (FloatKind.f64.format.order a 4611686018427387904 == some Ordering.gt) = Dw.fgt a 4611686018427387904 := rfl
  have e1 : (FloatKind.f64.format.order av 4613937818241073152 == some Ordering.gt) = Dw.fgt av 4613937818241073152 := rfl
  have e2 : (FloatKind.f64.format.order t 4598175219545276416 == some Ordering.gt) = Dw.fgt t 4598175219545276416 := rfl
  generalize Dw.airN a s t = R at *
  generalize Dw.fgt a 4611686018427387904 = x0 at *
  generalize Dw.fgt av 4613937818241073152 = x1 at *
  generalize Dw.fgt t 4598175219545276416 = x2 at *
  clear hC hs
  go_enter Tryz.func135, Tryz.ntmps135
  go_wp2_with fail
  generalize w.alloc _ = W at *
  refine wp_letter [0,1,2,3,4,5,6,7,8,9] 10 11 (NewRow W #[.bool x0, .bool x1, .bool x2] 4) rfl (by kernel_rfl) (by kernel_rfl) rfl (fun v A B h hk => h.keep hk) ?_
  (apply rat; (focus (intro w' hk; obtain ⟨k0,k1,k2⟩ := look3 hk c0 c1 c2; repeat' (first | exact rn | ((first | refine' rv ?_ rfl rfl (by go_simp; first | done | with_reducible rfl | exact rfl) | refine' rc ?_ (by exact rfl) (by exact rfl) (by go_simp; first | done | (constructor <;> with_reducible rfl) | with_reducible rfl) (by exact HA.out w') | refine' rs ?_ rfl rfl); try simp only [Act.put, List.setIfInBounds_toArray, List.set_cons_zero, List.set_cons_succ])))))
  refine ⟨rfl, sure_row (fun w' _ => by go_simp; first | done | rw [e0, e1, e2]), ?_⟩
  rintro v W2 hk2 ⟨b, rfl, hb, hbc⟩
  simp only [List.drop_succ_cons, List.drop_zero, List.setIfInBounds_toArray, List.size_toArray, List.length_cons, List.length_nil, Nat.zero_add]
  have hB2 := hB.trans (hk2.whole.mono hB.size)
  clear e0 e1 e2 c0 c1 c2 hk2 hB HA
  go_wp2_with fail
  refine cb (count3_any x0 x1 x2 b _ _ hbc) fun w3 hb3 => ?_
  go_wp2_with fail
  go_ret
  exact ⟨by rw [HR.out]; rfl, hB2.trans (hb3.mono hB2.size)⟩
theorem ground_any (a s t : Nat) (hs : s < 18446744073709551616) (w : World) :
    Calls Tryz.prog 136 #[smV a s t] w fun e w' => e = .returned (.int .i64 (Dw.groundN a s t)) ∧ Below w.heap.size w w' := by
  have hB := (Below.refl w.heap.size w).alloc (Nat.le_refl _) (.cells (smC a s t) 72)
  have hC := han w (.cells (smC a s t) 72)
  obtain ⟨c0, c1, c2⟩ := cells3 hC
  have HA := Lib.hid (fun w => abs_any s hs w)
  have HR := Lib.hid (show Dw.groundN a s t = cnt3 (Dw.flt a 4607182418800017408) (Dw.flt (Dw.absF s) 4607182418800017408) (Dw.flt t 4593671619917905920) 3 from rfl)
  generalize Dw.absF s = av at *
  have e0 : (FloatKind.f64.format.order a 4607182418800017408 == some Ordering.lt) = Dw.flt a 4607182418800017408 := rfl
  have e1 : (FloatKind.f64.format.order av 4607182418800017408 == some Ordering.lt) = Dw.flt av 4607182418800017408 := rfl
  have e2 : (FloatKind.f64.format.order t 4593671619917905920 == some Ordering.lt) = Dw.flt t 4593671619917905920 := rfl
  generalize Dw.groundN a s t = R at *
  generalize Dw.flt a 4607182418800017408 = x0 at *
  generalize Dw.flt av 4607182418800017408 = x1 at *
  generalize Dw.flt t 4593671619917905920 = x2 at *
  clear hC hs
  go_enter Tryz.func136, Tryz.ntmps136
  go_wp2_with fail
  generalize w.alloc _ = W at *
  refine wp_letter [0,1,2,3,4,5,6,7,8,9] 10 11 (NewRow W #[.bool x0, .bool x1, .bool x2] 4) rfl (by kernel_rfl) (by kernel_rfl) rfl (fun v A B h hk => h.keep hk) ?_
  (apply rat; (focus (intro w' hk; obtain ⟨k0,k1,k2⟩ := look3 hk c0 c1 c2; repeat' (first | exact rn | ((first | refine' rv ?_ rfl rfl (by go_simp; first | done | with_reducible rfl | exact rfl) | refine' rc ?_ (by exact rfl) (by exact rfl) (by go_simp; first | done | (constructor <;> with_reducible rfl) | with_reducible rfl) (by exact HA.out w') | refine' rs ?_ rfl rfl); try simp only [Act.put, List.setIfInBounds_toArray, List.set_cons_zero, List.set_cons_succ])))))
  refine ⟨rfl, sure_row (fun w' _ => by go_simp; first | done | rw [e0, e1, e2]), ?_⟩
  rintro v W2 hk2 ⟨b, rfl, hb, hbc⟩
  simp only [List.drop_succ_cons, List.drop_zero, List.setIfInBounds_toArray, List.size_toArray, List.length_cons, List.length_nil, Nat.zero_add]
  have hB2 := hB.trans (hk2.whole.mono hB.size)
  clear e0 e1 e2 c0 c1 c2 hk2 hB HA
  go_wp2_with fail
  refine cb (count3_any x0 x1 x2 b _ _ hbc) fun w3 hb3 => ?_
  go_wp2_with fail
  go_ret
  exact ⟨by rw [HR.out]; rfl, hB2.trans (hb3.mono hB2.size)⟩
theorem vote_any (a s t : Nat) (hs : s < 18446744073709551616) (w : World) :
    Calls Tryz.prog 95 #[smV a s t] w fun e w' => e = .returned (.int .i64 (Dw.voteI a s t)) ∧ Below w.heap.size w w' := by
  have hB := (Below.refl w.heap.size w).alloc (Nat.le_refl _) (.cells (smC a s t) 72)
  have hC := han w (.cells (smC a s t) 72)
  obtain ⟨c0, c1, c2⟩ := cells3 hC
  have HA := Lib.hid (fun w => air_any a s t hs w)
  have HG := Lib.hid (fun w => ground_any a s t hs w)
  have HK := Lib.hid (fun b ty w h => broken_any a s t b ty w h)
  have HR := Lib.hid (show Dw.voteI a s t = if Dw.nanB a || Dw.nanB s || Dw.nanB t then 0 else if 1 < Dw.airN a s t then 2 else if 2 < Dw.groundN a s t then 1 else 0 from rfl)
  generalize Dw.voteI a s t = R at *
  generalize (Dw.nanB a || Dw.nanB s || Dw.nanB t) = bk at *
  generalize Dw.airN a s t = nA at *
  generalize Dw.groundN a s t = nG at *
  have HC := Lib.hid hC
  clear hC hs
  go_enter Tryz.func95, Tryz.ntmps95
  go_wp2_with fail
  have hN := han (w.alloc (.cells (smC a s t) 72)) (.cells (smC a s t) 65)
  rw [show (w.alloc (.cells (smC a s t) 72)).heap.size = w.heap.size + 1 from by simp] at hN
  have hC1 := hao (w.alloc (.cells (smC a s t) 72)) (.cells (smC a s t) 65) HC.out
  replace hB := hB.alloc hB.size (.cells (smC a s t) 65)
  refine cb (HK.out _ _ _ hN) fun w1 hb => ?_
  replace hC1 := kp hb hC1
  replace hB := tr hB hb
  clear hb hN HC c0 c1 c2
  have HC := Lib.hid hC1
  clear hC1
  cases bk
  · go_wp2_with (first | (refine lb HC.out rfl rfl rfl (by kernel_rfl) ?_))
    refine cb (HA.out _) fun w2 hb => ?_
    have hC2 := kp hb HC.out
    replace hB := tr hB hb
    clear hb HC
    have HC := Lib.hid hC2
    clear hC2
    by_cases h1 : 1 < nA
    · go_wp2_with fail
      go_ret
      exact ⟨ret_int (by rw [HR.out, if_neg (by decide), if_pos (by omega)]), hB⟩
    · go_wp2_with (first | (refine lb HC.out rfl rfl rfl (by kernel_rfl) ?_))
      refine cb (HG.out _) fun w3 hb => ?_
      replace hB := tr hB hb
      by_cases h2 : 2 < nG
      · go_wp2_with fail
        go_ret
        exact ⟨ret_int (by rw [HR.out, if_neg (by decide), if_neg (by omega), if_pos (by omega)]), hB⟩
      · go_wp2_with fail
        go_ret
        exact ⟨ret_int (by rw [HR.out, if_neg (by decide), if_neg (by omega), if_neg (by omega)]), hB⟩
  · go_wp2_with fail
    go_ret
    exact ⟨ret_int (by rw [HR.out]; simp), hB⟩
end Go.Proofs.YtjibbchfndhhpaaGreatDoor
