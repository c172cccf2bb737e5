/- What the statement's proof stands on, part 46: RText23, RTextB23. -/
import Derived.Test.YtjibbchfndhhpaaGreatDoorRb41
import Derived.Test.YtjibbchfndhhpaaGreatDoorRb26
import Derived.Test.YtjibbchfndhhpaaGreatDoorRb17
set_option linter.unusedSimpArgs false
set_option linter.unusedVariables false
set_option maxRecDepth 100000
set_option maxHeartbeats 4000000
namespace Go.Proofs.YtjibbchfndhhpaaGreatDoor
open Go.RowKit Go.Shelf
attribute [local go_sem] Oper.semAt_some
namespace Dw
def decP (l : List UInt8) : Nat := l.foldl (fun a b => 10 * a + (b.toNat - 48)) 0
theorem decP_snoc (l : List UInt8) (b : UInt8) : decP (l ++ [b]) = 10 * decP l + (b.toNat - 48) := by unfold decP; rw [List.foldl_append]; rfl
theorem decP_from : ∀ (l : List UInt8) (a : Nat), l.all isDig = true → Lib.decFrom a l = some (l.foldl (fun a b => 10 * a + (b.toNat - 48)) a)
  | [], _, _ => rfl
  | b :: r, a, h => by
    rw [List.all_cons, Bool.and_eq_true] at h
    have hb : 48 ≤ b.toNat ∧ b.toNat ≤ 57 := of_decide_eq_true h.1
    have hd : Lib.digitVal b = some (b.toNat - 48) := by unfold Lib.digitVal; rw [if_pos hb]
    unfold Lib.decFrom
    rw [hd]
    show Lib.decFrom (a * 10 + (b.toNat - 48)) r = _
    rw [decP_from r _ h.2, Nat.mul_comm a 10]
    rfl
theorem decP_nat {l : List UInt8} (h0 : l.isEmpty = false) (h : l.all isDig = true) : Lib.decNat l = some (decP l) := by
  unfold Lib.decNat
  rw [if_neg (by rw [h0]; decide)]
  exact decP_from l 0 h
theorem decP_lt : ∀ (l : List UInt8) (a : Nat), l.all isDig = true → l.foldl (fun a b => 10 * a + (b.toNat - 48)) a < (a + 1) * 10 ^ l.length
  | [], a, _ => by simp
  | b :: r, a, h => by
    rw [List.all_cons, Bool.and_eq_true] at h
    have hb : 48 ≤ b.toNat ∧ b.toNat ≤ 57 := of_decide_eq_true h.1
    refine Nat.lt_of_lt_of_le (decP_lt r (10 * a + (b.toNat - 48)) h.2) ?_
    rw [List.length_cons, Nat.pow_succ, ← Nat.mul_assoc, Nat.mul_right_comm]
    exact Nat.mul_le_mul_right _ (by omega)
def sgnM (s : List UInt8) : Int := match s with
  | 45 :: _ => -1
  | _ => 1
theorem numV_is {s : List UInt8} (h : numOk s = true) : numV s = sgnM s * (decP (stripM s) : Int) := by
  have h' := h
  unfold numOk at h'
  simp only [Bool.and_eq_true, Bool.not_eq_true', decide_eq_true_eq] at h'
  obtain ⟨⟨h1, _⟩, h3⟩ := h'
  unfold numV
  rw [if_pos h]
  cases s with
  | nil => cases h1
  | cons b r =>
    have ea : Lib.atoi (b :: r) = if b == 45 then (Lib.decNat r).map fun (m : Nat) => -(m : Int) else if b == 43 then (Lib.decNat r).map fun (m : Nat) => (m : Int) else (Lib.decNat (b :: r)).map fun (m : Nat) => (m : Int) := rfl
    by_cases hb : b = 45
    · subst hb
      have e1 : stripM (45 :: r) = r := rfl
      rw [e1] at h1 h3
      rw [e1, ea, if_pos (by decide : ((45 : UInt8) == 45) = true), decP_nat h1 h3]
      show -(decP r : Int) = -1 * (decP r : Int)
      omega
    · have e1 : stripM (b :: r) = b :: r := by
        show (if b = 45 then r else b :: r) = b :: r
        rw [if_neg hb]
      rw [e1] at h1 h3
      have h43 : ¬ (b == 43) = true := by
        intro q
        rw [List.all_cons, Bool.and_eq_true] at h3
        have := of_decide_eq_true h3.1
        have hq : b = 43 := by simpa using q
        rw [hq] at this
        exact absurd this.1 (by decide)
      have e2 : sgnM (b :: r) = 1 := by
        unfold sgnM
        split
        · rename_i heq
          injection heq with q _
          exact absurd q hb
        · rfl
      rw [e1, e2, ea, if_neg (by simpa using hb), if_neg h43, decP_nat h1 h3]
      show (decP (b :: r) : Int) = 1 * (decP (b :: r) : Int)
      omega
end Dw
theorem num_parts (s d : List UInt8) (sg : Int) (hd : Dw.stripM s = d) (hsg : Dw.sgnM s = sg) :
    (d.length < 1 ∨ 9 < d.length → Dw.numV s = 0 ∧ Dw.numOk s = false) ∧ (1 ≤ d.length ∧ d.length ≤ 9 → d.all Dw.isDig = true → Dw.numV s = sg * (Dw.decP d : Int) ∧ Dw.numOk s = true) ∧ (1 ≤ d.length ∧ d.length ≤ 9 → d.all Dw.isDig = false → Dw.numV s = 0 ∧ Dw.numOk s = false) := by
  have e : Dw.numOk s = (!d.isEmpty && decide (d.length ≤ 9) && d.all Dw.isDig) := by unfold Dw.numOk; rw [hd]
  have z : Dw.numOk s = false → Dw.numV s = 0 ∧ Dw.numOk s = false := fun h => ⟨by unfold Dw.numV; rw [h]; rfl, h⟩
  refine ⟨fun h => z ?_, fun h ha => ?_, fun h ha => z ?_⟩
  · rw [e]
    rcases h with h | h
    · cases d with
      | nil => rfl
      | cons _ _ => simp at h
    · rw [decide_eq_false (by omega)]
      simp
  · have h1 : Dw.numOk s = true := by
      rw [e, ha, decide_eq_true h.2]
      cases d with
      | nil => simp at h
      | cons _ _ => rfl
    exact ⟨by rw [Dw.numV_is h1, hsg, hd], h1⟩
  · rw [e, ha]
    simp
theorem rnumber_any (s : List UInt8) (hs : s.length ≤ 1000) (w : World) :
    Calls Tryz.prog 12 #[.string ⟨s.toArray⟩] w fun e w' => e = .returned (.tuple #[.int .i64 (Dw.numV s), .bool (Dw.numOk s)]) ∧ w' = w := by
  cases s with
  | nil =>
    go_enter Tryz.func12, Tryz.ntmps12
    go_wp2_with fail
    go_ret2
    exact ⟨rfl, rfl⟩
  | cons b r =>
    have hi : ∀ (h : 0 < (⟨(b :: r).toArray⟩ : ByteArray).size), (⟨(b :: r).toArray⟩ : ByteArray)[0]'h = b := fun _ => rfl
    by_cases hb : b = 45
    · subst hb
      obtain ⟨d, hd⟩ : ∃ d, d = r := ⟨_, rfl⟩
      have e1 : (⟨(45 :: r).toArray⟩ : ByteArray).extract 1 (d.length + 1) = ⟨d.toArray⟩ := by
        rw [bs_extract, hd]
        simp
      have hdl : r.length = d.length := by rw [hd]
      obtain ⟨hbad, hgood, hdig⟩ := num_parts (45 :: r) d (-1) hd.symm rfl
      generalize Dw.numV (45 :: r) = NV at *
      generalize Dw.numOk (45 :: r) = NO at *
      clear hd
      by_cases hL1 : d.length < 1
      · have g1 : (d.length : Int) < 1 := by omega
        have HZ := Lib.hid (hbad (by omega))
        clear hL1 hbad hgood hdig
        go_enter Tryz.func12, Tryz.ntmps12
        go_wp2_with fail
        go_ret2
        exact ⟨by rw [HZ.out.1, HZ.out.2]; rfl, rfl⟩
      by_cases hL9 : 9 < d.length
      · have g1 : ¬ (d.length : Int) < 1 := by omega
        have g9 : 9 < (d.length : Int) := by omega
        have HZ := Lib.hid (hbad (by omega))
        clear hL1 hL9 hbad hgood hdig
        go_enter Tryz.func12, Tryz.ntmps12
        go_wp2_with fail
        go_ret2
        exact ⟨by rw [HZ.out.1, HZ.out.2]; rfl, rfl⟩
      have g1 : 1 ≤ (d.length : Int) := by omega
      have g9 : (d.length : Int) ≤ 9 := by omega
      have HG := Lib.hid (hgood (by omega))
      have HD := Lib.hid (hdig (by omega))
      clear hbad hgood hdig
      go_enter Tryz.func12, Tryz.ntmps12
      go_wp2_with fail
      go_loopw [5, 6] (fun n i wr => ∃ k : Nat, k ≤ d.length ∧ i = .int .i64 (k : Int) ∧ n = .int .i64 (Dw.decP (d.take k) : Int) ∧ (d.take k).all Dw.isDig = true ∧ wr = w) (fun _ i _ => d.length - (intOf i).toNat)
      case atStart => exact ⟨0, Nat.zero_le _, rfl, rfl, rfl, rfl⟩
      case round =>
        obtain ⟨k, hk, rfl, rfl, hall, rfl⟩ := hrel
        have hdec := Dw.decP_lt (d.take k) 0 hall
        by_cases hlt : k < d.length
        · have hlt' : (k : Int) < (d.length : Int) := by omega
          have hk0 : (0 : Int) ≤ (k : Int) := by omega
          obtain ⟨c, hc⟩ : ∃ c, d[k]? = some c := ⟨d[k], List.getElem?_eq_getElem hlt⟩
          have hik : ∀ (h : k < (⟨d.toArray⟩ : ByteArray).size), (⟨d.toArray⟩ : ByteArray)[k]'h = c := fun _ => by
            have := List.getElem?_eq_getElem hlt
            rw [hc] at this
            exact (Option.some.inj this).symm
          have hsnoc : d.take (k + 1) = d.take k ++ [c] := Dw.take_snoc hc
          have hmem : c ∈ d := List.mem_of_getElem? hc
          by_cases hdg : Dw.isDig c = true
          · have hcd : 48 ≤ c.toNat ∧ c.toNat ≤ 57 := of_decide_eq_true hdg
            have HN := Lib.hid (show Dw.decP (d.take (k + 1)) = 10 * Dw.decP (d.take k) + (c.toNat - 48) ∧ (d.take (k + 1)).all Dw.isDig = true from ⟨by rw [hsnoc]; exact Dw.decP_snoc _ _, by rw [hsnoc, List.all_append, hall]; simp [hdg]⟩)
            have hp : (0 + 1) * 10 ^ (d.take k).length ≤ 10 ^ 8 := by
              rw [Nat.one_mul]
              exact Nat.pow_le_pow_right (by decide) (by rw [List.length_take]; omega)
            have hdec' : Dw.decP (d.take k) < 100000000 := Nat.lt_of_lt_of_le hdec hp
            generalize Dw.decP (d.take k) = N at *
            obtain ⟨u, hu⟩ : ∃ u, c.toNat = u := ⟨_, rfl⟩
            rw [hu] at hcd HN
            have n1 : ¬ (u : Int) < 48 := by omega
            have n2 : ¬ 57 < (u : Int) := by omega
            have n3 : decide ((u : Int) < 48) = false := decide_eq_false n1
            have n4 : decide (57 < (u : Int)) = false := decide_eq_false n2
            have HDU := Lib.hid (show (10 * (N : Int) + ((u : Int) - 48)) = ((10 * N + (u - 48) : Nat) : Int) by omega)
            have w1 : IntKind.i64.wrap (10 * (N : Int)) = 10 * (N : Int) := IntWalk.i64_in _ (by omega)
            have w2 : IntKind.u8.wrap ((u : Int) - 48) = (u : Int) - 48 := by clear w1; exact IntWalk.u8_in _ (by omega)
            have w3 : IntKind.i64.wrap ((u : Int) - 48) = (u : Int) - 48 := by clear w1 w2; exact IntWalk.i64_in _ (by omega)
            have w4 : IntKind.i64.wrap (10 * (N : Int) + ((u : Int) - 48)) = 10 * (N : Int) + ((u : Int) - 48) := by clear w1 w2 w3; exact IntWalk.i64_in _ (by omega)
            have w5 : IntKind.i64.wrap ((k : Int) + 1) = ((k + 1 : Nat) : Int) := by clear w1 w2 w3 w4; exact IntWalk.i64_in _ (by omega)
            have w6 : wrap64 ((u : Int) - 48) = (u : Int) - 48 := by clear w1 w2 w3 w4 w5; exact IntWalk.wrap64_in _ (by omega)
            clear hc hsnoc hdg hall hdec hdec' hp hmem
            go_wp2_with fail
            refine ⟨⟨k + 1, hlt, rfl, by rw [HN.out.1, HDU.out], HN.out.2, trivial⟩, ?_⟩
            simp only [intOf]
            omega
          · have HZ := Lib.hid (HD.out (by rw [Bool.eq_false_iff]; intro q; exact hdg (List.all_eq_true.1 q c hmem)))
            have hcd : c.toNat < 48 ∨ 57 < c.toNat := by
              unfold Dw.isDig at hdg
              simp at hdg
              omega
            obtain ⟨u, hu⟩ : ∃ u, c.toNat = u := ⟨_, rfl⟩
            rw [hu] at hcd
            generalize Dw.decP (d.take k) = N at *
            clear hc hsnoc hdg hall hdec hmem
            by_cases h48 : u < 48
            · have n1 : (u : Int) < 48 := by omega
              clear hcd h48
              go_wp2_with fail
              go_ret2
              exact ⟨by rw [HZ.out.1, HZ.out.2]; rfl, rfl⟩
            · have n1 : ¬ (u : Int) < 48 := by omega
              have n2 : 57 < (u : Int) := by omega
              have n3 : decide ((u : Int) < 48) = false := decide_eq_false n1
              clear hcd h48
              go_wp2_with fail
              go_ret2
              exact ⟨by rw [HZ.out.1, HZ.out.2]; rfl, rfl⟩
        · have hge : ¬ (k : Int) < (d.length : Int) := by omega
          obtain rfl : k = d.length := by omega
          rw [List.take_length] at hall hdec ⊢
          have HZ := Lib.hid (HG.out hall)
          have hp : (0 + 1) * 10 ^ d.length ≤ 10 ^ 9 := by
            rw [Nat.one_mul]
            exact Nat.pow_le_pow_right (by decide) (by omega)
          have hdec' : Dw.decP d < 1000000000 := Nat.lt_of_lt_of_le hdec hp
          generalize Dw.decP d = N at *
          have w1 : IntKind.i64.wrap ((-1) * (N : Int)) = (-1) * (N : Int) := IntWalk.i64_in _ (by omega)
          have w2 : IntKind.i64.wrap (-(N : Int)) = -(N : Int) := by clear w1; exact IntWalk.i64_in _ (by omega)
          have w3 : IntKind.i64.wrap (N : Int) = (N : Int) := by clear w1 w2; exact IntWalk.i64_in _ (by omega)
          have W0 := Lib.hid (show (-1) * (N : Int) = -(N : Int) by omega)
          clear hall hdec hdec' hp
          go_wp2_with fail
          go_ret2
          exact ⟨by rw [HZ.out.1, HZ.out.2, W0.out]; rfl, rfl⟩
    · have hb' : ((b.toNat : Int) == 45) = false := by
        simp
        intro h
        exact hb (UInt8.toNat_inj.1 (by simpa using (by omega : b.toNat = 45)))
      obtain ⟨hbad, hgood, hdig⟩ := num_parts (b :: r) (b :: r) 1 (by show (if b = 45 then r else b :: r) = b :: r; rw [if_neg hb]) (by
        unfold Dw.sgnM
        split
        · rename_i heq
          injection heq with q _
          exact absurd q hb
        · rfl)
      obtain ⟨d, hd⟩ : ∃ d, b :: r = d := ⟨_, rfl⟩
      have hd0 : d.isEmpty = false := by rw [← hd]; rfl
      have hp0 : 0 < d.length := by rw [← hd]; simp
      rw [hd] at hbad hgood hdig hs hi ⊢
      clear hd hb
      generalize Dw.numV d = NV at *
      generalize Dw.numOk d = NO at *
      by_cases hL1 : d.length < 1
      · have g1 : (d.length : Int) < 1 := by omega
        have HZ := Lib.hid (hbad (by omega))
        clear hL1 hbad hgood hdig
        go_enter Tryz.func12, Tryz.ntmps12
        go_wp2_with fail
        go_ret2
        exact ⟨by rw [HZ.out.1, HZ.out.2]; rfl, rfl⟩
      by_cases hL9 : 9 < d.length
      · have g1 : ¬ (d.length : Int) < 1 := by omega
        have g9 : 9 < (d.length : Int) := by omega
        have HZ := Lib.hid (hbad (by omega))
        clear hL1 hL9 hbad hgood hdig
        go_enter Tryz.func12, Tryz.ntmps12
        go_wp2_with fail
        go_ret2
        exact ⟨by rw [HZ.out.1, HZ.out.2]; rfl, rfl⟩
      have g1 : 1 ≤ (d.length : Int) := by omega
      have g9 : (d.length : Int) ≤ 9 := by omega
      have HG := Lib.hid (hgood (by omega))
      have HD := Lib.hid (hdig (by omega))
      clear hbad hgood hdig
      go_enter Tryz.func12, Tryz.ntmps12
      go_wp2_with fail
      go_loopw [5, 6] (fun n i wr => ∃ k : Nat, k ≤ d.length ∧ i = .int .i64 (k : Int) ∧ n = .int .i64 (Dw.decP (d.take k) : Int) ∧ (d.take k).all Dw.isDig = true ∧ wr = w) (fun _ i _ => d.length - (intOf i).toNat)
      case atStart => exact ⟨0, Nat.zero_le _, rfl, rfl, rfl, rfl⟩
      case round =>
        obtain ⟨k, hk, rfl, rfl, hall, rfl⟩ := hrel
        have hdec := Dw.decP_lt (d.take k) 0 hall
        by_cases hlt : k < d.length
        · have hlt' : (k : Int) < (d.length : Int) := by omega
          have hk0 : (0 : Int) ≤ (k : Int) := by omega
          obtain ⟨c, hc⟩ : ∃ c, d[k]? = some c := ⟨d[k], List.getElem?_eq_getElem hlt⟩
          have hik : ∀ (h : k < (⟨d.toArray⟩ : ByteArray).size), (⟨d.toArray⟩ : ByteArray)[k]'h = c := fun _ => by
            have := List.getElem?_eq_getElem hlt
            rw [hc] at this
            exact (Option.some.inj this).symm
          have hsnoc : d.take (k + 1) = d.take k ++ [c] := Dw.take_snoc hc
          have hmem : c ∈ d := List.mem_of_getElem? hc
          by_cases hdg : Dw.isDig c = true
          · have hcd : 48 ≤ c.toNat ∧ c.toNat ≤ 57 := of_decide_eq_true hdg
            have HN := Lib.hid (show Dw.decP (d.take (k + 1)) = 10 * Dw.decP (d.take k) + (c.toNat - 48) ∧ (d.take (k + 1)).all Dw.isDig = true from ⟨by rw [hsnoc]; exact Dw.decP_snoc _ _, by rw [hsnoc, List.all_append, hall]; simp [hdg]⟩)
            have hp : (0 + 1) * 10 ^ (d.take k).length ≤ 10 ^ 8 := by
              rw [Nat.one_mul]
              exact Nat.pow_le_pow_right (by decide) (by rw [List.length_take]; omega)
            have hdec' : Dw.decP (d.take k) < 100000000 := Nat.lt_of_lt_of_le hdec hp
            generalize Dw.decP (d.take k) = N at *
            obtain ⟨u, hu⟩ : ∃ u, c.toNat = u := ⟨_, rfl⟩
            rw [hu] at hcd HN
            have n1 : ¬ (u : Int) < 48 := by omega
            have n2 : ¬ 57 < (u : Int) := by omega
            have n3 : decide ((u : Int) < 48) = false := decide_eq_false n1
            have n4 : decide (57 < (u : Int)) = false := decide_eq_false n2
            have HDU := Lib.hid (show (10 * (N : Int) + ((u : Int) - 48)) = ((10 * N + (u - 48) : Nat) : Int) by omega)
            have w1 : IntKind.i64.wrap (10 * (N : Int)) = 10 * (N : Int) := IntWalk.i64_in _ (by omega)
            have w2 : IntKind.u8.wrap ((u : Int) - 48) = (u : Int) - 48 := by clear w1; exact IntWalk.u8_in _ (by omega)
            have w3 : IntKind.i64.wrap ((u : Int) - 48) = (u : Int) - 48 := by clear w1 w2; exact IntWalk.i64_in _ (by omega)
            have w4 : IntKind.i64.wrap (10 * (N : Int) + ((u : Int) - 48)) = 10 * (N : Int) + ((u : Int) - 48) := by clear w1 w2 w3; exact IntWalk.i64_in _ (by omega)
            have w5 : IntKind.i64.wrap ((k : Int) + 1) = ((k + 1 : Nat) : Int) := by clear w1 w2 w3 w4; exact IntWalk.i64_in _ (by omega)
            have w6 : wrap64 ((u : Int) - 48) = (u : Int) - 48 := by clear w1 w2 w3 w4 w5; exact IntWalk.wrap64_in _ (by omega)
            clear hc hsnoc hdg hall hdec hdec' hp hmem
            go_wp2_with fail
            refine ⟨⟨k + 1, hlt, rfl, by rw [HN.out.1, HDU.out], HN.out.2, trivial⟩, ?_⟩
            simp only [intOf]
            omega
          · have HZ := Lib.hid (HD.out (by rw [Bool.eq_false_iff]; intro q; exact hdg (List.all_eq_true.1 q c hmem)))
            have hcd : c.toNat < 48 ∨ 57 < c.toNat := by
              unfold Dw.isDig at hdg
              simp at hdg
              omega
            obtain ⟨u, hu⟩ : ∃ u, c.toNat = u := ⟨_, rfl⟩
            rw [hu] at hcd
            generalize Dw.decP (d.take k) = N at *
            clear hc hsnoc hdg hall hdec hmem
            by_cases h48 : u < 48
            · have n1 : (u : Int) < 48 := by omega
              clear hcd h48
              go_wp2_with fail
              go_ret2
              exact ⟨by rw [HZ.out.1, HZ.out.2]; rfl, rfl⟩
            · have n1 : ¬ (u : Int) < 48 := by omega
              have n2 : 57 < (u : Int) := by omega
              have n3 : decide ((u : Int) < 48) = false := decide_eq_false n1
              clear hcd h48
              go_wp2_with fail
              go_ret2
              exact ⟨by rw [HZ.out.1, HZ.out.2]; rfl, rfl⟩
        · have hge : ¬ (k : Int) < (d.length : Int) := by omega
          obtain rfl : k = d.length := by omega
          rw [List.take_length] at hall hdec ⊢
          have HZ := Lib.hid (HG.out hall)
          have hp : (0 + 1) * 10 ^ d.length ≤ 10 ^ 9 := by
            rw [Nat.one_mul]
            exact Nat.pow_le_pow_right (by decide) (by omega)
          have hdec' : Dw.decP d < 1000000000 := Nat.lt_of_lt_of_le hdec hp
          generalize Dw.decP d = N at *
          have w1 : IntKind.i64.wrap ((1) * (N : Int)) = (1) * (N : Int) := IntWalk.i64_in _ (by omega)
          have w2 : IntKind.i64.wrap (-(N : Int)) = -(N : Int) := by clear w1; exact IntWalk.i64_in _ (by omega)
          have w3 : IntKind.i64.wrap (N : Int) = (N : Int) := by clear w1 w2; exact IntWalk.i64_in _ (by omega)
          have W0 := Lib.hid (show (1) * (N : Int) = (N : Int) by omega)
          clear hall hdec hdec' hp
          go_wp2_with fail
          go_ret2
          exact ⟨by rw [HZ.out.1, HZ.out.2, W0.out]; rfl, rfl⟩
end Go.Proofs.YtjibbchfndhhpaaGreatDoor
namespace Go.Proofs.YtjibbchfndhhpaaGreatDoor
open Go.RowKit Go.Shelf
attribute [local go_sem] Oper.semAt_some
theorem rtext_core (mo la lo iso : Int) (ar ho : Bool) (M A O I : List UInt8) (LM : M.length ≤ 20) (LA : A.length ≤ 20) (LO : O.length ≤ 20) (LI : I.length ≤ 20) (w : World)
    (HM : Hid (∀ w, Calls Tryz.prog 32 #[.int .i64 mo] w fun e w' => e = .returned (.string ⟨M.toArray⟩) ∧ w' = w))
    (HA : Hid (∀ w, Calls Tryz.prog 32 #[.int .i64 la] w fun e w' => e = .returned (.string ⟨A.toArray⟩) ∧ w' = w))
    (HO : Hid (∀ w, Calls Tryz.prog 32 #[.int .i64 lo] w fun e w' => e = .returned (.string ⟨O.toArray⟩) ∧ w' = w))
    (HI : Hid (∀ w, Calls Tryz.prog 32 #[.int .i64 iso] w fun e w' => e = .returned (.string ⟨I.toArray⟩) ∧ w' = w)) :
    Calls Tryz.prog 14 #[stV ⟨mo, ar, ho, la, lo, iso⟩] w fun e w' =>
      e = .returned (.string ⟨([109, 111, 100, 101, 32] ++ M ++ (if ar then [32, 97, 114, 109, 101, 100] else []) ++ (if ho then [32, 104, 111, 109, 101, 32] ++ A ++ [32] ++ O else []) ++ [32, 105, 115, 111, 32] ++ I).toArray⟩) ∧ Below w.heap.size w w' := by
  have b0 := han w (.cells (stC ⟨mo, ar, ho, la, lo, iso⟩) 30)
  have HB := Lib.hid ((Below.refl w.heap.size w).alloc (Nat.le_refl _) (.cells (stC ⟨mo, ar, ho, la, lo, iso⟩) 30))
  obtain ⟨c0, c1, c2, c3, c4, c5⟩ := cells6 b0
  have e1 : ∀ (x y : List UInt8), (⟨x.toArray⟩ : ByteArray) ++ ⟨y.toArray⟩ = ⟨(x ++ y).toArray⟩ := bs_append
  clear b0
  cases ar <;> cases ho
  · go_enter Tryz.func14, Tryz.ntmps14
    go_wp2_with fail
    refine (HM.out _).mono ?_
    rintro en w1 ⟨rfl, rfl⟩
    go_wp2_with fail
    refine (HI.out _).mono ?_
    rintro en w2 ⟨rfl, rfl⟩
    go_wp2_with fail
    go_ret
    exact ⟨by simp, HB.out⟩
  · go_enter Tryz.func14, Tryz.ntmps14
    go_wp2_with fail
    refine (HM.out _).mono ?_
    rintro en w1 ⟨rfl, rfl⟩
    go_wp2_with fail
    refine wp_pure [0, 1, 2, 3, 4, 5, 6, 7, 8, 9, 10] 11 (by kernel_rfl) (by kernel_rfl) rfl ?_
    (apply rat; (focus (intro w' hk; obtain ⟨k3,k4⟩ := look2 hk c3 c4; (refine' rv ?_ rfl rfl (by go_simp; first | done | with_reducible rfl | exact rfl); try simp only [Act.put, List.setIfInBounds_toArray, List.set_cons_zero, List.set_cons_succ]); (refine' rv ?_ rfl rfl (by exact (by go_simp; rw [if_neg (by omega)])); try simp only [Act.put, List.setIfInBounds_toArray, List.set_cons_zero, List.set_cons_succ]); (iterate 2 (refine' rv ?_ rfl rfl (by go_simp; first | done | with_reducible rfl | exact rfl); try simp only [Act.put, List.setIfInBounds_toArray, List.set_cons_zero, List.set_cons_succ])); (refine' rc ?_ (by exact rfl) (by exact rfl) (by go_simp; first | done | (constructor <;> with_reducible rfl) | with_reducible rfl) (by exact (HA.out w').mono fun _ _ h => ⟨h.1, h.2 ▸ Below.refl _ _⟩); try simp only [Act.put, List.setIfInBounds_toArray, List.set_cons_zero, List.set_cons_succ]); (refine' rv ?_ rfl rfl (by exact (by go_simp; rw [if_neg (by omega)])); try simp only [Act.put, List.setIfInBounds_toArray, List.set_cons_zero, List.set_cons_succ]); (refine' rv ?_ rfl rfl (by exact (by go_simp; rw [if_neg (by omega)])); try simp only [Act.put, List.setIfInBounds_toArray, List.set_cons_zero, List.set_cons_succ]); (iterate 2 (refine' rv ?_ rfl rfl (by go_simp; first | done | with_reducible rfl | exact rfl); try simp only [Act.put, List.setIfInBounds_toArray, List.set_cons_zero, List.set_cons_succ])); (refine' rc ?_ (by exact rfl) (by exact rfl) (by go_simp; first | done | (constructor <;> with_reducible rfl) | with_reducible rfl) (by exact (HO.out w').mono fun _ _ h => ⟨h.1, h.2 ▸ Below.refl _ _⟩); try simp only [Act.put, List.setIfInBounds_toArray, List.set_cons_zero, List.set_cons_succ]); (refine' rv ?_ rfl rfl (by exact (by go_simp; rw [if_neg (by omega)])); try simp only [Act.put, List.setIfInBounds_toArray, List.set_cons_zero, List.set_cons_succ]); (exact rn))))
    intro w9 hk9
    simp only [List.drop_succ_cons, List.drop_zero]
    have HB9 := Lib.hid (HB.out.trans (hk9.whole.mono HB.out.size))
    have c5 := look hk9 c5
    clear hk9 HB c0 c1 c2 c3 c4
    go_wp2_with fail
    refine (HI.out _).mono ?_
    rintro en w2 ⟨rfl, rfl⟩
    go_wp2_with fail
    go_ret
    exact ⟨by simp, HB9.out⟩
  · go_enter Tryz.func14, Tryz.ntmps14
    go_wp2_with fail
    refine (HM.out _).mono ?_
    rintro en w1 ⟨rfl, rfl⟩
    go_wp2_with fail
    refine (HI.out _).mono ?_
    rintro en w2 ⟨rfl, rfl⟩
    go_wp2_with fail
    go_ret
    exact ⟨by simp, HB.out⟩
  · go_enter Tryz.func14, Tryz.ntmps14
    go_wp2_with fail
    refine (HM.out _).mono ?_
    rintro en w1 ⟨rfl, rfl⟩
    go_wp2_with fail
    refine wp_pure [0, 1, 2, 3, 4, 5, 6, 7, 8, 9, 10] 11 (by kernel_rfl) (by kernel_rfl) rfl ?_
    (apply rat; (focus (intro w' hk; obtain ⟨k3,k4⟩ := look2 hk c3 c4; (refine' rv ?_ rfl rfl (by go_simp; first | done | with_reducible rfl | exact rfl); try simp only [Act.put, List.setIfInBounds_toArray, List.set_cons_zero, List.set_cons_succ]); (refine' rv ?_ rfl rfl (by exact (by go_simp; rw [if_neg (by omega)])); try simp only [Act.put, List.setIfInBounds_toArray, List.set_cons_zero, List.set_cons_succ]); (iterate 2 (refine' rv ?_ rfl rfl (by go_simp; first | done | with_reducible rfl | exact rfl); try simp only [Act.put, List.setIfInBounds_toArray, List.set_cons_zero, List.set_cons_succ])); (refine' rc ?_ (by exact rfl) (by exact rfl) (by go_simp; first | done | (constructor <;> with_reducible rfl) | with_reducible rfl) (by exact (HA.out w').mono fun _ _ h => ⟨h.1, h.2 ▸ Below.refl _ _⟩); try simp only [Act.put, List.setIfInBounds_toArray, List.set_cons_zero, List.set_cons_succ]); (refine' rv ?_ rfl rfl (by exact (by go_simp; rw [if_neg (by omega)])); try simp only [Act.put, List.setIfInBounds_toArray, List.set_cons_zero, List.set_cons_succ]); (refine' rv ?_ rfl rfl (by exact (by go_simp; rw [if_neg (by omega)])); try simp only [Act.put, List.setIfInBounds_toArray, List.set_cons_zero, List.set_cons_succ]); (iterate 2 (refine' rv ?_ rfl rfl (by go_simp; first | done | with_reducible rfl | exact rfl); try simp only [Act.put, List.setIfInBounds_toArray, List.set_cons_zero, List.set_cons_succ])); (refine' rc ?_ (by exact rfl) (by exact rfl) (by go_simp; first | done | (constructor <;> with_reducible rfl) | with_reducible rfl) (by exact (HO.out w').mono fun _ _ h => ⟨h.1, h.2 ▸ Below.refl _ _⟩); try simp only [Act.put, List.setIfInBounds_toArray, List.set_cons_zero, List.set_cons_succ]); (refine' rv ?_ rfl rfl (by exact (by go_simp; rw [if_neg (by omega)])); try simp only [Act.put, List.setIfInBounds_toArray, List.set_cons_zero, List.set_cons_succ]); (exact rn))))
    intro w9 hk9
    simp only [List.drop_succ_cons, List.drop_zero]
    have HB9 := Lib.hid (HB.out.trans (hk9.whole.mono HB.out.size))
    have c5 := look hk9 c5
    clear hk9 HB c0 c1 c2 c3 c4
    go_wp2_with fail
    refine (HI.out _).mono ?_
    rintro en w2 ⟨rfl, rfl⟩
    go_wp2_with fail
    go_ret
    exact ⟨by simp, HB9.out⟩
theorem rtext_any (s : Dw.St) (hl : Dw.legal s = true) (w : World) :
    Calls Tryz.prog 14 #[stV s] w fun e w' => e = .returned (.string ⟨(Dw.textS s).toArray⟩) ∧ Below w.heap.size w w' := by
  obtain ⟨⟨h1, h2, h3, h4⟩, ⟨h5, h6, h7, h8⟩, _⟩ := (Dw.legal_iff s).1 hl
  obtain ⟨mo, ar, ho, la, lo, iso⟩ := s
  dsimp only at h1 h2 h3 h4 h5 h6 h7 h8
  have h := rtext_core mo la lo iso ar ho (Dw.itoaS mo) (Dw.itoaS la) (Dw.itoaS lo) (Dw.itoaS iso) (itoaS_len _) (itoaS_len _) (itoaS_len _) (itoaS_len _) w
    (Lib.hid fun w => rdig_any mo (by omega) (by omega) w) (Lib.hid fun w => rdig_any la (by omega) (by omega) w) (Lib.hid fun w => rdig_any lo (by omega) (by omega) w) (Lib.hid fun w => rdig_any iso (by omega) (by omega) w)
  refine cb h fun w' hb => ?_
  refine ⟨?_, hb⟩
  have e : ∀ (M A O I : List UInt8) (ar ho : Bool), [109, 111, 100, 101, 32] ++ M ++ (if ar then [32, 97, 114, 109, 101, 100] else []) ++ (if ho then [32, 104, 111, 109, 101, 32] ++ A ++ [32] ++ O else []) ++ [32, 105, 115, 111, 32] ++ I =
      Lib.join ([[109, 111, 100, 101] ++ (32 :: M)] ++ (if ar then [[97, 114, 109, 101, 100]] else []) ++ (if ho then [[104, 111, 109, 101] ++ (32 :: A) ++ (32 :: O)] else []) ++ [[105, 115, 111] ++ (32 :: I)]) [32] := by
    intro M A O I ar ho
    cases ar <;> cases ho <;> simp [Lib.join]
  rw [e]
  rfl
end Go.Proofs.YtjibbchfndhhpaaGreatDoor
