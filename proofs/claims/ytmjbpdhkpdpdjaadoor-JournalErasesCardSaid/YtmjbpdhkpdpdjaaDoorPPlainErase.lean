/- Layer 12, plain: where a flash stands that is never cut, exactly. -/
import Derived.Test.YtmjbpdhkpdpdjaaDoorP20
namespace Go.Proofs.YtmjbpdhkpdpdjaaDoor
open Go.RowKit Go.Shelf
namespace Dw
theorem plan_none {n N : Nat} {f : Fl} (h : Inv n N f none) (d : Nat) : plan f d = if wornB f 0 = false then (freshF f 0 1 1 d, 0) else if wornB f 1 = false then (freshF f 1 1 1 d, 0) else ([], 4) := by
  have he := inv_even h
  obtain ⟨_, r2⟩ := inv_read h
  unfold plan
  rw [if_neg (by rw [he]; decide), if_pos (by rw [r2]; decide)]
theorem plan_some {n N : Nat} {f : Fl} {k : Cur} (h : Inv n N f (some k)) (hN : N + 1 < 18446744073709551615) (d : Nat) :
    plan f d = if 0 < next (f.bk k.bank) then (appendOps k.bank (next (f.bk k.bank)) (k.seq + 1) d, 0) else if wornB f (other k.bank) = true then ([], 4) else (freshF f (other k.bank) (k.gen + 1) (k.seq + 1) d, 0) := by
  have he := inv_even h
  obtain ⟨r1, r2⟩ := inv_read h
  obtain ⟨k2, kc, ko, kg, ks, kd⟩ := h.st
  unfold plan
  rw [if_neg (by rw [he]; decide), if_neg (by rw [r2]; decide), r1]
  dsimp only
  rw [if_neg (by omega), Int.toNat_natCast]
  by_cases h0 : 0 < next (f.bk k.bank)
  · rw [if_pos h0, if_pos h0]
  · rw [if_neg h0, if_neg h0, if_neg (by omega)]
theorem fresh_hold {n N : Nat} {f : Fl} {c : Option Cur} (h : Inv n N f c) (b g d : Nat) (hd : d < 18446744073709551616) (hb : b < 2) (hg : g ≤ seqOf c + 1)
    (hc : c = none ∧ g = 1 ∨ ∃ k, c = some k ∧ b = 1 - k.bank ∧ g = k.gen + 1) (s' : List UInt8) (hcn : Cnt s' n g (seqOf c + 1) d) : Inv n (N + 1) ((f.put b s').wearN b 1) (some ⟨b, g, seqOf c + 1, d⟩) := by
  have hsq : seqOf c ≤ N := by
    have := h.st
    cases c with
    | none => exact Nat.zero_le _
    | some k => exact this.2.2.2.2.1
  obtain ⟨w0, w1⟩ := fl_wear f b s' 1 N (Nat.le_refl _) h.w0 h.w1
  refine ⟨h.n1, h.n2, w0, w1, hb, by show Cnt (Fl.bk _ b) n g _ d; rw [fl_put_bk]; exact hcn, ?_, hg, by show seqOf c + 1 ≤ N + 1; omega, hd⟩
  show Oth (Fl.bk _ (1 - b)) n g
  rw [fl_other _ _ _ _ hb]
  have hs := h.st
  rcases hc with ⟨rfl, _⟩ | ⟨k, rfl, hbk, hgk⟩
  · rcases (by omega : b = 0 ∨ b = 1) with rfl | rfl
    · exact ⟨hs.2.1, .inl hs.2.2⟩
    · exact ⟨hs.1.1, .inl hs.1.2⟩
  · obtain ⟨k2, kc, _⟩ := hs
    have : 1 - b = k.bank := by omega
    rw [this]
    exact ⟨kc.len, .inr ⟨kc.hdr, by rw [kc.gen]; omega⟩⟩
theorem app_hold {n N : Nat} {f : Fl} {k : Cur} (h : Inv n N f (some k)) (d : Nat) (hd : d < 18446744073709551616) (s' : List UInt8) (hcn : Cnt s' n k.gen (k.seq + 1) d) : Inv n (N + 1) ((f.put k.bank s').wearN k.bank 0) (some ⟨k.bank, k.gen, k.seq + 1, d⟩) := by
  obtain ⟨k2, kc, ko, kg, ks, kd⟩ := h.st
  obtain ⟨w0, w1⟩ := fl_wear f k.bank s' 0 N (by omega) h.w0 h.w1
  exact ⟨h.n1, h.n2, w0, w1, k2, by show Cnt (Fl.bk _ k.bank) n _ _ _; rw [fl_put_bk]; exact hcn, by show Oth (Fl.bk _ (1 - k.bank)) n _; rw [fl_other _ _ _ _ k2]; exact ko, by show k.gen ≤ k.seq + 1; omega, by show k.seq + 1 ≤ N + 1; omega, hd⟩
theorem wear_e (f : Fl) (b : Nat) (s : List UInt8) (c : Nat) : ((f.put b s).wearN b c).e0 = f.e0 + ((if b = 0 then c else 0 : Nat) : Int) ∧ ((f.put b s).wearN b c).e1 = f.e1 + ((if b = 0 then 0 else c : Nat) : Int) := by
  unfold Fl.put Fl.wearN
  by_cases h : b = 0 <;> simp [h]

/-- Behind i states that were written: q banks were made fresh before this one, which has r + 1 states. -/
structure Full (n i q r : Nat) (f : Fl) (c : Cur) : Prop where
  inv : Inv n i f (some c)
  bank : c.bank = q % 2
  e0 : f.e0 = ((q + 2) / 2 : Nat)
  e1 : f.e1 = ((q + 1) / 2 : Nat)
  pos : i = q * n + r + 1
  lt : r < n
  rest : ∀ j, r + 2 ≤ j → j ≤ n → place (f.bk c.bank) j = ffs 24
  here : stateOf (r + 1) (place (f.bk c.bank) (r + 1)) = 2
def Ex (n i : Nat) (f : Fl) : Prop := (i = 0 ∧ Inv n 0 f none ∧ f.e0 = 0 ∧ f.e1 = 0) ∨ ∃ q r c, Full n i q r f c

theorem full_fresh {n N q i : Nat} {f : Fl} {c : Option Cur} (h : Inv n N f c) (hN : N + 1 < 18446744073709551615) (hi : N = i) (b g d : Nat) (m : List UInt8) (hd : d < 18446744073709551616) (hb : b = q % 2) (hg : g ≤ seqOf c + 1)
    (hc : c = none ∧ g = 1 ∨ ∃ k, c = some k ∧ b = 1 - k.bank ∧ g = k.gen + 1) (e0 : f.e0 + ((if b = 0 then 1 else 0 : Nat) : Int) = ((q + 2) / 2 : Nat)) (e1 : f.e1 + ((if b = 0 then 0 else 1 : Nat) : Int) = ((q + 1) / 2 : Nat)) (hp : i = q * n) :
    ∃ c', Full n (i + 1) q 0 (playL f (freshF f b g (seqOf c + 1) d) 0 (-1) m).1 c' := by
  subst hi
  have hsq : seqOf c ≤ N := by
    have := h.st
    cases c with
    | none => exact Nat.zero_le _
    | some k => exact this.2.2.2.2.1
  have hb2 : b < 2 := by omega
  obtain ⟨la, lb⟩ := inv_len h
  have hl : (f.bk b).length = 24 * n + 24 := by unfold Fl.bk; split <;> assumption
  have hP := playL_bank b (-1) m (freshF f b g (seqOf c + 1) d) f 0 (fresh_bank _ _ _ _ _)
  have hF := fresh_play (f.bk b) m n b g (seqOf c + 1) d (decide (state (f.bk b) 0 = 2)) (-1) h.n1 h.n2 (by omega) (by omega) hd hl
  change _ ∨ _ at hF
  rw [show freshOps b (decide (state (f.bk b) 0 = 2)) g (seqOf c + 1) d = freshF f b g (seqOf c + 1) d from rfl] at hF
  rw [hP]
  rcases hF with ⟨_, _, hfr, hco⟩ | ⟨hc0, _⟩
  · rw [hco]
    dsimp only
    have hcn := fr_cnt h.n1 h.n2 (by omega) (by omega) hd hfr
    obtain ⟨x0, x1⟩ := wear_e f b (bPlay (f.bk b) (freshF f b g (seqOf c + 1) d) 0 (-1) m).1 1
    refine ⟨⟨b, g, seqOf c + 1, d⟩, fresh_hold h b g d hd hb2 hg hc _ hcn, hb, by rw [x0]; exact e0, by rw [x1]; exact e1, by omega, h.n1, ?_, ?_⟩
    · intro j h1 h2
      show place (Fl.bk _ b) j = _
      rw [fl_put_bk]
      exact hfr.pn j (by omega) h2
    · show stateOf (0 + 1) (place (Fl.bk _ b) (0 + 1)) = 2
      rw [fl_put_bk, hfr.p1]
      exact good_encode 1 3 _ d (by decide) (by decide) (by omega) hd (by decide)
  · omega

theorem ex_step {n i most : Nat} {f : Fl} (h : Ex n i f) (hN : i + 1 < 18446744073709551615) (hli : f.li = most) (hlt : i < 2 * most * n) (d : Nat) (m : List UInt8) (hd : d < 18446744073709551616) :
    (plan f d).2 = 0 ∧ Ex n (i + 1) (playL f (plan f d).1 0 (-1) m).1 := by
  rcases h with ⟨rfl, hI, e0, e1⟩ | ⟨q, r, c, hF⟩
  · have hm : 0 < most := by
      rcases Nat.eq_zero_or_pos most with h | h
      · rw [h] at hlt; simp at hlt
      · exact h
    have hp := plan_none hI d
    have hw : wornB f 0 = false := by unfold wornB Fl.er; simp; omega
    rw [hp, if_pos hw]
    exact ⟨rfl, .inr ⟨0, 0, full_fresh (q := 0) hI hN rfl 0 1 d m hd rfl (by decide) (.inl ⟨rfl, rfl⟩) (by rw [e0]; rfl) (by rw [e1]; rfl) (by omega)⟩⟩
  · have hp := plan_some hF.inv hN d
    obtain ⟨k2, kc, ko, kg, ks, kd⟩ := hF.inv.st
    have hn1 := hF.inv.n1; have hn2 := hF.inv.n2
    have hsl : slots (f.bk c.bank).length = n := by rw [kc.len, slots_n n hn1 hn2]
    have hst : ∀ j, j ≤ n → state (f.bk c.bank) j = stateOf j (place (f.bk c.bank) j) := fun j hj => state_place _ n j hn1 hn2 kc.len hj
    have hhere : state (f.bk c.bank) (r + 1) ≠ 0 := by rw [hst _ (by have := hF.lt; omega), hF.here]; decide
    have hpos := hF.pos; have hb := hF.bank; have hrn := hF.lt
    have hot : other c.bank = 1 - c.bank := by unfold other; split <;> omega
    by_cases hlast : r + 1 = n
    · have hnx : next (f.bk c.bank) = 0 := next_zero _ n hsl hn1 (by rw [← hlast]; exact hhere)
      rw [if_neg (by omega), hot] at hp
      have hi2 : i = (q + 1) * n := by rw [Nat.succ_mul]; omega
      have hq1 : q + 1 < 2 * most := by rw [hi2] at hlt; exact Nat.lt_of_mul_lt_mul_right hlt
      have hw : ¬ wornB f (1 - c.bank) = true := by
        have h0 := hF.e0; have h1 := hF.e1
        unfold wornB Fl.er
        rcases (by omega : q % 2 = 0 ∨ q % 2 = 1) with e | e <;> rw [hb, e] <;> simp <;> omega
      rw [hp, if_neg hw]
      refine ⟨rfl, ?_⟩
      refine .inr ⟨q + 1, 0, full_fresh (q := q + 1) hF.inv hN rfl (1 - c.bank) (c.gen + 1) d m hd (by omega) (by show c.gen + 1 ≤ c.seq + 1; omega) (.inr ⟨c, rfl, rfl, rfl⟩) ?_ ?_ hi2⟩
      · have h0 := hF.e0
        rcases (by omega : q % 2 = 0 ∨ q % 2 = 1) with e | e <;> rw [hb, e] <;> simp <;> omega
      · have h1 := hF.e1
        rcases (by omega : q % 2 = 0 ∨ q % 2 = 1) with e | e <;> rw [hb, e] <;> simp <;> omega
    · have hnx : next (f.bk c.bank) = r + 2 := next_is _ n (r + 2) hsl (by omega) (by omega) (fun j h1 h2 => by rw [hst j h2, hF.rest j h1 h2, state_ffs]) (.inr hhere)
      rw [if_pos (by omega), hnx] at hp
      rw [hp]
      refine ⟨rfl, ?_⟩
      dsimp only
      have hP := playL_bank c.bank (-1) m _ f 0 (append_bank c.bank (r + 2) (c.seq + 1) d)
      have hA := append_play (f.bk c.bank) m n c.bank c.gen c.seq d c.data _ (-1) hn1 hn2 (by omega) hd kc hnx (by omega)
      rw [hP]
      rcases hA with ⟨_, _, hcn, hco, hpl⟩ | ⟨hc0, _⟩
      · rw [hco]
        dsimp only
        obtain ⟨x0, x1⟩ := wear_e f c.bank (bPlay (f.bk c.bank) (appendOps c.bank (r + 2) (c.seq + 1) d) 0 (-1) m).1 0
        refine .inr ⟨q, r + 1, _, app_hold hF.inv d hd _ hcn, hb, by rw [x0]; simpa using hF.e0, by rw [x1]; simpa using hF.e1, by omega, by omega, ?_, ?_⟩
        · intro j h1 h2
          show place (Fl.bk _ c.bank) j = _
          rw [fl_put_bk, hpl j h2, if_neg (by omega)]
          exact hF.rest j (by omega) h2
        · show stateOf (r + 1 + 1) (place (Fl.bk _ c.bank) (r + 1 + 1)) = 2
          rw [fl_put_bk, hpl _ (by omega), if_pos rfl]
          exact good_encode _ 2 _ d (by decide) (by decide) (by omega) hd (by omega)
      · omega
theorem ex_worn {n most : Nat} {f : Fl} (h : Ex n (2 * most * n) f) (hN : 2 * most * n + 1 < 18446744073709551615) (hli : f.li = most) (d : Nat) : (plan f d).2 = 4 := by
  rcases h with ⟨h0, hI, e0, e1⟩ | ⟨q, r, c, hF⟩
  · have hm : most = 0 := by
      have := hI.n1
      rcases Nat.eq_zero_or_pos most with h | h
      · exact h
      · have : 0 < 2 * most * n := Nat.mul_pos (by omega) (by omega)
        omega
    rw [plan_none hI d, if_neg (by unfold wornB Fl.er; simp; omega), if_neg (by unfold wornB Fl.er; simp; omega)]
  · obtain ⟨k2, kc, ko, kg, ks, kd⟩ := hF.inv.st
    have hn1 := hF.inv.n1; have hn2 := hF.inv.n2
    have hsl : slots (f.bk c.bank).length = n := by rw [kc.len, slots_n n hn1 hn2]
    have hpos := hF.pos; have hb := hF.bank; have hrn := hF.lt
    have hr : r + 1 = n ∧ q + 1 = 2 * most := by
      have e : 2 * most * n = q * n + (r + 1) := by omega
      have h1 : q < 2 * most := by
        apply Nat.lt_of_mul_lt_mul_right (a := n)
        omega
      have h2 : (q + 1) * n ≤ 2 * most * n := Nat.mul_le_mul_right n h1
      rw [Nat.succ_mul q n] at h2
      have h3 : r + 1 = n := by omega
      refine ⟨h3, ?_⟩
      have h4 : 2 * most * n = (q + 1) * n := by rw [Nat.succ_mul q n]; omega
      exact (Nat.eq_of_mul_eq_mul_right (by omega) h4).symm
    have hnx : next (f.bk c.bank) = 0 := next_zero _ n hsl hn1 (by rw [← hr.1, state_place _ n (r + 1) hn1 hn2 kc.len (by omega), hF.here]; decide)
    have hot : other c.bank = 1 - c.bank := by unfold other; split <;> omega
    have hw : wornB f (1 - c.bank) = true := by
      have h0 := hF.e0; have h1 := hF.e1
      unfold wornB Fl.er
      rcases (by omega : q % 2 = 0 ∨ q % 2 = 1) with e | e <;> rw [hb, e] <;> simp <;> omega
    rw [plan_some hF.inv hN d, if_neg (by omega), hot, if_pos hw]
theorem ex_inv {n i : Nat} {f : Fl} (h : Ex n i f) : ∃ c, Inv n i f c := by
  rcases h with ⟨rfl, h, _⟩ | ⟨q, r, c, h⟩
  · exact ⟨none, h⟩
  · exact ⟨some c, h.inv⟩
theorem ex_wear {n i : Nat} {f : Fl} (h : Ex n (i + 1) f) : f.e0 + f.e1 = ((i / n + 1 : Nat) : Int) := by
  rcases h with ⟨h, _⟩ | ⟨q, r, c, h⟩
  · omega
  · have hp := h.pos; have hr := h.lt; have h0 := h.e0; have h1 := h.e1
    have : i / n = q := by
      rw [show i = r + n * q from by rw [Nat.mul_comm]; omega, Nat.add_mul_div_left _ _ (by omega), Nat.div_eq_of_lt hr, Nat.zero_add]
    rw [this]
    omega
/-- A step that is not cut. -/
theorem whole_step {n i most : Nat} {l : Lg} {c : Option Cur} (h : Ex n i l.f) (hI : Inv n i l.f c) (hr : Rel l c) (hN : i + 1 < 18446744073709551615) (hli : l.f.li = most) (d : Nat) (hd : d < 18446744073709551616) :
    (i < 2 * most * n → Ex n (i + 1) (playJ l ⟨d, -1, []⟩).f ∧ (playJ l ⟨d, -1, []⟩).acked = l.acked + 1 ∧ (playJ l ⟨d, -1, []⟩).last = d ∧ (playJ l ⟨d, -1, []⟩).f.li = most) ∧
    (i = 2 * most * n → playJ l ⟨d, -1, []⟩ = l) := by
  constructor
  · intro hlt
    have hS := step_log hI hr hN ⟨d, -1, []⟩ hd
    obtain ⟨hp0, hX⟩ := ex_step h hN hli hlt d [] hd
    obtain ⟨_, _, _, hl⟩ := hS.next
    rcases hS.ok hp0 with ⟨ha, _⟩ | ⟨h0, _⟩
    · have : playJ l ⟨d, -1, []⟩ = ⟨(putG l.f ⟨d, -1, []⟩).1, l.acked + 1, d, false, 0⟩ := by unfold playJ; rw [if_neg (fun h => h hp0), if_pos ha]
      rw [this] at hl ⊢
      exact ⟨hX, rfl, rfl, hl.trans hli⟩
    · exact absurd h0 (by show ¬ (0 : Int) ≤ -1; decide)
  · intro he
    subst he
    unfold playJ
    rw [if_pos (by rw [ex_worn h hN hli d]; decide)]
end Dw
end Go.Proofs.YtmjbpdhkpdpdjaaDoor
