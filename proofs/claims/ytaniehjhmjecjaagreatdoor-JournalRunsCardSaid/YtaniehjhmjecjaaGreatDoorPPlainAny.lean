/- Plain: a plan of any flash, played whole or cut; and what is alike in two plans. -/
import Derived.Test.YtaniehjhmjecjaaGreatDoorP18
namespace Go.Proofs.YtaniehjhmjecjaaGreatDoor
namespace Dw

/-- The bank that counts. -/
structure Win (f : Fl) (k : Nat) : Prop where
  lt : k < 2
  snd : sound (f.bk k) = true
  top : sound (f.bk (1 - k)) = false ∨ genN (f.bk (1 - k)) < genN (f.bk k) ∨ (k = 0 ∧ genN (f.bk (1 - k)) ≤ genN (f.bk k))
theorem win_read {f : Fl} {k : Nat} (h : Win f k) : readS f.a f.b = ofT (f.bk k) k ∧ readE f.a f.b = 0 := by
  obtain ⟨lt, snd, top⟩ := h
  rcases (by omega : k = 0 ∨ k = 1) with rfl | rfl
  · change sound f.a = true at snd
    change sound f.b = false ∨ genN f.b < genN f.a ∨ (0 = 0 ∧ genN f.b ≤ genN f.a) at top
    exact rd0 f.a f.b snd (by rcases top with h | h | h; exact .inl h; exact .inr (by omega); exact .inr h.2)
  · change sound f.b = true at snd
    change sound f.a = false ∨ genN f.a < genN f.b ∨ (1 = 0 ∧ genN f.a ≤ genN f.b) at top
    exact rd1 f.a f.b snd (by rcases top with h | h | h; exact .inl h; exact .inr h; exact absurd h.1 (by decide))
theorem win_or (f : Fl) : (sound f.a = false ∧ sound f.b = false) ∨ ∃ k, Win f k := by
  cases ha : sound f.a with
  | true =>
    right
    by_cases h : sound f.b = false ∨ genN f.b ≤ genN f.a
    · exact ⟨0, by decide, ha, h.elim .inl fun h => .inr (.inr ⟨rfl, h⟩)⟩
    · refine ⟨1, by decide, ?_, .inr (.inl ?_)⟩
      · show sound f.b = true
        cases hb : sound f.b with
        | true => rfl
        | false => exact absurd (.inl hb) h
      · show genN f.a < genN f.b
        have := fun h' => h (.inr h')
        omega
  | false =>
    cases hb : sound f.b with
    | false => exact .inl ⟨rfl, rfl⟩
    | true => exact .inr ⟨1, by decide, hb, .inl ha⟩
theorem cnt_of {s : List UInt8} {n : Nat} (h1 : 1 ≤ n) (h2 : n ≤ 12) (hl : s.length = 24 * n + 24) (hs : sound s = true) : Cnt s n (genN s) (last s).1.seq (last s).1.data := by
  unfold sound at hs
  obtain ⟨hg, hl0⟩ := of_decide_eq_true hs
  have h0 : state s 0 = 2 := by
    unfold genE at hg
    by_cases h : state s 0 = 2
    · exact h
    · rw [if_neg h] at hg; cases hg
  have hp := state_place s n 0 h1 h2 hl (by omega)
  refine ⟨hl, by rw [← hp, h0], ?_, hl0, rfl, rfl⟩
  unfold genN
  rw [if_pos h0, slot_place s n 0 h1 h2 hl (by omega)]

/-- What a plan without an error says. -/
theorem plan_is {f : Fl} {d : Nat} (h : (plan f d).2 = 0) : ∃ n, 1 ≤ n ∧ n ≤ 12 ∧ Len f (24 * n + 24) ∧
    ((∃ k, Win f k ∧ 0 < next (f.bk k) ∧ (last (f.bk k)).1.seq + 1 < 18446744073709551616 ∧ (plan f d).1 = appendOps k (next (f.bk k)) ((last (f.bk k)).1.seq + 1) d) ∨
     (∃ k, Win f k ∧ genN (f.bk k) + 1 < 18446744073709551616 ∧ (last (f.bk k)).1.seq + 1 < 18446744073709551616 ∧ (plan f d).1 = freshF f (1 - k) (genN (f.bk k) + 1) ((last (f.bk k)).1.seq + 1) d) ∨
     ((sound f.a = false ∧ sound f.b = false) ∧ ∃ b, b < 2 ∧ (plan f d).1 = freshF f b 1 1 d)) := by
  unfold plan at h ⊢
  cases hev : even f.a f.b with
  | false => rw [hev] at h; simp at h
  | true =>
    obtain ⟨n, hn1, hn2, hla, hlb⟩ := even_len hev
    refine ⟨n, hn1, hn2, ⟨hla, hlb⟩, ?_⟩
    rw [hev, if_neg (by decide)] at h
    rw [if_neg (by decide)]
    rcases win_or f with ⟨s0, s1⟩ | ⟨k, hw⟩
    · obtain ⟨_, r2⟩ := rdN f.a f.b s0 s1
      right; right
      refine ⟨⟨s0, s1⟩, ?_⟩
      rw [if_pos (by rw [r2]; decide)] at h ⊢
      cases w0 : wornB f 0 with
      | false => rw [if_pos rfl]; exact ⟨0, by decide, rfl⟩
      | true =>
        rw [w0, if_neg (by decide)] at h
        rw [if_neg (by decide)]
        cases w1 : wornB f 1 with
        | false => rw [if_pos rfl]; exact ⟨1, by decide, rfl⟩
        | true => rw [w1, if_neg (by decide)] at h; simp at h
    · obtain ⟨r1, r2⟩ := win_read hw
      obtain ⟨l1, l2, _⟩ := ofT_lt (f.bk k) k
      rw [if_neg (by rw [r2]; decide), r1] at h ⊢
      change genN (f.bk k) < _ at l1
      change (last (f.bk k)).1.seq < _ at l2
      unfold ofT at h ⊢
      dsimp only at h ⊢
      rw [Int.toNat_natCast] at h ⊢
      by_cases e1 : (last (f.bk k)).1.seq = 18446744073709551615
      · rw [if_pos e1] at h; simp at h
      · rw [if_neg e1] at h ⊢
        by_cases e2 : 0 < next (f.bk k)
        · rw [if_pos e2]
          exact .inl ⟨k, hw, e2, by omega, rfl⟩
        · rw [if_neg e2] at h ⊢
          by_cases e3 : genN (f.bk k) = 18446744073709551615
          · rw [if_pos e3] at h; simp at h
          · rw [if_neg e3] at h ⊢
            have ho : other k = 1 - k := by unfold other; have := hw.lt; split <;> omega
            rw [ho] at h ⊢
            cases hwo : wornB f (1 - k) with
            | true => rw [hwo, if_pos rfl] at h; simp at h
            | false =>
              rw [if_neg (by decide)]
              exact .inr (.inl ⟨k, hw, by omega, by omega, rfl⟩)

theorem win_put {f : Fl} {k n q d e : Nat} {s : List UInt8} (h1 : 1 ≤ n) (h2 : n ≤ 12) (h : Win f k) (hc : Cnt s n (genN (f.bk k)) q d) :
    readS ((f.put k s).wearN k e).a ((f.put k s).wearN k e).b = ⟨k, genN (f.bk k), q, d⟩ ∧ readE ((f.put k s).wearN k e).a ((f.put k s).wearN k e).b = 0 := by
  obtain ⟨c1, c2⟩ := cnt_gen h1 h2 hc
  have hw : Win ((f.put k s).wearN k e) k := by
    refine ⟨h.lt, by rw [fl_put_bk]; exact c1, ?_⟩
    rw [fl_put_bk, fl_other _ _ _ _ h.lt, c2]
    exact h.top
  obtain ⟨r1, r2⟩ := win_read hw
  refine ⟨?_, r2⟩
  rw [r1, fl_put_bk]
  unfold ofT
  rw [c2, hc.lst.2.1, hc.lst.2.2]
theorem win_new {f : Fl} {b n g q d e : Nat} {s : List UInt8} (h1 : 1 ≤ n) (h2 : n ≤ 12) (hb : b < 2) (hc : Cnt s n g q d) (ho : sound (f.bk (1 - b)) = false ∨ genN (f.bk (1 - b)) < g) :
    readS ((f.put b s).wearN b e).a ((f.put b s).wearN b e).b = ⟨b, g, q, d⟩ ∧ readE ((f.put b s).wearN b e).a ((f.put b s).wearN b e).b = 0 := by
  obtain ⟨c1, c2⟩ := cnt_gen h1 h2 hc
  have hw : Win ((f.put b s).wearN b e) b := by
    refine ⟨hb, by rw [fl_put_bk]; exact c1, ?_⟩
    rw [fl_put_bk, fl_other _ _ _ _ hb, c2]
    exact ho.elim .inl fun h => .inr (.inl h)
  obtain ⟨r1, r2⟩ := win_read hw
  refine ⟨?_, r2⟩
  rw [r1, fl_put_bk]
  unfold ofT
  rw [c2, hc.lst.2.1, hc.lst.2.2]

theorem fresh_whole {f : Fl} {n b g q d : Nat} {m : List UInt8} (h1 : 1 ≤ n) (h2 : n ≤ 12) (hl : Len f (24 * n + 24)) (hb : b < 2) (hg : g < 18446744073709551616) (hq : q < 18446744073709551616) (hd : d < 18446744073709551616)
    (ho : sound (f.bk (1 - b)) = false ∨ genN (f.bk (1 - b)) < g) :
    (playL f (freshF f b g q d) 0 (-1) m).2 = (freshF f b g q d).length ∧ readS (playL f (freshF f b g q d) 0 (-1) m).1.a (playL f (freshF f b g q d) 0 (-1) m).1.b = ⟨b, g, q, d⟩ ∧
      readE (playL f (freshF f b g q d) 0 (-1) m).1.a (playL f (freshF f b g q d) 0 (-1) m).1.b = 0 := by
  have hP := playL_bank b (-1) m (freshF f b g q d) f 0 (fresh_bank _ _ _ _ _)
  rcases fresh_play (f.bk b) m n b g q d (decide (state (f.bk b) 0 = 2)) (-1) h1 h2 hg hq hd (len_bk hl) with ⟨_, hn, hfr, _⟩ | ⟨h0, _⟩
  · rw [hP]
    obtain ⟨r1, r2⟩ := win_new (f := f) (e := (bPlay (f.bk b) (freshF f b g q d) 0 (-1) m).2.2) h1 h2 hb (fr_cnt h1 h2 hg hq hd hfr) ho
    exact ⟨hn, r1, r2⟩
  · exact absurd h0 (by decide)
/-- All of a plan is done: its state is read, under the next number. -/
theorem plan_done {f : Fl} {d : Nat} (m : List UInt8) (hd : d < 18446744073709551616) (h : (plan f d).2 = 0) :
    (playL f (plan f d).1 0 (-1) m).2 = (plan f d).1.length ∧ readE (playL f (plan f d).1 0 (-1) m).1.a (playL f (plan f d).1 0 (-1) m).1.b = 0 ∧ (readS (playL f (plan f d).1 0 (-1) m).1.a (playL f (plan f d).1 0 (-1) m).1.b).data = d ∧
      ((readE f.a f.b = 0 ∧ (readS (playL f (plan f d).1 0 (-1) m).1.a (playL f (plan f d).1 0 (-1) m).1.b).seq = (readS f.a f.b).seq + 1) ∨ (readE f.a f.b = 10 ∧ (readS (playL f (plan f d).1 0 (-1) m).1.a (playL f (plan f d).1 0 (-1) m).1.b).seq = 1)) := by
  obtain ⟨n, h1, h2, hl, ⟨k, hw, hnx, hq, e⟩ | ⟨k, hw, hg, hq, e⟩ | ⟨⟨s0, s1⟩, b, hb, e⟩⟩ := plan_is h
  · obtain ⟨r1, r2⟩ := win_read hw
    have hP := playL_bank k (-1) m _ f 0 (append_bank k (next (f.bk k)) ((last (f.bk k)).1.seq + 1) d)
    rcases append_play (f.bk k) m n k (genN (f.bk k)) (last (f.bk k)).1.seq d _ _ (-1) h1 h2 hq hd (cnt_of h1 h2 (len_bk hl) hw.snd) rfl hnx with ⟨_, hn, hc, hco, _⟩ | ⟨h0, _⟩
    · obtain ⟨t1, t2⟩ := win_put (e := (bPlay (f.bk k) (appendOps k (next (f.bk k)) ((last (f.bk k)).1.seq + 1) d) 0 (-1) m).2.2) h1 h2 hw hc
      rw [e, hP]
      refine ⟨hn, t2, by rw [t1], .inl ⟨r2, by rw [t1, r1]; rfl⟩⟩
    · exact absurd h0 (by decide)
  · obtain ⟨r1, r2⟩ := win_read hw
    have hlt := hw.lt
    obtain ⟨t0, t1, t2⟩ := fresh_whole (f := f) (m := m) h1 h2 hl (show 1 - k < 2 by omega) hg hq hd (by rw [show 1 - (1 - k) = k by omega]; exact .inr (by omega))
    rw [e]
    refine ⟨t0, t2, by rw [t1], .inl ⟨r2, by rw [t1, r1]; rfl⟩⟩
  · obtain ⟨r1, r2⟩ := rdN f.a f.b s0 s1
    obtain ⟨t0, t1, t2⟩ := fresh_whole (f := f) (b := b) (g := 1) (q := 1) (m := m) h1 h2 hl hb (by decide) (by decide) hd (by
      left
      rcases (by omega : b = 0 ∨ b = 1) with rfl | rfl
      · exact s1
      · exact s0)
    rw [e]
    exact ⟨t0, t2, by rw [t1], .inr ⟨r2, by rw [t1]⟩⟩
/-- An append, cut anywhere: the state that was, or the new one. -/
theorem plan_cuts {f : Fl} {d : Nat} (cut : Int) (m : List UInt8) (hd : d < 18446744073709551616) (h : (plan f d).2 = 0) :
    (plan f d).1.length = 5 ∨ (plan f d).1.length = 6 ∨ ((plan f d).1.length = 2 ∧ readE f.a f.b = 0 ∧ (readS f.a f.b).seq + 1 < 18446744073709551616 ∧ readE (playL f (plan f d).1 0 cut m).1.a (playL f (plan f d).1 0 cut m).1.b = 0 ∧
      (readS (playL f (plan f d).1 0 cut m).1.a (playL f (plan f d).1 0 cut m).1.b = readS f.a f.b ∨
       readS (playL f (plan f d).1 0 cut m).1.a (playL f (plan f d).1 0 cut m).1.b = ⟨(readS f.a f.b).bank, (readS f.a f.b).gen, (readS f.a f.b).seq + 1, d⟩)) := by
  have hfr : ∀ b g q, (freshF f b g q d).length = 5 ∨ (freshF f b g q d).length = 6 := by intro b g q; unfold freshF; rw [fresh_len]; split <;> simp
  obtain ⟨n, h1, h2, hl, ⟨k, hw, hnx, hq, e⟩ | ⟨k, hw, hg, hq, e⟩ | ⟨⟨s0, s1⟩, b, hb, e⟩⟩ := plan_is h
  · right; right
    obtain ⟨r1, r2⟩ := win_read hw
    have hP := playL_bank k cut m _ f 0 (append_bank k (next (f.bk k)) ((last (f.bk k)).1.seq + 1) d)
    have hA := append_play (f.bk k) m n k (genN (f.bk k)) (last (f.bk k)).1.seq d _ _ cut h1 h2 hq hd (cnt_of h1 h2 (len_bk hl) hw.snd) rfl hnx
    rw [e, hP, r1]
    refine ⟨rfl, r2, hq, ?_⟩
    have new : ∀ {s' : List UInt8} {c : Nat}, Cnt s' n (genN (f.bk k)) ((last (f.bk k)).1.seq + 1) d → readE ((f.put k s').wearN k c).a ((f.put k s').wearN k c).b = 0 ∧ (readS ((f.put k s').wearN k c).a ((f.put k s').wearN k c).b = ofT (f.bk k) k ∨ readS ((f.put k s').wearN k c).a ((f.put k s').wearN k c).b = ⟨k, genN (f.bk k), (last (f.bk k)).1.seq + 1, d⟩) := fun hc => by
      obtain ⟨t1, t2⟩ := win_put h1 h2 hw hc
      exact ⟨t2, .inr t1⟩
    have old : ∀ {s' : List UInt8} {c : Nat}, Cnt s' n (genN (f.bk k)) (last (f.bk k)).1.seq (last (f.bk k)).1.data → readE ((f.put k s').wearN k c).a ((f.put k s').wearN k c).b = 0 ∧ (readS ((f.put k s').wearN k c).a ((f.put k s').wearN k c).b = ofT (f.bk k) k ∨ readS ((f.put k s').wearN k c).a ((f.put k s').wearN k c).b = ⟨k, genN (f.bk k), (last (f.bk k)).1.seq + 1, d⟩) := fun hc => by
      obtain ⟨t1, t2⟩ := win_put h1 h2 hw hc
      exact ⟨t2, .inl t1⟩
    rcases hA with ⟨_, _, hc, _⟩ | ⟨_, _, _, _, hc | hc⟩
    · exact new hc
    · exact old hc
    · exact new hc
  · rw [e]; rcases hfr (1 - k) (genN (f.bk k) + 1) ((last (f.bk k)).1.seq + 1) with h | h
    · exact .inl h
    · exact .inr (.inl h)
  · rw [e]; rcases hfr b 1 1 with h | h
    · exact .inl h
    · exact .inr (.inl h)
theorem plan_no {f : Fl} {d : Nat} (h : (plan f d).2 ≠ 0) : (plan f d).1 = [] := by
  unfold plan at h ⊢
  split; · rfl
  rename_i h1; rw [if_neg h1] at h
  split
  · rename_i h2; rw [if_pos h2] at h
    split; · rename_i h3; rw [if_pos h3] at h; exact absurd rfl h
    rename_i h3; rw [if_neg h3] at h
    split; · rename_i h4; rw [if_pos h4] at h; exact absurd rfl h
    rfl
  · rename_i h2; rw [if_neg h2] at h
    split; · rfl
    rename_i h3; rw [if_neg h3] at h
    split; · rename_i h4; rw [if_pos h4] at h; exact absurd rfl h
    rename_i h4; rw [if_neg h4] at h
    split; · rfl
    rename_i h5; rw [if_neg h5] at h
    split; · rfl
    rename_i h6; rw [if_neg h6] at h; exact absurd rfl h
def keyOp (o : Op) : Nat × Nat × Nat × Nat := (o.kind, o.bank, o.at_, o.data.length)
theorem fresh_key (f : Fl) (b g q x y : Nat) : (freshF f b g q x).map keyOp = (freshF f b g q y).map keyOp := by
  unfold freshF freshOps freshTail killOp
  split <;> simp [keyOp, body_length]
theorem append_key (b j q x y : Nat) : (appendOps b j q x).map keyOp = (appendOps b j q y).map keyOp := by
  unfold appendOps
  simp [keyOp, body_length]
theorem plan_alike (f : Fl) (x y : Nat) : (plan f x).2 = (plan f y).2 ∧ (plan f x).1.map keyOp = (plan f y).1.map keyOp := by
  unfold plan
  generalize even f.a f.b = ev
  generalize readE f.a f.b = re
  generalize readS f.a f.b = rs
  obtain ⟨rb, rg, rq, rd⟩ := rs
  dsimp only
  generalize next (f.bk rb.toNat) = nx
  generalize other rb.toNat = ob
  split; · exact ⟨rfl, rfl⟩
  split
  · split; · exact ⟨rfl, fresh_key _ _ _ _ _ _⟩
    split; · exact ⟨rfl, fresh_key _ _ _ _ _ _⟩
    exact ⟨rfl, rfl⟩
  · split; · exact ⟨rfl, rfl⟩
    split; · exact ⟨rfl, append_key _ _ _ _ _⟩
    split; · exact ⟨rfl, rfl⟩
    split; · exact ⟨rfl, rfl⟩
    exact ⟨rfl, fresh_key _ _ _ _ _ _⟩
theorem plan_len6 (f : Fl) (d : Nat) : (plan f d).1.length ≤ 6 := by
  have hf : ∀ b g q, (freshF f b g q d).length ≤ 6 := by intro b g q; unfold freshF; rw [fresh_len]; split <;> omega
  unfold plan
  generalize even f.a f.b = ev
  generalize readE f.a f.b = re
  generalize readS f.a f.b = rs
  obtain ⟨rb, rg, rq, rd⟩ := rs
  dsimp only
  generalize next (f.bk rb.toNat) = nx
  generalize other rb.toNat = ob
  split; · exact Nat.zero_le _
  split
  · split; · exact hf _ _ _
    split; · exact hf _ _ _
    exact Nat.zero_le _
  · split; · exact Nat.zero_le _
    split; · exact (by decide : 2 ≤ 6)
    split; · exact Nat.zero_le _
    split; · exact Nat.zero_le _
    exact hf _ _ _
end Dw
end Go.Proofs.YtaniehjhmjecjaaGreatDoor
