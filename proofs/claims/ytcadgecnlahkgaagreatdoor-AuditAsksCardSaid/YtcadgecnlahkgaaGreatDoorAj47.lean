/- What the statement's proof stands on, part 47: PlainTurn. -/
import Derived.Test.YtcadgecnlahkgaaGreatDoorAj33
set_option linter.unusedSimpArgs false
set_option linter.unusedVariables false
set_option maxRecDepth 100000
set_option maxHeartbeats 4000000
namespace Go.Proofs.YtcadgecnlahkgaaGreatDoor
open Go.RowKit Go.Shelf
namespace Dw
theorem xor_zero_eq {a b : Nat} (h : a ^^^ b = 0) : a = b := by
  have e : a ^^^ b ^^^ b = 0 ^^^ b := by rw [h]
  rwa [Nat.xor_assoc, Nat.xor_self, Nat.xor_zero, Nat.zero_xor] at e
theorem shr1_zero {z : Nat} (h : z < 4294967296) (h0 : shr1 z = 0) : z = 0 := by
  unfold shr1 at h0
  by_cases hz : z % 2 = 1
  · rw [if_pos hz] at h0
    have := xor_zero_eq h0
    unfold poly at this
    omega
  · rw [if_neg hz, Nat.xor_zero] at h0
    omega
theorem shiftN_zero (n : Nat) : ∀ {z : Nat}, z < 4294967296 → shiftN n z = 0 → z = 0 := by
  induction n with
  | zero => intro z _ h; exact h
  | succ n ih => intro z hz h; exact ih hz (shr1_zero (shiftN_lt n hz) h)
theorem step_inj {c c' b b' : Nat} (hc : c < 4294967296) (hc' : c' < 4294967296) (hb : b < 256) (hb' : b' < 256) (h : stepB c b = stepB c' b') : c ^^^ b = c' ^^^ b' := by
  unfold stepB at h
  have h1 : c ^^^ b < 4294967296 := Nat.xor_lt_two_pow (n := 32) hc (by omega)
  have h2 : c' ^^^ b' < 4294967296 := Nat.xor_lt_two_pow (n := 32) hc' (by omega)
  have h3 : shiftN 8 ((c ^^^ b) ^^^ (c' ^^^ b')) = 0 := by rw [shiftN_xor, h, Nat.xor_self]
  have h4 := shiftN_zero 8 (Nat.xor_lt_two_pow (n := 32) h1 h2) h3
  exact xor_zero_eq h4
theorem xor_cancel {a b c : Nat} (h : a ^^^ b = a ^^^ c) : b = c := by
  have e : a ^^^ (a ^^^ b) = a ^^^ (a ^^^ c) := by rw [h]
  rwa [← Nat.xor_assoc, ← Nat.xor_assoc, Nat.xor_self, Nat.zero_xor, Nat.zero_xor] at e
theorem xor_cancel2 {a b c : Nat} (h : b ^^^ a = c ^^^ a) : b = c := by rw [Nat.xor_comm b, Nat.xor_comm c] at h; exact xor_cancel h
theorem sumFrom_inj (v : List UInt8) : ∀ {c c' : Nat}, c < 4294967296 → c' < 4294967296 → sumFrom c v = sumFrom c' v → c = c' := by
  induction v with
  | nil => intro c c' _ _ h; exact h
  | cons b v ih =>
    intro c c' hc hc' h
    have := ih (stepB_lt hc b.toNat_lt) (stepB_lt hc' b.toNat_lt) h
    exact xor_cancel2 (step_inj hc hc' b.toNat_lt b.toNat_lt this)
theorem sum_ne (u v : List UInt8) {x y : UInt8} (h : sum (u ++ x :: v) = sum (u ++ y :: v)) : x = y := by
  unfold sum at h
  have h1 := xor_cancel2 h
  unfold sumFrom at h1
  rw [List.foldl_append, List.foldl_append, List.foldl_cons, List.foldl_cons] at h1
  have hu : sumFrom 4294967295 u < 4294967296 := sumFrom_lt u (by decide)
  have h2 := sumFrom_inj v (stepB_lt hu x.toNat_lt) (stepB_lt hu y.toNat_lt) h1
  have h3 := xor_cancel (step_inj hu hu x.toNat_lt y.toNat_lt h2)
  exact UInt8.toNat_inj.1 h3
theorem sum_set (l : List UInt8) (i : Nat) (hi : i < l.length) (y : UInt8) (h : sum (l.set i y) = sum l) : y = l[i] := by
  have e1 : l.set i y = l.take i ++ y :: l.drop (i + 1) := by rw [List.set_eq_take_append_cons_drop, if_pos hi]
  have e2 : l = l.take i ++ l[i] :: l.drop (i + 1) := by rw [List.getElem_cons_drop, List.take_append_drop]
  rw [e1] at h
  have h' : sum (l.take i ++ y :: l.drop (i + 1)) = sum (l.take i ++ l[i] :: l.drop (i + 1)) := by rw [← e2]; exact h
  exact sum_ne _ _ h'
theorem set_self {l : List UInt8} {i : Nat} (hi : i < l.length) {y : UInt8} (h : l.set i y = l) : y = l[i] := by
  have h1 : (l.set i y)[i]? = l[i]? := by rw [h]
  rw [List.getElem?_set_self hi, List.getElem?_eq_getElem hi] at h1
  exact Option.some.inj h1
theorem put4_inj {n m : Nat} (hn : n < 4294967296) (hm : m < 4294967296) (h : put 4 (rev4 n) = put 4 (rev4 m)) : n = m := by
  have h1 : get (put 4 (rev4 n)) = get (put 4 (rev4 m)) := by rw [h]
  rw [get_put, get_put, Nat.mod_eq_of_lt (rev4_lt n hn), Nat.mod_eq_of_lt (rev4_lt m hm)] at h1
  have h2 : rev4 (rev4 n) = rev4 (rev4 m) := by rw [h1]
  rwa [rev4_rev4 n hn, rev4_rev4 m hm] at h2
theorem good_sum (i : Nat) (p : List UInt8) (h : stateOf i p = 2) : (p.drop 18).take 4 = put 4 (rev4 (sum (p.take 18))) := by
  obtain ⟨hd, _⟩ := good_parts i p h
  unfold decodeE at hd
  by_cases h1 : p.length ≠ 24
  · rw [if_pos h1] at hd; cases hd
  rw [if_neg h1] at hd
  by_cases h2 : blankB p = true
  · rw [if_pos h2] at hd; cases hd
  rw [if_neg h2] at hd
  by_cases h3 : p.getD 0 0 ≠ 165
  · rw [if_pos h3] at hd; cases hd
  rw [if_neg h3] at hd
  by_cases h4 : (p.drop 18).take 4 ≠ put 4 (rev4 (sum (p.take 18)))
  · rw [if_pos h4] at hd; cases hd
  · exact Decidable.byContradiction h4
theorem bit_ne (x : UInt8) (b : Nat) (hb : b < 8) : x ^^^ UInt8.ofNat (2 ^ b) ≠ x := by
  intro h
  have h1 : x ^^^ (x ^^^ UInt8.ofNat (2 ^ b)) = x ^^^ x := by rw [h]
  rw [← UInt8.xor_assoc, UInt8.xor_self, UInt8.zero_xor] at h1
  rcases (by omega : b = 0 ∨ b = 1 ∨ b = 2 ∨ b = 3 ∨ b = 4 ∨ b = 5 ∨ b = 6 ∨ b = 7) with rfl | rfl | rfl | rfl | rfl | rfl | rfl | rfl <;> exact absurd h1 (by decide)
theorem turned_record (j k q d i b : Nat) (hi : i < 24) (hb : b < 8) : stateOf j (turnB (encode k q d) i b) ≠ 2 := by
  intro hg
  have hl := encode_length k q d
  have hil : i < (encode k q d).length := by rw [hl]; exact hi
  have hs := good_sum j _ hg
  obtain ⟨_, _, _, hm, _⟩ := good_parts j _ hg
  have hy : (encode k q d).getD i 0 ^^^ UInt8.ofNat (2 ^ b) ≠ (encode k q d)[i] := by
    rw [List.getD_eq_getElem?_getD, List.getElem?_eq_getElem hil, Option.getD_some]
    exact bit_ne _ b hb
  unfold turnB at hs hm
  generalize (encode k q d).getD i 0 ^^^ UInt8.ofNat (2 ^ b) = y at *
  have t18 := take18 k q d
  have d18 : ((encode k q d).drop 18).take 4 = put 4 (rev4 (sum ((encode k q d).take 18))) := by
    have hp := parts 165 (UInt8.ofNat k) (put 8 q) (put 8 d) (put 4 (rev4 (sum (head k q d)))) [90, 60] (put_length 8 q) (put_length 8 d) (put_length 4 _)
    rw [← encode_parts] at hp
    rw [hp.1.2.2, t18]
  have d22 : (encode k q d).drop 22 = [90, 60] := by
    unfold encode
    rw [List.drop_left' (body_length k q d)]
  by_cases h1 : i < 18
  · rw [List.drop_set, if_pos h1, d18, List.take_set] at hs
    have := put4_inj (sum_lt _) (sum_lt _) hs
    have ht : i < ((encode k q d).take 18).length := by rw [t18, head_length]; exact h1
    have e := sum_set _ i ht y this.symm
    rw [List.getElem_take] at e
    exact hy e
  · by_cases h2 : i < 22
    · rw [List.drop_set, if_neg h1, List.take_set, List.take_set_of_le (by omega), ← d18] at hs
      have hlt : i - 18 < (((encode k q d).drop 18).take 4).length := by rw [List.length_take, List.length_drop, hl]; omega
      have e := set_self hlt hs
      rw [List.getElem_take, List.getElem_drop] at e
      apply hy
      rw [e]
      congr 1
      omega
    · rw [List.drop_set, if_neg h2] at hm
      rw [← d22] at hm
      have hlt : i - 22 < ((encode k q d).drop 22).length := by rw [List.length_drop, hl]; omega
      have e := set_self hlt hm
      rw [List.getElem_drop] at e
      apply hy
      rw [e]
      congr 1
      omega
theorem turned_blank (j i b : Nat) (hi : i < 24) (hb : b < 8) : stateOf j (turnB (ffs 24) i b) ≠ 2 := by
  intro hg
  obtain ⟨_, _, _, hm, _⟩ := good_parts j _ hg
  have : ∀ (i : Fin 24) (b : Fin 8), (turnB (ffs 24) i.val b.val).drop 22 ≠ [90, 60] := by decide +kernel
  exact this ⟨i, hi⟩ ⟨b, hb⟩ hm
theorem place_turn (s : List UInt8) (i b j : Nat) : place (turnB s i b) j = if i / 24 = j then turnB (place s j) (i % 24) b else place s j := by
  apply List.ext_getElem?
  intro k
  rw [place_get]
  unfold turnB
  by_cases hk : k < 24
  · rw [if_pos hk]
    by_cases hj : i / 24 = j
    · rw [if_pos hj]
      by_cases he : i % 24 = k
      · have e : i = 24 * j + k := by omega
        subst e
        rw [he, List.getElem?_set, List.getElem?_set, if_pos rfl, if_pos rfl]
        have hg : (place s j).getD k 0 = s.getD (24 * j + k) 0 := by rw [List.getD_eq_getElem?_getD, List.getD_eq_getElem?_getD, place_get, if_pos hk]
        rw [hg]
        have hlen : k < (place s j).length ↔ 24 * j + k < s.length := by unfold place; rw [List.length_take, List.length_drop]; omega
        by_cases hl : 24 * j + k < s.length
        · rw [if_pos hl, if_pos (hlen.2 hl)]
        · rw [if_neg hl, if_neg (fun q => hl (hlen.1 q))]
      · rw [List.getElem?_set_ne (by omega), List.getElem?_set_ne (by omega), place_get, if_pos hk]
    · rw [if_neg hj, List.getElem?_set_ne (by omega), place_get, if_pos hk]
  · rw [if_neg hk]
    split
    · rw [List.getElem?_set, if_neg (by omega), place_get, if_neg hk]
    · rw [place_get, if_neg hk]
structure Bk (K : Nat → Prop) (n : Nat) (s : List UInt8) : Prop where
  len : s.length = 24 * n + 24
  p : ∀ i, i ≤ n → place s i = ffs 24 ∨ ∃ k q d, (1 ≤ k ∧ k ≤ 3) ∧ (q < 18446744073709551616 ∧ d < 18446744073709551616) ∧ (i ≠ 0 → K d) ∧ place s i = encode k q d
def BkF (K : Nat → Prop) (n : Nat) (f : Fl) : Prop := Bk K n f.a ∧ Bk K n f.b
theorem bk_mono {K L : Nat → Prop} {n : Nat} {s : List UInt8} (h : Bk K n s) (hk : ∀ d, K d → L d) : Bk L n s :=
  ⟨h.len, fun i hi => (h.p i hi).imp id fun ⟨k, q, d, a, b, c, e⟩ => ⟨k, q, d, a, b, fun hne => hk d (c hne), e⟩⟩
theorem bkF_mono {K L : Nat → Prop} {n : Nat} {f : Fl} (h : BkF K n f) (hk : ∀ d, K d → L d) : BkF L n f := ⟨bk_mono h.1 hk, bk_mono h.2 hk⟩
theorem bkF_bk {K : Nat → Prop} {n : Nat} {f : Fl} (h : BkF K n f) (b : Nat) : Bk K n (f.bk b) := by unfold Fl.bk; split; exact h.1; exact h.2
theorem bkF_put {K : Nat → Prop} {n : Nat} {f : Fl} {s : List UInt8} (h : BkF K n f) (hs : Bk K n s) (b c : Nat) : BkF K n ((f.put b s).wearN b c) := by
  unfold Fl.put Fl.wearN
  by_cases hb : b = 0
  · rw [if_pos hb, if_pos hb]; exact ⟨hs, h.2⟩
  · rw [if_neg hb, if_neg hb]; exact ⟨h.1, hs⟩
theorem bk_ffs (K : Nat → Prop) (n : Nat) : Bk K n (ffs (24 * n + 24)) := ⟨ffs_length _, fun i hi => .inl (place_ffs n i hi)⟩
theorem bk_fr {K : Nat → Prop} {n g q d : Nat} {s : List UInt8} (h : Fr s n g q d) (hg : g < 18446744073709551616) (hq : q < 18446744073709551616) (hd : d < 18446744073709551616) (hk : K d) : Bk K n s := by
  refine ⟨h.len, fun i hi => ?_⟩
  rcases (by omega : i = 0 ∨ i = 1 ∨ 2 ≤ i) with rfl | rfl | h2
  · exact .inr ⟨1, g, 0, by decide, ⟨hg, by decide⟩, fun q => absurd rfl q, h.p0⟩
  · exact .inr ⟨3, q, d, by decide, ⟨hq, hd⟩, fun _ => hk, h.p1⟩
  · exact .inl (h.pn i h2 hi)
theorem bk_play {K : Nat → Prop} {n d : Nat} {f : Fl} (m : List UInt8) (h : BkF K n f) (hp : (plan f d).2 = 0) (hd : d < 18446744073709551616) : BkF (fun x => K x ∨ x = d) n (playL f (plan f d).1 0 (-1) m).1 := by
  obtain ⟨n', h1, h2, hl, hc⟩ := plan_is hp
  have hn : n' = n := by have e1 := hl.1; have e2 := h.1.len; omega
  subst hn
  have hm : BkF (fun x => K x ∨ x = d) n' f := bkF_mono h fun _ q => .inl q
  have fr : ∀ b g q, g < 18446744073709551616 → q < 18446744073709551616 → BkF (fun x => K x ∨ x = d) n' (playL f (freshF f b g q d) 0 (-1) m).1 := fun b g q hg hq => by
    have hP := playL_bank b (-1) m (freshF f b g q d) f 0 (fresh_bank _ _ _ _ _)
    rcases fresh_play (f.bk b) m n' b g q d (decide (state (f.bk b) 0 = 2)) (-1) h1 h2 hg hq hd (len_bk hl) with ⟨_, _, hfr, _⟩ | ⟨h0, _⟩
    · rw [hP]
      exact bkF_put hm (bk_fr hfr hg hq hd (.inr rfl)) _ _
    · exact absurd h0 (by decide)
  rcases hc with ⟨k, hw, hnx, hq, e⟩ | ⟨k, hw, hg, hq, e⟩ | ⟨_, b, hb, e⟩
  · rw [e]
    have hP := playL_bank k (-1) m _ f 0 (append_bank k (next (f.bk k)) ((last (f.bk k)).1.seq + 1) d)
    rcases append_play (f.bk k) m n' k (genN (f.bk k)) (last (f.bk k)).1.seq d _ _ (-1) h1 h2 hq hd (cnt_of h1 h2 (len_bk hl) hw.snd) rfl hnx with ⟨_, _, hcn, _, hpl⟩ | ⟨h0, _⟩
    · rw [hP]
      refine bkF_put hm ⟨hcn.len, fun i hi => ?_⟩ _ _
      have hpi := hpl i hi
      by_cases hij : i = next (f.bk k)
      · rw [if_pos hij] at hpi
        exact .inr ⟨2, _, d, by decide, ⟨hq, hd⟩, fun _ => .inr rfl, hpi⟩
      · rw [if_neg hij] at hpi
        rw [hpi]
        exact (bkF_bk hm k).p i hi
    · exact absurd h0 (by decide)
  · rw [e]; exact fr _ _ _ hg hq
  · rw [e]; exact fr _ _ _ (by decide) (by decide)
theorem last_data (K : Nat → Prop) (s : List UInt8) (n : Nat) (h1 : 1 ≤ n) (h2 : n ≤ 12) (hl : s.length = 24 * n + 24) (hp : ∀ j, 1 ≤ j → j ≤ n → stateOf j (place s j) = 2 → K (decodeR (place s j)).data) :
    ∀ k, k ≤ n → (lastN s k).2 = 0 → K (lastN s k).1.data
  | 0, _, h => absurd h (by show ¬ ((10 : Int) = 0); decide)
  | k + 1, hk, h => by
    rw [lastN_succ] at h ⊢
    unfold lastStep at h ⊢
    by_cases hs : state s (k + 1) = 2 ∧ ((lastN s k).2 ≠ 0 ∨ (lastN s k).1.seq ≤ (decodeR (slot s (k + 1))).seq)
    · rw [if_pos hs, slot_place s n (k + 1) h1 h2 hl hk]
      refine hp (k + 1) (by omega) hk ?_
      rw [← state_place s n (k + 1) h1 h2 hl hk]
      exact hs.1
    · rw [if_neg hs] at h ⊢
      exact last_data K s n h1 h2 hl hp k (by omega) h
theorem bk_good {K : Nat → Prop} {n : Nat} {s : List UInt8} (h : Bk K n s) {j : Nat} (hj : 1 ≤ j) (hn : j ≤ n) (hg : stateOf j (place s j) = 2) : K (decodeR (place s j)).data := by
  rcases h.p j hn with e | ⟨k, q, d, hk, hq, hK, e⟩
  · rw [e, state_ffs] at hg; exact absurd hg (by decide)
  · rw [e, (decode_encode k q d hk.1 hk.2 hq.1 hq.2).2]
    exact hK (by omega)
theorem bk_turn {K : Nat → Prop} {n : Nat} {s : List UInt8} (h : Bk K n s) (i b : Nat) (hb : b < 8) {j : Nat} (hj : 1 ≤ j) (hn : j ≤ n) (hg : stateOf j (place (turnB s i b) j) = 2) : K (decodeR (place (turnB s i b) j)).data := by
  rw [place_turn] at hg ⊢
  by_cases hi : i / 24 = j
  · rw [if_pos hi] at hg
    rcases h.p j hn with e | ⟨k, q, d, _, _, _, e⟩
    · rw [e] at hg; exact absurd hg (turned_blank j _ b (Nat.mod_lt _ (by decide)) hb)
    · rw [e] at hg; exact absurd hg (turned_record j k q d _ b (Nat.mod_lt _ (by decide)) hb)
  · rw [if_neg hi] at hg ⊢
    exact bk_good h hj hn hg
structure Gd (K : Nat → Prop) (n : Nat) (s : List UInt8) : Prop where
  len : s.length = 24 * n + 24
  p : ∀ j, 1 ≤ j → j ≤ n → stateOf j (place s j) = 2 → K (decodeR (place s j)).data
theorem gd_bk {K : Nat → Prop} {n : Nat} {s : List UInt8} (h : Bk K n s) : Gd K n s := ⟨h.len, fun _ a b c => bk_good h a b c⟩
theorem gd_turn {K : Nat → Prop} {n : Nat} {s : List UInt8} (h : Bk K n s) (i b : Nat) (hb : b < 8) : Gd K n (turnB s i b) := ⟨by rw [turnB_length]; exact h.len, fun _ a c d => bk_turn h i b hb a c d⟩
theorem gd_read {K : Nat → Prop} {n : Nat} {f : Fl} (h1 : 1 ≤ n) (h2 : n ≤ 12) (ha : Gd K n f.a) (hb : Gd K n f.b) (hr : readE f.a f.b = 0) : K (readS f.a f.b).data := by
  rcases win_or f with ⟨s0, s1⟩ | ⟨k, hw⟩
  · rw [(rdN f.a f.b s0 s1).2] at hr; exact absurd hr (by decide)
  · rw [(win_read hw).1]
    have hg : Gd K n (f.bk k) := by unfold Fl.bk; split; exact ha; exact hb
    have hc := cnt_of h1 h2 hg.len hw.snd
    have := last_data K (f.bk k) n h1 h2 hg.len hg.p n (Nat.le_refl n)
    have hlast : last (f.bk k) = lastN (f.bk k) n := by unfold last; rw [hg.len, slots_n n h1 h2]
    rw [← hlast] at this
    exact this hc.lst.1
theorem gd_flip {K : Nat → Prop} {n : Nat} {f : Fl} (h : BkF K n f) (at_ : Int) : Gd K n (flip f at_).a ∧ Gd K n (flip f at_).b := by
  have hb : (at_ % 8).toNat < 8 := by omega
  unfold flip
  (repeat' split)
  · exact ⟨gd_bk h.1, gd_bk h.2⟩
  · exact ⟨gd_turn h.1 _ _ hb, gd_bk h.2⟩
  · exact ⟨gd_bk h.1, gd_turn h.2 _ _ hb⟩
  · exact ⟨gd_bk h.1, gd_bk h.2⟩
def AckK (a : Aud) (d : Nat) : Prop := ∃ t, t ∈ a.ack ∧ legal t = true ∧ d = pack t
def Kp (x : Su) (a : Aud) : Prop := (x.f.a = [] ∧ x.f.b = []) ∨ ∃ n, 1 ≤ n ∧ n ≤ 12 ∧ BkF (AckK a) n x.f
theorem kp_same {x y : Su} {a : Aud} (h : Kp x a) (hf : y.f = x.f) : Kp y a := by unfold Kp at *; rw [hf]; exact h
theorem writeX_f (x : Su) (t : St) (p : Pw) : (writeX x t p).f = if (plan x.f (pack t)).2 = 0 then (putG x.f (wStp t p)).1 else x.f := by
  unfold writeX
  (repeat' split) <;> rfl
theorem kp_write {x : Su} {a : Aud} (h : Kp x a) (t : St) (ht : legal t = true) {p : Pw} (hp : p.cut = -1) {y : Su} (hy : y.f = (writeX x t p).f) (hs : writeE x t p = 0 → y.s = t) {e : En} (he : e.ki = 1 ∨ e.ki = 2) {z : Su} (hz : z.f = x.f) (hyp : y.ph ≠ 3) : Kp y (audS z y e (writeE x t p) a) := by
  by_cases hpl : (plan x.f (pack t)).2 = 0
  · rcases write_whole x t hp with ⟨e1, e2⟩ | ⟨e1, _⟩
    · have hf : y.f = x.f := by rw [hy, e1]
      rw [audS_same (by rw [hf, hz]) (.inr hyp)]
      exact kp_same h hf
    · rw [e1]
      by_cases hf : z.f = y.f
      · rw [audS_same hf.symm (.inr hyp)]
        exact kp_same h (by rw [← hf, hz])
      · rw [audS_ack he hf, hs e1]
        rcases h with ⟨ha, hb⟩ | ⟨n, h1, h2, hk⟩
        · obtain ⟨e3, _⟩ := none_write ha hb t p
          rw [e3] at e1; exact absurd e1 (by decide)
        · refine .inr ⟨n, h1, h2, ?_⟩
          have hg := bk_play p.mask hk hpl (pack_lt64 t)
          rw [hy, writeX_f, if_pos hpl, putG_eq]
          show BkF _ n (playL x.f (plan x.f (pack t)).1 0 p.cut p.mask).1
          rw [hp]
          refine bkF_mono hg fun d hd => ?_
          rcases hd with ⟨u, hu, hl, hd⟩ | rfl
          · exact ⟨u, List.mem_append_left _ hu, hl, hd⟩
          · exact ⟨t, List.mem_append_right _ (List.mem_singleton.2 rfl), ht, rfl⟩
  · have hf : y.f = x.f := by rw [hy, writeX_f, if_neg hpl]
    rw [audS_same (by rw [hf, hz]) (.inr hyp)]
    exact kp_same h hf
theorem kp_step {x : Su} {a : Aud} (h : Kp x a) (hl : legal x.s = true) (hx : x.ph ≠ 3) (e : En) (h4 : e.ki ≠ 4) (hp : e.p.cut = -1) (hy : (stepX x e).ph ≠ 3) : Kp (stepX x e) (audS x (stepX x e) e (stepE x e) a) := by
  by_cases h1 : e.ki = 1
  · have e1 : stepX x e = commandX x e.c e.p := by unfold stepX; rw [if_pos h1]
    have e2 : stepE x e = commandE x e.c e.p := by unfold stepE; rw [if_pos h1]
    rw [e1] at hy
    rw [e1, e2]
    by_cases hc : refusedE x e.c = 0 ∧ deltaT x.s e.c ≠ x.s
    · have e3 : commandX x e.c e.p = writeX x (deltaT x.s e.c) e.p := by unfold commandX; rw [if_pos hc]
      have e4 : commandE x e.c e.p = writeE x (deltaT x.s e.c) e.p := by unfold commandE; rw [if_pos hc]
      have g2 : ¬ (x.ph = 2 ∨ x.ph = 3) := fun q => by have := hc.1; rw [refused_two q] at this; exact absurd this (by decide)
      have g3 : ¬ (x.ph = 0 ∧ 1 ≤ e.c.ki ∧ e.c.ki ≤ 3) := fun q => by have := hc.1; rw [refused_hold q.1 q.2] at this; exact absurd this (by decide)
      have hd : deltaE x.s e.c = 0 := by rw [← refused_else g2 g3]; exact hc.1
      rw [e3] at hy
      rw [e3, e4]
      refine kp_write h _ (delta_legal hl hd) hp rfl (fun q => ?_) (.inl h1) rfl hy
      rcases write_whole x (deltaT x.s e.c) hp with ⟨_, w⟩ | ⟨_, g, w, _⟩
      · rw [w] at q; exact absurd q (by decide)
      · rw [w]
    · have e3 : commandX x e.c e.p = x := by unfold commandX; rw [if_neg hc]
      rw [e3, audS_same rfl (.inr hx)]
      exact h
  by_cases h2 : e.ki = 2
  · have e1 : stepX x e = sampleX x e.v e.p := by unfold stepX; rw [if_neg h1, if_pos h2]
    have e2 : stepE x e = sampleE x e.v e.p := by unfold stepE; rw [if_neg h1, if_pos h2]
    rw [e1] at hy
    rw [e1, e2]
    generalize e.v = v at *
    by_cases g2 : x.ph ≠ 0 ∨ verdC (addV x.vo v) (addN x.vo x.n v) = 0
    · rw [(sample_still hx e.p g2).1]
      rw [audS_same (x := x) (y := voted x v) rfl (.inr hx)]
      exact kp_same h rfl
    have h0 : x.ph = 0 := Decidable.byContradiction fun q => g2 (.inl q)
    have hd : verdC (addV x.vo v) (addN x.vo x.n v) ≠ 0 := fun q => g2 (.inr q)
    by_cases hk : resolveS x.s (verdC (addV x.vo v) (addN x.vo x.n v)) = x.s ∧ kept x = true
    · rw [(sample_kept h0 e.p rfl hd hk.1 hk.2).1]
      rw [audS_same (x := x) (y := { voted x v with ph := 1 }) rfl (.inr (show (1 : Int) ≠ 3 by decide))]
      exact kp_same h rfl
    · obtain ⟨e3, e4⟩ := sample_writes h0 e.p rfl hd hk
      have ht := resolve_legal hl (verdC (addV x.vo v) (addN x.vo x.n v))
      generalize resolveS x.s (verdC (addV x.vo v) (addN x.vo x.n v)) = t at *
      rw [e3] at hy
      rw [e3, e4]
      refine kp_write (x := voted x v) (kp_same h rfl) t ht hp ?_ (fun q => ?_) (.inr h2) rfl hy
      · split <;> rfl
      · rw [if_pos q]
        rcases write_whole (voted x v) t hp with ⟨_, w⟩ | ⟨_, g, w, _⟩
        · rw [w] at q; exact absurd q (by decide)
        · rw [w]
  rw [audS_else h1 h2]
  by_cases h3 : e.ki = 3
  · have e1 : stepX x e = boot x.f := by unfold stepX; rw [if_neg h1, if_neg h2, if_pos h3]
    rw [e1]
    exact kp_same h rfl
  · have e1 : stepX x e = x := by unfold stepX; rw [if_neg h1, if_neg h2, if_neg h3, if_neg h4]
    rw [e1]
    exact h
theorem kp_run : ∀ (l : List En) (N : Nat) (f : Fli) (a : Aud), Fly N f.x a → Kp f.x a → N + l.length < 18446744073709551615 → (∀ e ∈ l, e.ki ≠ 4) → (∀ e ∈ l, e.p.cut = -1) → f.x.ph ≠ 3 → a.fly = false → Kp (runF f l).x (audF f a l)
  | [], _, _, _, _, hk, _, _, _, _, _ => hk
  | e :: l, N, f, a, h, hk, hN, h4, hc, hp, hf => by
    simp only [List.length_cons] at hN
    have hs := fly_step h (by omega) e (h4 e (List.mem_cons_self ..))
    have hn := hs.un (hc e (List.mem_cons_self ..)) hp hf
    have hk' := kp_step hk h.leg hp e (h4 e (List.mem_cons_self ..)) (hc e (List.mem_cons_self ..)) hn.1
    have hfl := hs.fly
    rw [← stepF_x] at hk' hfl hn
    exact kp_run l (N + 1) (stepF f e) _ hfl hk' (by omega) (fun x hx => h4 x (List.mem_cons_of_mem _ hx)) (fun x hx => hc x (List.mem_cons_of_mem _ hx)) hn.1 hn.2
theorem kp_begin (n li : Int) : Kp (boot (newF n li)) aud0 := by
  show ((newF n li).a = [] ∧ (newF n li).b = []) ∨ ∃ m, 1 ≤ m ∧ m ≤ 12 ∧ BkF _ m (newF n li)
  unfold newF
  split
  · exact .inl ⟨rfl, rfl⟩
  · split
    · exact .inr ⟨n.toNat, by omega, by omega, bk_ffs _ _, bk_ffs _ _⟩
    · exact .inl ⟨rfl, rfl⟩
theorem kp_flip {x : Su} {a : Aud} (h : Kp x a) (at_ : Int) : knownB a (bootT (flip x.f at_)) = true := by
  have k0 : knownB a st0 = true := by unfold knownB; simp
  rcases h with ⟨ha, hb⟩ | ⟨n, h1, h2, hk⟩
  · have : flip x.f at_ = x.f := by
      unfold flip
      rw [ha, hb]
      (repeat' split) <;> first | rfl | (exfalso; simp at *; omega)
    rw [this, none_boot ha hb]
    exact k0
  · obtain ⟨ga, gb⟩ := gd_flip hk at_
    unfold bootT
    by_cases hr : readE (flip x.f at_).a (flip x.f at_).b = 0
    · rw [if_pos hr]
      obtain ⟨t, ht, hl, hd⟩ := gd_read h1 h2 ga gb hr
      rw [hd, unP_pack hl]
      unfold knownB
      simp [ht]
    · rw [if_neg hr]
      exact k0
end Dw
end Go.Proofs.YtcadgecnlahkgaaGreatDoor
