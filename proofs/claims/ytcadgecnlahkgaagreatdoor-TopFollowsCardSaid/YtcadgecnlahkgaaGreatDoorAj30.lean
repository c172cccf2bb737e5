/- What the statement's proof stands on, part 30: PlainAny, ChainS, Turns, Jour2, Jour3, Run, PlainJour, PlainOne. -/
import Derived.Test.YtcadgecnlahkgaaGreatDoorAj26
import Derived.Test.YtcadgecnlahkgaaGreatDoorAj13
set_option linter.unusedSimpArgs false
set_option linter.unusedVariables false
set_option maxRecDepth 100000
set_option maxHeartbeats 4000000
namespace Go.Proofs.YtcadgecnlahkgaaGreatDoor
namespace Dw
structure Win (f : Fl) (k : Nat) : Prop where
  lt : k < 2
  snd : sound (f.bk k) = true
  top : sound (f.bk (1 - k)) = false ∨ genN (f.bk (1 - k)) < genN (f.bk k) ∨ (k = 0 ∧ genN (f.bk (1 - k)) ≤ genN (f.bk k))
theorem win_read {f : Fl} {k : Nat} (h : Win f k) : readS f.a f.b = ofT (f.bk k) k ∧ readE f.a f.b = 0 := by
  obtain ⟨lt, snd, top⟩ := h
  rcases (by omega : k = 0 ∨ k = 1) with rfl | rfl
  · change sound f.a = true at snd
    change sound f.b = false ∨ genN f.b < genN f.a ∨ (0 = 0 ∧ genN f.b ≤ genN f.a) at top
    exact rd0 f.a f.b snd (by rcases top with h | h | h; exact .inl h; exact .inr (by omega); exact .inr h.2)
  · change sound f.b = true at snd
    change sound f.a = false ∨ genN f.a < genN f.b ∨ (1 = 0 ∧ genN f.a ≤ genN f.b) at top
    exact rd1 f.a f.b snd (by rcases top with h | h | h; exact .inl h; exact .inr h; exact absurd h.1 (by decide))
theorem win_or (f : Fl) : (sound f.a = false ∧ sound f.b = false) ∨ ∃ k, Win f k := by
  cases ha : sound f.a with
  | true =>
    right
    by_cases h : sound f.b = false ∨ genN f.b ≤ genN f.a
    · exact ⟨0, by decide, ha, h.elim .inl fun h => .inr (.inr ⟨rfl, h⟩)⟩
    · refine ⟨1, by decide, ?_, .inr (.inl ?_)⟩
      · show sound f.b = true
        cases hb : sound f.b with
        | true => rfl
        | false => exact absurd (.inl hb) h
      · show genN f.a < genN f.b
        have := fun h' => h (.inr h')
        omega
  | false =>
    cases hb : sound f.b with
    | false => exact .inl ⟨rfl, rfl⟩
    | true => exact .inr ⟨1, by decide, hb, .inl ha⟩
theorem cnt_of {s : List UInt8} {n : Nat} (h1 : 1 ≤ n) (h2 : n ≤ 12) (hl : s.length = 24 * n + 24) (hs : sound s = true) : Cnt s n (genN s) (last s).1.seq (last s).1.data := by
  unfold sound at hs
  obtain ⟨hg, hl0⟩ := of_decide_eq_true hs
  have h0 : state s 0 = 2 := by
    unfold genE at hg
    by_cases h : state s 0 = 2
    · exact h
    · rw [if_neg h] at hg; cases hg
  have hp := state_place s n 0 h1 h2 hl (by omega)
  refine ⟨hl, by rw [← hp, h0], ?_, hl0, rfl, rfl⟩
  unfold genN
  rw [if_pos h0, slot_place s n 0 h1 h2 hl (by omega)]
theorem plan_is {f : Fl} {d : Nat} (h : (plan f d).2 = 0) : ∃ n, 1 ≤ n ∧ n ≤ 12 ∧ Len f (24 * n + 24) ∧
    ((∃ k, Win f k ∧ 0 < next (f.bk k) ∧ (last (f.bk k)).1.seq + 1 < 18446744073709551616 ∧ (plan f d).1 = appendOps k (next (f.bk k)) ((last (f.bk k)).1.seq + 1) d) ∨
     (∃ k, Win f k ∧ genN (f.bk k) + 1 < 18446744073709551616 ∧ (last (f.bk k)).1.seq + 1 < 18446744073709551616 ∧ (plan f d).1 = freshF f (1 - k) (genN (f.bk k) + 1) ((last (f.bk k)).1.seq + 1) d) ∨
     ((sound f.a = false ∧ sound f.b = false) ∧ ∃ b, b < 2 ∧ (plan f d).1 = freshF f b 1 1 d)) := by
  unfold plan at h ⊢
  cases hev : even f.a f.b with
  | false => rw [hev] at h; simp at h
  | true =>
    obtain ⟨n, hn1, hn2, hla, hlb⟩ := even_len hev
    refine ⟨n, hn1, hn2, ⟨hla, hlb⟩, ?_⟩
    rw [hev, if_neg (by decide)] at h
    rw [if_neg (by decide)]
    rcases win_or f with ⟨s0, s1⟩ | ⟨k, hw⟩
    · obtain ⟨_, r2⟩ := rdN f.a f.b s0 s1
      right; right
      refine ⟨⟨s0, s1⟩, ?_⟩
      rw [if_pos (by rw [r2]; decide)] at h ⊢
      cases w0 : wornB f 0 with
      | false => rw [if_pos rfl]; exact ⟨0, by decide, rfl⟩
      | true =>
        rw [w0, if_neg (by decide)] at h
        rw [if_neg (by decide)]
        cases w1 : wornB f 1 with
        | false => rw [if_pos rfl]; exact ⟨1, by decide, rfl⟩
        | true => rw [w1, if_neg (by decide)] at h; simp at h
    · obtain ⟨r1, r2⟩ := win_read hw
      obtain ⟨l1, l2, _⟩ := ofT_lt (f.bk k) k
      rw [if_neg (by rw [r2]; decide), r1] at h ⊢
      change genN (f.bk k) < _ at l1
      change (last (f.bk k)).1.seq < _ at l2
      unfold ofT at h ⊢
      dsimp only at h ⊢
      rw [Int.toNat_natCast] at h ⊢
      by_cases e1 : (last (f.bk k)).1.seq = 18446744073709551615
      · rw [if_pos e1] at h; simp at h
      · rw [if_neg e1] at h ⊢
        by_cases e2 : 0 < next (f.bk k)
        · rw [if_pos e2]
          exact .inl ⟨k, hw, e2, by omega, rfl⟩
        · rw [if_neg e2] at h ⊢
          by_cases e3 : genN (f.bk k) = 18446744073709551615
          · rw [if_pos e3] at h; simp at h
          · rw [if_neg e3] at h ⊢
            have ho : other k = 1 - k := by unfold other; have := hw.lt; split <;> omega
            rw [ho] at h ⊢
            cases hwo : wornB f (1 - k) with
            | true => rw [hwo, if_pos rfl] at h; simp at h
            | false =>
              rw [if_neg (by decide)]
              exact .inr (.inl ⟨k, hw, by omega, by omega, rfl⟩)
theorem win_put {f : Fl} {k n q d e : Nat} {s : List UInt8} (h1 : 1 ≤ n) (h2 : n ≤ 12) (h : Win f k) (hc : Cnt s n (genN (f.bk k)) q d) :
    readS ((f.put k s).wearN k e).a ((f.put k s).wearN k e).b = ⟨k, genN (f.bk k), q, d⟩ ∧ readE ((f.put k s).wearN k e).a ((f.put k s).wearN k e).b = 0 := by
  obtain ⟨c1, c2⟩ := cnt_gen h1 h2 hc
  have hw : Win ((f.put k s).wearN k e) k := by
    refine ⟨h.lt, by rw [fl_put_bk]; exact c1, ?_⟩
    rw [fl_put_bk, fl_other _ _ _ _ h.lt, c2]
    exact h.top
  obtain ⟨r1, r2⟩ := win_read hw
  refine ⟨?_, r2⟩
  rw [r1, fl_put_bk]
  unfold ofT
  rw [c2, hc.lst.2.1, hc.lst.2.2]
theorem win_new {f : Fl} {b n g q d e : Nat} {s : List UInt8} (h1 : 1 ≤ n) (h2 : n ≤ 12) (hb : b < 2) (hc : Cnt s n g q d) (ho : sound (f.bk (1 - b)) = false ∨ genN (f.bk (1 - b)) < g) :
    readS ((f.put b s).wearN b e).a ((f.put b s).wearN b e).b = ⟨b, g, q, d⟩ ∧ readE ((f.put b s).wearN b e).a ((f.put b s).wearN b e).b = 0 := by
  obtain ⟨c1, c2⟩ := cnt_gen h1 h2 hc
  have hw : Win ((f.put b s).wearN b e) b := by
    refine ⟨hb, by rw [fl_put_bk]; exact c1, ?_⟩
    rw [fl_put_bk, fl_other _ _ _ _ hb, c2]
    exact ho.elim .inl fun h => .inr (.inl h)
  obtain ⟨r1, r2⟩ := win_read hw
  refine ⟨?_, r2⟩
  rw [r1, fl_put_bk]
  unfold ofT
  rw [c2, hc.lst.2.1, hc.lst.2.2]
theorem fresh_whole {f : Fl} {n b g q d : Nat} {m : List UInt8} (h1 : 1 ≤ n) (h2 : n ≤ 12) (hl : Len f (24 * n + 24)) (hb : b < 2) (hg : g < 18446744073709551616) (hq : q < 18446744073709551616) (hd : d < 18446744073709551616)
    (ho : sound (f.bk (1 - b)) = false ∨ genN (f.bk (1 - b)) < g) :
    (playL f (freshF f b g q d) 0 (-1) m).2 = (freshF f b g q d).length ∧ readS (playL f (freshF f b g q d) 0 (-1) m).1.a (playL f (freshF f b g q d) 0 (-1) m).1.b = ⟨b, g, q, d⟩ ∧
      readE (playL f (freshF f b g q d) 0 (-1) m).1.a (playL f (freshF f b g q d) 0 (-1) m).1.b = 0 := by
  have hP := playL_bank b (-1) m (freshF f b g q d) f 0 (fresh_bank _ _ _ _ _)
  rcases fresh_play (f.bk b) m n b g q d (decide (state (f.bk b) 0 = 2)) (-1) h1 h2 hg hq hd (len_bk hl) with ⟨_, hn, hfr, _⟩ | ⟨h0, _⟩
  · rw [hP]
    obtain ⟨r1, r2⟩ := win_new (f := f) (e := (bPlay (f.bk b) (freshF f b g q d) 0 (-1) m).2.2) h1 h2 hb (fr_cnt h1 h2 hg hq hd hfr) ho
    exact ⟨hn, r1, r2⟩
  · exact absurd h0 (by decide)
theorem plan_done {f : Fl} {d : Nat} (m : List UInt8) (hd : d < 18446744073709551616) (h : (plan f d).2 = 0) :
    (playL f (plan f d).1 0 (-1) m).2 = (plan f d).1.length ∧ readE (playL f (plan f d).1 0 (-1) m).1.a (playL f (plan f d).1 0 (-1) m).1.b = 0 ∧ (readS (playL f (plan f d).1 0 (-1) m).1.a (playL f (plan f d).1 0 (-1) m).1.b).data = d ∧
      ((readE f.a f.b = 0 ∧ (readS (playL f (plan f d).1 0 (-1) m).1.a (playL f (plan f d).1 0 (-1) m).1.b).seq = (readS f.a f.b).seq + 1) ∨ (readE f.a f.b = 10 ∧ (readS (playL f (plan f d).1 0 (-1) m).1.a (playL f (plan f d).1 0 (-1) m).1.b).seq = 1)) := by
  obtain ⟨n, h1, h2, hl, ⟨k, hw, hnx, hq, e⟩ | ⟨k, hw, hg, hq, e⟩ | ⟨⟨s0, s1⟩, b, hb, e⟩⟩ := plan_is h
  · obtain ⟨r1, r2⟩ := win_read hw
    have hP := playL_bank k (-1) m _ f 0 (append_bank k (next (f.bk k)) ((last (f.bk k)).1.seq + 1) d)
    rcases append_play (f.bk k) m n k (genN (f.bk k)) (last (f.bk k)).1.seq d _ _ (-1) h1 h2 hq hd (cnt_of h1 h2 (len_bk hl) hw.snd) rfl hnx with ⟨_, hn, hc, hco, _⟩ | ⟨h0, _⟩
    · obtain ⟨t1, t2⟩ := win_put (e := (bPlay (f.bk k) (appendOps k (next (f.bk k)) ((last (f.bk k)).1.seq + 1) d) 0 (-1) m).2.2) h1 h2 hw hc
      rw [e, hP]
      refine ⟨hn, t2, by rw [t1], .inl ⟨r2, by rw [t1, r1]; rfl⟩⟩
    · exact absurd h0 (by decide)
  · obtain ⟨r1, r2⟩ := win_read hw
    have hlt := hw.lt
    obtain ⟨t0, t1, t2⟩ := fresh_whole (f := f) (m := m) h1 h2 hl (show 1 - k < 2 by omega) hg hq hd (by rw [show 1 - (1 - k) = k by omega]; exact .inr (by omega))
    rw [e]
    refine ⟨t0, t2, by rw [t1], .inl ⟨r2, by rw [t1, r1]; rfl⟩⟩
  · obtain ⟨r1, r2⟩ := rdN f.a f.b s0 s1
    obtain ⟨t0, t1, t2⟩ := fresh_whole (f := f) (b := b) (g := 1) (q := 1) (m := m) h1 h2 hl hb (by decide) (by decide) hd (by
      left
      rcases (by omega : b = 0 ∨ b = 1) with rfl | rfl
      · exact s1
      · exact s0)
    rw [e]
    exact ⟨t0, t2, by rw [t1], .inr ⟨r2, by rw [t1]⟩⟩
end Dw
end Go.Proofs.YtcadgecnlahkgaaGreatDoor
namespace Go.Proofs.YtcadgecnlahkgaaGreatDoor.RC
open Go.RowKit
section
variable {P : Program} {ops : Array Oper} {Q : Exit → Act → World → Prop} {St : Nat → World → Prop} {cs : List Nat} {late : Nat → Bool}
def YlTo (P : Program) (r : Result Next) (v : Value) (F : World → Prop) : Prop :=
  (∃ w'', r = .ok (.value v) w'' ∧ F w'') ∨ (∃ f args w1, r = .ok (.enter f args) w1 ∧ Calls P f args w1 fun e w'' => e = .returned v ∧ F w'') ∨ (v = undef ∧ ∃ w'', r = .ok .skip w'' ∧ F w'')
theorem YlTo.wp {o : Oper} {a : Act} {v : Value} {F : World → Prop} {w' : World} (h : YlTo P ((execOp a.eval o).run P w') v F) {K : Act → World → Prop} (hK : ∀ w'', F w'' → K (a.put o.dst v) w'') : o.wp P a w' K Q := by
  unfold Oper.wp
  rcases h with ⟨w'', hr, hk⟩ | ⟨f, args, w1, hr, hc⟩ | ⟨rfl, w'', hr, hk⟩
  · rw [hr]; exact hK _ hk
  · rw [hr]
    refine Calls.mono hc ?_
    rintro e w'' ⟨rfl, hk⟩
    exact hK _ hk
  · rw [hr]; exact hK _ hk
def Gets2 (P : Program) (ops : Array Oper) (St : Nat → World → Prop) (lt : Bool) (n : Nat) (o : Oper) (a : Act) (v : Value) : Prop :=
  (Region.wanted o (yielded ops a.tmps) = true ∧ ∀ m w', (lt = true ∨ m = n) → St m w' → Yl P w' ((execOp a.eval o).run P w') v) ∨ (Region.wanted o (yielded ops a.tmps) = false ∧ v = undef)
def Link (P : Program) (ops : Array Oper) (St : Nat → World → Prop) (n : Nat) (o : Oper) (a : Act) (v : Value) : Prop :=
  Region.wanted o (yielded ops a.tmps) = true ∧ ∀ w', St n w' → YlTo P ((execOp a.eval o).run P w') v (St (n + 1))
def ChainList (P : Program) (ops : Array Oper) (St : Nat → World → Prop) (cs : List Nat) (late : Nat → Bool) (N : Nat → Act → Prop) : List Nat → Nat → Act → Prop
  | [], n, a => N n a
  | k :: ks, n, a => ∃ o v, ops[k]? = some o ∧ ((cs.contains k = true ∧ Link P ops St n o a v ∧ ChainList P ops St cs late N ks (n + 1) (a.put o.dst v)) ∨ (cs.contains k = false ∧ Gets2 P ops St (late k) n o a v ∧ ChainList P ops St cs late N ks n (a.put o.dst v)))
theorem ChainList.mono {N N' : Nat → Act → Prop} (h : ∀ n a, N n a → N' n a) : ∀ {ks : List Nat} {n : Nat} {a : Act}, ChainList P ops St cs late N ks n a → ChainList P ops St cs late N' ks n a
  | [], _, a, hh => h _ a hh
  | _ :: _, _, _, ⟨o, v, ho, hr⟩ => ⟨o, v, ho, hr.imp (fun ⟨c, g, r⟩ => ⟨c, g, ChainList.mono h r⟩) (fun ⟨c, g, r⟩ => ⟨c, g, ChainList.mono h r⟩)⟩
theorem Gets2.put {lt : Bool} {n : Nat} {o : Oper} {a : Act} {v : Value} (hs : ∀ cs b, o.op ≠ .select cs b) {d : Option Tmp} (u : Value) (hd : ∀ t, d = some t → t ∉ o.looksAt ops) : Gets2 P ops St lt n o (a.put d u) v ↔ Gets2 P ops St lt n o a v := by
  unfold Gets2
  rw [wanted_put o a d u hd, execOp_put o hs a d u hd]
theorem Link.put {n : Nat} {o : Oper} {a : Act} {v : Value} (hs : ∀ cs b, o.op ≠ .select cs b) {d : Option Tmp} (u : Value) (hd : ∀ t, d = some t → t ∉ o.looksAt ops) : Link P ops St n o (a.put d u) v ↔ Link P ops St n o a v := by
  unfold Link
  rw [wanted_put o a d u hd, execOp_put o hs a d u hd]
theorem Gets2.any {lt : Bool} (hl : lt = true) {n n' : Nat} {o : Oper} {a : Act} {v : Value} (h : Gets2 P ops St lt n o a v) : Gets2 P ops St lt n' o a v :=
  h.imp (fun ⟨hw, h⟩ => ⟨hw, fun m w' _ hs => h m w' (.inl hl) hs⟩) id
def meet (cs : List Nat) (late : Nat → Bool) (i k : Nat) : Bool := (cs.contains i && cs.contains k) || ((cs.contains i && !late k) || (cs.contains k && !late i))
theorem ChainList.swap {N : Nat → Act → Prop} (hsel : Region.noSelect ops = true) {i k : Nat} {l : List Nat} {n : Nat} {a : Act} (hap : apartAt ops i k = true) (hnc : meet cs late i k = false)
    (h : ChainList P ops St cs late N (k :: i :: l) n a) : ChainList P ops St cs late N (i :: k :: l) n a := by
  obtain ⟨ok, vk, hok, hk⟩ := h
  unfold meet at hnc
  rcases hk with ⟨ck, gk, hr⟩ | ⟨ck, gk, hr⟩ <;> obtain ⟨oi, vi, hoi, hi⟩ := hr <;> obtain ⟨h1, h2, h3⟩ := Oper.apart_spec (apartAt_spec hoi hok hap) <;>
    have hsi := (fun c b => Region.noSelect_spec hsel i oi c b hoi) <;> have hsk := (fun c b => Region.noSelect_spec hsel k ok c b hok)
  · rcases hi with ⟨ci, gi, hr⟩ | ⟨ci, gi, hr⟩
    · rw [ci, ck] at hnc; cases hnc
    · have hl : late i = true := by rw [ci, ck] at hnc; simpa using hnc
      exact ⟨oi, vi, hoi, .inr ⟨ci, Gets2.any hl ((Gets2.put hsi vk h3).1 gi), ok, vk, hok, .inl ⟨ck, (Link.put hsk vi h1).2 gk, by rw [Act.put_comm a vi vk h2]; exact hr⟩⟩⟩
  · rcases hi with ⟨ci, gi, hr⟩ | ⟨ci, gi, hr⟩
    · have hl : late k = true := by rw [ci, ck] at hnc; simpa using hnc
      exact ⟨oi, vi, hoi, .inl ⟨ci, (Link.put hsi vk h3).1 gi, ok, vk, hok, .inr ⟨ck, Gets2.any hl ((Gets2.put hsk vi h1).2 gk), by rw [Act.put_comm a vi vk h2]; exact hr⟩⟩⟩
    · exact ⟨oi, vi, hoi, .inr ⟨ci, (Gets2.put hsi vk h3).1 gi, ok, vk, hok, .inr ⟨ck, (Gets2.put hsk vi h1).2 gk, by rw [Act.put_comm a vi vk h2]; exact hr⟩⟩⟩
theorem ChainList.first {N : Nat → Act → Prop} (hsel : Region.noSelect ops = true) {i : Nat} {l2 : List Nat} : ∀ {l1 : List Nat} {n : Nat} {a : Act}, (∀ k ∈ l1, apartAt ops i k = true ∧ meet cs late i k = false) →
    ChainList P ops St cs late N (l1 ++ i :: l2) n a → ChainList P ops St cs late N (i :: (l1 ++ l2)) n a
  | [], _, _, _, h => h
  | k :: l1, _, _, hap, ⟨o, v, ho, hr⟩ => ChainList.swap hsel (hap k (by simp)).1 (hap k (by simp)).2 ⟨o, v, ho, hr.imp (fun ⟨c, g, r⟩ => ⟨c, g, ChainList.first hsel (fun j hj => hap j (by simp [hj])) r⟩) (fun ⟨c, g, r⟩ => ⟨c, g, ChainList.first hsel (fun j hj => hap j (by simp [hj])) r⟩)⟩
def linksOk (T : Array Nat) (cs : List Nat) (late : Nat → Bool) : List Nat → Bool
  | [] => true
  | k :: ks => (ks.all fun i => !(meet cs late i k) || behind T i k) && linksOk T cs late ks
theorem linksOk_spec {T : Array Nat} {i : Nat} {l2 : List Nat} : ∀ {l1 : List Nat}, linksOk T cs late (l1 ++ i :: l2) = true → ∀ k ∈ l1, meet cs late i k = false ∨ behind T i k = true
  | [], _, k, hk => by cases hk
  | k' :: l1, h, k, hk => by
    simp only [List.cons_append, linksOk, Bool.and_eq_true, List.all_eq_true] at h
    rcases List.mem_cons.1 hk with rfl | hk
    · have := h.1 i (by simp)
      simp only [Bool.or_eq_true, Bool.not_eq_true'] at this
      exact this
    · exact linksOk_spec h.2 k hk
theorem linksOk_erase {T : Array Nat} {i : Nat} : ∀ {ks : List Nat}, linksOk T cs late ks = true → linksOk T cs late (ks.erase i) = true
  | [], _ => rfl
  | k :: ks, h => by
    simp only [linksOk, Bool.and_eq_true, List.all_eq_true] at h
    by_cases e : k = i
    · subst e; simpa using h.2
    · rw [List.erase_cons_tail (by simpa using e)]
      simp only [linksOk, Bool.and_eq_true, List.all_eq_true]
      exact ⟨fun j hj => h.1 j (List.mem_of_mem_erase hj), linksOk_erase h.2⟩
theorem chain_sound {R : Exit → Act → World → Prop} {T : Array Nat} {ks ts : List Nat} (ok : RegionOk ops T ks [] ts) (hSt : ∀ n A B, St n A → Keep A B → St n B) (fuel : Nat) :
    ∀ (m : Nat) (rest : List Nat) (listed : Array Bool) (n : Nat) (a : Act) (w1 : World), rest.length = m → St n w1 → Todo ops T (ks ++ []) rest listed → pairsOk ops T rest = true → linksOk T cs late rest = true →
      ChainList P ops St cs late (fun n' a' => ∀ w', St n' w' → wpAny P .any ops R fuel (allListed ops (ks ++ [])) a' w') rest n a → wpAny P .any ops R (m + fuel) listed a w1 := by
  intro m
  induction m with
  | zero =>
    intro rest listed n a w1 hm hk ht _ _ h
    have : rest = [] := List.eq_nil_of_length_eq_zero hm
    subst this
    rw [ht.done, Nat.zero_add]
    exact h w1 hk
  | succ m ih =>
    intro rest listed n a w1 hm hk ht hp hl h
    have hne : rest ≠ [] := by intro e; subst e; simp at hm
    obtain ⟨hr, hall⟩ := ht.ready ok hne
    rw [show m + 1 + fuel = (m + fuel) + 1 from by omega]
    refine ⟨fun e => absurd e hr, fun i hi => ?_⟩
    have hir := hall i hi
    obtain ⟨l1, l2, rfl⟩ := List.append_of_mem hir
    have hnx := ht.next hi hir
    rw [erase_mid ht.nodup] at hnx
    have hp' : pairsOk ops T (l1 ++ l2) = true := by have := pairsOk_erase (i := i) hp; rwa [erase_mid ht.nodup] at this
    have hl' : linksOk T cs late (l1 ++ l2) = true := by have := linksOk_erase (i := i) hl; rwa [erase_mid ht.nodup] at this
    obtain ⟨h0, hlt, hdeps⟩ := mem_ready'.1 hi
    have nb : ∀ k ∈ l1, ¬ behind T i k = true := fun k hk' hb => by
      have := behind_listed ok.table ok.lt ht.closed i k hlt hdeps hb
      have hkl := (ok.inside k (ht.sub k (by simp [hk']))).1
      rw [getD_any (by rw [ht.size]; exact hkl) false true, ht.iff k hkl] at this
      simp [hk'] at this
    have hap : ∀ k ∈ l1, apartAt ops i k = true ∧ meet cs late i k = false := fun k hk' => ⟨(pairsOk_spec hp k hk').resolve_right (nb k hk'), (linksOk_spec hl k hk').resolve_right (nb k hk')⟩
    obtain ⟨o, v, ho, hg⟩ := ChainList.first ok.sel hap h
    have hlen : (l1 ++ l2).length = m := by simp at hm ⊢; omega
    unfold wpOp
    simp only [ho]
    rcases hg with ⟨_, ⟨hw, hs⟩, hrest⟩ | ⟨_, ⟨hw, hs⟩ | ⟨hw, rfl⟩, hrest⟩
    · rw [if_pos hw]
      exact .inl ((hs w1 hk).wp fun w'' hk'' => ih _ _ _ _ _ hlen hk'' hnx hp' hl' hrest)
    · rw [if_pos hw]
      exact .inl ((hs n w1 (.inr rfl) hk).wp fun w'' hk'' => ih _ _ _ _ _ hlen (hSt _ _ _ hk hk'') hnx hp' hl' hrest)
    · rw [if_neg (by simp [hw])]
      exact ih _ _ _ _ _ hlen hk hnx hp' hl' hrest
theorem wp_chain {R : Exit → Act → World → Prop} {id : Nat} {a : Act} {w : World} (ks cs : List Nat) (late : Nat → Bool) (k : Nat) (St : Nat → World → Prop) (hm : P.follows .mixedOrders = true) (hok : regionOk ops (Region.before ops) ks [] (List.range' k (ops.size - k)) = true) (hlk : linksOk (Region.before ops) cs late ks = true) (hsz : ops.size = ks.length + (ops.size - k))
    (hSt : ∀ n A B, St n A → Keep A B → St n B) (h0 : St 0 w)
    (h : ChainList P ops St cs late (fun n' a' => ∀ w', St n' w' → wpList P ops R (ops.toList.drop k) a' w') ks 0 a) : (Code.region id ops true).wp P R a w := by
  have ok := regionOk_spec hok
  refine wp_region_any hm ?_
  have st := Todo.start ok
  have e := chain_sound (P := P) (cs := cs) (late := late) (R := R) ok hSt (List.range' k (ops.size - k)).length ks.length ks (Array.replicate ops.size false) 0 a w.drew rfl (hSt _ _ _ h0 (KeepBut.refl _ w).drew) (by simpa using st) ok.pairs hlk ?_
  · rw [List.length_range', ← hsz] at e
    exact e
  refine ChainList.mono (fun n a' hN w' hk => ?_) h
  have := ok.tail
  exact tail_sound this ⟨_, range_drop k, hN w' hk⟩
end
section
variable {P : Program} {l : List Oper} {St : Nat → World → Prop} {cs : List Nat} {late : Nat → Bool} {N : Nat → Act → Prop} {n k : Nat} {ks : List Nat} {a : Act} {o : Oper} {v : Value}
theorem cl_value (hl : late k = false) (ho : l[k]? = some o) (hc : cs.contains k = false) (hw : Region.wanted o (yielded l.toArray a.tmps) = true)
    (hv : ∀ w', St n w' → (execOp a.eval o).run P w' = .ok (.value v) w') (h : ChainList P l.toArray St cs late N ks n (a.put o.dst v)) : ChainList P l.toArray St cs late N (k :: ks) n a :=
  ⟨o, v, by simpa using ho, .inr ⟨hc, .inl ⟨hw, fun m w' hm hk => .inl ⟨w', hv w' (by rcases hm with h | rfl; rw [hl] at h; cases h; exact hk), KeepBut.refl _ _⟩⟩, h⟩⟩
theorem cl_late (ho : l[k]? = some o) (hc : cs.contains k = false) (hw : Region.wanted o (yielded l.toArray a.tmps) = true)
    (hv : ∀ m w', St m w' → (execOp a.eval o).run P w' = .ok (.value v) w') (h : ChainList P l.toArray St cs late N ks n (a.put o.dst v)) : ChainList P l.toArray St cs late N (k :: ks) n a :=
  ⟨o, v, by simpa using ho, .inr ⟨hc, .inl ⟨hw, fun m w' _ hk => .inl ⟨w', hv m w' hk, KeepBut.refl _ _⟩⟩, h⟩⟩
theorem cl_skip (ho : l[k]? = some o) (hc : cs.contains k = false) (hw : Region.wanted o (yielded l.toArray a.tmps) = false)
    (h : ChainList P l.toArray St cs late N ks n (a.put o.dst undef)) : ChainList P l.toArray St cs late N (k :: ks) n a :=
  ⟨o, undef, by simpa using ho, .inr ⟨hc, .inr ⟨hw, rfl⟩, h⟩⟩
theorem cl_link {f : FuncId} {args : Array Value} (ho : l[k]? = some o) (hc : cs.contains k = true) (hw : Region.wanted o (yielded l.toArray a.tmps) = true)
    (hv : ∀ w', St n w' → (execOp a.eval o).run P w' = .ok (.enter f args) w') (hcl : ∀ w', St n w' → Calls P f args w' fun e w'' => e = .returned v ∧ St (n + 1) w'') (h : ChainList P l.toArray St cs late N ks (n + 1) (a.put o.dst v)) : ChainList P l.toArray St cs late N (k :: ks) n a :=
  ⟨o, v, by simpa using ho, .inl ⟨hc, ⟨hw, fun w' hk => .inr (.inl ⟨f, args, w', hv w' hk, hcl w' hk⟩)⟩, h⟩⟩
theorem cl_store (ho : l[k]? = some o) (hc : cs.contains k = true) (hw : Region.wanted o (yielded l.toArray a.tmps) = true)
    (hv : ∀ w', St n w' → ∃ w'', (execOp a.eval o).run P w' = .ok .skip w'' ∧ St (n + 1) w'') (h : ChainList P l.toArray St cs late N ks (n + 1) (a.put o.dst undef)) : ChainList P l.toArray St cs late N (k :: ks) n a :=
  ⟨o, undef, by simpa using ho, .inl ⟨hc, ⟨hw, fun w' hk => .inr (.inr ⟨rfl, hv w' hk⟩)⟩, h⟩⟩
theorem cl_nil {P : Program} {ops : Array Oper} (h : N n a) : ChainList P ops St cs late N [] n a := h
end
end Go.Proofs.YtcadgecnlahkgaaGreatDoor.RC
namespace Go.Proofs.YtcadgecnlahkgaaGreatDoor
open Go.RowKit Go.Shelf
attribute [local go_sem] Oper.semAt_some
namespace Dw
end Dw
def At1 (w : World) (b : Nat) (c : Array Value) (t : TypeId) (w' : World) : Prop := KeepBut (fun k => k = b) w w' ∧ w'.heap[b]? = some (.cells c t (0, 0))
theorem At1.keep {w : World} {b : Nat} {c : Array Value} {t : TypeId} {A B : World} (h : At1 w b c t A) (hk : Keep A B) : At1 w b c t B :=
  ⟨h.1.trans (hk.mono fun _ _ h => h.elim), (hk.block b (block_lt h.2) id).trans h.2⟩
theorem At1.set {w A : World} {b i : Nat} {c : Array Value} {t : TypeId} (h : At1 w b c t A) (v : Value) : At1 w b (c.setIfInBounds i v) t (A.setCell ⟨b, i, none⟩ v) :=
  ⟨h.1.setCell (p := ⟨b, i, none⟩) rfl v, heap_setCell_same A b i c t v h.2⟩
def stF (w : World) (N : Nat) (t : TypeId) (c0 c1 c2 c3 c4 : Array Value) : Nat → World → Prop
  | 0 => At1 w N c0 t
  | 1 => At1 w N c1 t
  | 2 => At1 w N c2 t
  | 3 => At1 w N c3 t
  | _ => At1 w N c4 t
theorem stF_keep {w : World} {N : Nat} {t : TypeId} {c0 c1 c2 c3 c4 : Array Value} : ∀ n A B, stF w N t c0 c1 c2 c3 c4 n A → Keep A B → stF w N t c0 c1 c2 c3 c4 n B
  | 0, _, _, h, k => At1.keep h k
  | 1, _, _, h, k => At1.keep h k
  | 2, _, _, h, k => At1.keep h k
  | 3, _, _, h, k => At1.keep h k
  | _ + 4, _, _, h, k => At1.keep h k
theorem stF_kb {w : World} {N : Nat} {t : TypeId} {c0 c1 c2 c3 c4 : Array Value} : ∀ n A, stF w N t c0 c1 c2 c3 c4 n A → KeepBut (fun k => k = N) w A
  | 0, _, h => h.1
  | 1, _, h => h.1
  | 2, _, h => h.1
  | 3, _, h => h.1
  | _ + 4, _, h => h.1
end Go.Proofs.YtcadgecnlahkgaaGreatDoor
namespace Go.Proofs.YtcadgecnlahkgaaGreatDoor
open Go.RowKit Go.Shelf
attribute [local go_sem] Oper.semAt_some
namespace Dw
def seenEq (a b a' b' : List UInt8) : Bool := decide ((readS a b).bank = (readS a' b').bank ∧ (readS a b).gen = (readS a' b').gen ∧ (readS a b).seq = (readS a' b').seq ∧ (readS a b).data = (readS a' b').data ∧ readE a b = readE a' b')
end Dw
end Go.Proofs.YtcadgecnlahkgaaGreatDoor
namespace Go.Proofs.YtcadgecnlahkgaaGreatDoor
open Go.RowKit Go.Shelf
attribute [local go_sem] Oper.semAt_some
end Go.Proofs.YtcadgecnlahkgaaGreatDoor
namespace Go.Proofs.YtcadgecnlahkgaaGreatDoor
open Go.RowKit Go.Shelf
attribute [local go_sem] Oper.semAt_some
namespace Dw
end Dw
def StepsAt (w : World) (v : Value) (l : List Dw.Stp) : Prop :=
  ∃ sa cap, v = .slice sa l.length cap ∧ (∀ s ∈ l, s.data < 18446744073709551616) ∧
    (l = [] ∨ ∃ b off, sa = some ⟨b, off, none⟩ ∧ ∀ j s, l[j]? = some s → w.cell? ⟨b, off + j * 3, none⟩ = some (.int .u64 s.data) ∧ w.cell? ⟨b, off + j * 3 + 1, none⟩ = some (.int .i64 s.cut) ∧ w.cell? ⟨b, off + j * 3 + 2, none⟩ = some (.string ⟨s.mask.toArray⟩))
theorem StepsAt.next {w w' : World} {v : Value} {l : List Dw.Stp} (h : StepsAt w v l) (hb : Below w.heap.size w w') : StepsAt w' v l := by
  obtain ⟨sa, cap, rfl, hd, h⟩ := h
  refine ⟨sa, cap, rfl, hd, ?_⟩
  rcases h with h | ⟨b, off, rfl, hc⟩
  · exact .inl h
  · refine .inr ⟨b, off, rfl, fun j s hj => ?_⟩
    obtain ⟨q0, q1, q2⟩ := hc j s hj
    exact ⟨(hb.cell (lt_of_cell q0)).trans q0, (hb.cell (lt_of_cell q1)).trans q1, (hb.cell (lt_of_cell q2)).trans q2⟩
end Go.Proofs.YtcadgecnlahkgaaGreatDoor
namespace Go.Proofs.YtcadgecnlahkgaaGreatDoor
open Go.RowKit Go.Shelf
namespace Dw
theorem putG_eq (f : Fl) (s : Stp) : putG f s = playL f (plan f s.data).1 0 s.cut s.mask := rfl
theorem ack_true {n N : Nat} {f : Fl} {s : Stp} {c' : Cur} (hn : (putG f s).2 = (plan f s.data).1.length) (hd : c'.data = s.data) (hI : Inv n N (putG f s).1 (some c')) : ackB f s = true := by
  obtain ⟨r1, r2⟩ := inv_read hI
  unfold ackB
  rw [r1, r2, hn]
  simp [hd]
theorem ack_false {f : Fl} {s : Stp} (hn : (putG f s).2 < (plan f s.data).1.length) : ackB f s = false := by
  unfold ackB
  rw [decide_eq_false (by omega), Bool.false_and]
theorem seen_same {n N M : Nat} {f g : Fl} {c : Option Cur} (hf : Inv n N f c) (hg : Inv n M g c) : seenEq g.a g.b f.a f.b = true := by
  have h1 := inv_read hf; have h2 := inv_read hg
  unfold seenEq
  cases c with
  | none => obtain ⟨a, b⟩ := h1; obtain ⟨a', b'⟩ := h2; rw [a, b, a', b']; simp
  | some c => obtain ⟨a, b⟩ := h1; obtain ⟨a', b'⟩ := h2; rw [a, b, a', b']; simp
theorem seen_new {n N M : Nat} {f g : Fl} {c : Option Cur} {c' : Cur} (hf : Inv n N f c) (hg : Inv n M g (some c')) (hs : c'.seq = seqOf c + 1) : seenEq g.a g.b f.a f.b = false := by
  have h1 := inv_read hf; obtain ⟨a', b'⟩ := inv_read hg
  unfold seenEq
  rw [a', b']
  cases c with
  | none => obtain ⟨a, b⟩ := h1; rw [a, b]; simp
  | some c => obtain ⟨a, b⟩ := h1; rw [a, b]; simp [hs, seqOf]
def fNew (n : Nat) (li : Int) : Fl := ⟨ffs (24 * n + 24), ffs (24 * n + 24), 0, 0, li⟩
theorem new_inv {n : Nat} (h1 : 1 ≤ n) (h2 : n ≤ 12) (li : Int) : Inv n 0 (fNew n li) none :=
  ⟨h1, h2, ⟨Int.le_refl 0, Int.le_refl 0⟩, ⟨Int.le_refl 0, Int.le_refl 0⟩, ⟨ffs_length _, by show Hd (place (ffs (24 * n + 24)) 0); rw [place_ffs n 0 (Nat.zero_le _)]; exact hd_ffs⟩, ⟨ffs_length _, by show Hd (place (ffs (24 * n + 24)) 0); rw [place_ffs n 0 (Nat.zero_le _)]; exact hd_ffs⟩⟩
theorem new_ok {n : Nat} (h2 : n ≤ 12) {li : Int} (hl : li ≤ 1000) : FlOk (fNew n li) := ⟨by show (ffs _).length ≤ 400; rw [ffs_length]; omega, by show (ffs _).length ≤ 400; rw [ffs_length]; omega, by show li ≤ _; omega, (by decide : (-9223372036854775808 : Int) ≤ 0), (by decide : (-9223372036854775808 : Int) ≤ 0)⟩
end Dw
end Go.Proofs.YtcadgecnlahkgaaGreatDoor
namespace Go.Proofs.YtcadgecnlahkgaaGreatDoor
open Go.RowKit Go.Shelf
namespace Dw
theorem putG_ok {f : Fl} (hf : FlOk f) {s : Stp} (hp : (plan f s.data).2 = 0) : FlOk (putG f s).1 := by
  obtain ⟨L, hlen, hok, _, _⟩ := plan_ok hf hp
  exact (play_ok s.cut s.mask _ f 0 hf hlen hok).1
end Dw
end Go.Proofs.YtcadgecnlahkgaaGreatDoor
