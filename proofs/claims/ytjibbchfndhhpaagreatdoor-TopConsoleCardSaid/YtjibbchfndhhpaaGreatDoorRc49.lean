/- What the statement's proof stands on, part 49: PlainTopCon. -/
import Derived.Test.YtjibbchfndhhpaaGreatDoorRc30
import Derived.Test.YtjibbchfndhhpaaGreatDoorRc27
import Derived.Laws.RangeString
set_option linter.unusedSimpArgs false
set_option linter.unusedVariables false
set_option maxRecDepth 100000
set_option maxHeartbeats 4000000
namespace Go.Proofs.YtjibbchfndhhpaaGreatDoor
open Go.RowKit Go.Shelf
namespace Dw
theorem append_cut (s m : List UInt8) (n b g q d d0 j : Nat) (cut : Int) (h1 : 1 ≤ n) (h2 : n ≤ 12) (h : Cnt s n g q d0) (hj : next s = j) (hj1 : 1 ≤ j)
    (hc : cut = 0 ∨ (cut = 1 ∧ tornB [255, 255] [90, 60] m = [255, 255])) :
    ((bPlay s (appendOps b j (q + 1) d) 0 cut m).2.1 : Int) = cut ∧ (bPlay s (appendOps b j (q + 1) d) 0 cut m).2.2 = 0 ∧ Cnt (bPlay s (appendOps b j (q + 1) d) 0 cut m).1 n g q d0 := by
  have hsn : slots s.length = n := by rw [h.len, slots_n n h1 h2]
  obtain ⟨hjn, hbl⟩ := next_pos s n hsn (by omega)
  rw [hj] at hjn hbl
  have hpj : place s j = ffs 24 := blank_place j _ (by rw [← state_place s n j h1 h2 h.len hjn]; exact hbl j (Nat.le_refl _) hjn)
  have hgj : stateOf j (place s j) ≠ 2 := by rw [hpj, state_ffs]; decide
  have keep : ∀ s' : List UInt8, s'.length = 24 * n + 24 → (∀ i, i ≤ n → i ≠ j → place s' i = place s i) → stateOf j (place s' j) ≠ 2 → Cnt s' n g q d0 := by
    intro s' hl' hp hn
    refine ⟨hl', by rw [hp 0 (by omega) (by omega)]; exact h.hdr, by rw [hp 0 (by omega) (by omega)]; exact h.gen, ?_⟩
    rw [last_keep s s' n h1 h2 h.len hl' j (fun i _ h4 h5 => hp i h4 h5) fun _ _ => ⟨hgj, hn⟩]
    exact h.lst
  obtain ⟨l1, p1⟩ := bProg s (body 2 (q + 1) d) n j 0 b h.len hjn (by rw [body_length]; omega)
  have pj : place (bOp s ⟨1, b, 24 * j + 0, body 2 (q + 1) d⟩) j = body 2 (q + 1) d ++ [255, 255] := by rw [p1 j hjn, if_pos rfl, hpj, body_over]
  rcases hc with rfl | ⟨rfl, hm⟩
  · have hb := bPlay_cut (appendOps b j (q + 1) d) s 0 0 m ⟨1, b, 24 * j + 0, body 2 (q + 1) d⟩ rfl
    rw [show (((0 + 0 : Nat)) : Int) = 0 from rfl] at hb
    rw [hb]
    obtain ⟨l2, p2⟩ := bTorn s (body 2 (q + 1) d) m n j 0 b h.len hjn (by rw [body_length]; omega)
    rw [show ((appendOps b j (q + 1) d).take 0).foldl bOp s = s from rfl]
    refine ⟨rfl, rfl, keep _ l2 (fun i hi hij => by rw [p2 i hi, if_neg hij]) ?_⟩
    rw [p2 j hjn, if_pos rfl, hpj]
    exact not_marked j _ (.inl (torn_body 2 (q + 1) d m))
  · have hb := bPlay_cut (appendOps b j (q + 1) d) s 0 1 m ⟨1, b, 24 * j + 22, [90, 60]⟩ rfl
    rw [show (((0 + 1 : Nat)) : Int) = 1 from rfl] at hb
    rw [hb]
    obtain ⟨l2, p2⟩ := bTorn _ [90, 60] m n j 22 b l1 hjn (by decide)
    rw [show ((appendOps b j (q + 1) d).take 1).foldl bOp s = bOp s ⟨1, b, 24 * j + 0, body 2 (q + 1) d⟩ from rfl]
    have po : ∀ i, i ≤ n → i ≠ j → place (bTear (bOp s ⟨1, b, 24 * j + 0, body 2 (q + 1) d⟩) ⟨1, b, 24 * j + 22, [90, 60]⟩ m) i = place s i := fun i hi hij => by rw [p2 i hi, if_neg hij, p1 i hi, if_neg hij]
    refine ⟨rfl, rfl, keep _ l2 po ?_⟩
    have pp := p2 j hjn
    rw [if_pos rfl, pj, show (([90, 60] : List UInt8).length) = 2 from rfl, sub_mark _ (body_length _ _ _), hm, over_mark _ _ (body_length _ _ _) rfl] at pp
    rw [pp]
    exact not_marked j _ (.inl (unmarked _ (body_length _ _ _)))
structure T12 (i : Nat) (x : Su) (s : St) (ph vo k : Int) : Prop where
  ex : Ex 12 i x.f
  li : x.f.li = 9
  leg : legal s = true
  st : x.s = s
  is : bootT x.f = s
  ph : x.ph = ph
  vo : x.vo = vo
  n : x.n = k
theorem t12_write {i : Nat} {x : Su} {s : St} {ph vo k : Int} (h : T12 i x s ph vo k) (hi : i < 9) {t : St} (ht : legal t = true) : writeE x t whole = 0 ∧ T12 (i + 1) (writeX x t whole) t ph vo k := by
  obtain ⟨c, hI⟩ := ex_inv h.ex
  obtain ⟨hp0, hX⟩ := ex_step (most := 9) h.ex (by omega) h.li (by omega) (pack t) [] (pack_lt64 t)
  have hg : putG x.f (wStp t whole) = playL x.f (plan x.f (pack t)).1 0 (-1) [] := rfl
  rw [← hg] at hX
  cases ha : ackB x.f (wStp t whole) with
  | false =>
    rcases (inv_write hI (by omega) t whole).res with ⟨_, _, e⟩ | ⟨e1, _⟩ | ⟨_, e, _⟩
    · have := h.li; omega
    · rw [(write_off hp0 ha).2] at e1; exact absurd e1 (by decide)
    · exact absurd e (by decide)
  | true =>
    obtain ⟨w1, w2⟩ := write_ack (x := x) (t := t) (p := whole) hp0 ha
    refine ⟨w2, ?_⟩
    rcases (inv_write hI (by omega) t whole).res with ⟨_, _, e⟩ | ⟨_, g, k', e2, hli, hd, _, hI'⟩ | ⟨_, e, _⟩
    · have := h.li; omega
    · have hgg : g = (putG x.f (wStp t whole)).1 := by have := congrArg Su.f (e2.symm.trans w1); exact this
      have hb : bootT g = t := by rw [inv_bootT hI']; show unP k'.data = t; rw [hd, unP_pack ht]
      rw [e2]
      exact ⟨by show Ex 12 (i + 1) g; rw [hgg]; exact hX, hli.trans h.li, ht, rfl, hb, h.ph, h.vo, h.n⟩
    · exact absurd e (by decide)
theorem t12_cut {i : Nat} {x : Su} {s : St} {ph vo k : Int} (h : T12 (i + 1) x s ph vo k) (hi : i < 8) (h0s : s ≠ st0) {t : St} {p : Pw} (hc : p.cut = 0 ∨ (p.cut = 1 ∧ tornB [255, 255] [90, 60] p.mask = [255, 255])) :
    writeE x t p = 26 ∧ (writeX x t p).s = s ∧ (writeX x t p).ph = 3 ∧ bootT (writeX x t p).f = s ∧ kept (boot (writeX x t p).f) = true := by
  rcases h.ex with ⟨h0, _⟩ | ⟨q, r, c, hF⟩
  · omega
  have hn1 := hF.inv.n1; have hn2 := hF.inv.n2
  obtain ⟨k2, kc, ko, kg, ks, kd⟩ := hF.inv.st
  have hpos := hF.pos; have hrn := hF.lt
  have hq : q = 0 := by omega
  subst hq
  have hp := plan_some hF.inv (by omega) (pack t)
  have hsl : slots (x.f.bk c.bank).length = 12 := by rw [kc.len, slots_n 12 hn1 hn2]
  have hst : ∀ j, j ≤ 12 → state (x.f.bk c.bank) j = stateOf j (place (x.f.bk c.bank) j) := fun j hj => state_place _ 12 j hn1 hn2 kc.len hj
  have hhere : state (x.f.bk c.bank) (r + 1) ≠ 0 := by rw [hst _ (by omega), hF.here]; decide
  have hnx : next (x.f.bk c.bank) = r + 2 := next_is _ 12 (r + 2) hsl (by omega) (by omega) (fun j h1 h2 => by rw [hst j h2, hF.rest j h1 h2, state_ffs]) (.inr hhere)
  rw [if_pos (by omega), hnx] at hp
  have e2 : (plan x.f (pack t)).2 = 0 := by rw [hp]
  obtain ⟨a1, a2, a3⟩ := append_cut (x.f.bk c.bank) p.mask 12 c.bank c.gen c.seq (pack t) c.data (r + 2) p.cut hn1 hn2 kc hnx (by omega) hc
  have hP := playL_bank c.bank p.cut p.mask _ x.f 0 (append_bank c.bank (r + 2) (c.seq + 1) (pack t))
  have hg : putG x.f (wStp t p) = playL x.f (appendOps c.bank (r + 2) (c.seq + 1) (pack t)) 0 p.cut p.mask := by
    show playL x.f (plan x.f (pack t)).1 0 p.cut p.mask = _
    rw [hp]
  rw [hP, a2] at hg
  have hlt : (putG x.f (wStp t p)).2 < (plan x.f (wStp t p).data).1.length := by
    rw [hg]
    show _ < (plan x.f (pack t)).1.length
    rw [hp]
    show (bPlay _ _ 0 _ _).2.1 < 2
    omega
  obtain ⟨w1, w2⟩ := write_off (x := x) (t := t) (p := p) e2 (ack_false hlt)
  obtain ⟨u0, u1⟩ := fl_wear x.f c.bank (bPlay (x.f.bk c.bank) (appendOps c.bank (r + 2) (c.seq + 1) (pack t)) 0 p.cut p.mask).1 0 (i + 1) (by omega) hF.inv.w0 hF.inv.w1
  have hI' : Inv 12 (i + 2) (putG x.f (wStp t p)).1 (some c) := by
    rw [hg]
    exact ⟨hn1, hn2, u0, u1, k2, by show Cnt (Fl.bk _ c.bank) 12 _ _ _; rw [fl_put_bk]; exact a3, by show Oth (Fl.bk _ (1 - c.bank)) 12 _; rw [fl_other _ _ _ _ k2]; exact ko, kg, by omega, kd⟩
  have hb0 : bootT x.f = unP c.data := inv_bootT hF.inv
  have hb1 : bootT (putG x.f (wStp t p)).1 = unP c.data := inv_bootT hI'
  have hbs : bootT (putG x.f (wStp t p)).1 = s := by rw [hb1, ← hb0]; exact h.is
  refine ⟨w2, by rw [w1]; exact h.st, by rw [w1], by rw [w1]; exact hbs, ?_⟩
  obtain ⟨r1, r2⟩ := inv_read hI'
  rw [w1]
  unfold kept
  show (decide (readE (putG x.f (wStp t p)).1.a (putG x.f (wStp t p)).1.b = 0) && decide (pack (bootT (putG x.f (wStp t p)).1) = (readS (putG x.f (wStp t p)).1.a (putG x.f (wStp t p)).1.b).data)) = true
  rw [r2, r1, hb1, Bool.and_eq_true]
  refine ⟨by decide, decide_eq_true ?_⟩
  have hbs' : unP c.data = s := by rw [← hb1]; exact hbs
  cases hu : unOk c.data with
  | false => exact absurd (by rw [← hbs']; unfold unP; rw [hu]; rfl) h0s
  | true => rw [show unP c.data = unS c.data by unfold unP; rw [hu]; rfl]; exact pack_unS hu
theorem t12_voted {i : Nat} {x : Su} {s : St} {ph vo k : Int} (h : T12 i x s ph vo k) (v : Int) : T12 i (voted x v) s ph (addV vo v) (addN vo k v) :=
  ⟨h.ex, h.li, h.leg, h.st, h.is, h.ph, by show addV x.vo v = _; rw [h.vo], by show addN x.vo x.n v = _; rw [h.vo, h.n]⟩
theorem t12_still {i : Nat} {x : Su} {s : St} {ph vo k : Int} (h : T12 i x s ph vo k) (h3 : ph ≠ 3) (v : Int) (hv : verdC (addV vo v) (addN vo k v) = 0) : T12 i (sampleX x v whole) s ph (addV vo v) (addN vo k v) := by
  have e := (sample_still (x := x) (by rw [h.ph]; exact h3) (v := v) whole (.inr (by rw [h.vo, h.n]; exact hv))).1
  rw [e]
  exact t12_voted h v
theorem t12_first {x : Su} {s : St} {vo k : Int} (h : T12 0 x s 0 vo k) (v d : Int) (hv : verdC (addV vo v) (addN vo k v) = d) (hd : d ≠ 0) : T12 1 (sampleX x v whole) (resolveS s d) 1 (addV vo v) (addN vo k v) := by
  have hk : kept x = false := by
    rcases h.ex with ⟨_, hI, _⟩ | ⟨q, r, c, hF⟩
    · unfold kept
      rw [(inv_read hI).2]
      rfl
    · have := hF.pos; omega
  have hv' : verdC (addV x.vo v) (addN x.vo x.n v) = d := by rw [h.vo, h.n]; exact hv
  obtain ⟨e1, _⟩ := sample_writes (x := x) h.ph whole hv' hd (fun q => by rw [hk] at q; exact absurd q.2 (by decide))
  obtain ⟨w1, w2⟩ := t12_write (t12_voted h v) (by omega) (t := resolveS s d) (resolve_legal h.leg d)
  rw [h.st, if_pos w1] at e1
  rw [e1]
  exact ⟨w2.ex, w2.li, w2.leg, w2.st, w2.is, rfl, w2.vo, w2.n⟩
theorem t12_ask {i : Nat} {x : Su} {s : St} {vo k : Int} (h : T12 i x s 1 vo k) (hi : i < 9) (c : Cmd) (h0 : deltaE s c = 0) (h1 : deltaT s c ≠ s) : T12 (i + 1) (commandX x c whole) (deltaT s c) 1 vo k ∧ commandE x c whole = 0 := by
  have hr : refusedE x c = 0 := by rw [refused_else (by rw [h.ph]; decide) (by rw [h.ph]; rintro ⟨q, _⟩; exact absurd q (by decide)), h.st]; exact h0
  obtain ⟨w1, w2⟩ := t12_write h hi (t := deltaT s c) (delta_legal h.leg h0)
  have e1 : commandX x c whole = writeX x (deltaT s c) whole := by unfold commandX; rw [if_pos ⟨hr, by rw [h.st]; exact h1⟩, h.st]
  have e2 : commandE x c whole = writeE x (deltaT s c) whole := by unfold commandE; rw [if_pos ⟨hr, by rw [h.st]; exact h1⟩, h.st]
  rw [e1, e2]
  exact ⟨w2, w1⟩
theorem t12_off {i : Nat} {x : Su} {s : St} {vo k : Int} (h : T12 (i + 1) x s 1 vo k) (hi : i < 8) (h0s : s ≠ st0) (c : Cmd) (h0 : deltaE s c = 0) (h1 : deltaT s c ≠ s) {p : Pw} (hc : p.cut = 0 ∨ (p.cut = 1 ∧ tornB [255, 255] [90, 60] p.mask = [255, 255])) :
    commandE x c p = 26 ∧ (commandX x c p).s = s ∧ (commandX x c p).ph = 3 ∧ bootT (commandX x c p).f = s ∧ kept (boot (commandX x c p).f) = true := by
  have hr : refusedE x c = 0 := by rw [refused_else (by rw [h.ph]; decide) (by rw [h.ph]; rintro ⟨q, _⟩; exact absurd q (by decide)), h.st]; exact h0
  have e1 : commandX x c p = writeX x (deltaT s c) p := by unfold commandX; rw [if_pos ⟨hr, by rw [h.st]; exact h1⟩, h.st]
  have e2 : commandE x c p = writeE x (deltaT s c) p := by unfold commandE; rw [if_pos ⟨hr, by rw [h.st]; exact h1⟩, h.st]
  rw [e1, e2]
  exact t12_cut h hi h0s hc
structure K12 (x : Su) (s : St) (ph vo k : Int) : Prop where
  st : x.s = s
  ph : x.ph = ph
  vo : x.vo = vo
  n : x.n = k
  kept : kept x = true
theorem k12_still {x : Su} {s : St} {vo k : Int} (h : K12 x s 0 vo k) (v : Int) (hv : verdC (addV vo v) (addN vo k v) = 0) (p : Pw) : K12 (sampleX x v p) s 0 (addV vo v) (addN vo k v) := by
  have e := (sample_still (x := x) (by rw [h.ph]; decide) (v := v) p (.inr (by rw [h.vo, h.n]; exact hv))).1
  rw [e]
  exact ⟨h.st, h.ph, by show addV x.vo v = _; rw [h.vo], by show addN x.vo x.n v = _; rw [h.vo, h.n], h.kept⟩
theorem k12_kept {x : Su} {s : St} {vo k : Int} (h : K12 x s 0 vo k) (v d : Int) (hv : verdC (addV vo v) (addN vo k v) = d) (hd : d ≠ 0) (hs : resolveS s d = s) (p : Pw) : sampleX x v p = { voted x v with ph := 1 } ∧ sampleE x v p = 0 :=
  sample_kept (x := x) h.ph p (by rw [h.vo, h.n]; exact hv) hd (by rw [h.st]; exact hs) h.kept
def homeL (a b : Nat) : List UInt8 := [104, 111, 109, 101, 32] ++ (itoaS a ++ 32 :: itoaS b)
def cutL (op : Bool) : List UInt8 := if op then [99, 117, 116, 32, 49, 32, 48] else [99, 117, 116, 32, 48, 32, 50, 53, 53]
def scr (a b : Nat) (op : Bool) : List UInt8 :=
  [98, 101, 103, 105, 110, 32, 49, 50, 32, 57] ++ 10 :: ([103, 114, 111, 117, 110, 100] ++ 10 :: ([103, 114, 111, 117, 110, 100] ++ 10 :: ([103, 114, 111, 117, 110, 100] ++ 10 :: ([97, 114, 109] ++ 10 :: (homeL a b ++ 10 :: ([103, 111, 32, 52] ++ 10 :: (cutL op ++ 10 :: ([103, 111, 32, 53] ++ 10 :: ([114, 101, 115, 101, 116] ++ 10 :: ([97, 105, 114] ++ 10 :: ([97, 105, 114] ++ 10 :: [97, 105, 114])))))))))))
theorem rw_begin (d : Dk) : rowD d [98, 101, 103, 105, 110, 32, 49, 50, 32, 57] = ((doD d 0 [12, 9]).1, [(doD d 0 [12, 9]).2]) := by
  have h1 : wordsL [98, 101, 103, 105, 110, 32, 49, 50, 32, 57] = [[98, 101, 103, 105, 110], [49, 50], [57]] := by decide +kernel
  have h2 : ordW [98, 101, 103, 105, 110] = some 0 := by decide +kernel
  unfold rowD
  rw [h1]
  dsimp only
  unfold lineD
  rw [h2]
  dsimp only
  rw [if_pos (by decide +kernel), show ([[49, 50], [57]] : List (List UInt8)).map numV = [12, 9] from by decide +kernel]
theorem rw_ground (d : Dk) : rowD d [103, 114, 111, 117, 110, 100] = ((doD d 8 []).1, [(doD d 8 []).2]) := by
  have h1 : wordsL [103, 114, 111, 117, 110, 100] = [[103, 114, 111, 117, 110, 100]] := by decide +kernel
  have h2 : ordW [103, 114, 111, 117, 110, 100] = some 8 := by decide +kernel
  unfold rowD
  rw [h1]
  dsimp only
  unfold lineD
  rw [h2]
  dsimp only
  rw [if_pos (by decide +kernel), show ([] : List (List UInt8)).map numV = [] from by decide +kernel]
theorem rw_arm (d : Dk) : rowD d [97, 114, 109] = ((doD d 2 []).1, [(doD d 2 []).2]) := by
  have h1 : wordsL [97, 114, 109] = [[97, 114, 109]] := by decide +kernel
  have h2 : ordW [97, 114, 109] = some 2 := by decide +kernel
  unfold rowD
  rw [h1]
  dsimp only
  unfold lineD
  rw [h2]
  dsimp only
  rw [if_pos (by decide +kernel), show ([] : List (List UInt8)).map numV = [] from by decide +kernel]
theorem rw_go4 (d : Dk) : rowD d [103, 111, 32, 52] = ((doD d 1 [4]).1, [(doD d 1 [4]).2]) := by
  have h1 : wordsL [103, 111, 32, 52] = [[103, 111], [52]] := by decide +kernel
  have h2 : ordW [103, 111] = some 1 := by decide +kernel
  unfold rowD
  rw [h1]
  dsimp only
  unfold lineD
  rw [h2]
  dsimp only
  rw [if_pos (by decide +kernel), show ([[52]] : List (List UInt8)).map numV = [4] from by decide +kernel]
theorem rw_go5 (d : Dk) : rowD d [103, 111, 32, 53] = ((doD d 1 [5]).1, [(doD d 1 [5]).2]) := by
  have h1 : wordsL [103, 111, 32, 53] = [[103, 111], [53]] := by decide +kernel
  have h2 : ordW [103, 111] = some 1 := by decide +kernel
  unfold rowD
  rw [h1]
  dsimp only
  unfold lineD
  rw [h2]
  dsimp only
  rw [if_pos (by decide +kernel), show ([[53]] : List (List UInt8)).map numV = [5] from by decide +kernel]
theorem rw_reset (d : Dk) : rowD d [114, 101, 115, 101, 116] = ((doD d 10 []).1, [(doD d 10 []).2]) := by
  have h1 : wordsL [114, 101, 115, 101, 116] = [[114, 101, 115, 101, 116]] := by decide +kernel
  have h2 : ordW [114, 101, 115, 101, 116] = some 10 := by decide +kernel
  unfold rowD
  rw [h1]
  dsimp only
  unfold lineD
  rw [h2]
  dsimp only
  rw [if_pos (by decide +kernel), show ([] : List (List UInt8)).map numV = [] from by decide +kernel]
theorem rw_air (d : Dk) : rowD d [97, 105, 114] = ((doD d 7 []).1, [(doD d 7 []).2]) := by
  have h1 : wordsL [97, 105, 114] = [[97, 105, 114]] := by decide +kernel
  have h2 : ordW [97, 105, 114] = some 7 := by decide +kernel
  unfold rowD
  rw [h1]
  dsimp only
  unfold lineD
  rw [h2]
  dsimp only
  rw [if_pos (by decide +kernel), show ([] : List (List UInt8)).map numV = [] from by decide +kernel]
theorem rw_cut1 (d : Dk) : rowD d [99, 117, 116, 32, 49, 32, 48] = ((doD d 12 [1, 0]).1, [(doD d 12 [1, 0]).2]) := by
  have h1 : wordsL [99, 117, 116, 32, 49, 32, 48] = [[99, 117, 116], [49], [48]] := by decide +kernel
  have h2 : ordW [99, 117, 116] = some 12 := by decide +kernel
  unfold rowD
  rw [h1]
  dsimp only
  unfold lineD
  rw [h2]
  dsimp only
  rw [if_pos (by decide +kernel), show ([[49], [48]] : List (List UInt8)).map numV = [1, 0] from by decide +kernel]
theorem rw_cut0 (d : Dk) : rowD d [99, 117, 116, 32, 48, 32, 50, 53, 53] = ((doD d 12 [0, 255]).1, [(doD d 12 [0, 255]).2]) := by
  have h1 : wordsL [99, 117, 116, 32, 48, 32, 50, 53, 53] = [[99, 117, 116], [48], [50, 53, 53]] := by decide +kernel
  have h2 : ordW [99, 117, 116] = some 12 := by decide +kernel
  unfold rowD
  rw [h1]
  dsimp only
  unfold lineD
  rw [h2]
  dsimp only
  rw [if_pos (by decide +kernel), show ([[48], [50, 53, 53]] : List (List UInt8)).map numV = [0, 255] from by decide +kernel]
def okB (b : UInt8) : Bool := decide (b.toNat < 128) && !isB b.toNat
theorem at_mid (pre post : List UInt8) (b : UInt8) : ∃ h : pre.length < (⟨(pre ++ b :: post).toArray⟩ : ByteArray).size, (⟨(pre ++ b :: post).toArray⟩ : ByteArray)[pre.length]'h = b := by
  refine ⟨by show pre.length < (pre ++ b :: post).toArray.size; simp, ?_⟩
  show (pre ++ b :: post)[pre.length]'_ = b
  simp
theorem span_word (acc : List (Nat × Nat)) (a0 : Nat) : ∀ (w pre post : List UInt8) (f : Nat), w.all okB = true →
    Lib.spansFromP isB ⟨(pre ++ (w ++ post)).toArray⟩ (f + w.length) pre.length (some a0) acc = Lib.spansFromP isB ⟨(pre ++ (w ++ post)).toArray⟩ f (pre.length + w.length) (some a0) acc
  | [], _, _, _, _ => rfl
  | b :: w, pre, post, f, h => by
    rw [List.all_cons, Bool.and_eq_true] at h
    obtain ⟨h1, h2⟩ := at_mid pre (w ++ post) b
    have hb := h.1
    unfold okB at hb
    rw [Bool.and_eq_true, decide_eq_true_iff, Bool.not_eq_true'] at hb
    have ih := span_word acc a0 w (pre ++ [b]) post f h.2
    rw [show pre ++ [b] ++ (w ++ post) = pre ++ b :: (w ++ post) by simp, List.length_append, List.length_singleton] at ih
    rw [List.cons_append, List.length_cons, show f + (w.length + 1) = (f + w.length) + 1 by omega, Lib.spansFromP, if_pos h1, decode_ascii _ _ h1 (by rw [h2]; exact hb.1), h2, if_neg (by rw [hb.2]; decide)]
    dsimp only
    rw [show pre.length + (w.length + 1) = pre.length + 1 + w.length by omega]
    exact ih
theorem span_start (acc : List (Nat × Nat)) (b : UInt8) (pre post : List UInt8) (f : Nat) (h : okB b = true) :
    Lib.spansFromP isB ⟨(pre ++ (b :: post)).toArray⟩ (f + 1) pre.length none acc = Lib.spansFromP isB ⟨(pre ++ (b :: post)).toArray⟩ f (pre.length + 1) (some pre.length) acc := by
  obtain ⟨h1, h2⟩ := at_mid pre post b
  unfold okB at h
  rw [Bool.and_eq_true, decide_eq_true_iff, Bool.not_eq_true'] at h
  rw [Lib.spansFromP, if_pos h1, decode_ascii _ _ h1 (by rw [h2]; exact h.1), h2, if_neg (by rw [h.2]; decide)]
theorem span_blank (acc : List (Nat × Nat)) (a0 : Nat) (pre post : List UInt8) (f : Nat) :
    Lib.spansFromP isB ⟨(pre ++ (32 :: post)).toArray⟩ (f + 1) pre.length (some a0) acc = Lib.spansFromP isB ⟨(pre ++ (32 :: post)).toArray⟩ f (pre.length + 1) none (acc ++ [(a0, pre.length)]) := by
  obtain ⟨h1, h2⟩ := at_mid pre post 32
  rw [Lib.spansFromP, if_pos h1, decode_ascii _ _ h1 (by rw [h2]; decide), h2, if_pos (by decide)]
theorem span_next (acc : List (Nat × Nat)) (w pre post : List UInt8) (f : Nat) (h0 : w ≠ []) (h : w.all okB = true) :
    Lib.spansFromP isB ⟨(pre ++ (w ++ 32 :: post)).toArray⟩ (f + (w.length + 1)) pre.length none acc = Lib.spansFromP isB ⟨(pre ++ (w ++ 32 :: post)).toArray⟩ f (pre.length + w.length + 1) none (acc ++ [(pre.length, pre.length + w.length)]) := by
  cases w with
  | nil => exact absurd rfl h0
  | cons b w =>
    rw [List.all_cons, Bool.and_eq_true] at h
    have e1 := span_start acc b pre (w ++ 32 :: post) (f + 1 + w.length) h.1
    have e2 := span_word acc pre.length w (pre ++ [b]) (32 :: post) (f + 1) h.2
    have e3 := span_blank acc pre.length (pre ++ b :: w) post f
    rw [show pre ++ [b] ++ (w ++ 32 :: post) = pre ++ (b :: w ++ 32 :: post) by simp, List.length_append, List.length_singleton] at e2
    rw [show pre ++ b :: w ++ 32 :: post = pre ++ (b :: w ++ 32 :: post) by simp, List.length_append, List.length_cons] at e3
    rw [List.length_cons, show f + (w.length + 1 + 1) = f + 1 + w.length + 1 by omega]
    refine e1.trans (e2.trans ?_)
    rw [show pre.length + 1 + w.length = pre.length + (w.length + 1) by omega]
    exact e3
theorem span_last (acc : List (Nat × Nat)) (w pre : List UInt8) (h0 : w ≠ []) (h : w.all okB = true) :
    Lib.closeSpans ⟨(pre ++ w).toArray⟩ (Lib.spansFromP isB ⟨(pre ++ w).toArray⟩ w.length pre.length none acc) = acc ++ [(pre.length, pre.length + w.length)] := by
  cases w with
  | nil => exact absurd rfl h0
  | cons b w =>
    rw [List.all_cons, Bool.and_eq_true] at h
    have e1 := span_start acc b pre w w.length h.1
    have e2 := span_word acc pre.length w (pre ++ [b]) [] 0 h.2
    rw [show pre ++ [b] ++ (w ++ []) = pre ++ b :: w by simp, List.length_append, List.length_singleton, Nat.zero_add] at e2
    rw [List.length_cons, e1, e2]
    show acc ++ [(pre.length, (⟨(pre ++ b :: w).toArray⟩ : ByteArray).size)] = _
    rw [show (⟨(pre ++ b :: w).toArray⟩ : ByteArray).size = pre.length + (w.length + 1) by show (pre ++ b :: w).toArray.size = _; simp]
theorem bs_ext (l : List UInt8) (a b : Nat) : (⟨l.toArray⟩ : ByteArray).extract a b = ⟨((l.take b).drop a).toArray⟩ := by
  apply ByteArray.ext
  apply Array.toList_inj.1
  rw [ByteArray.data_extract]
  simp [List.extract, List.drop_take]
theorem words3 (u v w : List UInt8) (hu : u ≠ [] ∧ u.all okB = true) (hv : v ≠ [] ∧ v.all okB = true) (hw : w ≠ [] ∧ w.all okB = true) : wordsL (u ++ 32 :: (v ++ 32 :: w)) = [u, v, w] := by
  have hsz : (⟨(u ++ 32 :: (v ++ 32 :: w)).toArray⟩ : ByteArray).size = (w.length + (v.length + 1)) + (u.length + 1) := by
    show (u ++ 32 :: (v ++ 32 :: w)).toArray.size = _
    simp
    omega
  have e1 := span_next [] u [] (v ++ 32 :: w) (w.length + (v.length + 1)) hu.1 hu.2
  have e2 := span_next [(0, u.length)] v (u ++ [32]) w w.length hv.1 hv.2
  have e3 : Lib.closeSpans ⟨(u ++ 32 :: (v ++ 32 :: w)).toArray⟩ (Lib.spansFromP isB ⟨(u ++ 32 :: (v ++ 32 :: w)).toArray⟩ w.length (u.length + 1 + v.length + 1) none [(0, u.length), (u.length + 1, u.length + 1 + v.length)]) = [(0, u.length), (u.length + 1, u.length + 1 + v.length), (u.length + 1 + v.length + 1, u.length + 1 + v.length + 1 + w.length)] := by
    have h := span_last [(0, u.length), (u.length + 1, u.length + 1 + v.length)] w (u ++ 32 :: (v ++ [32])) hw.1 hw.2
    have h1 : u ++ 32 :: (v ++ [32]) ++ w = u ++ 32 :: (v ++ 32 :: w) := by simp
    have h2 : (u ++ 32 :: (v ++ [32])).length = u.length + 1 + v.length + 1 := by simp; omega
    rw [h1, h2] at h
    exact h
  simp only [List.nil_append, List.length_nil, Nat.zero_add, List.append_assoc, List.cons_append, List.length_append, List.length_cons] at e1 e2
  unfold wordsL Lib.goFieldsP Lib.spansOfP
  rw [hsz, e1, e2, e3]
  simp only [List.map_cons, List.map_nil, bs_ext]
  have x1 : ((u ++ 32 :: (v ++ 32 :: w)).take u.length).drop 0 = u := by simp
  have x2 : ((u ++ 32 :: (v ++ 32 :: w)).take (u.length + 1 + v.length)).drop (u.length + 1) = v := by
    rw [show u ++ 32 :: (v ++ 32 :: w) = ((u ++ [32]) ++ v) ++ 32 :: w by simp, List.take_left' (by simp; omega)]
    exact List.drop_left' (by simp)
  have x3 : ((u ++ 32 :: (v ++ 32 :: w)).take (u.length + 1 + v.length + 1 + w.length)).drop (u.length + 1 + v.length + 1) = w := by
    rw [List.take_of_length_le (by simp; omega), show u ++ 32 :: (v ++ 32 :: w) = (u ++ 32 :: (v ++ [32])) ++ w by simp]
    exact List.drop_left' (by simp; omega)
  rw [x1, x2, x3]
theorem num_good : ∀ (b : Fin 180), (itoaS b.val ≠ [] ∧ (itoaS b.val).all okB = true) ∧ ∀ x ∈ itoaS b.val, x ≠ 10 := by decide +kernel
theorem split_one : ∀ (s : List UInt8), (∀ x ∈ s, x ≠ 10) → splitL s = [s]
  | [], _ => rfl
  | b :: r, h => by
    unfold splitL
    rw [if_neg (h b (by simp)), split_one r (fun x hx => h x (by simp [hx]))]
theorem home_words (a : Fin 90) (b : Fin 180) : wordsL (homeL a.val b.val) = [[104, 111, 109, 101], itoaS a.val, itoaS b.val] ∧ splitL (homeL a.val b.val) = [homeL a.val b.val] := by
  obtain ⟨n1, n2⟩ := num_good ⟨a.val, by omega⟩
  obtain ⟨n3, n4⟩ := num_good b
  constructor
  · exact words3 [104, 111, 109, 101] (itoaS a.val) (itoaS b.val) ⟨by decide, by decide +kernel⟩ n1 n3
  · refine split_one _ fun x hx => ?_
    unfold homeL at hx
    rcases List.mem_append.1 hx with hx | hx
    · exact (show ∀ x ∈ ([104, 111, 109, 101, 32] : List UInt8), x ≠ 10 from by decide) x hx
    · rcases List.mem_append.1 hx with hx | hx
      · exact n2 x hx
      · rcases List.mem_cons.1 hx with rfl | hx
        · decide
        · exact n4 x hx
theorem home_nums : ∀ (b : Fin 180), numOk (itoaS b.val) = true ∧ numV (itoaS b.val) = (b.val : Int) := by decide +kernel
theorem rw_home (a b : Nat) (ha : a < 90) (hb : b < 180) (d : Dk) : rowD d (homeL a b) = ((doD d 4 [a, b]).1, [(doD d 4 [a, b]).2]) := by
  have h1 := (home_words ⟨a, ha⟩ ⟨b, hb⟩).1
  dsimp only at h1
  have h2 : ordW [104, 111, 109, 101] = some 4 := by decide +kernel
  obtain ⟨n1, n2⟩ := home_nums ⟨a, by omega⟩
  obtain ⟨n3, n4⟩ := home_nums ⟨b, hb⟩
  dsimp only at n1 n2 n3 n4
  unfold rowD
  rw [h1]
  dsimp only
  unfold lineD
  rw [h2]
  dsimp only
  rw [if_pos ⟨by simp [n1, n3], rfl⟩]
  simp only [List.map_cons, List.map_nil, n2, n4]
def repS (ph e : Int) (s : St) : List UInt8 := ((if e = 0 then phaseW ph else errW e) ++ [32]) ++ textS s
theorem reply_is (x : Su) (e : Int) : replyS x e = repS x.ph e x.s := rfl
theorem ask_is (d : Dk) (c : Cmd) : (askD d c).1.f.x = commandX d.f.x c d.p ∧ (askD d c).1.p = noP ∧ (askD d c).2 = replyS (commandX d.f.x c d.p) (commandE d.f.x c d.p) := ⟨(stepF_x _ _).trans rfl, rfl, rfl⟩
theorem see_is (d : Dk) (a b c : Nat) : (seeD d a b c).1.f.x = sampleX d.f.x (voteI a b c) d.p ∧ (seeD d a b c).1.p = noP ∧ (seeD d a b c).2 = replyS (sampleX d.f.x (voteI a b c) d.p) (sampleE d.f.x (voteI a b c) d.p) := by
  have key : ∀ (x : Su) (e : En), e.ki = 2 → stepX x e = sampleX x e.v e.p ∧ stepE x e = sampleE x e.v e.p := fun x e h => by
    have h1 : ¬ e.ki = 1 := by omega
    unfold stepX stepE
    simp only [if_neg h1, if_pos h, and_self]
  obtain ⟨k1, k2⟩ := key d.f.x ⟨2, ⟨0, 0, 0, 0⟩, a, b, c, d.p, 0⟩ rfl
  refine ⟨(stepF_x _ _).trans k1, rfl, ?_⟩
  show replyS (stepX d.f.x ⟨2, ⟨0, 0, 0, 0⟩, a, b, c, d.p, 0⟩) (stepE d.f.x ⟨2, ⟨0, 0, 0, 0⟩, a, b, c, d.p, 0⟩) = _
  rw [k1, k2]
theorem reset_is (d : Dk) : (doD d 10 []).1.f.x = boot d.f.x.f ∧ (doD d 10 []).1.p = d.p ∧ (doD d 10 []).2 = replyS (boot d.f.x.f) 0 := ⟨(stepF_x _ _).trans rfl, rfl, rfl⟩
def vG : Int := voteI 0 0 0
def vA : Int := voteI 4621819117588971520 4621819117588971520 4607182418800017408
theorem votes_g : verdC (addV 0 vG) (addN 0 0 vG) = 0 ∧ verdC (addV (addV 0 vG) vG) (addN (addV 0 vG) (addN 0 0 vG) vG) = 0 ∧ verdC (addV (addV (addV 0 vG) vG) vG) (addN (addV (addV 0 vG) vG) (addN (addV 0 vG) (addN 0 0 vG) vG) vG) = 1 := by decide +kernel
theorem votes_a : verdC (addV 0 vA) (addN 0 0 vA) = 0 ∧ verdC (addV (addV 0 vA) vA) (addN (addV 0 vA) (addN 0 0 vA) vA) = 0 ∧ verdC (addV (addV (addV 0 vA) vA) vA) (addN (addV (addV 0 vA) vA) (addN (addV 0 vA) (addN 0 0 vA) vA) vA) = 2 := by decide +kernel
theorem fix_lat : ∀ a : Fin 90, fixE (f64 a.val) 4636033603912859648 = 0 ∧ fixV (f64 a.val) = 8192 * (a.val : Int) := by decide +kernel
theorem fix_lon : ∀ b : Fin 180, fixE (f64 b.val) 4640537203540230144 = 0 ∧ fixV (f64 b.val) = 8192 * (b.val : Int) := by decide +kernel
def sC (a b : Nat) : St := ⟨4, true, true, 8192 * (a : Int), 8192 * (b : Int), 0⟩
theorem con_flight (a b : Nat) (ha : a < 90) (hb : b < 180) (op : Bool) : (linesS (scr a b op)).length = 13 ∧ (linesS (scr a b op))[6]? = some (repS 1 0 (sC a b)) ∧ (linesS (scr a b op))[8]? = some (repS 3 26 (sC a b)) ∧ (linesS (scr a b op))[9]? = some (repS 0 0 (sC a b)) ∧ (linesS (scr a b op))[12]? = some (repS 1 0 (sC a b)) := by
  obtain ⟨g1, g2, g3⟩ := votes_g
  obtain ⟨v1, v2, v3⟩ := votes_a
  obtain ⟨la0, la1⟩ := fix_lat ⟨a, ha⟩
  obtain ⟨lo0, lo1⟩ := fix_lon ⟨b, hb⟩
  dsimp only at la0 la1 lo0 lo1
  -- begin
  obtain ⟨d1, e1⟩ : ∃ x, (doD desk0 0 [12, 9]).1 = x := ⟨_, rfl⟩
  have x1 : d1.f.x = boot (fNew 12 9) := by rw [← e1]; rfl
  have p1 : d1.p = noP := by rw [← e1]; rfl
  have t1 : T12 0 d1.f.x st0 0 0 0 := by
    rw [x1]
    have hI := new_inv (n := 12) (by decide) (by decide) 9
    have hb0 : bootT (fNew 12 9) = st0 := inv_bootT hI
    exact ⟨.inl ⟨rfl, hI, rfl, rfl⟩, rfl, by decide, hb0, hb0, rfl, rfl, rfl⟩
  -- three of the ground
  obtain ⟨d2, e2⟩ : ∃ x, (doD d1 8 []).1 = x := ⟨_, rfl⟩
  have s2 := see_is d1 0 0 0
  rw [p1] at s2
  have t2 : T12 0 d2.f.x st0 0 (addV 0 vG) (addN 0 0 vG) := by rw [← e2]; show T12 0 (seeD d1 0 0 0).1.f.x _ _ _ _; rw [s2.1]; exact t12_still t1 (by decide) vG g1
  have p2 : d2.p = noP := by rw [← e2]; exact s2.2.1
  obtain ⟨d3, e3⟩ : ∃ x, (doD d2 8 []).1 = x := ⟨_, rfl⟩
  have s3 := see_is d2 0 0 0
  rw [p2] at s3
  have t3 : T12 0 d3.f.x st0 0 (addV (addV 0 vG) vG) (addN (addV 0 vG) (addN 0 0 vG) vG) := by rw [← e3]; show T12 0 (seeD d2 0 0 0).1.f.x _ _ _ _; rw [s3.1]; exact t12_still t2 (by decide) vG g2
  have p3 : d3.p = noP := by rw [← e3]; exact s3.2.1
  obtain ⟨d4, e4⟩ : ∃ x, (doD d3 8 []).1 = x := ⟨_, rfl⟩
  have s4 := see_is d3 0 0 0
  rw [p3] at s4
  have t4 := t12_first t3 vG 1 g3 (by decide)
  have x4 : d4.f.x = sampleX d3.f.x vG noP := by rw [← e4]; exact s4.1
  rw [show sampleX d3.f.x vG whole = d4.f.x from x4.symm] at t4
  have p4 : d4.p = noP := by rw [← e4]; exact s4.2.1
  generalize addV (addV (addV 0 vG) vG) vG = V at t4
  generalize addN (addV (addV 0 vG) vG) (addN (addV 0 vG) (addN 0 0 vG) vG) vG = K at t4
  -- arm, home, go
  obtain ⟨d5, e5⟩ : ∃ x, (doD d4 2 []).1 = x := ⟨_, rfl⟩
  have s5 := ask_is d4 ⟨2, 0, 0, 0⟩
  rw [p4] at s5
  have t5 := (t12_ask t4 (by decide) ⟨2, 0, 0, 0⟩ (by decide +kernel) (by decide +kernel)).1
  have x5 : d5.f.x = commandX d4.f.x ⟨2, 0, 0, 0⟩ whole := by rw [← e5]; exact s5.1
  rw [← x5, show deltaT (resolveS st0 1) ⟨2, 0, 0, 0⟩ = ⟨1, true, false, 0, 0, 0⟩ by decide +kernel] at t5
  have p5 : d5.p = noP := by rw [← e5]; exact s5.2.1
  obtain ⟨d6, e6⟩ : ∃ x, (doD d5 4 [a, b]).1 = x := ⟨_, rfl⟩
  have s6 := ask_is d5 ⟨4, 0, f64 a, f64 b⟩
  rw [p5] at s6
  have dE : deltaE ⟨1, true, false, 0, 0, 0⟩ ⟨4, 0, f64 a, f64 b⟩ = 0 := by
    show homeE ⟨4, 0, f64 a, f64 b⟩ = 0
    unfold homeE
    dsimp only
    rw [la0, lo0]
    rfl
  have dT : deltaT ⟨1, true, false, 0, 0, 0⟩ ⟨4, 0, f64 a, f64 b⟩ = ⟨1, true, true, 8192 * (a : Int), 8192 * (b : Int), 0⟩ := by
    show (⟨1, true, true, fixV (f64 a), fixV (f64 b), 0⟩ : St) = _
    rw [la1, lo1]
  have t6 := (t12_ask t5 (by decide) ⟨4, 0, f64 a, f64 b⟩ dE (by rw [dT]; intro q; exact Bool.noConfusion (show true = false from congrArg St.ho q))).1
  have x6 : d6.f.x = commandX d5.f.x ⟨4, 0, f64 a, f64 b⟩ whole := by rw [← e6]; exact s6.1
  rw [← x6, dT] at t6
  have p6 : d6.p = noP := by rw [← e6]; exact s6.2.1
  obtain ⟨d7, e7⟩ : ∃ x, (doD d6 1 [4]).1 = x := ⟨_, rfl⟩
  have s7 := ask_is d6 ⟨1, 4, 0, 0⟩
  rw [p6] at s7
  obtain ⟨t7, c7⟩ := t12_ask t6 (by decide) ⟨1, 4, 0, 0⟩ (by rfl) (by intro q; exact absurd (show (4 : Int) = 1 from congrArg St.mo q) (by decide))
  have x7 : d7.f.x = commandX d6.f.x ⟨1, 4, 0, 0⟩ whole := by rw [← e7]; exact s7.1
  have r7 : (doD d6 1 [4]).2 = repS 1 0 (sC a b) := by
    refine s7.2.2.trans ?_
    rw [show commandE d6.f.x ⟨1, 4, 0, 0⟩ noP = 0 from c7, reply_is]
    show repS (commandX d6.f.x ⟨1, 4, 0, 0⟩ whole).ph 0 (commandX d6.f.x ⟨1, 4, 0, 0⟩ whole).s = _
    rw [t7.ph, t7.st]
    rfl
  rw [← x7, show deltaT ⟨1, true, true, 8192 * (a : Int), 8192 * (b : Int), 0⟩ ⟨1, 4, 0, 0⟩ = sC a b from rfl] at t7
  have p7 : d7.p = noP := by rw [← e7]; exact s7.2.1
  -- the cut
  obtain ⟨c1, c2, hcu⟩ : ∃ c1 c2 : Int, (∀ d, rowD d (cutL op) = ((doD d 12 [c1, c2]).1, [(doD d 12 [c1, c2]).2])) ∧ splitL (cutL op) = [cutL op] ∧ (c1 = 0 ∨ (c1 = 1 ∧ tornB [255, 255] [90, 60] (List.replicate 300 (byteI c2)) = [255, 255])) := by
    cases op with
    | false => exact ⟨0, 255, rw_cut0, by decide +kernel, .inl rfl⟩
    | true => exact ⟨1, 0, rw_cut1, by decide +kernel, .inr ⟨rfl, by decide +kernel⟩⟩
  obtain ⟨rc, sc, hct⟩ := hcu
  obtain ⟨d8, e8⟩ : ∃ x, (doD d7 12 [c1, c2]).1 = x := ⟨_, rfl⟩
  have x8 : d8.f.x = d7.f.x := by rw [← e8]; rfl
  have p8 : d8.p = ⟨c1, List.replicate 300 (byteI c2)⟩ := by rw [← e8]; rfl
  obtain ⟨d9, e9⟩ : ∃ x, (doD d8 1 [5]).1 = x := ⟨_, rfl⟩
  have s9 := ask_is d8 ⟨1, 5, 0, 0⟩
  rw [p8, x8] at s9
  have hs0 : sC a b ≠ st0 := fun q => Bool.noConfusion (show true = false from congrArg St.ar q)
  obtain ⟨o1, o2, o3, o4, o5⟩ := t12_off t7 (by decide) hs0 ⟨1, 5, 0, 0⟩ (by rfl) (by intro q; exact absurd (show (5 : Int) = 4 from congrArg St.mo q) (by decide)) (p := ⟨c1, List.replicate 300 (byteI c2)⟩) hct
  have x9 : d9.f.x = commandX d7.f.x ⟨1, 5, 0, 0⟩ ⟨c1, List.replicate 300 (byteI c2)⟩ := by rw [← e9]; exact s9.1
  have r9 : (doD d8 1 [5]).2 = repS 3 26 (sC a b) := by
    refine s9.2.2.trans ?_
    rw [reply_is, o1, o2, o3]
  rw [← x9] at o4 o5
  have p9 : d9.p = noP := by rw [← e9]; exact s9.2.1
  -- the restart
  obtain ⟨d10, e10⟩ : ∃ x, (doD d9 10 []).1 = x := ⟨_, rfl⟩
  have s10 := reset_is d9
  have x10 : d10.f.x = boot d9.f.x.f := by rw [← e10]; exact s10.1
  have p10 : d10.p = noP := by rw [← e10]; exact s10.2.1.trans p9
  have t10 : K12 d10.f.x (sC a b) 0 0 0 := by rw [x10]; exact ⟨o4, rfl, rfl, rfl, o5⟩
  have r10 : (doD d9 10 []).2 = repS 0 0 (sC a b) := by
    rw [s10.2.2, reply_is]
    show repS 0 0 (bootT d9.f.x.f) = _
    rw [o4]
  -- three of the air
  obtain ⟨d11, e11⟩ : ∃ x, (doD d10 7 []).1 = x := ⟨_, rfl⟩
  have s11 := see_is d10 4621819117588971520 4621819117588971520 4607182418800017408
  rw [p10] at s11
  have t11 := k12_still t10 vA v1 noP
  have x11 : d11.f.x = sampleX d10.f.x vA noP := by rw [← e11]; exact s11.1
  rw [← x11] at t11
  have p11 : d11.p = noP := by rw [← e11]; exact s11.2.1
  obtain ⟨d12, e12⟩ : ∃ x, (doD d11 7 []).1 = x := ⟨_, rfl⟩
  have s12 := see_is d11 4621819117588971520 4621819117588971520 4607182418800017408
  rw [p11] at s12
  have t12 := k12_still t11 vA v2 noP
  have x12 : d12.f.x = sampleX d11.f.x vA noP := by rw [← e12]; exact s12.1
  rw [← x12] at t12
  have p12 : d12.p = noP := by rw [← e12]; exact s12.2.1
  have s13 := see_is d12 4621819117588971520 4621819117588971520 4607182418800017408
  rw [p12] at s13
  obtain ⟨k1, k2⟩ := k12_kept t12 vA 2 v3 (by decide) (by rfl) noP
  have r13 : (doD d12 7 []).2 = repS 1 0 (sC a b) := by
    refine s13.2.2.trans ?_
    show replyS (sampleX d12.f.x vA noP) (sampleE d12.f.x vA noP) = _
    rw [k1, k2, reply_is]
    show repS 1 0 d12.f.x.s = _
    rw [t12.st]
  -- all of it
  have hsp : splitL (homeL a b) = [homeL a b] := (home_words ⟨a, ha⟩ ⟨b, hb⟩).2
  have hall : linesS (scr a b op) = [(doD desk0 0 [12, 9]).2, (doD d1 8 []).2, (doD d2 8 []).2, (doD d3 8 []).2, (doD d4 2 []).2, (doD d5 4 [a, b]).2, (doD d6 1 [4]).2, (doD d7 12 [c1, c2]).2, (doD d8 1 [5]).2, (doD d9 10 []).2, (doD d10 7 []).2, (doD d11 7 []).2, (doD d12 7 []).2] := by
    have q1 : splitL [98, 101, 103, 105, 110, 32, 49, 50, 32, 57] = [[98, 101, 103, 105, 110, 32, 49, 50, 32, 57]] := by decide +kernel
    have q2 : splitL [103, 114, 111, 117, 110, 100] = [[103, 114, 111, 117, 110, 100]] := by decide +kernel
    have q3 : splitL [97, 114, 109] = [[97, 114, 109]] := by decide +kernel
    have q4 : splitL [103, 111, 32, 52] = [[103, 111, 32, 52]] := by decide +kernel
    have q5 : splitL [103, 111, 32, 53] = [[103, 111, 32, 53]] := by decide +kernel
    have q6 : splitL [114, 101, 115, 101, 116] = [[114, 101, 115, 101, 116]] := by decide +kernel
    have q7 : splitL [97, 105, 114] = [[97, 105, 114]] := by decide +kernel
    unfold linesS scr
    simp only [splitL_append, q1, q2, q3, q4, q5, q6, q7, sc, hsp]
    simp only [List.cons_append, List.nil_append]
    simp only [rowsD, rw_begin, rw_ground, rw_arm, rw_home a b ha hb, rw_go4, rw_go5, rw_reset, rw_air, rc, e1, e2, e3, e4, e5, e6, e7, e8, e9, e10, e11, e12, List.cons_append, List.nil_append]
  rw [hall, r7, r9, r10, r13]
  exact ⟨rfl, rfl, rfl, rfl, rfl⟩
end Dw
end Go.Proofs.YtjibbchfndhhpaaGreatDoor
