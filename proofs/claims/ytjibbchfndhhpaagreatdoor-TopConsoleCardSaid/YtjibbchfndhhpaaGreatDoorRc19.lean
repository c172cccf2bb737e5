/- What the statement's proof stands on, part 19: PlainOp, PlainFresh, PlainApp, PlainPlan. -/
import Derived.Test.YtjibbchfndhhpaaGreatDoorRc18
set_option linter.unusedSimpArgs false
set_option linter.unusedVariables false
set_option maxRecDepth 100000
set_option maxHeartbeats 4000000
namespace Go.Proofs.YtjibbchfndhhpaaGreatDoor
namespace Dw
def bOp (s : List UInt8) (o : Op) : List UInt8 := if o.kind = 1 then over s o.at_ (andB (sub s o.at_ o.data.length) o.data) else ffs s.length
def bTear (s : List UInt8) (o : Op) (m : List UInt8) : List UInt8 := if o.kind = 1 then over s o.at_ (tornB (sub s o.at_ o.data.length) o.data m) else eraB s m
def cost (o : Op) : Nat := if o.kind = 1 then 0 else 1
def bPlay : List UInt8 → List Op → Nat → Int → List UInt8 → List UInt8 × Nat × Nat
  | s, [], i, _, _ => (s, i, 0)
  | s, o :: os, i, cut, m => if (i : Int) = cut then (bTear s o m, i, cost o) else ((bPlay (bOp s o) os (i + 1) cut m).1, (bPlay (bOp s o) os (i + 1) cut m).2.1, (bPlay (bOp s o) os (i + 1) cut m).2.2 + cost o)
def costs (l : List Op) : Nat := (l.map cost).sum
theorem bPlay_whole : ∀ (os : List Op) (s : List UInt8) (i : Nat) (cut : Int) (m : List UInt8), (cut < i ∨ (i : Int) + os.length ≤ cut) → bPlay s os i cut m = (os.foldl bOp s, i + os.length, costs os)
  | [], _, _, _, _, _ => rfl
  | o :: os, s, i, cut, m, h => by
    have h' : cut < (i + 1 : Nat) ∨ ((i + 1 : Nat) : Int) + os.length ≤ cut := by simp only [List.length_cons] at h; omega
    have ih := bPlay_whole os (bOp s o) (i + 1) cut m h'
    unfold bPlay
    rw [if_neg (by simp only [List.length_cons] at h; omega), ih]
    simp only [List.foldl_cons, List.length_cons, costs, List.map_cons, List.sum_cons, Prod.mk.injEq, true_and]
    omega
theorem bPlay_cut : ∀ (os : List Op) (s : List UInt8) (i k : Nat) (m : List UInt8) (o : Op), os[k]? = some o → bPlay s os i ((i + k : Nat) : Int) m = (bTear ((os.take k).foldl bOp s) o m, i + k, costs (os.take (k + 1)))
  | [], _, _, _, _, _, h => by simp at h
  | o :: os, s, i, 0, m, o', h => by
    obtain rfl : o = o' := by simpa using h
    unfold bPlay
    rw [if_pos (by simp)]
    simp [costs]
  | o :: os, s, i, k + 1, m, o', h => by
    have ih := bPlay_cut os (bOp s o) (i + 1) k m o' (by simpa using h)
    unfold bPlay
    rw [if_neg (by omega), show ((i + (k + 1) : Nat) : Int) = ((i + 1 + k : Nat) : Int) by omega, ih]
    simp only [List.take_succ_cons, List.foldl_cons, costs, List.map_cons, List.sum_cons, Prod.mk.injEq, true_and]
    omega
theorem bProg (s x : List UInt8) (n j o b : Nat) (h : s.length = 24 * n + 24) (hj : j ≤ n) (ho : o + x.length ≤ 24) :
    (bOp s ⟨1, b, 24 * j + o, x⟩).length = 24 * n + 24 ∧ ∀ i, i ≤ n → place (bOp s ⟨1, b, 24 * j + o, x⟩) i = if i = j then over (place s i) o (andB (sub (place s i) o x.length) x) else place s i := by
  unfold bOp
  rw [if_pos rfl]
  have hl : (sub s (24 * j + o) x.length).length = x.length := sub_length _ _ _ (by omega)
  dsimp only
  refine ⟨by rw [over_length _ _ _ (by rw [andB_length]; omega), h], fun i hi => ?_⟩
  rw [place_over s _ n j o i h hj (by rw [andB_length, hl]; exact ho) hi]
  split
  · rename_i e; rw [sub_place s j o _ ho, e]
  · rfl
theorem bTorn (s x m : List UInt8) (n j o b : Nat) (h : s.length = 24 * n + 24) (hj : j ≤ n) (ho : o + x.length ≤ 24) :
    (bTear s ⟨1, b, 24 * j + o, x⟩ m).length = 24 * n + 24 ∧ ∀ i, i ≤ n → place (bTear s ⟨1, b, 24 * j + o, x⟩ m) i = if i = j then over (place s i) o (tornB (sub (place s i) o x.length) x m) else place s i := by
  unfold bTear
  rw [if_pos rfl]
  have hl : (sub s (24 * j + o) x.length).length = x.length := sub_length _ _ _ (by omega)
  dsimp only
  refine ⟨by rw [over_length _ _ _ (by rw [tornB_length]; omega), h], fun i hi => ?_⟩
  rw [place_over s _ n j o i h hj (by rw [tornB_length, hl]; exact ho) hi]
  split
  · rename_i e; rw [sub_place s j o _ ho, e]
  · rfl
theorem bEra (s m : List UInt8) (n b k : Nat) (h : s.length = 24 * n + 24) (x : List UInt8) (i : Nat) :
    (bTear s ⟨2, b, k, x⟩ m).length = 24 * n + 24 ∧ ∀ t : Nat, (place (bTear s ⟨2, b, k, x⟩ m) i)[t]? = (place s i)[t]? ∨ (place (bTear s ⟨2, b, k, x⟩ m) i)[t]? = some 255 := by
  unfold bTear
  rw [if_neg (by simp)]
  refine ⟨by rw [eraB_length, h], fun t => ?_⟩
  rw [place_get, place_get]
  split
  · exact eraB_get s m _
  · exact .inl rfl
theorem over_blank (x : List UInt8) (h : x.length = 22) : over (ffs 24) 0 x = x ++ [255, 255] := by
  unfold over
  rw [List.take_zero, List.nil_append, h]
  rfl
theorem over_mark (x y : List UInt8) (h : x.length = 22) (hy : y.length = 2) : over (x ++ [255, 255]) 22 y = x ++ y := by
  unfold over
  rw [List.take_left' h, hy, List.drop_of_length_le (by simp; omega), List.append_nil]
theorem sub_mark (x : List UInt8) (h : x.length = 22) : sub (x ++ [255, 255]) 22 2 = [255, 255] := by
  unfold sub
  rw [List.drop_left' h]
  rfl
theorem andB_ff2 : andB [255, 255] [90, 60] = [90, 60] := by decide
theorem body_over (k q d : Nat) : over (ffs 24) 0 (andB (sub (ffs 24) 0 (body k q d).length) (body k q d)) = body k q d ++ [255, 255] := by
  rw [sub_ffs 24 0 _ (by rw [body_length]; omega), andB_ff, over_blank _ (body_length k q d)]
theorem mark_over (k q d : Nat) : over (body k q d ++ [255, 255]) 22 (andB (sub (body k q d ++ [255, 255]) 22 ([90, 60] : List UInt8).length) [90, 60]) = encode k q d := by
  rw [show ([90, 60] : List UInt8).length = 2 from rfl, sub_mark _ (body_length k q d), andB_ff2, over_mark _ _ (body_length k q d) rfl]
  rfl
theorem unmarked (x : List UInt8) (h : x.length = 22) : (x ++ [255, 255])[22]? ≠ some 90 := by
  rw [List.getElem?_append_right (by omega), h]
  decide
theorem torn_body (k q d : Nat) (m : List UInt8) : (over (ffs 24) 0 (tornB (sub (ffs 24) 0 (body k q d).length) (body k q d) m))[22]? ≠ some 90 := by
  rw [over_blank _ (by rw [tornB_length, sub_length _ _ _ (by rw [body_length, ffs_length]; omega), body_length])]
  exact unmarked _ (by rw [tornB_length, sub_length _ _ _ (by rw [body_length, ffs_length]; omega), body_length])
theorem torn_mark (k q d : Nat) (m : List UInt8) :
    over (body k q d ++ [255, 255]) 22 (tornB (sub (body k q d ++ [255, 255]) 22 ([90, 60] : List UInt8).length) [90, 60] m) = encode k q d ∨
    ((over (body k q d ++ [255, 255]) 22 (tornB (sub (body k q d ++ [255, 255]) 22 ([90, 60] : List UInt8).length) [90, 60] m))[22]? ≠ some 90 ∨ (over (body k q d ++ [255, 255]) 22 (tornB (sub (body k q d ++ [255, 255]) 22 ([90, 60] : List UInt8).length) [90, 60] m))[23]? ≠ some 60) := by
  rw [show ([90, 60] : List UInt8).length = 2 from rfl, sub_mark _ (body_length k q d), over_mark _ _ (body_length k q d) (by rw [tornB_length]; rfl)]
  have hy : (tornB [255, 255] [90, 60] m).length = 2 := by rw [tornB_length]; rfl
  generalize tornB [255, 255] [90, 60] m = y at *
  match y, hy with
  | [y0, y1], _ =>
    have e0 : (body k q d ++ [y0, y1])[22]? = some y0 := by rw [List.getElem?_append_right (by rw [body_length]; omega), body_length]; rfl
    have e1 : (body k q d ++ [y0, y1])[23]? = some y1 := by rw [List.getElem?_append_right (by rw [body_length]; omega), body_length]; rfl
    rw [e0, e1]
    by_cases h0 : y0 = 90
    · by_cases h1 : y1 = 60
      · subst h0; subst h1; exact .inl rfl
      · exact .inr (.inr fun e => h1 (Option.some.inj e))
    · exact .inr (.inl fun e => h0 (Option.some.inj e))
theorem slots_n (n : Nat) (h1 : 1 ≤ n) (h2 : n ≤ 12) : slots (24 * n + 24) = n := slots_of h1 h2
theorem slot_place (s : List UInt8) (n i : Nat) (h1 : 1 ≤ n) (h2 : n ≤ 12) (h : s.length = 24 * n + 24) (hi : i ≤ n) : slot s i = place s i := by
  unfold slot
  rw [h, slots_n n h1 h2, if_pos ⟨h1, hi⟩]
theorem state_place (s : List UInt8) (n i : Nat) (h1 : 1 ≤ n) (h2 : n ≤ 12) (h : s.length = 24 * n + 24) (hi : i ≤ n) : state s i = stateOf i (place s i) := by
  unfold state
  rw [slot_place s n i h1 h2 h hi]
theorem lastN_skip (s : List UInt8) (a : Nat) : ∀ c, (∀ i, a < i → i ≤ a + c → state s i ≠ 2) → lastN s (a + c) = lastN s a
  | 0, _ => rfl
  | c + 1, h => by
    rw [← Nat.add_assoc, lastN_succ]
    unfold lastStep
    rw [if_neg fun hh => h (a + c + 1) (by omega) (by omega) hh.1]
    exact lastN_skip s a c fun i h1 h2 => h i h1 (by omega)
theorem step_congr1 (s s' : List UInt8) (b : Rec × Int) (i : Nat) (h : slot s' i = slot s i) : lastStep s' b i = lastStep s b i := by
  have e : state s' i = state s i := by unfold state; rw [h]
  unfold lastStep
  simp only [e, h]
theorem step_congr2 (s s' : List UInt8) (b : Rec × Int) (i : Nat) (h : state s i ≠ 2 ∧ state s' i ≠ 2) : lastStep s' b i = lastStep s b i := by
  unfold lastStep
  rw [if_neg fun hh => h.2 hh.1, if_neg fun hh => h.1 hh.1]
theorem lastN_zero (s s' : List UInt8) : lastN s' 0 = lastN s 0 := by
  unfold lastN
  rw [List.range_zero, List.foldl_nil, List.foldl_nil]
theorem lastN_congr (s s' : List UInt8) (k : Nat) (h : ∀ i, 1 ≤ i → i ≤ k → slot s' i = slot s i ∨ (state s i ≠ 2 ∧ state s' i ≠ 2)) : lastN s' k = lastN s k := by
  induction k with
  | zero => exact lastN_zero s s'
  | succ k ih =>
    rw [lastN_succ, lastN_succ, ih fun i h1 h2 => h i h1 (by omega)]
    exact (h (k + 1) (by omega) (by omega)).elim (step_congr1 s s' _ _) (step_congr2 s s' _ _)
structure Cnt (s : List UInt8) (n g q d : Nat) : Prop where
  len : s.length = 24 * n + 24
  hdr : stateOf 0 (place s 0) = 2
  gen : (decodeR (place s 0)).seq = g
  lst : (last s).2 = 0 ∧ (last s).1.seq = q ∧ (last s).1.data = d
structure Oth (s : List UInt8) (n g : Nat) : Prop where
  len : s.length = 24 * n + 24
  hdr : Hd (place s 0) ∨ (stateOf 0 (place s 0) = 2 ∧ (decodeR (place s 0)).seq < g)
theorem cnt_gen {s : List UInt8} {n g q d : Nat} (h1 : 1 ≤ n) (h2 : n ≤ 12) (h : Cnt s n g q d) : sound s = true ∧ genN s = g := by
  have hs := state_place s n 0 h1 h2 h.len (by omega)
  rw [h.hdr] at hs
  constructor
  · unfold sound genE
    rw [hs, h.lst.1]
    simp
  · unfold genN
    rw [if_pos hs, slot_place s n 0 h1 h2 h.len (by omega), h.gen]
theorem oth_gen {s : List UInt8} {n g : Nat} (h1 : 1 ≤ n) (h2 : n ≤ 12) (h : Oth s n g) : sound s = false ∨ genN s < g := by
  have hs := state_place s n 0 h1 h2 h.len (by omega)
  rcases h.hdr with h' | ⟨h', h''⟩
  · left
    unfold sound genE
    rw [hs, if_neg (hd_not_good _ h')]
    simp
  · right
    unfold genN
    rw [if_pos (by rw [hs, h']), slot_place s n 0 h1 h2 h.len (by omega)]
    exact h''
theorem hd_unsound {s : List UInt8} {n : Nat} (h1 : 1 ≤ n) (h2 : n ≤ 12) (hl : s.length = 24 * n + 24) (h : Hd (place s 0)) : sound s = false := by
  have hs := state_place s n 0 h1 h2 hl (by omega)
  unfold sound genE
  rw [hs, if_neg (hd_not_good _ h)]
  simp
theorem good_encode (i k q d : Nat) (h1 : 1 ≤ k) (h3 : k ≤ 3) (hq : q < 18446744073709551616) (hd : d < 18446744073709551616) (hi : k = 1 ↔ i = 0) : stateOf i (encode k q d) = 2 := by
  obtain ⟨a, b⟩ := decode_encode k q d h1 h3 hq hd
  unfold stateOf
  rw [if_neg (by rw [a]; decide), if_pos ⟨a, by rw [b]; exact hi⟩]
end Dw
end Go.Proofs.YtjibbchfndhhpaaGreatDoor
namespace Go.Proofs.YtjibbchfndhhpaaGreatDoor
namespace Dw
def appendOps (b slot q d : Nat) : List Op := [⟨1, b, 24 * slot + 0, body 2 q d⟩, ⟨1, b, 24 * slot + 22, [90, 60]⟩]
def freshTail (b g q d : Nat) : List Op := [⟨2, b, 0, []⟩, ⟨1, b, 24 * 1 + 0, body 3 q d⟩, ⟨1, b, 24 * 1 + 22, [90, 60]⟩, ⟨1, b, 24 * 0 + 0, body 1 g 0⟩, ⟨1, b, 24 * 0 + 22, [90, 60]⟩]
def killOp (b : Nat) : Op := ⟨1, b, 24 * 0 + 0, [0, 0]⟩
def freshOps (b : Nat) (kill : Bool) (g q d : Nat) : List Op := if kill = true then killOp b :: freshTail b g q d else freshTail b g q d
structure Fr (s : List UInt8) (n g q d : Nat) : Prop where
  len : s.length = 24 * n + 24
  p0 : place s 0 = encode 1 g 0
  p1 : place s 1 = encode 3 q d
  pn : ∀ i, 2 ≤ i → i ≤ n → place s i = ffs 24
theorem last_two (s : List UInt8) (n q d : Nat) (h1 : 1 ≤ n) (h2 : n ≤ 12) (hl : s.length = 24 * n + 24) (p1 : place s 1 = encode 3 q d) (pn : ∀ i, 2 ≤ i → i ≤ n → place s i = ffs 24) (hq : q < 18446744073709551616) (hd : d < 18446744073709551616) :
    last s = (⟨3, q, d⟩, 0) := by
  have hg := good_encode 1 3 q d (by decide) (by decide) hq hd (by decide)
  have hs1 : state s 1 = 2 := by rw [state_place s n 1 h1 h2 hl h1, p1, hg]
  have hsl : slot s 1 = encode 3 q d := by rw [slot_place s n 1 h1 h2 hl h1, p1]
  have h01 : lastN s 1 = (⟨3, q, d⟩, 0) := by
    rw [show (1 : Nat) = 0 + 1 from rfl, lastN_succ]
    unfold lastStep
    rw [show (0 : Nat) + 1 = 1 from rfl, if_pos ⟨hs1, .inl (by unfold lastN; rw [List.range_zero, List.foldl_nil]; decide)⟩, hsl, (decode_encode 3 q d (by decide) (by decide) hq hd).2]
  have := lastN_skip s 1 (n - 1) (fun i hi hi2 => by
    rw [state_place s n i h1 h2 hl (by omega), pn i (by omega) (by omega), state_ffs]; decide)
  unfold last
  rw [hl, slots_n n h1 h2, show n = 1 + (n - 1) by omega, this, h01]
theorem fr_cnt {s : List UInt8} {n g q d : Nat} (h1 : 1 ≤ n) (h2 : n ≤ 12) (hg : g < 18446744073709551616) (hq : q < 18446744073709551616) (hd : d < 18446744073709551616) (h : Fr s n g q d) : Cnt s n g q d :=
  ⟨h.len, by rw [h.p0]; exact good_encode 0 1 g 0 (by decide) (by decide) hg (by decide) (by decide), by rw [h.p0, (decode_encode 1 g 0 (by decide) (by decide) hg (by decide)).2], by rw [last_two s n q d h1 h2 h.len h.p1 h.pn hq hd]; exact ⟨rfl, rfl, rfl⟩⟩
structure St0 (s : List UInt8) (n : Nat) : Prop where
  len : s.length = 24 * n + 24
  pn : ∀ i, i ≤ n → place s i = ffs 24
structure St1 (s : List UInt8) (n : Nat) (x : List UInt8) : Prop where
  len : s.length = 24 * n + 24
  p0 : place s 0 = ffs 24
  p1 : place s 1 = x
  pn : ∀ i, 2 ≤ i → i ≤ n → place s i = ffs 24
structure St2 (s : List UInt8) (n : Nat) (x y : List UInt8) : Prop where
  len : s.length = 24 * n + 24
  p0 : place s 0 = y
  p1 : place s 1 = x
  pn : ∀ i, 2 ≤ i → i ≤ n → place s i = ffs 24
theorem st_era (s : List UInt8) (n b : Nat) (h : s.length = 24 * n + 24) : St0 (bOp s ⟨2, b, 0, []⟩) n := by
  unfold bOp
  rw [if_neg (by simp), h]
  exact ⟨ffs_length _, fun i hi => place_ffs n i hi⟩
theorem st_b3 (s : List UInt8) (n b q d : Nat) (h1 : 1 ≤ n) (h : St0 s n) : St1 (bOp s ⟨1, b, 24 * 1 + 0, body 3 q d⟩) n (body 3 q d ++ [255, 255]) := by
  obtain ⟨hl, hp⟩ := bProg s (body 3 q d) n 1 0 b h.len h1 (by rw [body_length]; omega)
  refine ⟨hl, ?_, ?_, fun i hi hi2 => ?_⟩
  · rw [hp 0 (by omega), if_neg (by decide), h.pn 0 (by omega)]
  · rw [hp 1 h1, if_pos rfl, h.pn 1 h1, body_over]
  · rw [hp i hi2, if_neg (by omega), h.pn i hi2]
theorem st_m3 (s : List UInt8) (n b q d : Nat) (h1 : 1 ≤ n) (h : St1 s n (body 3 q d ++ [255, 255])) : St1 (bOp s ⟨1, b, 24 * 1 + 22, [90, 60]⟩) n (encode 3 q d) := by
  obtain ⟨hl, hp⟩ := bProg s [90, 60] n 1 22 b h.len h1 (by decide)
  refine ⟨hl, ?_, ?_, fun i hi hi2 => ?_⟩
  · rw [hp 0 (by omega), if_neg (by decide), h.p0]
  · rw [hp 1 h1, if_pos rfl, h.p1, mark_over]
  · rw [hp i hi2, if_neg (by omega), h.pn i hi hi2]
theorem st_b1 (s : List UInt8) (n b g : Nat) (x : List UInt8) (h1 : 1 ≤ n) (h : St1 s n x) : St2 (bOp s ⟨1, b, 24 * 0 + 0, body 1 g 0⟩) n x (body 1 g 0 ++ [255, 255]) := by
  obtain ⟨hl, hp⟩ := bProg s (body 1 g 0) n 0 0 b h.len (by omega) (by rw [body_length]; omega)
  refine ⟨hl, ?_, ?_, fun i hi hi2 => ?_⟩
  · rw [hp 0 (by omega), if_pos rfl, h.p0, body_over]
  · rw [hp 1 h1, if_neg (by decide), h.p1]
  · rw [hp i hi2, if_neg (by omega), h.pn i hi hi2]
theorem st_m1 (s : List UInt8) (n b g : Nat) (x : List UInt8) (h1 : 1 ≤ n) (h : St2 s n x (body 1 g 0 ++ [255, 255])) : St2 (bOp s ⟨1, b, 24 * 0 + 22, [90, 60]⟩) n x (encode 1 g 0) := by
  obtain ⟨hl, hp⟩ := bProg s [90, 60] n 0 22 b h.len (by omega) (by decide)
  refine ⟨hl, ?_, ?_, fun i hi hi2 => ?_⟩
  · rw [hp 0 (by omega), if_pos rfl, h.p0, mark_over]
  · rw [hp 1 h1, if_neg (by decide), h.p1]
  · rw [hp i hi2, if_neg (by omega), h.pn i hi hi2]
theorem kill_len (s : List UInt8) (n b : Nat) (h : s.length = 24 * n + 24) : (bOp s (killOp b)).length = 24 * n + 24 := (bProg s [0, 0] n 0 0 b h (by omega) (by decide)).1
theorem tail_whole (s : List UInt8) (n b g q d : Nat) (h1 : 1 ≤ n) (h : s.length = 24 * n + 24) : Fr ((freshTail b g q d).foldl bOp s) n g q d := by
  have t := st_m1 _ n b g _ h1 (st_b1 _ n b g _ h1 (st_m3 _ n b q d h1 (st_b3 _ n b q d h1 (st_era s n b h))))
  exact ⟨t.len, t.p0, t.p1, t.pn⟩
structure Mid (s s' : List UInt8) (n g q d : Nat) : Prop where
  len : s'.length = 24 * n + 24
  hdr : Cnt s' n g q d ∨ Hd (place s' 0) ∨ place s' 0 = place s 0
theorem tail_torn (s m : List UInt8) (n b g q d k : Nat) (o : Op) (h1 : 1 ≤ n) (h2 : n ≤ 12) (hg : g < 18446744073709551616) (hq : q < 18446744073709551616) (hd : d < 18446744073709551616) (h : s.length = 24 * n + 24) (hh : Hd (place s 0)) (ho : (freshTail b g q d)[k]? = some o) :
    (bTear (((freshTail b g q d).take k).foldl bOp s) o m).length = 24 * n + 24 ∧ (Cnt (bTear (((freshTail b g q d).take k).foldl bOp s) o m) n g q d ∨ Hd (place (bTear (((freshTail b g q d).take k).foldl bOp s) o m) 0)) := by
  have t0 := st_era s n b h
  have t1 := st_b3 _ n b q d h1 t0
  have t2 := st_m3 _ n b q d h1 t1
  have t3 := st_b1 _ n b g _ h1 t2
  match k, ho with
  | 0, ho =>
    obtain rfl : (⟨2, b, 0, []⟩ : Op) = o := by simpa [freshTail] using ho
    obtain ⟨hl, hp⟩ := bEra s m n b 0 h [] 0
    exact ⟨hl, .inr (hd_mix _ _ hh hp)⟩
  | 1, ho =>
    obtain rfl : (⟨1, b, 24 * 1 + 0, body 3 q d⟩ : Op) = o := by simpa [freshTail] using ho
    obtain ⟨hl, hp⟩ := bTorn (bOp s ⟨2, b, 0, []⟩) (body 3 q d) m n 1 0 b t0.len h1 (by rw [body_length]; omega)
    refine ⟨hl, .inr ?_⟩
    rw [show ((freshTail b g q d).take 1).foldl bOp s = bOp s ⟨2, b, 0, []⟩ from rfl]
    rw [hp 0 (by omega), if_neg (by decide), t0.pn 0 (by omega)]
    exact hd_ffs
  | 2, ho =>
    obtain rfl : (⟨1, b, 24 * 1 + 22, [90, 60]⟩ : Op) = o := by simpa [freshTail] using ho
    obtain ⟨hl, hp⟩ := bTorn _ [90, 60] m n 1 22 b t1.len h1 (by decide)
    refine ⟨hl, .inr ?_⟩
    rw [show ((freshTail b g q d).take 2).foldl bOp s = bOp (bOp s ⟨2, b, 0, []⟩) ⟨1, b, 24 * 1 + 0, body 3 q d⟩ from rfl]
    rw [hp 0 (by omega), if_neg (by decide), t1.p0]
    exact hd_ffs
  | 3, ho =>
    obtain rfl : (⟨1, b, 24 * 0 + 0, body 1 g 0⟩ : Op) = o := by simpa [freshTail] using ho
    obtain ⟨hl, hp⟩ := bTorn _ (body 1 g 0) m n 0 0 b t2.len (by omega) (by rw [body_length]; omega)
    refine ⟨hl, .inr ?_⟩
    rw [show ((freshTail b g q d).take 3).foldl bOp s = bOp (bOp (bOp s ⟨2, b, 0, []⟩) ⟨1, b, 24 * 1 + 0, body 3 q d⟩) ⟨1, b, 24 * 1 + 22, [90, 60]⟩ from rfl]
    rw [hp 0 (by omega), if_pos rfl, t2.p0]
    exact .inr (.inr (.inl (torn_body 1 g 0 m)))
  | 4, ho =>
    obtain rfl : (⟨1, b, 24 * 0 + 22, [90, 60]⟩ : Op) = o := by simpa [freshTail] using ho
    obtain ⟨hl, hp⟩ := bTorn _ [90, 60] m n 0 22 b t3.len (by omega) (by decide)
    refine ⟨hl, ?_⟩
    rw [show ((freshTail b g q d).take 4).foldl bOp s = bOp (bOp (bOp (bOp s ⟨2, b, 0, []⟩) ⟨1, b, 24 * 1 + 0, body 3 q d⟩) ⟨1, b, 24 * 1 + 22, [90, 60]⟩) ⟨1, b, 24 * 0 + 0, body 1 g 0⟩ from rfl]
    have p0 := hp 0 (by omega)
    rw [if_pos rfl, t3.p0] at p0
    rcases torn_mark 1 g 0 m with e | e
    · left
      rw [e] at p0
      exact fr_cnt h1 h2 hg hq hd ⟨hl, p0, by rw [hp 1 h1, if_neg (by decide), t3.p1], fun i hi hi2 => by rw [hp i hi2, if_neg (by omega), t3.pn i hi hi2]⟩
    · right
      rw [p0]
      exact .inr (.inr e)
  | k + 5, ho => simp [freshTail] at ho
theorem killed_hd (s : List UInt8) (n b : Nat) (h : s.length = 24 * n + 24) : Hd (place (bOp s (killOp b)) 0) := by
  left
  unfold killOp
  rw [(bProg s [0, 0] n 0 0 b h (by omega) (by decide)).2 0 (by omega), if_pos rfl, over_get _ _ _ (by rw [andB_length, sub_length _ _ _ (by rw [place_len s n 0 h (by omega)]; decide), place_len s n 0 h (by omega)]; decide)]
  rw [if_neg (by omega), andB_length, sub_length _ _ _ (by rw [place_len s n 0 h (by omega)]; decide), if_pos (by decide)]
  have hsl : (sub (place s 0) 0 ([0, 0] : List UInt8).length).length = 2 := sub_length _ _ _ (by rw [place_len s n 0 h (by omega)]; decide)
  generalize sub (place s 0) 0 ([0, 0] : List UInt8).length = y at *
  match y, hsl with
  | [y0, y1], _ =>
    simp only [andB, List.headD_cons, List.getElem?_cons_zero, Nat.sub_self, UInt8.and_zero]
    decide
theorem kill_torn (s m : List UInt8) (n b : Nat) (h : s.length = 24 * n + 24) (hg : stateOf 0 (place s 0) = 2) :
    (bTear s (killOp b) m).length = 24 * n + 24 ∧ (Hd (place (bTear s (killOp b) m) 0) ∨ place (bTear s (killOp b) m) 0 = place s 0) := by
  obtain ⟨hl, hp⟩ := bTorn s [0, 0] m n 0 0 b h (by omega) (by decide)
  refine ⟨hl, ?_⟩
  have p0 := hp 0 (by omega)
  rw [if_pos rfl] at p0
  unfold killOp
  rw [p0]
  obtain ⟨_, hl24, g0, _, g1⟩ := good_parts 0 _ hg
  have g1 := g1 rfl
  have hsl : (sub (place s 0) 0 ([0, 0] : List UInt8).length).length = 2 := sub_length _ _ _ (by rw [hl24]; decide)
  have hsub : place s 0 = sub (place s 0) 0 ([0, 0] : List UInt8).length ++ (place s 0).drop 2 := by unfold sub; rw [List.drop_zero]; exact (List.take_append_drop 2 _).symm
  have hy : (tornB (sub (place s 0) 0 ([0, 0] : List UInt8).length) [0, 0] m).length = 2 := by rw [tornB_length, hsl]
  have hov : over (place s 0) 0 (tornB (sub (place s 0) 0 ([0, 0] : List UInt8).length) [0, 0] m) = tornB (sub (place s 0) 0 ([0, 0] : List UInt8).length) [0, 0] m ++ (place s 0).drop 2 := by
    unfold over
    rw [List.take_zero, List.nil_append, hy]
  rw [hov]
  generalize tornB (sub (place s 0) 0 ([0, 0] : List UInt8).length) [0, 0] m = y at *
  match y, hy with
  | [y0, y1], _ =>
    by_cases e0 : y0 = 165
    · by_cases e1 : y1 = 1
      · right
        subst e0; subst e1
        generalize place s 0 = p at *
        match p, hl24, g0, g1 with
        | a :: c :: r, _, g0, g1 =>
          obtain rfl : a = 165 := by simpa using g0
          obtain rfl : c = 1 := by simpa using g1
          rfl
      · exact .inl (.inr (.inl fun e => e1 (by simpa using e)))
    · exact .inl (.inl fun e => e0 (by simpa using e))
theorem fresh_play (s m : List UInt8) (n b g q d : Nat) (kill : Bool) (cut : Int) (h1 : 1 ≤ n) (h2 : n ≤ 12) (hg : g < 18446744073709551616) (hq : q < 18446744073709551616) (hd : d < 18446744073709551616) (h : s.length = 24 * n + 24) :
    ((cut < 0 ∨ ((freshOps b kill g q d).length : Int) ≤ cut) ∧ (bPlay s (freshOps b kill g q d) 0 cut m).2.1 = (freshOps b kill g q d).length ∧ Fr (bPlay s (freshOps b kill g q d) 0 cut m).1 n g q d ∧ (bPlay s (freshOps b kill g q d) 0 cut m).2.2 = 1) ∨
    (0 ≤ cut ∧ cut < (freshOps b kill g q d).length ∧ ((bPlay s (freshOps b kill g q d) 0 cut m).2.1 : Int) = cut ∧ (bPlay s (freshOps b kill g q d) 0 cut m).2.2 ≤ 1 ∧
      ((kill = false → Hd (place s 0)) → (kill = true → stateOf 0 (place s 0) = 2) → Mid s (bPlay s (freshOps b kill g q d) 0 cut m).1 n g q d)) := by
  by_cases hc : cut < 0 ∨ ((freshOps b kill g q d).length : Int) ≤ cut
  · left
    rw [bPlay_whole _ s 0 cut m (by omega)]
    refine ⟨hc, by simp, ?_, ?_⟩
    · unfold freshOps
      split
      · exact tail_whole _ n b g q d h1 (kill_len s n b h)
      · exact tail_whole s n b g q d h1 h
    · unfold freshOps
      split <;> rfl
  · right
    obtain ⟨k, rfl⟩ : ∃ k : Nat, cut = (k : Int) := ⟨cut.toNat, by omega⟩
    have hk : k < (freshOps b kill g q d).length := by omega
    have ho := List.getElem?_eq_getElem hk
    have hb := bPlay_cut _ s 0 k m _ ho
    rw [Nat.zero_add] at hb
    rw [hb]
    refine ⟨by omega, by omega, by rfl, ?_, ?_⟩
    · have : ∀ l : List Op, ∀ j, costs (l.take j) ≤ costs l := by
        intro l
        induction l with
        | nil => intro j; simp [costs]
        | cons o l ih =>
          intro j
          cases j with
          | zero => simp [costs]
          | succ j => have := ih j; simp only [costs, List.take_succ_cons, List.map_cons, List.sum_cons] at *; omega
      refine Nat.le_trans (this _ _) ?_
      unfold freshOps
      split <;> exact Nat.le_refl 1
    · intro a1 a2
      cases kill with
      | false =>
        obtain ⟨hl, hc⟩ := tail_torn s m n b g q d k _ h1 h2 hg hq hd h (a1 rfl) ho
        exact ⟨hl, hc.elim .inl fun hh => .inr (.inl hh)⟩
      | true =>
        cases k with
        | zero =>
          obtain ⟨hl, hc⟩ := kill_torn s m n b h (a2 rfl)
          exact ⟨hl, .inr hc⟩
        | succ k =>
          obtain ⟨hl, hc⟩ := tail_torn (bOp s (killOp b)) m n b g q d k _ h1 h2 hg hq hd (kill_len s n b h) (killed_hd s n b h) ho
          exact ⟨hl, hc.elim .inl fun hh => .inr (.inl hh)⟩
end Dw
end Go.Proofs.YtjibbchfndhhpaaGreatDoor
namespace Go.Proofs.YtjibbchfndhhpaaGreatDoor
namespace Dw
def tz (l : List Nat) : Nat := (l.reverse.takeWhile (· == 0)).length
def next (s : List UInt8) : Nat := if tz (states s) = 0 then 0 else slots s.length - tz (states s) + 1
theorem tw_spec : ∀ (l : List Nat) (b : Nat), b ≤ l.length → (∀ k, k < b → l[k]? = some 0) → (b = l.length ∨ l[b]? ≠ some 0) → (l.takeWhile (· == 0)).length = b
  | [], b, h, _, _ => by simp at h; simp [h]
  | x :: xs, 0, _, _, h => by
    have : x ≠ 0 := by simpa using h
    rw [List.takeWhile_cons, if_neg (by simpa using this)]
    rfl
  | x :: xs, b + 1, hl, h, h2 => by
    have hx : x = 0 := by simpa using h 0 (by omega)
    rw [List.takeWhile_cons, if_pos (by simpa using hx), List.length_cons, tw_spec xs b (by simpa using hl) (fun k hk => by simpa using h (k + 1) (by omega)) (by simpa using h2)]
theorem tz_spec (l : List Nat) (b : Nat) (hb : b ≤ l.length) (h : ∀ k, k < b → l[l.length - 1 - k]? = some 0) (h2 : b = l.length ∨ l[l.length - 1 - b]? ≠ some 0) : tz l = b := by
  unfold tz
  apply tw_spec
  · simpa using hb
  · intro k hk
    rw [List.getElem?_reverse (by omega)]
    exact h k hk
  · by_cases hb' : b = l.length
    · left; simpa using hb'
    · right
      rw [List.getElem?_reverse (by omega)]
      exact h2.resolve_left hb'
theorem tz_exists (l : List Nat) : ∃ b, b ≤ l.length ∧ (∀ k, k < b → l[l.length - 1 - k]? = some 0) ∧ (b = l.length ∨ l[l.length - 1 - b]? ≠ some 0) ∧ tz l = b := by
  have key : ∀ c, c ≤ l.length → ∃ b, b ≤ c ∧ (∀ k, k < b → l[l.length - 1 - k]? = some 0) ∧ (b = c ∨ l[l.length - 1 - b]? ≠ some 0) := by
    intro c
    induction c with
    | zero => intro _; exact ⟨0, Nat.le_refl _, fun _ h => by omega, .inl rfl⟩
    | succ c ih =>
      intro hc
      obtain ⟨b, hb, h1, h2⟩ := ih (by omega)
      rcases h2 with rfl | h2
      · by_cases h3 : l[l.length - 1 - b]? = some 0
        · refine ⟨b + 1, by omega, fun k hk => ?_, .inl rfl⟩
          by_cases e : k = b
          · rw [e]; exact h3
          · exact h1 k (by omega)
        · exact ⟨b, by omega, h1, .inr h3⟩
      · exact ⟨b, by omega, h1, .inr h2⟩
  obtain ⟨b, hb, h1, h2⟩ := key l.length (Nat.le_refl _)
  exact ⟨b, hb, h1, h2, tz_spec l b hb h1 h2⟩
theorem states_len (s : List UInt8) : (states s).length = slots s.length := by simp [states]
theorem states_get (s : List UInt8) (i : Nat) (h : i < slots s.length) : (states s)[i]? = some (state s (i + 1)) := by
  unfold states
  rw [List.getElem?_map, List.getElem?_range h]
  rfl
theorem next_pos (s : List UInt8) (n : Nat) (hn : slots s.length = n) (h : 0 < next s) : next s ≤ n ∧ ∀ i, next s ≤ i → i ≤ n → state s i = 0 := by
  obtain ⟨b, hb, h1, _, e⟩ := tz_exists (states s)
  rw [states_len, hn] at hb h1
  unfold next at h ⊢
  rw [e] at h ⊢
  by_cases h0 : b = 0
  · rw [if_pos h0] at h; omega
  rw [if_neg h0, hn]
  refine ⟨by omega, fun i hi hi2 => ?_⟩
  have := h1 (n - i) (by omega)
  rw [show n - 1 - (n - i) = i - 1 by omega, states_get s _ (by omega), show i - 1 + 1 = i by omega] at this
  simpa using this
theorem next_zero (s : List UInt8) (n : Nat) (hn : slots s.length = n) (h1 : 1 ≤ n) (h : state s n ≠ 0) : next s = 0 := by
  unfold next
  rw [if_pos]
  apply tz_spec
  · omega
  · intro k hk; omega
  · right
    rw [states_len, hn, states_get s _ (by omega), show n - 1 - 0 + 1 = n by omega]
    intro e
    exact h (by simpa using e)
theorem next_is (s : List UInt8) (n j : Nat) (hn : slots s.length = n) (h1 : 1 ≤ j) (h2 : j ≤ n) (hb : ∀ i, j ≤ i → i ≤ n → state s i = 0) (hp : j = 1 ∨ state s (j - 1) ≠ 0) : next s = j := by
  have e : tz (states s) = n - j + 1 := by
    apply tz_spec
    · rw [states_len, hn]; omega
    · intro k hk
      rw [states_len, hn, states_get s _ (by omega), hb _ (by omega) (by omega)]
    · rw [states_len, hn]
      rcases hp with rfl | hp
      · left; omega
      · by_cases e1 : j = 1
        · left; omega
        · right
          rw [states_get s _ (by omega), show n - 1 - (n - j + 1) + 1 = j - 1 by omega]
          intro e2
          exact hp (by simpa using e2)
  unfold next
  rw [e, if_neg (by omega), hn]
  omega
theorem blank_place (i : Nat) (p : List UInt8) (h : stateOf i p = 0) : p = ffs 24 := by
  unfold stateOf at h
  by_cases h5 : decodeE p = 5
  · unfold decodeE at h5
    by_cases h1 : p.length ≠ 24
    · rw [if_pos h1] at h5; cases h5
    rw [if_neg h1] at h5
    by_cases h2 : blankB p = true
    · unfold blankB at h2
      have hl : p.length = 24 := by omega
      have hc : p.count 255 = p.length := by simpa using h2
      unfold ffs
      rw [← hl]
      exact List.eq_replicate_iff.2 ⟨rfl, fun x hx => (List.count_eq_length.1 hc x hx).symm⟩
    · rw [if_neg h2] at h5
      repeat' (split at h5)
      all_goals (first | cases h5 | omega)
  · rw [if_neg h5] at h
    split at h <;> cases h
theorem last_keep (s s' : List UInt8) (n : Nat) (h1 : 1 ≤ n) (h2 : n ≤ 12) (hl : s.length = 24 * n + 24) (hl' : s'.length = 24 * n + 24) (j : Nat) (hp : ∀ i, 1 ≤ i → i ≤ n → i ≠ j → place s' i = place s i) (hj : 1 ≤ j → j ≤ n → stateOf j (place s j) ≠ 2 ∧ stateOf j (place s' j) ≠ 2) : last s' = last s := by
  unfold last
  rw [hl, hl', slots_n n h1 h2]
  apply lastN_congr
  intro i hi hi2
  by_cases e : i = j
  · subst e
    right
    rw [state_place s n i h1 h2 hl hi2, state_place s' n i h1 h2 hl' hi2]
    exact hj hi hi2
  · left
    rw [slot_place s n i h1 h2 hl hi2, slot_place s' n i h1 h2 hl' hi2, hp i hi hi2 e]
theorem last_add (s s' : List UInt8) (n q d j : Nat) (h1 : 1 ≤ n) (h2 : n ≤ 12) (hl : s.length = 24 * n + 24) (hl' : s'.length = 24 * n + 24) (hj : 1 ≤ j) (hj2 : j ≤ n) (hp : ∀ i, 1 ≤ i → i ≤ n → i ≠ j → place s' i = place s i)
    (hb : ∀ i, j ≤ i → i ≤ n → state s i = 0) (he : place s' j = encode 2 q d) (hq : q < 18446744073709551616) (hd : d < 18446744073709551616) (hs : (last s).2 ≠ 0 ∨ (last s).1.seq ≤ q) : last s' = (⟨2, q, d⟩, 0) := by
  have a : last s = lastN s (j - 1) := by
    unfold last
    rw [hl, slots_n n h1 h2]
    have := lastN_skip s (j - 1) (n - (j - 1)) (fun i hi hi2 => by rw [hb i (by omega) (by omega)]; decide)
    rw [← this, show j - 1 + (n - (j - 1)) = n by omega]
  have b : lastN s' (j - 1) = lastN s (j - 1) := by
    apply lastN_congr
    intro i hi hi2
    left
    rw [slot_place s n i h1 h2 hl (by omega), slot_place s' n i h1 h2 hl' (by omega), hp i hi (by omega) (by omega)]
  have c : lastN s' j = (⟨2, q, d⟩, 0) := by
    obtain ⟨k, rfl⟩ : ∃ k, j = k + 1 := ⟨j - 1, by omega⟩
    rw [Nat.add_sub_cancel] at a b
    rw [lastN_succ, b, ← a]
    have hsl : slot s' (k + 1) = encode 2 q d := by rw [slot_place s' n _ h1 h2 hl' hj2, he]
    have hst : state s' (k + 1) = 2 := by rw [state_place s' n _ h1 h2 hl' hj2, he]; exact good_encode _ 2 q d (by decide) (by decide) hq hd (by simp)
    have hr := (decode_encode 2 q d (by decide) (by decide) hq hd).2
    unfold lastStep
    rw [hsl, hr, if_pos ⟨hst, hs⟩]
  have e := lastN_skip s' j (n - j) (fun i hi hi2 => by
    rw [state_place s' n i h1 h2 hl' (by omega), hp i (by omega) (by omega) (by omega), ← state_place s n i h1 h2 hl (by omega), hb i (by omega) (by omega)]; decide)
  unfold last
  rw [hl', slots_n n h1 h2, show n = j + (n - j) by omega, e, c]
theorem append_play (s m : List UInt8) (n b g q d d0 j : Nat) (cut : Int) (h1 : 1 ≤ n) (h2 : n ≤ 12) (hq : q + 1 < 18446744073709551616) (hd : d < 18446744073709551616) (h : Cnt s n g q d0) (hj : next s = j) (hj1 : 1 ≤ j) :
    ((cut < 0 ∨ 2 ≤ cut) ∧ (bPlay s (appendOps b j (q + 1) d) 0 cut m).2.1 = 2 ∧ Cnt (bPlay s (appendOps b j (q + 1) d) 0 cut m).1 n g (q + 1) d ∧ (bPlay s (appendOps b j (q + 1) d) 0 cut m).2.2 = 0 ∧
      (∀ i, i ≤ n → place (bPlay s (appendOps b j (q + 1) d) 0 cut m).1 i = if i = j then encode 2 (q + 1) d else place s i)) ∨
    (0 ≤ cut ∧ cut < 2 ∧ ((bPlay s (appendOps b j (q + 1) d) 0 cut m).2.1 : Int) = cut ∧ (bPlay s (appendOps b j (q + 1) d) 0 cut m).2.2 = 0 ∧ (Cnt (bPlay s (appendOps b j (q + 1) d) 0 cut m).1 n g q d0 ∨ Cnt (bPlay s (appendOps b j (q + 1) d) 0 cut m).1 n g (q + 1) d)) := by
  have hsn : slots s.length = n := by rw [h.len, slots_n n h1 h2]
  obtain ⟨hjn, hbl⟩ := next_pos s n hsn (by omega)
  rw [hj] at hjn hbl
  have hpj : place s j = ffs 24 := blank_place j _ (by rw [← state_place s n j h1 h2 h.len hjn]; exact hbl j (Nat.le_refl _) hjn)
  have hgj : stateOf j (place s j) ≠ 2 := by rw [hpj, state_ffs]; decide
  have keep : ∀ s' : List UInt8, s'.length = 24 * n + 24 → (∀ i, i ≤ n → i ≠ j → place s' i = place s i) → stateOf j (place s' j) ≠ 2 → Cnt s' n g q d0 := by
    intro s' hl' hp hn
    refine ⟨hl', by rw [hp 0 (by omega) (by omega)]; exact h.hdr, by rw [hp 0 (by omega) (by omega)]; exact h.gen, ?_⟩
    rw [last_keep s s' n h1 h2 h.len hl' j (fun i _ h4 h5 => hp i h4 h5) fun _ _ => ⟨hgj, hn⟩]
    exact h.lst
  have new : ∀ s' : List UInt8, s'.length = 24 * n + 24 → (∀ i, i ≤ n → i ≠ j → place s' i = place s i) → place s' j = encode 2 (q + 1) d → Cnt s' n g (q + 1) d := by
    intro s' hl' hp he
    refine ⟨hl', by rw [hp 0 (by omega) (by omega)]; exact h.hdr, by rw [hp 0 (by omega) (by omega)]; exact h.gen, ?_⟩
    rw [last_add s s' n (q + 1) d j h1 h2 h.len hl' hj1 hjn (fun i _ h4 h5 => hp i h4 h5) hbl he hq hd (.inr (by rw [h.lst.2.1]; omega))]
    exact ⟨rfl, rfl, rfl⟩
  obtain ⟨l1, p1⟩ := bProg s (body 2 (q + 1) d) n j 0 b h.len hjn (by rw [body_length]; omega)
  have pj : place (bOp s ⟨1, b, 24 * j + 0, body 2 (q + 1) d⟩) j = body 2 (q + 1) d ++ [255, 255] := by rw [p1 j hjn, if_pos rfl, hpj, body_over]
  by_cases hc : cut < 0 ∨ 2 ≤ cut
  · left
    rw [bPlay_whole _ s 0 cut m (by unfold appendOps; simp only [List.length_cons, List.length_nil]; omega)]
    obtain ⟨l2, p2⟩ := bProg _ [90, 60] n j 22 b l1 hjn (by decide)
    have e : ∀ i, i ≤ n → place ((appendOps b j (q + 1) d).foldl bOp s) i = if i = j then encode 2 (q + 1) d else place s i := by
      intro i hi
      show place (bOp (bOp s ⟨1, b, 24 * j + 0, body 2 (q + 1) d⟩) ⟨1, b, 24 * j + 22, [90, 60]⟩) i = _
      rw [p2 i hi]
      by_cases hij : i = j
      · rw [if_pos hij, if_pos hij, hij, pj, mark_over]
      · rw [if_neg hij, if_neg hij, p1 i hi, if_neg hij]
    refine ⟨hc, rfl, new _ l2 (fun i hi hij => by rw [e i hi, if_neg hij]) (by rw [e j hjn, if_pos rfl]), rfl, e⟩
  · right
    rcases (by omega : cut = 0 ∨ cut = 1) with rfl | rfl
    · have hb := bPlay_cut (appendOps b j (q + 1) d) s 0 0 m ⟨1, b, 24 * j + 0, body 2 (q + 1) d⟩ rfl
      rw [show (((0 + 0 : Nat)) : Int) = 0 from rfl] at hb
      rw [hb]
      obtain ⟨l2, p2⟩ := bTorn s (body 2 (q + 1) d) m n j 0 b h.len hjn (by rw [body_length]; omega)
      rw [show ((appendOps b j (q + 1) d).take 0).foldl bOp s = s from rfl]
      refine ⟨by decide, by decide, rfl, rfl, .inl (keep _ l2 (fun i hi hij => by rw [p2 i hi, if_neg hij]) ?_)⟩
      rw [p2 j hjn, if_pos rfl, hpj]
      exact not_marked j _ (.inl (torn_body 2 (q + 1) d m))
    · have hb := bPlay_cut (appendOps b j (q + 1) d) s 0 1 m ⟨1, b, 24 * j + 22, [90, 60]⟩ rfl
      rw [show (((0 + 1 : Nat)) : Int) = 1 from rfl] at hb
      rw [hb]
      obtain ⟨l2, p2⟩ := bTorn _ [90, 60] m n j 22 b l1 hjn (by decide)
      refine ⟨by decide, by decide, rfl, rfl, ?_⟩
      rw [show ((appendOps b j (q + 1) d).take 1).foldl bOp s = bOp s ⟨1, b, 24 * j + 0, body 2 (q + 1) d⟩ from rfl]
      have po : ∀ i, i ≤ n → i ≠ j → place (bTear (bOp s ⟨1, b, 24 * j + 0, body 2 (q + 1) d⟩) ⟨1, b, 24 * j + 22, [90, 60]⟩ m) i = place s i := fun i hi hij => by rw [p2 i hi, if_neg hij, p1 i hi, if_neg hij]
      have pp := p2 j hjn
      rw [if_pos rfl, pj] at pp
      rcases torn_mark 2 (q + 1) d m with e | e
      · rw [e] at pp
        exact .inr (new _ l2 po pp)
      · rw [← pp] at e
        exact .inl (keep _ l2 po (not_marked j _ e))
end Dw
end Go.Proofs.YtjibbchfndhhpaaGreatDoor
namespace Go.Proofs.YtjibbchfndhhpaaGreatDoor
namespace Dw
def Fl.wearN (f : Fl) (k c : Nat) : Fl := if k = 0 then { f with e0 := f.e0 + c } else { f with e1 := f.e1 + c }
def doOp (f : Fl) (o : Op) : Fl := (f.put o.bank (bOp (f.bk o.bank) o)).wearN o.bank (cost o)
def tearOp (f : Fl) (o : Op) (m : List UInt8) : Fl := (f.put o.bank (bTear (f.bk o.bank) o m)).wearN o.bank (cost o)
def playL : Fl → List Op → Nat → Int → List UInt8 → Fl × Nat
  | f, [], i, _, _ => (f, i)
  | f, o :: os, i, cut, m => if (i : Int) = cut then (tearOp f o m, i) else playL (doOp f o) os (i + 1) cut m
def wornB (f : Fl) (k : Nat) : Bool := decide (f.li ≤ f.er k)
def freshF (f : Fl) (b g q d : Nat) : List Op := freshOps b (decide (state (f.bk b) 0 = 2)) g q d
def plan (f : Fl) (d : Nat) : List Op × Int :=
  if even f.a f.b = false then ([], 1)
  else if readE f.a f.b ≠ 0 then (if wornB f 0 = false then (freshF f 0 1 1 d, 0) else if wornB f 1 = false then (freshF f 1 1 1 d, 0) else ([], 4))
  else if (readS f.a f.b).seq = 18446744073709551615 then ([], 11)
  else if 0 < next (f.bk (readS f.a f.b).bank.toNat) then (appendOps (readS f.a f.b).bank.toNat (next (f.bk (readS f.a f.b).bank.toNat)) ((readS f.a f.b).seq + 1) d, 0)
  else if (readS f.a f.b).gen = 18446744073709551615 then ([], 11)
  else if wornB f (other (readS f.a f.b).bank.toNat) = true then ([], 4)
  else (freshF f (other (readS f.a f.b).bank.toNat) ((readS f.a f.b).gen + 1) ((readS f.a f.b).seq + 1) d, 0)
theorem fl_put_bk (f : Fl) (b : Nat) (s : List UInt8) (c : Nat) : ((f.put b s).wearN b c).bk b = s := by unfold Fl.put Fl.wearN Fl.bk; by_cases h : b = 0 <;> simp [h]
theorem fl_put_put (f : Fl) (b : Nat) (s t : List UInt8) (c c' : Nat) : (((f.put b s).wearN b c).put b t).wearN b c' = (f.put b t).wearN b (c' + c) := by
  unfold Fl.put Fl.wearN
  by_cases h : b = 0 <;> simp [h] <;> omega
theorem fl_put_self (f : Fl) (b : Nat) : (f.put b (f.bk b)).wearN b 0 = f := by unfold Fl.put Fl.wearN Fl.bk; by_cases h : b = 0 <;> simp [h]
theorem playL_bank (b : Nat) (cut : Int) (m : List UInt8) : ∀ (ops : List Op) (f : Fl) (i : Nat), (∀ o ∈ ops, o.bank = b) →
    playL f ops i cut m = ((f.put b (bPlay (f.bk b) ops i cut m).1).wearN b (bPlay (f.bk b) ops i cut m).2.2, (bPlay (f.bk b) ops i cut m).2.1)
  | [], f, i, _ => by unfold playL bPlay; rw [fl_put_self]
  | o :: os, f, i, h => by
    have ho : o.bank = b := h o (by simp)
    have ih := playL_bank b cut m os (doOp f o) (i + 1) fun o ho => h o (by simp [ho])
    unfold playL bPlay
    split
    · unfold tearOp; rw [ho]
    · rw [ih]
      unfold doOp
      rw [ho, fl_put_bk, fl_put_put]
theorem fresh_bank (b : Nat) (kill : Bool) (g q d : Nat) : ∀ o ∈ freshOps b kill g q d, o.bank = b := by
  intro o ho
  unfold freshOps freshTail killOp at ho
  split at ho <;> simp at ho
  · rcases ho with rfl | rfl | rfl | rfl | rfl | rfl <;> rfl
  · rcases ho with rfl | rfl | rfl | rfl | rfl <;> rfl
theorem append_bank (b j q d : Nat) : ∀ o ∈ appendOps b j q d, o.bank = b := by
  intro o ho
  unfold appendOps at ho
  simp at ho
  rcases ho with rfl | rfl <;> rfl
theorem fresh_len (b : Nat) (kill : Bool) (g q d : Nat) : (freshOps b kill g q d).length = if kill = true then 6 else 5 := by unfold freshOps; split <;> rfl
structure Cur where
  bank : Nat
  gen : Nat
  seq : Nat
  data : Nat
def seqOf : Option Cur → Nat
  | none => 0
  | some c => c.seq
def Stands (n N : Nat) (f : Fl) : Option Cur → Prop
  | none => (f.a.length = 24 * n + 24 ∧ Hd (place f.a 0)) ∧ (f.b.length = 24 * n + 24 ∧ Hd (place f.b 0))
  | some c => c.bank < 2 ∧ Cnt (f.bk c.bank) n c.gen c.seq c.data ∧ Oth (f.bk (1 - c.bank)) n c.gen ∧ c.gen ≤ c.seq ∧ c.seq ≤ N ∧ c.data < 18446744073709551616
structure Inv (n N : Nat) (f : Fl) (c : Option Cur) : Prop where
  n1 : 1 ≤ n
  n2 : n ≤ 12
  w0 : 0 ≤ f.e0 ∧ f.e0 ≤ N
  w1 : 0 ≤ f.e1 ∧ f.e1 ≤ N
  st : Stands n N f c
theorem inv_len {n N : Nat} {f : Fl} {c : Option Cur} (h : Inv n N f c) : f.a.length = 24 * n + 24 ∧ f.b.length = 24 * n + 24 := by
  have := h.st
  cases c with
  | none => exact ⟨this.1.1, this.2.1⟩
  | some c =>
    obtain ⟨hb, hc, ho, _⟩ := this
    have h1 := hc.len; have h2 := ho.len
    rcases (by omega : c.bank = 0 ∨ c.bank = 1) with e | e <;> rw [e] at h1 h2
    · exact ⟨h1, h2⟩
    · exact ⟨h2, h1⟩
theorem inv_read {n N : Nat} {f : Fl} {c : Option Cur} (h : Inv n N f c) :
    match c with
    | none => readS f.a f.b = psZero ∧ readE f.a f.b = 10
    | some c => readS f.a f.b = ⟨c.bank, c.gen, c.seq, c.data⟩ ∧ readE f.a f.b = 0 := by
  have hs := h.st
  cases c with
  | none => exact rdN _ _ (hd_unsound h.n1 h.n2 hs.1.1 hs.1.2) (hd_unsound h.n1 h.n2 hs.2.1 hs.2.2)
  | some c =>
    obtain ⟨hb, hc, ho, _⟩ := hs
    obtain ⟨s1, s2⟩ := cnt_gen h.n1 h.n2 hc
    have o1 := oth_gen h.n1 h.n2 ho
    obtain ⟨_, l2, l3⟩ := hc.lst
    rcases (by omega : c.bank = 0 ∨ c.bank = 1) with e | e <;> rw [e] at s1 s2 o1 l2 l3 <;> simp only [e]
    · have r := rd0 f.a f.b s1 (o1.elim .inl fun hlt => .inr (by change genN f.b < c.gen at hlt; change genN f.a = c.gen at s2; omega))
      rw [r.1, r.2]
      unfold ofT
      change (last f.a).1.seq = _ at l2
      change (last f.a).1.data = _ at l3
      change genN f.a = _ at s2
      rw [l2, l3, s2]
      exact ⟨rfl, rfl⟩
    · have r := rd1 f.a f.b s1 (o1.elim .inl fun hlt => .inr (by change genN f.a < c.gen at hlt; change genN f.b = c.gen at s2; omega))
      rw [r.1, r.2]
      unfold ofT
      change (last f.b).1.seq = _ at l2
      change (last f.b).1.data = _ at l3
      change genN f.b = _ at s2
      rw [l2, l3, s2]
      exact ⟨rfl, rfl⟩
theorem inv_even {n N : Nat} {f : Fl} {c : Option Cur} (h : Inv n N f c) : even f.a f.b = true := by
  obtain ⟨a, b⟩ := inv_len h
  unfold even
  rw [a, b, slots_n n h.n1 h.n2]
  have := h.n1
  simp
  omega
structure Done (n N : Nat) (f : Fl) (c : Option Cur) (d : Nat) (cut : Int) (m : List UInt8) : Prop where
  ok : (plan f d).2 = 0
  li : (playL f (plan f d).1 0 cut m).1.li = f.li
  res : ((cut < 0 ∨ ((plan f d).1.length : Int) ≤ cut) ∧ (playL f (plan f d).1 0 cut m).2 = (plan f d).1.length ∧ ∃ c', c'.seq = seqOf c + 1 ∧ c'.data = d ∧ Inv n (N + 1) (playL f (plan f d).1 0 cut m).1 (some c')) ∨
    (0 ≤ cut ∧ cut < (plan f d).1.length ∧ (playL f (plan f d).1 0 cut m).2 < (plan f d).1.length ∧ (Inv n (N + 1) (playL f (plan f d).1 0 cut m).1 c ∨ ∃ c', c'.seq = seqOf c + 1 ∧ c'.data = d ∧ Inv n (N + 1) (playL f (plan f d).1 0 cut m).1 (some c')))
  most : (plan f d).1.length ≤ 6
theorem fl_bk_li (f : Fl) (b : Nat) (s : List UInt8) (c : Nat) : ((f.put b s).wearN b c).li = f.li := by unfold Fl.put Fl.wearN; by_cases h : b = 0 <;> simp [h]
theorem fl_other (f : Fl) (b : Nat) (s : List UInt8) (c : Nat) (hb : b < 2) : ((f.put b s).wearN b c).bk (1 - b) = f.bk (1 - b) := by
  unfold Fl.put Fl.wearN Fl.bk
  rcases (by omega : b = 0 ∨ b = 1) with rfl | rfl <;> simp
theorem fl_wear (f : Fl) (b : Nat) (s : List UInt8) (c N : Nat) (hc : c ≤ 1) (h0 : 0 ≤ f.e0 ∧ f.e0 ≤ N) (h1 : 0 ≤ f.e1 ∧ f.e1 ≤ N) :
    (0 ≤ ((f.put b s).wearN b c).e0 ∧ ((f.put b s).wearN b c).e0 ≤ (N + 1 : Nat)) ∧ (0 ≤ ((f.put b s).wearN b c).e1 ∧ ((f.put b s).wearN b c).e1 ≤ (N + 1 : Nat)) := by
  unfold Fl.put Fl.wearN
  by_cases h : b = 0 <;> simp [h] <;> omega
theorem fresh_done {n N : Nat} {f : Fl} {c : Option Cur} (h : Inv n N f c) (hN : N + 1 < 18446744073709551615) (b g d : Nat) (cut : Int) (m : List UInt8) (hd : d < 18446744073709551616) (hb : b < 2) (hp : plan f d = (freshF f b g (seqOf c + 1) d, 0)) (hg : g ≤ seqOf c + 1)
    (hc : c = none ∧ g = 1 ∨ ∃ k, c = some k ∧ b = 1 - k.bank ∧ g = k.gen + 1) : Done n N f c d cut m := by
  have hsq : seqOf c ≤ N := by
    have := h.st
    cases c with
    | none => exact Nat.zero_le _
    | some k => exact this.2.2.2.2.1
  obtain ⟨la, lb⟩ := inv_len h
  have hl : (f.bk b).length = 24 * n + 24 := by unfold Fl.bk; split <;> assumption
  have hst : state (f.bk b) 0 = stateOf 0 (place (f.bk b) 0) := state_place _ n 0 h.n1 h.n2 hl (by omega)
  have hP := playL_bank b cut m (freshF f b g (seqOf c + 1) d) f 0 (fresh_bank _ _ _ _ _)
  have hF := fresh_play (f.bk b) m n b g (seqOf c + 1) d (decide (state (f.bk b) 0 = 2)) cut h.n1 h.n2 (by omega) (by omega) hd hl
  change _ ∨ _ at hF
  rw [show freshOps b (decide (state (f.bk b) 0 = 2)) g (seqOf c + 1) d = freshF f b g (seqOf c + 1) d from rfl] at hF
  have hm6 : (freshF f b g (seqOf c + 1) d).length ≤ 6 := by unfold freshF; rw [fresh_len]; split <;> omega
  have e1 : (plan f d).1 = freshF f b g (seqOf c + 1) d := by rw [hp]
  have e2 : (plan f d).2 = 0 := by rw [hp]
  -- the bank that was, seen from the new one
  have hold : ∀ s' e, e ≤ 1 → Cnt s' n g (seqOf c + 1) d → Inv n (N + 1) ((f.put b s').wearN b e) (some ⟨b, g, seqOf c + 1, d⟩) := by
    intro s' e he hcn
    obtain ⟨w0, w1⟩ := fl_wear f b s' e N he h.w0 h.w1
    refine ⟨h.n1, h.n2, w0, w1, hb, by show Cnt (Fl.bk _ b) n g _ d; rw [fl_put_bk]; exact hcn, ?_, hg, by show seqOf c + 1 ≤ N + 1; omega, hd⟩
    show Oth (Fl.bk _ (1 - b)) n g
    rw [fl_other _ _ _ _ hb]
    have hs := h.st
    rcases hc with ⟨rfl, _⟩ | ⟨k, rfl, hbk, hgk⟩
    · rcases (by omega : b = 0 ∨ b = 1) with rfl | rfl
      · exact ⟨hs.2.1, .inl hs.2.2⟩
      · exact ⟨hs.1.1, .inl hs.1.2⟩
    · obtain ⟨k2, kc, _⟩ := hs
      have : 1 - b = k.bank := by omega
      rw [this]
      exact ⟨kc.len, .inr ⟨kc.hdr, by rw [kc.gen]; omega⟩⟩
  refine ⟨e2, ?_, ?_, by rw [e1]; exact hm6⟩
  · rw [e1, hP]; exact fl_bk_li _ _ _ _
  rw [e1, hP]
  rcases hF with ⟨hcut, hn, hfr, hco⟩ | ⟨hc0, hc1, hn, hco, hmid⟩
  · exact .inl ⟨hcut, hn, _, rfl, rfl, hold _ _ (by omega) (fr_cnt h.n1 h.n2 (by omega) (by omega) hd hfr)⟩
  · right
    refine ⟨hc0, hc1, by dsimp only; omega, ?_⟩
    have hoth : Hd (place (f.bk b) 0) ∨ (stateOf 0 (place (f.bk b) 0) = 2 ∧ ∃ k, c = some k ∧ b = 1 - k.bank ∧ (decodeR (place (f.bk b) 0)).seq < k.gen) := by
      have hs := h.st
      rcases hc with ⟨rfl, _⟩ | ⟨k, rfl, hbk, hgk⟩
      · left
        rcases (by omega : b = 0 ∨ b = 1) with rfl | rfl
        · exact hs.1.2
        · exact hs.2.2
      · obtain ⟨k2, kc, ko, _⟩ := hs
        rw [← hbk] at ko
        exact ko.hdr.imp id fun hh => ⟨hh.1, k, rfl, hbk, hh.2⟩
    have hmid := hmid (fun hk => by
      rcases hoth with hh | hh
      · exact hh
      · rw [hst] at hk; simp [hh.1] at hk) (fun hk => by rw [hst] at hk; simpa using hk)
    rcases hmid.hdr with hcn | hh
    · exact .inr ⟨_, rfl, rfl, hold _ _ hco hcn⟩
    · left
      obtain ⟨w0, w1⟩ := fl_wear f b (bPlay (f.bk b) (freshF f b g (seqOf c + 1) d) 0 cut m).1 _ N hco h.w0 h.w1
      refine ⟨h.n1, h.n2, w0, w1, ?_⟩
      have hs := h.st
      rcases hc with ⟨rfl, _⟩ | ⟨k, rfl, hbk, hgk⟩
      · have hhd : Hd (place (bPlay (f.bk b) (freshF f b g (seqOf none + 1) d) 0 cut m).1 0) := by
          rcases hh with hh | hh
          · exact hh
          · rw [hh]
            rcases hoth with h' | ⟨_, k, hk, _⟩
            · exact h'
            · cases hk
        rcases (by omega : b = 0 ∨ b = 1) with rfl | rfl
        · exact ⟨⟨hmid.len, hhd⟩, hs.2⟩
        · exact ⟨hs.1, ⟨hmid.len, hhd⟩⟩
      · obtain ⟨k2, kc, ko, kg, ks, kd⟩ := hs
        refine ⟨k2, ?_, ?_, kg, by omega, kd⟩
        · have : k.bank = 1 - b := by omega
          rw [this, fl_other _ _ _ _ hb, ← this]
          exact kc
        · rw [← hbk, fl_put_bk]
          refine ⟨hmid.len, ?_⟩
          rcases hh with hh | hh
          · exact .inl hh
          · rw [hh]
            rw [← hbk] at ko
            exact ko.hdr
theorem step_done {n N : Nat} {f : Fl} {c : Option Cur} (h : Inv n N f c) (hN : N + 1 < 18446744073709551615) (d : Nat) (cut : Int) (m : List UInt8) (hd : d < 18446744073709551616) :
    ((plan f d).2 = 4 ∧ (plan f d).1 = [] ∧ f.li ≤ N) ∨ Done n N f c d cut m := by
  have he := inv_even h
  have hr := inv_read h
  have hs := h.st
  cases c with
  | none =>
    obtain ⟨r1, r2⟩ := hr
    have hp : plan f d = if wornB f 0 = false then (freshF f 0 1 1 d, 0) else if wornB f 1 = false then (freshF f 1 1 1 d, 0) else ([], 4) := by
      unfold plan
      rw [if_neg (by rw [he]; decide), if_pos (by rw [r2]; decide)]
    cases w0 : wornB f 0 with
    | false => exact .inr (fresh_done h hN 0 1 d cut m hd (by decide) (by rw [hp, if_pos w0]; rfl) (by decide) (.inl ⟨rfl, rfl⟩))
    | true =>
      cases w1 : wornB f 1 with
      | false => exact .inr (fresh_done h hN 1 1 d cut m hd (by decide) (by rw [hp, if_neg (by rw [w0]; decide), if_pos w1]; rfl) (by decide) (.inl ⟨rfl, rfl⟩))
      | true =>
        left
        rw [hp, if_neg (by rw [w0]; decide), if_neg (by rw [w1]; decide)]
        refine ⟨rfl, rfl, ?_⟩
        unfold wornB Fl.er at w0
        have h0 := h.w0.2
        simp at w0
        omega
  | some k =>
    obtain ⟨r1, r2⟩ := hr
    obtain ⟨k2, kc, ko, kg, ks, kd⟩ := hs
    have hp : plan f d = if 0 < next (f.bk k.bank) then (appendOps k.bank (next (f.bk k.bank)) (k.seq + 1) d, 0) else if wornB f (other k.bank) = true then ([], 4) else (freshF f (other k.bank) (k.gen + 1) (k.seq + 1) d, 0) := by
      unfold plan
      rw [if_neg (by rw [he]; decide), if_neg (by rw [r2]; decide), r1]
      dsimp only
      rw [if_neg (by omega), Int.toNat_natCast]
      by_cases h0 : 0 < next (f.bk k.bank)
      · rw [if_pos h0, if_pos h0]
      · rw [if_neg h0, if_neg h0, if_neg (by omega)]
    have hot : other k.bank = 1 - k.bank := by unfold other; split <;> omega
    by_cases hnx : 0 < next (f.bk k.bank)
    · right
      rw [if_pos hnx] at hp
      have e1 : (plan f d).1 = appendOps k.bank (next (f.bk k.bank)) (k.seq + 1) d := by rw [hp]
      have e2 : (plan f d).2 = 0 := by rw [hp]
      have hP := playL_bank k.bank cut m _ f 0 (append_bank k.bank (next (f.bk k.bank)) (k.seq + 1) d)
      have hA := append_play (f.bk k.bank) m n k.bank k.gen k.seq d k.data _ cut h.n1 h.n2 (by omega) hd kc rfl hnx
      have stand : ∀ s' e q' d', e ≤ 1 → k.seq ≤ q' → q' ≤ N + 1 → d' < 18446744073709551616 → Cnt s' n k.gen q' d' → Inv n (N + 1) ((f.put k.bank s').wearN k.bank e) (some ⟨k.bank, k.gen, q', d'⟩) := by
        intro s' e q' d' he h1 h2 hd' hcn
        obtain ⟨w0, w1⟩ := fl_wear f k.bank s' e N he h.w0 h.w1
        exact ⟨h.n1, h.n2, w0, w1, k2, by show Cnt (Fl.bk _ k.bank) n _ _ _; rw [fl_put_bk]; exact hcn, by show Oth (Fl.bk _ (1 - k.bank)) n _; rw [fl_other _ _ _ _ k2]; exact ko, by show k.gen ≤ q'; omega, h2, hd'⟩
      refine ⟨e2, by rw [e1, hP]; exact fl_bk_li _ _ _ _, ?_, by rw [e1]; exact (by decide : 2 ≤ 6)⟩
      rw [e1, hP]
      rcases hA with ⟨hcut, hn, hcn, hco, _⟩ | ⟨c0, c1, hn, hco, hcn⟩
      · exact .inl ⟨hcut, hn, _, rfl, rfl, stand _ _ (k.seq + 1) d (by omega) (by omega) (by omega) hd hcn⟩
      · refine .inr ⟨c0, c1, by dsimp only; rw [show (appendOps k.bank (next (f.bk k.bank)) (k.seq + 1) d).length = 2 from rfl]; omega, ?_⟩
        rcases hcn with hcn | hcn
        · exact .inl (stand _ _ k.seq k.data (by omega) (by omega) (by omega) kd hcn)
        · exact .inr ⟨_, rfl, rfl, stand _ _ (k.seq + 1) d (by omega) (by omega) (by omega) hd hcn⟩
    · rw [if_neg hnx] at hp
      cases hw : wornB f (other k.bank) with
      | true =>
        left
        rw [hp, if_pos hw]
        refine ⟨rfl, rfl, ?_⟩
        unfold wornB Fl.er at hw
        have h0 := h.w0.2; have h1 := h.w1.2
        simp at hw
        split at hw <;> omega
      | false =>
        right
        rw [if_neg (by rw [hw]; decide)] at hp
        exact fresh_done h hN (other k.bank) (k.gen + 1) d cut m hd (by rw [hot]; omega) hp (by show k.gen + 1 ≤ k.seq + 1; omega) (.inr ⟨k, rfl, hot, rfl⟩)
end Dw
end Go.Proofs.YtjibbchfndhhpaaGreatDoor
