/- What the statement's proof stands on, part 18: New, Law10, Round, Rd, PlainFl, Clear, And, RegionS, RClear, RPut, RPut3, RSt, Res, Res2. -/
import Derived.Test.YtjibbchfndhhpaaGreatDoorRc16
import Derived.Test.YtjibbchfndhhpaaGreatDoorRcShelf
import Derived.Test.YtjibbchfndhhpaaGreatDoorRc1
import Derived.Test.YtjibbchfndhhpaaGreatDoorRc15
import Derived.Orders
import Derived.Laws.IdiomStrings
import Derived.Test.YtjibbchfndhhpaaGreatDoorRc17
set_option linter.unusedSimpArgs false
set_option linter.unusedVariables false
set_option maxRecDepth 100000
set_option maxHeartbeats 4000000
namespace Go.Proofs.YtjibbchfndhhpaaGreatDoor
open Go.RowKit Go.Shelf
attribute [local go_sem] Oper.semAt_some
namespace Dw
def ffs (n : Nat) : List UInt8 := List.replicate n 255
theorem ffs_length (n : Nat) : (ffs n).length = n := by simp [ffs]
theorem repeatL_ff (n : Nat) : Lib.repeatL [255] n = ffs n := by
  induction n with
  | zero => rfl
  | succ n ih => rw [Lib.repeatL, ih]; rfl
end Dw
theorem repeat_ff (n : Nat) (hn : n ≤ 100000) (w : World) :
    Calls Tryz.prog 73 #[.string ⟨#[255]⟩, .int .i64 n] w fun e w' => e = .returned (.string ⟨(Dw.ffs n).toArray⟩) ∧ Below w.heap.size w w' := by
  rcases (by omega : n = 0 ∨ n = 1 ∨ 2 ≤ n) with rfl | rfl | h
  · refine (Tryz.strings_Repeat_zero _ _).mono ?_
    rintro e w' ⟨rfl, rfl⟩
    exact ⟨rfl, Below.refl _ _⟩
  · refine (Tryz.strings_Repeat_one _ _).mono ?_
    rintro e w' ⟨rfl, rfl⟩
    exact ⟨rfl, Below.refl _ _⟩
  · refine cb (Tryz.strings_Repeat_main ⟨#[255]⟩ n w h (by omega) (by rw [show (⟨#[255]⟩ : ByteArray).size = 1 from rfl]; omega) (by decide)) fun w' hb => ?_
    exact ⟨by rw [show (⟨#[255]⟩ : ByteArray).data.toList = [255] from rfl, Dw.repeatL_ff], hb⟩
theorem new_any (n l : Nat) (hn : n ≤ 400) (hl : l ≤ 1000) (w : World) :
    Calls Tryz.prog 33 #[.int .i64 n, .int .i64 l] w fun e w' => e = .returned (flashV (Dw.ffs n) (Dw.ffs n) 0 0 l) ∧ Below w.heap.size w w' := by
  have hB0 := (Below.refl w.heap.size w).alloc (Nat.le_refl _) (.cells (flashC [] [] 0 0 0) 41)
  have hC0 := han w (.cells (flashC [] [] 0 0 0) 41)
  have n1 : ¬ (n : Int) < 0 := by omega
  have n2 : ¬ (400 : Int) < (n : Int) := by omega
  have n3 : ¬ (l : Int) < 0 := by omega
  have n4 : ¬ (1000 : Int) < (l : Int) := by omega
  go_enter Tryz.func33, Tryz.ntmps33
  go_wp2_with fail
  refine cb (repeat_ff n (by omega) _) fun w1 hb1 => ?_
  have hC1 := (hb1.block w.heap.size (by simp)).trans hC0
  have hB1 := tr hB0 hb1
  clear hC0 hB0 hb1
  go_wp2_with (first | (refine lb hC1 rfl rfl rfl (by kernel_rfl) ?_) | (refine sb hC1 rfl rfl rfl rfl (by kernel_rfl) ?_))
  refine bodyPost_ret (rcr rfl (srh hC1) (by rfl) (by kernel_rfl)) rfl ⟨rfl, below_setRow hB1 (Nat.le_refl _) _⟩
end Go.Proofs.YtjibbchfndhhpaaGreatDoor
namespace Go.Proofs.YtjibbchfndhhpaaGreatDoor
open Go.RowKit Go.Shelf
attribute [local go_sem] Oper.semAt_some
namespace Dw
theorem encode_length (k q d : Nat) : (encode k q d).length = 24 := by unfold encode; rw [List.length_append, body_length]; rfl
end Dw
end Go.Proofs.YtjibbchfndhhpaaGreatDoor
namespace Go.Proofs.YtjibbchfndhhpaaGreatDoor
namespace Dw
theorem encode_parts (k q d : Nat) : encode k q d = [165] ++ ([UInt8.ofNat k] ++ (put 8 q ++ (put 8 d ++ (put 4 (rev4 (sum (head k q d))) ++ [90, 60])))) := by
  unfold encode body head
  simp
theorem not_blank (x : UInt8) (l : List UInt8) (h : x ≠ 255) : blankB (x :: l) = false := by
  unfold blankB
  rw [decide_eq_false_iff_not, List.count_cons_of_ne h, List.length_cons]
  have := List.count_le_length (a := (255 : UInt8)) (l := l)
  omega
theorem take18 (k q d : Nat) : (encode k q d).take 18 = head k q d := by
  unfold encode body
  rw [List.append_assoc, List.take_left' (head_length k q d)]
theorem decode_encode (k q d : Nat) (h1 : 1 ≤ k) (h3 : k ≤ 3) (hq : q < 18446744073709551616) (hd : d < 18446744073709551616) : decodeE (encode k q d) = 0 ∧ decodeR (encode k q d) = ⟨k, q, d⟩ := by
  have hp := parts 165 (UInt8.ofNat k) (put 8 q) (put 8 d) (put 4 (rev4 (sum (head k q d)))) [90, 60] (put_length 8 q) (put_length 8 d) (put_length 4 _)
  rw [← encode_parts] at hp
  obtain ⟨⟨p1, p2, p3⟩, p4⟩ := hp
  have hk : (UInt8.ofNat k).toNat = k := by simp; omega
  have g0 : (encode k q d).getD 0 0 = 165 := by rw [encode_parts]; rfl
  have g1 : (encode k q d).getD 1 0 = UInt8.ofNat k := by rw [encode_parts]; rfl
  have hE : decodeE (encode k q d) = 0 := by
    unfold decodeE
    rw [if_neg (by rw [encode_length]; simp), if_neg (by rw [encode_parts, List.singleton_append, not_blank 165 _ (by decide)]; decide), g0, if_neg (by simp), p3, take18, if_neg (by simp), g1, hk, if_neg (by omega), p4, if_neg (by simp)]
  refine ⟨hE, ?_⟩
  unfold decodeR
  rw [if_pos hE]
  unfold recOf
  rw [g1, hk, p1, p2, get_put, get_put, Nat.mod_eq_of_lt (by simpa using hq), Nat.mod_eq_of_lt (by simpa using hd)]
end Dw
end Go.Proofs.YtjibbchfndhhpaaGreatDoor
namespace Go.Proofs.YtjibbchfndhhpaaGreatDoor
namespace Dw
def ofT (s : List UInt8) (i : Int) : PS := ⟨i, genN s, (last s).1.seq, (last s).1.data⟩
theorem ofS_sound (s : List UInt8) (i : Int) (h : sound s = true) : ofS s i = ofT s i := by unfold ofS; rw [if_pos h]; rfl
theorem rd0 (a b : List UInt8) (ha : sound a = true) (h : sound b = false ∨ genN b ≤ genN a) : readS a b = ofT a 0 ∧ readE a b = 0 := by
  have e : best a b = ofT a 0 := by
    unfold best
    rw [← ofS_sound a 0 ha]
    split
    · rfl
    · rename_i hb
      rw [if_neg]
      rintro (h1 | h1)
      · rw [ha] at h1; cases h1
      · rcases h with h | h
        · exact hb h
        · omega
  unfold readS readE
  rw [e]
  exact ⟨if_neg (by simp [ofT]), if_neg (by simp [ofT])⟩
theorem rd1 (a b : List UInt8) (hb : sound b = true) (h : sound a = false ∨ genN a < genN b) : readS a b = ofT b 1 ∧ readE a b = 0 := by
  have e : best a b = ofT b 1 := by
    unfold best
    rw [← ofS_sound b 1 hb, if_neg (by rw [hb]; decide), if_pos h]
  unfold readS readE
  rw [e]
  exact ⟨if_neg (by simp [ofT]), if_neg (by simp [ofT])⟩
theorem rdN (a b : List UInt8) (ha : sound a = false) (hb : sound b = false) : readS a b = psZero ∧ readE a b = 10 := by
  have e : best a b = psNone := by unfold best ofS; rw [if_pos hb, if_neg (by rw [ha]; decide)]
  unfold readS readE
  rw [e]
  exact ⟨rfl, rfl⟩
end Dw
end Go.Proofs.YtjibbchfndhhpaaGreatDoor
namespace Go.Proofs.YtjibbchfndhhpaaGreatDoor
namespace Dw
structure Fl where
  a : List UInt8
  b : List UInt8
  e0 : Int
  e1 : Int
  li : Int
def Fl.bk (f : Fl) (k : Nat) : List UInt8 := if k = 0 then f.a else f.b
def Fl.er (f : Fl) (k : Nat) : Int := if k = 0 then f.e0 else f.e1
def Fl.put (f : Fl) (k : Nat) (s : List UInt8) : Fl := if k = 0 then { f with a := s } else { f with b := s }
structure Op where
  kind : Nat
  bank : Nat
  at_ : Nat
  data : List UInt8
def andB : List UInt8 → List UInt8 → List UInt8
  | [], _ => []
  | x :: xs, ys => (x &&& ys.headD 255) :: andB xs ys.tail
def tornB : List UInt8 → List UInt8 → List UInt8 → List UInt8
  | [], _, _ => []
  | x :: xs, ys, ms => (x &&& ~~~ (x &&& ~~~ ys.headD 255 &&& ms.headD 0)) :: tornB xs ys.tail ms.tail
def eraB : List UInt8 → List UInt8 → List UInt8
  | [], _ => []
  | x :: xs, ms => (if ms.headD 0 % 2 = 1 then 255 else x) :: eraB xs ms.tail
def sub (s : List UInt8) (at_ n : Nat) : List UInt8 := (s.drop at_).take n
def over (s : List UInt8) (at_ : Nat) (x : List UInt8) : List UInt8 := s.take at_ ++ (x ++ s.drop (at_ + x.length))
theorem andB_length : ∀ x y, (andB x y).length = x.length
  | [], _ => rfl
  | _ :: xs, _ => by simp [andB, andB_length xs]
theorem tornB_length : ∀ x y m, (tornB x y m).length = x.length
  | [], _, _ => rfl
  | _ :: xs, _, _ => by simp [tornB, tornB_length xs]
theorem eraB_length : ∀ x m, (eraB x m).length = x.length
  | [], _ => rfl
  | _ :: xs, _ => by simp [eraB, eraB_length xs]
theorem sub_length (s : List UInt8) (k n : Nat) (h : k + n ≤ s.length) : (sub s k n).length = n := by simp [sub]; omega
theorem over_length (s : List UInt8) (k : Nat) (x : List UInt8) (h : k + x.length ≤ s.length) : (over s k x).length = s.length := by simp [over]; omega
theorem over_get (s : List UInt8) (k : Nat) (x : List UInt8) (h : k + x.length ≤ s.length) (i : Nat) : (over s k x)[i]? = if i < k then s[i]? else if i < k + x.length then x[i - k]? else s[i]? := by
  unfold over
  rw [List.getElem?_append, List.length_take]
  have hm : min k s.length = k := by omega
  rw [hm]
  split
  · rename_i h1; rw [List.getElem?_take, if_pos h1]
  · rename_i h1
    rw [List.getElem?_append]
    split
    · rename_i h2; rw [if_pos (by omega)]
    · rename_i h2
      rw [if_neg (by omega), List.getElem?_drop]
      congr 1; omega
theorem place_get (s : List UInt8) (j i : Nat) : (place s j)[i]? = if i < 24 then s[24 * j + i]? else none := by
  unfold place
  rw [List.getElem?_take]
  split
  · rw [List.getElem?_drop]
  · rfl
theorem place_len (s : List UInt8) (n j : Nat) (h : s.length = 24 * n + 24) (hj : j ≤ n) : (place s j).length = 24 := by unfold place; simp; omega
theorem place_over (s x : List UInt8) (n j o i : Nat) (h : s.length = 24 * n + 24) (hj : j ≤ n) (ho : o + x.length ≤ 24) (hi : i ≤ n) :
    place (over s (24 * j + o) x) i = if i = j then over (place s i) o x else place s i := by
  apply List.ext_getElem?
  intro k
  rw [place_get]
  by_cases hk : k < 24
  · rw [if_pos hk, over_get _ _ _ (by omega)]
    by_cases e : i = j
    · subst e
      rw [if_pos rfl, over_get _ _ _ (by rw [place_len s n i h hi]; omega), place_get, if_pos hk]
      by_cases h1 : k < o
      · rw [if_pos (by omega), if_pos h1]
      · rw [if_neg (by omega), if_neg h1]
        by_cases h2 : k < o + x.length
        · rw [if_pos (by omega), if_pos h2]; congr 1; omega
        · rw [if_neg (by omega), if_neg h2]
    · rw [if_neg e, place_get, if_pos hk]
      by_cases h1 : 24 * i + k < 24 * j + o
      · rw [if_pos h1]
      · rw [if_neg h1, if_neg (by omega)]
  · rw [if_neg hk]
    split
    · rename_i e
      rw [List.getElem?_eq_none]
      rw [over_length _ _ _ (by rw [place_len s n i h hi]; omega), place_len s n i h hi]; omega
    · rw [place_get, if_neg hk]
theorem sub_place (s : List UInt8) (j o m : Nat) (ho : o + m ≤ 24) : sub s (24 * j + o) m = sub (place s j) o m := by
  unfold sub place
  apply List.ext_getElem?
  intro k
  simp only [List.getElem?_take, List.getElem?_drop]
  by_cases hk : k < m
  · rw [if_pos hk, if_pos hk, if_pos (by omega)]; congr 1; omega
  · rw [if_neg hk, if_neg hk]
theorem andB_ff : ∀ y : List UInt8, andB (ffs y.length) y = y
  | [] => rfl
  | x :: xs => by
    have h := andB_ff xs
    unfold ffs at *
    simp only [List.length_cons, List.replicate_succ, andB, List.headD_cons, List.tail_cons, h]
    congr 1
    rw [show (255 : UInt8) = -1 from rfl, UInt8.neg_one_and]
theorem eraB_get : ∀ (x m : List UInt8) (k : Nat), (eraB x m)[k]? = x[k]? ∨ (eraB x m)[k]? = some 255
  | [], _, _ => .inl (by simp [eraB])
  | x :: xs, m, 0 => by
    simp only [eraB, List.getElem?_cons_zero]
    split
    · exact .inr rfl
    · exact .inl rfl
  | x :: xs, m, k + 1 => by
    simp only [eraB, List.getElem?_cons_succ]
    exact eraB_get xs m.tail k
theorem ffs_get (n k : Nat) : (ffs n)[k]? = if k < n then some 255 else none := by unfold ffs; rw [List.getElem?_replicate]
theorem place_ffs (n j : Nat) (h : j ≤ n) : place (ffs (24 * n + 24)) j = ffs 24 := by
  apply List.ext_getElem?
  intro k
  rw [place_get, ffs_get, ffs_get]
  by_cases hk : k < 24
  · rw [if_pos hk, if_pos hk, if_pos (by omega)]
  · rw [if_neg hk, if_neg hk]
theorem sub_ffs (n k m : Nat) (h : k + m ≤ n) : sub (ffs n) k m = ffs m := by
  apply List.ext_getElem?
  intro i
  unfold sub
  rw [List.getElem?_take, ffs_get]
  split
  · rw [List.getElem?_drop, ffs_get, if_pos (by omega)]
  · rfl
theorem good_parts (i : Nat) (p : List UInt8) (h : stateOf i p = 2) : decodeE p = 0 ∧ p.length = 24 ∧ p[0]? = some 165 ∧ p.drop 22 = [90, 60] ∧ (i = 0 → p[1]? = some 1) := by
  unfold stateOf at h
  by_cases h5 : decodeE p = 5
  · rw [if_pos h5] at h; cases h
  · rw [if_neg h5] at h
    by_cases h0 : decodeE p = 0 ∧ ((decodeR p).kind = 1 ↔ i = 0)
    · obtain ⟨h0, hk⟩ := h0
      have hr : decodeR p = recOf p := by unfold decodeR; rw [if_pos h0]
      rw [hr] at hk
      have hd := h0
      unfold decodeE at hd
      by_cases h1 : p.length ≠ 24
      · rw [if_pos h1] at hd; cases hd
      rw [if_neg h1] at hd
      have hl : p.length = 24 := by omega
      by_cases h2 : blankB p = true
      · rw [if_pos h2] at hd; cases hd
      rw [if_neg h2] at hd
      by_cases h3 : p.getD 0 0 ≠ 165
      · rw [if_pos h3] at hd; cases hd
      rw [if_neg h3] at hd
      by_cases h4 : (p.drop 18).take 4 ≠ put 4 (rev4 (sum (p.take 18)))
      · rw [if_pos h4] at hd; cases hd
      rw [if_neg h4] at hd
      by_cases h6 : (p.getD 1 0).toNat < 1 ∨ 3 < (p.getD 1 0).toNat
      · rw [if_pos h6] at hd; cases hd
      rw [if_neg h6] at hd
      by_cases h7 : p.drop 22 ≠ [90, 60]
      · rw [if_pos h7] at hd; cases hd
      refine ⟨h0, hl, ?_, by simpa using h7, fun hi => ?_⟩
      · have h3' : p.getD 0 0 = 165 := by simpa using h3
        rw [List.getD_eq_getElem?_getD, List.getElem?_eq_getElem (by omega)] at h3'
        rw [List.getElem?_eq_getElem (by omega)]
        simpa using h3'
      · have h1' : (p.getD 1 0).toNat = 1 := hk.2 hi
        rw [List.getD_eq_getElem?_getD, List.getElem?_eq_getElem (by omega)] at h1'
        rw [List.getElem?_eq_getElem (by omega)]
        simp only [Option.getD_some] at h1'
        congr 1
        exact UInt8.toNat_inj.1 h1'
    · rw [if_neg h0] at h; cases h
def Hd (p : List UInt8) : Prop := p[0]? ≠ some 165 ∨ p[1]? ≠ some 1 ∨ p[22]? ≠ some 90 ∨ p[23]? ≠ some 60
theorem mark_get (p : List UInt8) (h : p.drop 22 = [90, 60]) : p[22]? = some 90 ∧ p[23]? = some 60 := by
  have h1 : (p.drop 22)[0]? = some 90 := by rw [h]; rfl
  have h2 : (p.drop 22)[1]? = some 60 := by rw [h]; rfl
  rw [List.getElem?_drop] at h1 h2
  exact ⟨h1, h2⟩
theorem hd_not_good (p : List UInt8) (h : Hd p) : stateOf 0 p ≠ 2 := by
  intro hg
  obtain ⟨_, _, h0, hm, h1⟩ := good_parts 0 p hg
  obtain ⟨m1, m2⟩ := mark_get p hm
  rcases h with h | h | h | h
  · exact h h0
  · exact h (h1 rfl)
  · exact h m1
  · exact h m2
theorem not_marked (i : Nat) (p : List UInt8) (h : p[22]? ≠ some 90 ∨ p[23]? ≠ some 60) : stateOf i p ≠ 2 := by
  intro hg
  obtain ⟨_, _, _, hm, _⟩ := good_parts i p hg
  obtain ⟨m1, m2⟩ := mark_get p hm
  exact h.elim (fun h => h m1) (fun h => h m2)
theorem hd_mix (p p' : List UInt8) (h : Hd p) (hm : ∀ k : Nat, p'[k]? = p[k]? ∨ p'[k]? = some 255) : Hd p' := by
  have key : ∀ (k : Nat) (v : UInt8), v ≠ 255 → p[k]? ≠ some v → p'[k]? ≠ some v := by
    intro k v hv hp hp'
    rcases hm k with e | e
    · exact hp (e ▸ hp')
    · rw [e] at hp'; exact hv (Option.some.inj hp').symm
  rcases h with h | h | h | h
  · exact .inl (key 0 _ (by decide) h)
  · exact .inr (.inl (key 1 _ (by decide) h))
  · exact .inr (.inr (.inl (key 22 _ (by decide) h)))
  · exact .inr (.inr (.inr (key 23 _ (by decide) h)))
theorem hd_ffs : Hd (ffs 24) := .inl (by decide)
theorem state_ffs (i : Nat) : stateOf i (ffs 24) = 0 := by
  unfold stateOf
  rw [if_pos]
  decide
end Dw
end Go.Proofs.YtjibbchfndhhpaaGreatDoor
namespace Go.Proofs.YtjibbchfndhhpaaGreatDoor
open Go.RowKit Go.Shelf
attribute [local go_sem] Oper.semAt_some
namespace Dw
def thr (x y m : List UInt8) (bh : UInt8) : List (Nat × UInt8 × UInt8 × UInt8) := (List.range x.length).map fun i => (i, x.getD i 0, y.getD i 255, m.getD i bh)
theorem thr_length (x y m : List UInt8) (bh : UInt8) : (thr x y m bh).length = x.length := by simp [thr]
theorem thr_get (x y m : List UInt8) (bh : UInt8) (k : Nat) (hk : k < x.length) : (thr x y m bh)[k]? = some (k, x.getD k 0, y.getD k 255, m.getD k bh) := by
  unfold thr
  rw [List.getElem?_map, List.getElem?_range hk]
  rfl
theorem thr_snoc (x y m : List UInt8) (bh : UInt8) (k : Nat) (hk : k < x.length) : (thr x y m bh).take (k + 1) = (thr x y m bh).take k ++ [(k, x.getD k 0, y.getD k 255, m.getD k bh)] := by
  rw [List.take_add_one, thr_get x y m bh k hk]
  rfl
theorem thr_split (x y m : List UInt8) (bh : UInt8) (k : Nat) (hk : k < x.length) : thr x y m bh = (thr x y m bh).take k ++ (k, x.getD k 0, y.getD k 255, m.getD k bh) :: (thr x y m bh).drop (k + 1) := by
  have h := (List.take_append_drop (k + 1) (thr x y m bh)).symm
  rw [thr_snoc x y m bh k hk, List.append_assoc] at h
  exact h
end Dw
abbrev thrV (t : Nat × UInt8 × UInt8 × UInt8) : Array Value := #[.int .i64 t.1, .agg #[.int .u8 t.2.1.toNat, .int .u8 t.2.2.1.toNat, .int .u8 t.2.2.2.toNat]]
theorem getD_byte (x : List UInt8) (k : Nat) (d : UInt8) (h : k < x.length) : x[k]'h = x.getD k d := by
  rw [List.getD_eq_getElem?_getD, List.getElem?_eq_getElem h]; rfl
theorem ba_get (x : List UInt8) (k : Nat) (h : k < (⟨x.toArray⟩ : ByteArray).size) : (⟨x.toArray⟩ : ByteArray)[k]'h = x.getD k 0 := by
  have h' : k < x.length := by simpa [bs_size] using h
  rw [← getD_byte x k 0 h']
  rfl
theorem getD_other (x : List UInt8) (k : Nat) (d e : UInt8) (h : k < x.length) : x.getD k d = x.getD k e := by rw [← getD_byte x k d h, getD_byte x k e h]
theorem getD_past (x : List UInt8) (k : Nat) (d : UInt8) (h : ¬ k < x.length) : x.getD k d = d := by rw [List.getD_eq_getElem?_getD, List.getElem?_eq_none (by omega)]; rfl
theorem wpListIn_store_block {F : Fence} {n : Nat} {P : Program} {w : World} {ops : Array Oper} {rest : List Oper} {o : Oper} {a : Act} {Q : Exit → Act → World → Prop} (hg : o.guard = none) (t : TypeId) (p v : Operand) (hop : o.op = .store t p v)
    {b : Nat} {c c' : Array Value} {t' : TypeId} (hp : a.eval p = .pointer (some ⟨b, 0, none⟩)) (hv : a.eval v = .agg c') (hb : w.heap[b]? = some (.cells c t' (0, 0)))
    (hi : (P.info? t).map (·.size) = some c'.size) (ho : c.size = c'.size) (h1 : c'.all (·.oneCell') = true)
    (h : wpListIn F n P ops Q rest (a.put o.dst undef) (w.setRow b c')) : wpListIn F n P ops Q (o :: rest) a w := by
  refine wpListIn_plain hg fun K hK => ?_
  have hl := run_storeVar_row (P := P) w b t' t c c' hb hi ho h1
  unfold Oper.wpIn
  refine ⟨?_, ?_⟩
  · simp [Oper.about, hop]
  · rw [Oper.semAt_plain F _ _ (by rw [hop]; intro c hc'; cases hc')]
    simp [execOp, hop, hp, hv, Instr.storeAt, Instr.sureAddr, hl, Result.andThen]
    exact hK _ _ h
theorem getL (x : List UInt8) (k : Nat) (h : k < x.length) : x[k]'h = x.getD k 0 := getD_byte x k 0 h
theorem e255 : (((255 : UInt8).toNat : Nat) : Int) = 255 := rfl
theorem cplaces_any (x y m : ByteArray) (bh : Int) (w : World) :
    Calls Tryz.prog 221 #[.string x, .string y, .string m, .int .u8 bh] w fun e w' =>
      e = .returned (.func (.func 229) #[] #[.pointer (some ⟨w.heap.size, 0, none⟩), .pointer (some ⟨w.heap.size + 3, 0, none⟩), .pointer (some ⟨w.heap.size + 1, 0, none⟩), .pointer (some ⟨w.heap.size + 2, 0, none⟩)]) ∧
      w' = (((w.alloc (.cells #[.string x] 9)).alloc (.cells #[.string y] 9)).alloc (.cells #[.string m] 9)).alloc (.cells #[.int .u8 bh] 5) := by
  go_enter Tryz.func221, Tryz.ntmps221
  go_wp2
  go_ret
  exact ⟨rfl, rfl⟩
theorem cplaces_tells (N : Nat) (x y m : List UInt8) (bh : UInt8) (hx : x.length ≤ 100000) (X : Nat → Prop) (w : World) (hX : ∀ k, N ≤ k → k ≤ N + 3 → ¬ X k)
    (hc0 : w.cell? ⟨N, 0, none⟩ = some (.string ⟨x.toArray⟩)) (hc1 : w.cell? ⟨N + 1, 0, none⟩ = some (.string ⟨y.toArray⟩)) (hc2 : w.cell? ⟨N + 2, 0, none⟩ = some (.string ⟨m.toArray⟩)) (hc3 : w.cell? ⟨N + 3, 0, none⟩ = some (.int .u8 bh.toNat)) :
    TellsG Tryz.prog 229 #[.pointer (some ⟨N, 0, none⟩), .pointer (some ⟨N + 3, 0, none⟩), .pointer (some ⟨N + 1, 0, none⟩), .pointer (some ⟨N + 2, 0, none⟩)] thrV (Dw.thr x y m bh) X (fun W k => W.heap.size ≤ k) w := fun n l J Jx W hW _ _ hJ _ hY h0 => by
  have k0 := (hW.cell (p := ⟨N, 0, none⟩) (lt_of_cell hc0) id).trans hc0
  have k1 := (hW.cell (p := ⟨N + 1, 0, none⟩) (lt_of_cell hc1) id).trans hc1
  have k2 := (hW.cell (p := ⟨N + 2, 0, none⟩) (lt_of_cell hc2) id).trans hc2
  have k3 := (hW.cell (p := ⟨N + 3, 0, none⟩) (lt_of_cell hc3) id).trans hc3
  have hl0 := lt_of_cell k0; have hl1 := lt_of_cell k1; have hl2 := lt_of_cell k2; have hl3 := lt_of_cell k3
  have Hlen := Lib.hid (Dw.thr_length x y m bh)
  have Hsplit := Lib.hid (Dw.thr_split x y m bh)
  have Hsnoc := Lib.hid (Dw.thr_snoc x y m bh)
  have hX0 := hX N (by omega) (by omega); have hX1 := hX (N + 1) (by omega) (by omega); have hX2 := hX (N + 2) (by omega) (by omega); have hX3 := hX (N + 3) (by omega) (by omega)
  clear hc0 hc1 hc2 hc3 hW hX
  refine callsIn_any (n := n + 1) ?_
  refine callsIn_of_wp Tryz.func229 rfl trivial ?_ rfl
  simp only [Tryz.ntmps229, List.size_toArray, List.length_cons, List.length_nil, Nat.reduceAdd, Nat.reduceSub, Array.replicate_succ, Array.replicate_zero, List.push_toArray, List.append_toArray, List.nil_append, List.cons_append]
  gi_wp2
  gi_loopw [10] (fun i wr => ∃ k : Nat, k ≤ x.length ∧ i = .int .i64 k ∧ J ((Dw.thr x y m bh).take k) wr ∧ KeepBut (fun g => X g ∨ W.heap.size ≤ g) W wr) (fun i _ => x.length - (intOf i).toNat)
  case atStart => exact ⟨0, Nat.zero_le _, rfl, h0, KeepBut.refl _ _⟩
  case round =>
    obtain ⟨k, hk, rfl, hJs, hkx⟩ := hrel
    have q0 := (hkx.cell (p := ⟨N, 0, none⟩) hl0 (by rintro (h | h); exact hX0 h; exact absurd h (by simp; omega))).trans k0
    have q1 := (hkx.cell (p := ⟨N + 1, 0, none⟩) hl1 (by rintro (h | h); exact hX1 h; exact absurd h (by simp; omega))).trans k1
    have q2 := (hkx.cell (p := ⟨N + 2, 0, none⟩) hl2 (by rintro (h | h); exact hX2 h; exact absurd h (by simp; omega))).trans k2
    have q3 := (hkx.cell (p := ⟨N + 3, 0, none⟩) hl3 (by rintro (h | h); exact hX3 h; exact absurd h (by simp; omega))).trans k3
    by_cases hlt : k < x.length
    · gi_wp2
      refine wpIn_letter open_wide [0, 1, 2, 3, 4] 5 6 (some 7) (NewBlock wr #[.int .u8 0, .int .u8 0, .int .u8 0] 307) rfl rfl (by kernel_rfl) (by kernel_rfl) (by kernel_rfl) rfl (fun v A B h hk => h.keep hk) ?_
      have i1 : (k : Int) < (x.length : Int) := by omega
      (apply rat; (focus (intro w' hk; obtain ⟨c1,c2⟩ := look2 hk q0 q3; repeat' (first | exact rn | ((first | refine' rv ?_ rfl rfl (by go_simp; first | done | with_reducible rfl | exact rfl) | refine' rs ?_ rfl rfl); try simp only [Act.put, List.setIfInBounds_toArray, List.set_cons_zero, List.set_cons_succ])))))
      refine ⟨rfl, sure_new (fun w' _ => by go_simp), ?_⟩
      rintro v W2 hk2 ⟨g, rfl, hg, hgc⟩
      simp only [List.drop_succ_cons, List.drop_zero, List.setIfInBounds_toArray, List.set_cons_zero, List.set_cons_succ]
      have hgW : W.heap.size ≤ g := Nat.le_trans hkx.size hg
      have hR := setRow_heap W2 g _ #[.int .u8 ((⟨x.toArray⟩ : ByteArray)[k]'(by rw [bs_size]; exact hlt)).toNat, .int .u8 255, .int .u8 bh.toNat] _ _ hgc
      have hJ3 := Lib.hid (hJ _ _ _ hJs ((hk2.mono (fun _ _ h => h.elim)).setRow (X := fun k => W.heap.size ≤ k) hgW #[.int .u8 ((⟨x.toArray⟩ : ByteArray)[k]'(by rw [bs_size]; exact hlt)).toNat, .int .u8 255, .int .u8 bh.toNat]))
      have hx3 := Lib.hid ((hkx.trans (hk2.mono (fun _ _ h => h.elim))).setRow (X := fun g => X g ∨ W.heap.size ≤ g) (.inr hgW) #[.int .u8 ((⟨x.toArray⟩ : ByteArray)[k]'(by rw [bs_size]; exact hlt)).toNat, .int .u8 255, .int .u8 bh.toNat])
      refine wpListIn_store_block rfl 307 _ _ rfl rfl rfl hgc (by kernel_rfl) rfl (by simp [Value.oneCell']) ?_
      generalize World.setRow W2 g _ = W3 at *
      clear hgc hk2 hg hJs hkx q0 q1 q2 q3
      simp only [ba_get] at hR
      obtain ⟨a0, a1, a2⟩ := cells3 hR
      have hgl := block_lt hR
      have q1 := (hx3.out.cell (p := ⟨N + 1, 0, none⟩) hl1 (by rintro (h | h); exact hX1 h; exact absurd h (by simp; omega))).trans k1
      have q2 := (hx3.out.cell (p := ⟨N + 2, 0, none⟩) hl2 (by rintro (h | h); exact hX2 h; exact absurd h (by simp; omega))).trans k2
      have n1 : N + 1 ≠ g := by omega
      have n2 : N + 2 ≠ g := by omega
      have Hs1 := Hsnoc.out k hlt; have Hs2 := Hsplit.out k hlt
      have f1 := frozen0 hR 1; have f2 := frozen0 hR 2
      by_cases hy : k < y.length
      · have j1 : (k : Int) < (y.length : Int) := by omega
        rw [getD_other y k 255 0 hy] at Hs1 Hs2
        by_cases hm : k < m.length
        · have j2 : (k : Int) < (m.length : Int) := by omega
          rw [getD_other m k bh 0 hm] at Hs1 Hs2
          have Hs1 := Lib.hid Hs1
          have hJ4 := hJ _ _ (World.setCell (World.setCell W3 ⟨g, 1, none⟩ (.int .u8 ((y.getD k 0).toNat : Int))) ⟨g, 2, none⟩ (.int .u8 ((m.getD k 0).toNat : Int))) hJ3.out (((KeepBut.refl (fun k => W.heap.size ≤ k) W3).setCell (p := ⟨g, 1, none⟩) hgW (.int .u8 ((y.getD k 0).toNat : Int))).setCell (p := ⟨g, 2, none⟩) hgW (.int .u8 ((m.getD k 0).toNat : Int)))
          have hx4 := hx3.out.trans (((KeepBut.refl (fun g => X g ∨ W.heap.size ≤ g) W3).setCell (p := ⟨g, 1, none⟩) (.inr hgW) (.int .u8 ((y.getD k 0).toNat : Int))).setCell (p := ⟨g, 2, none⟩) (.inr hgW) (.int .u8 ((m.getD k 0).toNat : Int)))
          obtain ⟨fn, tmps, assign, body, hy2, hR2⟩ := hY _ _ _ (World.setCell (World.setCell W3 ⟨g, 1, none⟩ (.int .u8 ((y.getD k 0).toNat : Int))) ⟨g, 2, none⟩ (.int .u8 ((m.getD k 0).toNat : Int))) Hs2 hJ4
          simp only [thrV] at hy2
          have HR2 := Lib.hid hR2; have hx5 := Lib.hid hx4; have Hy2 := Lib.hid hy2; have Hs3 := Lib.hid Hs2
          clear hJ4 hx4 hR2 hy2 Hs2 hY
          gi_wp2
          simp only [ba_get, getL]
          rw [Hy2.out, Oper.uponIn_round]
          refine ⟨fun h => by simp [Fence.wide] at h, ?_⟩
          rw [Nat.add_sub_cancel]
          refine HR2.out.mono ?_
          rintro e W5 (⟨rfl, hJ5, hk5⟩ | ⟨rfl, hJx5, _⟩)
          · gi_wp2
            go_roundw
            case rel => exact ⟨k + 1, by omega, by go_num, by rw [Hs1.out]; exact hJ5, hx5.out.trans (hk5.mono fun _ _ h => .inl h)⟩
            case measure => simp [intOf]; omega
          · gi_wp2
            refine bodyPost_ret (results_none rfl _ _ _) rfl ?_
            exact ⟨⟨_, rfl⟩, .inr ⟨_, ⟨_, by rw [List.append_assoc]; exact Hs3.out.symm⟩, hJx5⟩⟩
        · have j2 : ¬ (k : Int) < (m.length : Int) := by omega
          rw [getD_past m k bh hm] at Hs1 Hs2
          have Hs1 := Lib.hid Hs1
          have hJ4 := hJ _ _ (World.setCell W3 ⟨g, 1, none⟩ (.int .u8 ((y.getD k 0).toNat : Int))) hJ3.out ((KeepBut.refl (fun k => W.heap.size ≤ k) W3).setCell (p := ⟨g, 1, none⟩) hgW (.int .u8 ((y.getD k 0).toNat : Int)))
          have hx4 := hx3.out.trans ((KeepBut.refl (fun g => X g ∨ W.heap.size ≤ g) W3).setCell (p := ⟨g, 1, none⟩) (.inr hgW) (.int .u8 ((y.getD k 0).toNat : Int)))
          obtain ⟨fn, tmps, assign, body, hy2, hR2⟩ := hY _ _ _ (World.setCell W3 ⟨g, 1, none⟩ (.int .u8 ((y.getD k 0).toNat : Int))) Hs2 hJ4
          simp only [thrV] at hy2
          have HR2 := Lib.hid hR2; have hx5 := Lib.hid hx4; have Hy2 := Lib.hid hy2; have Hs3 := Lib.hid Hs2
          clear hJ4 hx4 hR2 hy2 Hs2 hY
          gi_wp2
          simp only [ba_get, getL]
          rw [Hy2.out, Oper.uponIn_round]
          refine ⟨fun h => by simp [Fence.wide] at h, ?_⟩
          rw [Nat.add_sub_cancel]
          refine HR2.out.mono ?_
          rintro e W5 (⟨rfl, hJ5, hk5⟩ | ⟨rfl, hJx5, _⟩)
          · gi_wp2
            go_roundw
            case rel => exact ⟨k + 1, by omega, by go_num, by rw [Hs1.out]; exact hJ5, hx5.out.trans (hk5.mono fun _ _ h => .inl h)⟩
            case measure => simp [intOf]; omega
          · gi_wp2
            refine bodyPost_ret (results_none rfl _ _ _) rfl ?_
            exact ⟨⟨_, rfl⟩, .inr ⟨_, ⟨_, by rw [List.append_assoc]; exact Hs3.out.symm⟩, hJx5⟩⟩
      · have j1 : ¬ (k : Int) < (y.length : Int) := by omega
        rw [getD_past y k 255 hy] at Hs1 Hs2
        by_cases hm : k < m.length
        · have j2 : (k : Int) < (m.length : Int) := by omega
          rw [getD_other m k bh 0 hm] at Hs1 Hs2
          have Hs1 := Lib.hid Hs1
          have hJ4 := hJ _ _ (World.setCell W3 ⟨g, 2, none⟩ (.int .u8 ((m.getD k 0).toNat : Int))) hJ3.out ((KeepBut.refl (fun k => W.heap.size ≤ k) W3).setCell (p := ⟨g, 2, none⟩) hgW (.int .u8 ((m.getD k 0).toNat : Int)))
          have hx4 := hx3.out.trans ((KeepBut.refl (fun g => X g ∨ W.heap.size ≤ g) W3).setCell (p := ⟨g, 2, none⟩) (.inr hgW) (.int .u8 ((m.getD k 0).toNat : Int)))
          obtain ⟨fn, tmps, assign, body, hy2, hR2⟩ := hY _ _ _ (World.setCell W3 ⟨g, 2, none⟩ (.int .u8 ((m.getD k 0).toNat : Int))) Hs2 hJ4
          simp only [thrV, e255] at hy2
          have HR2 := Lib.hid hR2; have hx5 := Lib.hid hx4; have Hy2 := Lib.hid hy2; have Hs3 := Lib.hid Hs2
          clear hJ4 hx4 hR2 hy2 Hs2 hY
          gi_wp2
          simp only [ba_get, getL]
          rw [Hy2.out, Oper.uponIn_round]
          refine ⟨fun h => by simp [Fence.wide] at h, ?_⟩
          rw [Nat.add_sub_cancel]
          refine HR2.out.mono ?_
          rintro e W5 (⟨rfl, hJ5, hk5⟩ | ⟨rfl, hJx5, _⟩)
          · gi_wp2
            go_roundw
            case rel => exact ⟨k + 1, by omega, by go_num, by rw [Hs1.out]; exact hJ5, hx5.out.trans (hk5.mono fun _ _ h => .inl h)⟩
            case measure => simp [intOf]; omega
          · gi_wp2
            refine bodyPost_ret (results_none rfl _ _ _) rfl ?_
            exact ⟨⟨_, rfl⟩, .inr ⟨_, ⟨_, by rw [List.append_assoc]; exact Hs3.out.symm⟩, hJx5⟩⟩
        · have j2 : ¬ (k : Int) < (m.length : Int) := by omega
          rw [getD_past m k bh hm] at Hs1 Hs2
          have Hs1 := Lib.hid Hs1
          have hJ4 := hJ _ _ W3 hJ3.out (KeepBut.refl (fun k => W.heap.size ≤ k) W3)
          have hx4 := hx3.out.trans (KeepBut.refl (fun g => X g ∨ W.heap.size ≤ g) W3)
          obtain ⟨fn, tmps, assign, body, hy2, hR2⟩ := hY _ _ _ W3 Hs2 hJ4
          simp only [thrV, e255] at hy2
          have HR2 := Lib.hid hR2; have hx5 := Lib.hid hx4; have Hy2 := Lib.hid hy2; have Hs3 := Lib.hid Hs2
          clear hJ4 hx4 hR2 hy2 Hs2 hY
          gi_wp2
          simp only [ba_get, getL]
          rw [Hy2.out, Oper.uponIn_round]
          refine ⟨fun h => by simp [Fence.wide] at h, ?_⟩
          rw [Nat.add_sub_cancel]
          refine HR2.out.mono ?_
          rintro e W5 (⟨rfl, hJ5, hk5⟩ | ⟨rfl, hJx5, _⟩)
          · gi_wp2
            go_roundw
            case rel => exact ⟨k + 1, by omega, by go_num, by rw [Hs1.out]; exact hJ5, hx5.out.trans (hk5.mono fun _ _ h => .inl h)⟩
            case measure => simp [intOf]; omega
          · gi_wp2
            refine bodyPost_ret (results_none rfl _ _ _) rfl ?_
            exact ⟨⟨_, rfl⟩, .inr ⟨_, ⟨_, by rw [List.append_assoc]; exact Hs3.out.symm⟩, hJx5⟩⟩
    · obtain rfl : k = x.length := by omega
      have hlt' : ¬ (x.length : Int) < (x.length : Int) := by omega
      gi_wp2
      go_end0
      exact ⟨⟨_, rfl⟩, .inl (by rw [← Hlen.out, List.take_length] at hJs; exact hJs)⟩
end Go.Proofs.YtjibbchfndhhpaaGreatDoor
namespace Go.Proofs.YtjibbchfndhhpaaGreatDoor
open Go.RowKit Go.Shelf
attribute [local go_sem] Oper.semAt_some
theorem alloc6 (w : World) (o0 o1 o2 o3 o4 o5 : Obj) (V : World) (h : ((((((w.alloc o0).alloc o1).alloc o2).alloc o3).alloc o4).alloc o5) = V) :
    V.heap.size = w.heap.size + 6 ∧ KeepBut (fun _ => False) w V ∧ V.heap[w.heap.size]? = some o0 ∧ V.heap[w.heap.size + 1]? = some o1 ∧ V.heap[w.heap.size + 2]? = some o2 ∧ V.heap[w.heap.size + 3]? = some o3 ∧ V.heap[w.heap.size + 4]? = some o4 ∧ V.heap[w.heap.size + 5]? = some o5 := by
  subst h
  have s : ∀ (u : World) (o : Obj), (u.alloc o).heap.size = u.heap.size + 1 := fun u o => by simp
  have n : ∀ (u : World) (o : Obj), (u.alloc o).heap[u.heap.size]? = some o := fun u o => World.alloc_heap_new u o
  have a : ∀ (u : World) (o : Obj) (k : Nat), k < u.heap.size → (u.alloc o).heap[k]? = u.heap[k]? := fun u o k h => Below.heap_alloc _ _ _ h
  refine ⟨by simp, ((((((KeepBut.refl _ w).alloc _).alloc _).alloc _).alloc _).alloc _).alloc _, ?_, ?_, ?_, ?_, ?_, ?_⟩
  · rw [a _ _ _ (by rw [s, s, s, s, s]; omega), a _ _ _ (by rw [s, s, s, s]; omega), a _ _ _ (by rw [s, s, s]; omega), a _ _ _ (by rw [s, s]; omega), a _ _ _ (by rw [s]; omega), n]
  · rw [a _ _ _ (by rw [s, s, s, s, s]; omega), a _ _ _ (by rw [s, s, s, s]; omega), a _ _ _ (by rw [s, s, s]; omega), a _ _ _ (by rw [s, s]; omega)]
    have := n (w.alloc o0) o1
    rwa [s] at this
  · rw [a _ _ _ (by rw [s, s, s, s, s]; omega), a _ _ _ (by rw [s, s, s, s]; omega), a _ _ _ (by rw [s, s, s]; omega)]
    have := n ((w.alloc o0).alloc o1) o2
    rwa [s, s] at this
  · rw [a _ _ _ (by rw [s, s, s, s, s]; omega), a _ _ _ (by rw [s, s, s, s]; omega)]
    have := n (((w.alloc o0).alloc o1).alloc o2) o3
    rwa [s, s, s] at this
  · rw [a _ _ _ (by rw [s, s, s, s, s]; omega)]
    have := n ((((w.alloc o0).alloc o1).alloc o2).alloc o3) o4
    rwa [s, s, s, s] at this
  · have := n (((((w.alloc o0).alloc o1).alloc o2).alloc o3).alloc o4) o5
    rwa [s, s, s, s, s] at this
theorem rowIs_keep {X : Nat → Prop} {A B : World} {b : Nat} {t : TypeId} {n : Nat} {f : Nat → Value} (h : A.rowIs b t n f) (k : KeepBut X A B) (hx : ¬ X b) : B.rowIs b t n f := by
  obtain ⟨c, h1, h2, h3⟩ := h
  exact ⟨c, (k.block _ (block_lt h1) hx).trans h1, h2, h3⟩
theorem bv8 (a : UInt8) : BitVec.ofInt 8 (a.toNat : Int) = a.toBitVec := by
  rw [BitVec.ofInt_natCast]
  exact BitVec.eq_of_toNat_eq (by simp)
theorem wrap8 (r : BitVec 8) : IntKind.u8.wrap (r.toNat : Int) = (r.toNat : Int) := by
  have := r.isLt
  simp [IntKind.wrap, IntKind.bits, IntKind.signed]
  omega
theorem bits_and (a b : UInt8) : bits .and .u8 (a.toNat : Int) (b.toNat : Int) = ((a &&& b).toNat : Int) := by
  show IntKind.u8.wrap ((BitVec.ofInt 8 (a.toNat : Int) &&& BitVec.ofInt 8 (b.toNat : Int)).toNat : Int) = _
  rw [bv8, bv8, wrap8]
  rfl
theorem bits_andNot (a b : UInt8) : bits .andNot .u8 (a.toNat : Int) (b.toNat : Int) = ((a &&& ~~~b).toNat : Int) := by
  show IntKind.u8.wrap ((BitVec.ofInt 8 (a.toNat : Int) &&& ~~~ BitVec.ofInt 8 (b.toNat : Int)).toNat : Int) = _
  rw [bv8, bv8, wrap8]
  rfl
namespace Dw
def byteAt (l : List UInt8) (j : Nat) : UInt8 := l.getD j 0
theorem thr_at (x y m : List UInt8) (bh : UInt8) (pre suf : List (Nat × UInt8 × UInt8 × UInt8)) (t : Nat × UInt8 × UInt8 × UInt8) (h : thr x y m bh = pre ++ t :: suf) :
    pre.length < x.length ∧ t = (pre.length, x.getD pre.length 0, y.getD pre.length 255, m.getD pre.length bh) := by
  have hl : pre.length < x.length := by
    have := congrArg List.length h
    rw [thr_length, List.length_append, List.length_cons] at this
    omega
  have := thr_get x y m bh pre.length hl
  rw [h, List.getElem?_append_right (Nat.le_refl _), Nat.sub_self, List.getElem?_cons_zero] at this
  exact ⟨hl, Option.some.inj this⟩
theorem andB_at : ∀ (x y : List UInt8) (k : Nat), k < x.length → (andB x y).getD k 0 = x.getD k 0 &&& y.getD k 255
  | [], _, _, h => by simp at h
  | _ :: _, [], 0, _ => rfl
  | _ :: _, _ :: _, 0, _ => rfl
  | a :: xs, [], k + 1, h => by
    have := andB_at xs [] k (by simpa using h)
    simpa [andB] using this
  | a :: xs, b :: ys, k + 1, h => by
    have := andB_at xs ys k (by simpa using h)
    simpa [andB] using this
theorem tornB_at : ∀ (x y m : List UInt8) (k : Nat), k < x.length → (tornB x y m).getD k 0 = x.getD k 0 &&& ~~~ (x.getD k 0 &&& ~~~ y.getD k 255 &&& m.getD k 0)
  | [], _, _, _, h => by simp at h
  | a :: xs, y, m, 0, _ => by cases y <;> cases m <;> rfl
  | a :: xs, y, m, k + 1, h => by
    have := tornB_at xs y.tail m.tail k (by simpa using h)
    have e1 : ∀ (l : List UInt8) (d : UInt8), l.tail.getD k d = l.getD (k + 1) d := fun l d => by cases l <;> simp
    rw [e1, e1] at this
    simpa [tornB] using this
end Dw
theorem and_any (x y : List UInt8) (hx : x.length ≤ 400) (w : World) :
    Calls Tryz.prog 220 #[.string ⟨x.toArray⟩, .string ⟨y.toArray⟩] w fun e w' => e = .returned (.string ⟨(Dw.andB x y).toArray⟩) ∧ Below w.heap.size w w' := by
  obtain ⟨i0, hi, hz0, hz1, hz2⟩ := info_parts infoB
  have hby : i0.bytes * x.length ≤ 281474976710656 := by rw [hz2, Nat.one_mul]; exact Nat.le_trans hx (by decide)
  have hb63 : x.length ≤ 9223372036854775807 := Nat.le_trans hx (by decide)
  refine (callsIn_wide (n := 9)).1 (callsIn_of_wp_marks Tryz.func220 rfl trivial (wpIn_wide.2 ?_) rfl)
  simp only [Tryz.ntmps220, List.size_toArray, List.length_cons, List.length_nil, Nat.reduceAdd, Nat.reduceSub, Array.replicate_succ, Array.replicate_zero, List.push_toArray, List.append_toArray, List.nil_append, List.cons_append]
  go_wp2_with (refine wpList_make_row _ rfl _ _ 119 rfl 5 i0 (.int .u8 0) Tryz.underlying119 hi hz0 hz1 rfl .i64 .i64 x.length (by rfl) (by rfl) hby hb63 ?_)
  refine (cplaces_any _ _ _ _ _).mono ?_
  rintro e w1 ⟨rfl, rfl⟩
  have hrow := World.rowIs_made w (.int .u8 0) x.length 5
  go_wp2_with fail
  obtain ⟨V, hV⟩ : ∃ V, ((((((w.alloc (.cells (madeCells #[.int .u8 0] x.length) 5)).alloc (.cells #[.slice (some ⟨w.heap.size, 0, none⟩) x.length x.length] 119)).alloc (.cells #[.string ⟨x.toArray⟩] 9)).alloc (.cells #[.string ⟨y.toArray⟩] 9)).alloc (.cells #[.string ⟨#[]⟩] 9)).alloc (.cells #[.int .u8 0] 5)) = V := ⟨_, rfl⟩
  obtain ⟨vz, kV, b0, b1, b2, b3, b4, b5⟩ := alloc6 w _ _ _ _ _ _ V hV
  rw [hV]
  have hr0 : V.rowIs w.heap.size 5 x.length (fun _ => .int .u8 0) := by
    obtain ⟨c, h1, h2, h3⟩ := hrow
    rw [World.alloc_heap_new] at h1
    exact ⟨c, b0.trans h1, h2, h3⟩
  have T := cplaces_tells (w.heap.size + 2) x y [] 0 (by omega) (fun k => k = w.heap.size) V (fun k h1 h2 h3 => by omega) (cells1 b2) (cells1 b3) (cells1 b4) (cells1 b5)
  clear hV b0 b2 b3 b4 b5 hrow
  have Hat := Lib.hid (Dw.thr_at x y [] 0)
  have Hand := Lib.hid (Dw.andB_at x y)
  have Hal := Lib.hid (Dw.andB_length x y)
  refine wpIn_wide.1 (wp_tellsA (n := 7) (gf := 229) (lb := #[.pointer (some ⟨w.heap.size + 2, 0, none⟩), .pointer (some ⟨w.heap.size + 5, 0, none⟩), .pointer (some ⟨w.heap.size + 3, 0, none⟩), .pointer (some ⟨w.heap.size + 4, 0, none⟩)]) rfl (enters_of Tryz.func229 (by kernel_rfl) rfl) T
    (fun k => V.heap.size + 2 ≤ k) (fun _ _ e h => by omega) (fun _ h => .inr h) (fun _ h => .inl (by omega)) (fun _ => rfl)
    (fun pre U => U.rowIs w.heap.size 5 x.length (fun j => .int .u8 ((if j < pre.length then (Dw.byteAt (Dw.andB x y) j).toNat else 0 : Nat) : Int)) ∧ U.heap[w.heap.size + 1]? = some (.cells #[.slice (some ⟨w.heap.size, 0, none⟩) x.length x.length] 119 (0, 0)) ∧ Below w.heap.size w U)
    (fun _ _ _ => False)
    ?hI (fun _ _ _ _ h _ => h) ⟨hr0.congr (fun j hj => by simp), b1, kV.whole⟩
    (fun pre t a' U => ∃ b, a' = { tmps := #[.string ⟨x.toArray⟩, .string ⟨y.toArray⟩, undef, undef, .string ⟨#[]⟩, .pointer (some ⟨w.heap.size + 1, 0, none⟩), .int .i64 t.1, .pointer (some ⟨b, 0, none⟩), .string ⟨x.toArray⟩, .int .i64 x.length, .slice (some ⟨w.heap.size, 0, none⟩) x.length x.length, .string ⟨x.toArray⟩, .string ⟨y.toArray⟩, .func (.func 229) #[] #[.pointer (some ⟨w.heap.size + 2, 0, none⟩), .pointer (some ⟨w.heap.size + 5, 0, none⟩), .pointer (some ⟨w.heap.size + 3, 0, none⟩), .pointer (some ⟨w.heap.size + 4, 0, none⟩)], .int .i64 t.1, .agg #[.int .u8 t.2.1.toNat, .int .u8 t.2.2.1.toNat, .int .u8 t.2.2.2.toNat], undef, undef, undef, undef, undef, undef, undef, undef, undef, undef], defers := [] } ∧
      V.heap.size + 2 ≤ b ∧ U.heap[b]? = some (.cells #[.int .u8 t.2.1.toNat, .int .u8 t.2.2.1.toNat, .int .u8 t.2.2.2.toNat] 307 (0, 0)) ∧
      U.rowIs w.heap.size 5 x.length (fun j => .int .u8 ((if j < pre.length then (Dw.byteAt (Dw.andB x y) j).toNat else 0 : Nat) : Int)) ∧ U.heap[w.heap.size + 1]? = some (.cells #[.slice (some ⟨w.heap.size, 0, none⟩) x.length x.length] 119 (0, 0)) ∧ Below w.heap.size w U)
    ?hIA ?assign ?body ?done ?stop)
  case hI =>
    rintro pre A B ⟨h1, h2, h3⟩ k
    have hs := h3.size
    exact ⟨rowIs_keep h1 k (by omega), (k.block _ (block_lt h2) (by omega)).trans h2, h3.trans (k.below (by omega) (fun g hg => by omega))⟩
  case hIA =>
    rintro pre t a' A B ⟨b, rfl, hb, h0, h1, h2, h3⟩ k
    have hs := h3.size
    exact ⟨b, rfl, hb, (k.block _ (block_lt h0) (by omega)).trans h0, rowIs_keep h1 k (by omega), (k.block _ (block_lt h2) (by omega)).trans h2, h3.trans (k.below (by omega) (fun g hg => by omega))⟩
  case assign =>
    rintro l pre t suf U hsuf hU ⟨h1, h2, h3⟩ K hK
    obtain ⟨t0, t1, t2, t3⟩ := t
    gi_wp2
    have hz := h3.size
    exact hK _ _ ((KeepBut.refl _ U).alloc _) ⟨U.heap.size, rfl, by omega, World.alloc_heap_new U _, rowIs_keep h1 ((KeepBut.refl (fun _ => False) U).alloc _) id, (Below.heap_alloc _ _ _ (block_lt h2)).trans h2, h3.alloc (by omega) _⟩
  case body =>
    rintro l pre t suf a' U hsuf hU ⟨b, rfl, hb, h0, h1, h2, h3⟩
    obtain ⟨hlt, rfl⟩ := Hat.out pre suf t hsuf
    have ha := Hand.out pre.length hlt
    dsimp only at h0
    generalize x.getD pre.length 0 = xb at *
    generalize y.getD pre.length 255 = yb at *
    obtain ⟨q0, q1, q2⟩ := cells3 h0
    have c1 := cells1 h2
    have hck := h1.cell hlt
    have hfk := h1.frozen pre.length
    have i1 : (pre.length : Int) < (x.length : Int) := by omega
    have H1 := Lib.hid h1; have H2 := Lib.hid h2; have H3 := Lib.hid h3
    have HA := Lib.hid ha
    clear h0 h1 h2 h3 hsuf ha
    gi_wp2
    rw [bits_and]
    have hz := H3.out.size
    refine ⟨(KeepBut.refl (fun k => k = w.heap.size) U).setCell (p := ⟨w.heap.size, pre.length, none⟩) rfl _, (H1.out.set pre.length _).congr (fun j hj => ?_), (heap_setCell_other _ _ _ _ (by simp)).trans H2.out, H3.out.setCell (p := ⟨w.heap.size, pre.length, none⟩) (Nat.le_refl _) _⟩
    rw [List.length_append, List.length_singleton]
    by_cases hjk : j = pre.length
    · rw [if_pos hjk, if_pos (by omega), hjk, show Dw.byteAt (Dw.andB x y) pre.length = _ from HA.out]
    · rw [if_neg hjk]
      by_cases h1 : j < pre.length
      · rw [if_pos h1, if_pos (by omega)]
      · rw [if_neg h1, if_neg (by omega)]
  case done =>
    rintro D U hD ⟨h1, h2, h3⟩ hK
    have hz := h3.size
    rw [Dw.thr_length] at h1
    have kc := run_convert_bytes_back (P := Tryz.prog) U 119 9 5 ⟨w.heap.size, 0, none⟩ x.length (Dw.andB x y) Tryz.underlying119 Tryz.underlying5 Tryz.underlying9 (fun j hj => by
      have hj' : j < x.length := by rw [← Hal.out]; exact hj
      rw [addr_add, h1.cell hj', if_pos hj', getL (Dw.andB x y) j hj]; rfl)
    rw [Hal.out] at kc
    have c1 := cells1 h2
    have H3 := Lib.hid h3; have HK := Lib.hid hK
    clear h1 h2 h3 hK
    go_wp2
    refine ⟨by simp, .inl ⟨_, _, rfl, run_takeDeferred HK.out, _, results_tmp rfl _ _ _, rfl, ?_⟩⟩
    exact H3.out.trans ((KeepBut.putObj (X := fun k => k = D) (w := U) (.deferred none) rfl).below (by omega) (by omega))
  case stop => exact fun _ _ _ _ _ _ h _ => h.elim
theorem torn_any (x y m : List UInt8) (hx : x.length ≤ 400) (w : World) :
    Calls Tryz.prog 198 #[.string ⟨x.toArray⟩, .string ⟨y.toArray⟩, .string ⟨m.toArray⟩] w fun e w' => e = .returned (.string ⟨(Dw.tornB x y m).toArray⟩) ∧ Below w.heap.size w w' := by
  obtain ⟨i0, hi, hz0, hz1, hz2⟩ := info_parts infoB
  have hby : i0.bytes * x.length ≤ 281474976710656 := by rw [hz2, Nat.one_mul]; exact Nat.le_trans hx (by decide)
  have hb63 : x.length ≤ 9223372036854775807 := Nat.le_trans hx (by decide)
  refine (callsIn_wide (n := 9)).1 (callsIn_of_wp_marks Tryz.func198 rfl trivial (wpIn_wide.2 ?_) rfl)
  simp only [Tryz.ntmps198, List.size_toArray, List.length_cons, List.length_nil, Nat.reduceAdd, Nat.reduceSub, Array.replicate_succ, Array.replicate_zero, List.push_toArray, List.append_toArray, List.nil_append, List.cons_append]
  go_wp2_with (refine wpList_make_row _ rfl _ _ 119 rfl 5 i0 (.int .u8 0) Tryz.underlying119 hi hz0 hz1 rfl .i64 .i64 x.length (by rfl) (by rfl) hby hb63 ?_)
  refine (cplaces_any _ _ _ _ _).mono ?_
  rintro e w1 ⟨rfl, rfl⟩
  have hrow := World.rowIs_made w (.int .u8 0) x.length 5
  go_wp2_with fail
  obtain ⟨V, hV⟩ : ∃ V, ((((((w.alloc (.cells (madeCells #[.int .u8 0] x.length) 5)).alloc (.cells #[.slice (some ⟨w.heap.size, 0, none⟩) x.length x.length] 119)).alloc (.cells #[.string ⟨x.toArray⟩] 9)).alloc (.cells #[.string ⟨y.toArray⟩] 9)).alloc (.cells #[.string ⟨m.toArray⟩] 9)).alloc (.cells #[.int .u8 0] 5)) = V := ⟨_, rfl⟩
  obtain ⟨vz, kV, b0, b1, b2, b3, b4, b5⟩ := alloc6 w _ _ _ _ _ _ V hV
  rw [hV]
  have hr0 : V.rowIs w.heap.size 5 x.length (fun _ => .int .u8 0) := by
    obtain ⟨c, h1, h2, h3⟩ := hrow
    rw [World.alloc_heap_new] at h1
    exact ⟨c, b0.trans h1, h2, h3⟩
  have T := cplaces_tells (w.heap.size + 2) x y m 0 (by omega) (fun k => k = w.heap.size) V (fun k h1 h2 h3 => by omega) (cells1 b2) (cells1 b3) (cells1 b4) (cells1 b5)
  clear hV b0 b2 b3 b4 b5 hrow
  have Hat := Lib.hid (Dw.thr_at x y m 0)
  have Hand := Lib.hid (Dw.tornB_at x y m)
  have Hal := Lib.hid (Dw.tornB_length x y m)
  refine wpIn_wide.1 (wp_tellsA (n := 7) (gf := 229) (lb := #[.pointer (some ⟨w.heap.size + 2, 0, none⟩), .pointer (some ⟨w.heap.size + 5, 0, none⟩), .pointer (some ⟨w.heap.size + 3, 0, none⟩), .pointer (some ⟨w.heap.size + 4, 0, none⟩)]) rfl (enters_of Tryz.func229 (by kernel_rfl) rfl) T
    (fun k => V.heap.size + 2 ≤ k) (fun _ _ e h => by omega) (fun _ h => .inr h) (fun _ h => .inl (by omega)) (fun _ => rfl)
    (fun pre U => U.rowIs w.heap.size 5 x.length (fun j => .int .u8 ((if j < pre.length then (Dw.byteAt (Dw.tornB x y m) j).toNat else 0 : Nat) : Int)) ∧ U.heap[w.heap.size + 1]? = some (.cells #[.slice (some ⟨w.heap.size, 0, none⟩) x.length x.length] 119 (0, 0)) ∧ Below w.heap.size w U)
    (fun _ _ _ => False)
    ?hI (fun _ _ _ _ h _ => h) ⟨hr0.congr (fun j hj => by simp), b1, kV.whole⟩
    (fun pre t a' U => ∃ b, a' = { tmps := #[.string ⟨x.toArray⟩, .string ⟨y.toArray⟩, .string ⟨m.toArray⟩, undef, undef, undef, .string ⟨#[]⟩, .pointer (some ⟨w.heap.size + 1, 0, none⟩), .int .i64 t.1, .pointer (some ⟨b, 0, none⟩), .string ⟨x.toArray⟩, .int .i64 x.length, .slice (some ⟨w.heap.size, 0, none⟩) x.length x.length, .string ⟨x.toArray⟩, .string ⟨y.toArray⟩, .string ⟨m.toArray⟩, .func (.func 229) #[] #[.pointer (some ⟨w.heap.size + 2, 0, none⟩), .pointer (some ⟨w.heap.size + 5, 0, none⟩), .pointer (some ⟨w.heap.size + 3, 0, none⟩), .pointer (some ⟨w.heap.size + 4, 0, none⟩)], .int .i64 t.1, .agg #[.int .u8 t.2.1.toNat, .int .u8 t.2.2.1.toNat, .int .u8 t.2.2.2.toNat], undef, undef, undef, undef, undef, undef, undef, undef, undef, undef, undef, undef, undef, undef, undef, undef], defers := [] } ∧
      V.heap.size + 2 ≤ b ∧ U.heap[b]? = some (.cells #[.int .u8 t.2.1.toNat, .int .u8 t.2.2.1.toNat, .int .u8 t.2.2.2.toNat] 307 (0, 0)) ∧
      U.rowIs w.heap.size 5 x.length (fun j => .int .u8 ((if j < pre.length then (Dw.byteAt (Dw.tornB x y m) j).toNat else 0 : Nat) : Int)) ∧ U.heap[w.heap.size + 1]? = some (.cells #[.slice (some ⟨w.heap.size, 0, none⟩) x.length x.length] 119 (0, 0)) ∧ Below w.heap.size w U)
    ?hIA ?assign ?body ?done ?stop)
  case hI =>
    rintro pre A B ⟨h1, h2, h3⟩ k
    have hs := h3.size
    exact ⟨rowIs_keep h1 k (by omega), (k.block _ (block_lt h2) (by omega)).trans h2, h3.trans (k.below (by omega) (fun g hg => by omega))⟩
  case hIA =>
    rintro pre t a' A B ⟨b, rfl, hb, h0, h1, h2, h3⟩ k
    have hs := h3.size
    exact ⟨b, rfl, hb, (k.block _ (block_lt h0) (by omega)).trans h0, rowIs_keep h1 k (by omega), (k.block _ (block_lt h2) (by omega)).trans h2, h3.trans (k.below (by omega) (fun g hg => by omega))⟩
  case assign =>
    rintro l pre t suf U hsuf hU ⟨h1, h2, h3⟩ K hK
    obtain ⟨t0, t1, t2, t3⟩ := t
    gi_wp2
    have hz := h3.size
    exact hK _ _ ((KeepBut.refl _ U).alloc _) ⟨U.heap.size, rfl, by omega, World.alloc_heap_new U _, rowIs_keep h1 ((KeepBut.refl (fun _ => False) U).alloc _) id, (Below.heap_alloc _ _ _ (block_lt h2)).trans h2, h3.alloc (by omega) _⟩
  case body =>
    rintro l pre t suf a' U hsuf hU ⟨b, rfl, hb, h0, h1, h2, h3⟩
    obtain ⟨hlt, rfl⟩ := Hat.out pre suf t hsuf
    have ha := Hand.out pre.length hlt
    dsimp only at h0
    generalize x.getD pre.length 0 = xb at *
    generalize y.getD pre.length 255 = yb at *
    generalize m.getD pre.length 0 = zb at *
    obtain ⟨q0, q1, q2⟩ := cells3 h0
    have c1 := cells1 h2
    have hck := h1.cell hlt
    have hfk := h1.frozen pre.length
    have i1 : (pre.length : Int) < (x.length : Int) := by omega
    have H1 := Lib.hid h1; have H2 := Lib.hid h2; have H3 := Lib.hid h3
    have HA := Lib.hid ha
    clear h0 h1 h2 h3 hsuf ha
    gi_wp2
    rw [bits_andNot, bits_and, bits_andNot]
    have hz := H3.out.size
    refine ⟨(KeepBut.refl (fun k => k = w.heap.size) U).setCell (p := ⟨w.heap.size, pre.length, none⟩) rfl _, (H1.out.set pre.length _).congr (fun j hj => ?_), (heap_setCell_other _ _ _ _ (by simp)).trans H2.out, H3.out.setCell (p := ⟨w.heap.size, pre.length, none⟩) (Nat.le_refl _) _⟩
    rw [List.length_append, List.length_singleton]
    by_cases hjk : j = pre.length
    · rw [if_pos hjk, if_pos (by omega), hjk, show Dw.byteAt (Dw.tornB x y m) pre.length = _ from HA.out]
    · rw [if_neg hjk]
      by_cases h1 : j < pre.length
      · rw [if_pos h1, if_pos (by omega)]
      · rw [if_neg h1, if_neg (by omega)]
  case done =>
    rintro D U hD ⟨h1, h2, h3⟩ hK
    have hz := h3.size
    rw [Dw.thr_length] at h1
    have kc := run_convert_bytes_back (P := Tryz.prog) U 119 9 5 ⟨w.heap.size, 0, none⟩ x.length (Dw.tornB x y m) Tryz.underlying119 Tryz.underlying5 Tryz.underlying9 (fun j hj => by
      have hj' : j < x.length := by rw [← Hal.out]; exact hj
      rw [addr_add, h1.cell hj', if_pos hj', getL (Dw.tornB x y m) j hj]; rfl)
    rw [Hal.out] at kc
    have c1 := cells1 h2
    have H3 := Lib.hid h3; have HK := Lib.hid hK
    clear h1 h2 h3 hK
    go_wp2
    refine ⟨by simp, .inl ⟨_, _, rfl, run_takeDeferred HK.out, _, results_tmp rfl _ _ _, rfl, ?_⟩⟩
    exact H3.out.trans ((KeepBut.putObj (X := fun k => k = D) (w := U) (.deferred none) rfl).below (by omega) (by omega))
  case stop => exact fun _ _ _ _ _ _ h _ => h.elim
end Go.Proofs.YtjibbchfndhhpaaGreatDoor
namespace Go.Proofs.YtjibbchfndhhpaaGreatDoor.RS
open Go.RowKit
theorem keep_setRow {w : World} {b : Nat} {c : Array Value} {t : TypeId} (h : w.heap[b]? = some (.cells c t (0, 0))) : Keep w (w.setRow b c) :=
  ⟨rfl, rfl, rfl, by simp [World.setRow], fun k _ _ => by
    by_cases e : k = b
    · subst e; exact (setRow_heap w k _ c _ _ h).trans h.symm
    · exact setRow_other w b k c e⟩
theorem keep_setCell {w : World} {b : Nat} {v : Value} {t : TypeId} (h : w.heap[b]? = some (.cells #[v] t (0, 0))) : Keep w (w.setCell ⟨b, 0, none⟩ v) :=
  ⟨rfl, rfl, rfl, by simp [World.setCell], fun k _ _ => by
    by_cases e : k = b
    · subst e; exact (heap_setCell_same w k 0 _ t v h).trans h.symm
    · exact heap_setCell_other w ⟨b, 0, none⟩ k v e⟩
section
variable {P : Program} {l : List Oper} {o : Oper} {k : Nat} {ks : List Nat} {w : World} {N : Act → Prop} {a : Act}
theorem pl_same (ho : l[k]? = some o) (hw : Region.wanted o (yielded l.toArray a.tmps) = true)
    (hv : ∀ w', Keep w w' → ∃ w'', (execOp a.eval o).run P w' = .ok .skip w'' ∧ Keep w' w'') (h : PureList P l.toArray w N ks (a.put o.dst undef)) : PureList P l.toArray w N (k :: ks) a :=
  ⟨o, undef, by simpa using ho, .inl ⟨hw, fun w' hk => .inr (.inr ⟨rfl, hv w' hk⟩)⟩, h⟩
theorem same_block {w' : World} (t : TypeId) (p x : Operand) (hop : o.op = .store t p x) {b : Nat} {c : Array Value} {t' : TypeId} (hp : a.eval p = .pointer (some ⟨b, 0, none⟩)) (hx : a.eval x = .agg c)
    (hb : w'.heap[b]? = some (.cells c t' (0, 0))) (hi : (P.info? t).map (·.size) = some c.size) (h1 : c.all (·.oneCell') = true) :
    ∃ w'', (execOp a.eval o).run P w' = .ok .skip w'' ∧ Keep w' w'' := by
  refine ⟨w'.setRow b c, ?_, keep_setRow hb⟩
  have hl := run_storeVar_row (P := P) w' b t' t c c hb hi rfl h1
  simp [execOp, hop, hp, hx, Instr.storeAt, Instr.sureAddr, hl, Result.andThen]
end
end Go.Proofs.YtjibbchfndhhpaaGreatDoor.RS
namespace Go.Proofs.YtjibbchfndhhpaaGreatDoor
open Go.RowKit Go.Shelf
attribute [local go_sem] Oper.semAt_some
namespace Dw
end Dw
end Go.Proofs.YtjibbchfndhhpaaGreatDoor
namespace Go.Proofs.YtjibbchfndhhpaaGreatDoor
open Go.RowKit Go.Shelf
attribute [local go_sem] Oper.semAt_some
theorem safe_any (s : Dw.St) (h : 0 ≤ s.iso ∧ s.iso ≤ 15) (w : World) :
    Calls Tryz.prog 138 #[stV s] w fun e w' => e = .returned (.int .i64 (Dw.safeI s)) ∧ Below w.heap.size w w' := by
  have hB := (Below.refl w.heap.size w).alloc (Nat.le_refl _) (.cells (stC s) 28)
  have hC0 := han w (.cells (stC s) 28)
  have HS := Lib.hid (fun w => sound_any s h w)
  have HN := Lib.hid (fun w => needs_any s.mo w)
  have HF := Lib.hid (fun w => fly_any s.mo w)
  have HH := Lib.hid (fun w => home_any s.mo w)
  have H2 := Lib.hid (fun w => needs_any 2 w)
  rw [show Dw.needsI 2 = 2 from rfl] at H2
  have HR := Lib.hid (show Dw.safeI s = if Dw.flyB s.mo && (s.ho || !Dw.homeB s.mo) && decide (Dw.needsI s.mo ≤ Dw.soundN s.iso) then s.mo else if 2 ≤ Dw.soundN s.iso then 2 else 5 from rfl)
  generalize Dw.safeI s = R at *
  generalize Dw.needsI s.mo = nM at *
  generalize Dw.soundN s.iso = nS at *
  generalize Dw.flyB s.mo = bF at *
  generalize Dw.homeB s.mo = bH at *
  obtain ⟨mo, ar, ho, la, lo, iso⟩ := s
  obtain ⟨c0, c1, c2, c3, c4, c5⟩ := cells6 hC0
  have HC := Lib.hid hC0
  clear hC0 h
  go_enter Tryz.func138, Tryz.ntmps138
  go_wp2_with (first | (refine lb HC.out rfl rfl rfl (by kernel_rfl) ?_))
  go_wp2_with fail
  refine cb (HS.out _) fun w1 hb => ?_
  have hC := kp hb HC.out
  replace hB := tr hB hb
  clear hb HC c0 c1 c2 c3 c4 c5
  obtain ⟨c0, c1, c2, c3, c4, c5⟩ := cells6 hC
  have HC := Lib.hid hC
  clear hC
  go_wp2_with fail
  refine cb (HF.out _) fun w2 hb => ?_
  have hC := kp hb HC.out
  replace hB := tr hB hb
  clear hb HC c0 c1 c2 c3 c4 c5
  obtain ⟨c0, c1, c2, c3, c4, c5⟩ := cells6 hC
  have HC := Lib.hid hC
  clear hC
  cases bF
  · go_wp2_with fail
    refine cb (H2.out _) fun w3 hb => ?_
    have hC := kp hb HC.out
    replace hB := tr hB hb
    clear hb HC c0 c1 c2 c3 c4 c5
    obtain ⟨c0, c1, c2, c3, c4, c5⟩ := cells6 hC
    have HC := Lib.hid hC
    clear hC
    by_cases h2 : 2 ≤ nS
    · have h3 : ¬ nS < 2 := by omega
      go_wp2_with fail
      go_ret
      exact ⟨ret_int (by rw [HR.out]; first | (simp [*]; done) | (split <;> rename_i q <;> simp at q <;> (try split) <;> omega)), hB⟩
    · have h3 : nS < 2 := by omega
      go_wp2_with fail
      go_ret
      exact ⟨ret_int (by rw [HR.out]; first | (simp [*]; done) | (split <;> rename_i q <;> simp at q <;> (try split) <;> omega)), hB⟩
  · go_wp2_with fail
    refine cb (HN.out _) fun w3 hb => ?_
    have hC := kp hb HC.out
    replace hB := tr hB hb
    clear hb HC c0 c1 c2 c3 c4 c5
    obtain ⟨c0, c1, c2, c3, c4, c5⟩ := cells6 hC
    have HC := Lib.hid hC
    clear hC
    by_cases hn : nM ≤ nS
    · cases ho
      · go_wp2_with fail
        refine cb (HH.out _) fun w4 hb => ?_
        have hC := kp hb HC.out
        replace hB := tr hB hb
        clear hb HC c0 c1 c2 c3 c4 c5
        obtain ⟨c0, c1, c2, c3, c4, c5⟩ := cells6 hC
        have HC := Lib.hid hC
        clear hC
        cases bH
        · go_wp2_with fail
          go_ret
          exact ⟨ret_int (by rw [HR.out]; first | (simp [*]; done) | (split <;> rename_i q <;> simp at q <;> (try split) <;> omega)), hB⟩
        · go_wp2_with fail
          refine cb (H2.out _) fun w5 hb => ?_
          have hC := kp hb HC.out
          replace hB := tr hB hb
          clear hb HC c0 c1 c2 c3 c4 c5
          obtain ⟨c0, c1, c2, c3, c4, c5⟩ := cells6 hC
          have HC := Lib.hid hC
          clear hC
          by_cases h2 : 2 ≤ nS
          · have h3 : ¬ nS < 2 := by omega
            go_wp2_with fail
            go_ret
            exact ⟨ret_int (by rw [HR.out]; first | (simp [*]; done) | (split <;> rename_i q <;> simp at q <;> (try split) <;> omega)), hB⟩
          · have h3 : nS < 2 := by omega
            go_wp2_with fail
            go_ret
            exact ⟨ret_int (by rw [HR.out]; first | (simp [*]; done) | (split <;> rename_i q <;> simp at q <;> (try split) <;> omega)), hB⟩
      · go_wp2_with fail
        go_ret
        exact ⟨ret_int (by rw [HR.out]; first | (simp [*]; done) | (split <;> rename_i q <;> simp at q <;> (try split) <;> omega)), hB⟩
    · go_wp2_with fail
      refine cb (H2.out _) fun w5 hb => ?_
      have hC := kp hb HC.out
      replace hB := tr hB hb
      clear hb HC c0 c1 c2 c3 c4 c5
      obtain ⟨c0, c1, c2, c3, c4, c5⟩ := cells6 hC
      have HC := Lib.hid hC
      clear hC
      by_cases h2 : 2 ≤ nS
      · have h3 : ¬ nS < 2 := by omega
        go_wp2_with fail
        go_ret
        exact ⟨ret_int (by rw [HR.out]; first | (simp [*]; done) | (split <;> rename_i q <;> simp at q <;> (try split) <;> omega)), hB⟩
      · have h3 : nS < 2 := by omega
        go_wp2_with fail
        go_ret
        exact ⟨ret_int (by rw [HR.out]; first | (simp [*]; done) | (split <;> rename_i q <;> simp at q <;> (try split) <;> omega)), hB⟩
end Go.Proofs.YtjibbchfndhhpaaGreatDoor
