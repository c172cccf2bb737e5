/- What the statement's proof stands on, part 17: New, Law10, Round, Rd, PlainFl. -/
import Derived.Test.YtcadgecnlahkgaaGreatDoorBk16
import Derived.Test.YtcadgecnlahkgaaGreatDoorShelf
set_option linter.unusedSimpArgs false
set_option linter.unusedVariables false
set_option maxRecDepth 100000
set_option maxHeartbeats 4000000
namespace Go.Proofs.YtcadgecnlahkgaaGreatDoor
open Go.RowKit Go.Shelf
attribute [local go_sem] Oper.semAt_some
namespace Dw
def ffs (n : Nat) : List UInt8 := List.replicate n 255
theorem ffs_length (n : Nat) : (ffs n).length = n := by simp [ffs]
theorem repeatL_ff (n : Nat) : Lib.repeatL [255] n = ffs n := by
  induction n with
  | zero => rfl
  | succ n ih => rw [Lib.repeatL, ih]; rfl
end Dw
theorem repeat_ff (n : Nat) (hn : n ≤ 100000) (w : World) :
    Calls Tryz.prog 60 #[.string ⟨#[255]⟩, .int .i64 n] w fun e w' => e = .returned (.string ⟨(Dw.ffs n).toArray⟩) ∧ Below w.heap.size w w' := by
  rcases (by omega : n = 0 ∨ n = 1 ∨ 2 ≤ n) with rfl | rfl | h
  · refine (Tryz.strings_Repeat_zero _ _).mono ?_
    rintro e w' ⟨rfl, rfl⟩
    exact ⟨rfl, Below.refl _ _⟩
  · refine (Tryz.strings_Repeat_one _ _).mono ?_
    rintro e w' ⟨rfl, rfl⟩
    exact ⟨rfl, Below.refl _ _⟩
  · refine cb (Tryz.strings_Repeat_main ⟨#[255]⟩ n w h (by omega) (by rw [show (⟨#[255]⟩ : ByteArray).size = 1 from rfl]; omega) (by decide)) fun w' hb => ?_
    exact ⟨by rw [show (⟨#[255]⟩ : ByteArray).data.toList = [255] from rfl, Dw.repeatL_ff], hb⟩
theorem new_any (n l : Nat) (hn : n ≤ 400) (hl : l ≤ 1000) (w : World) :
    Calls Tryz.prog 37 #[.int .i64 n, .int .i64 l] w fun e w' => e = .returned (flashV (Dw.ffs n) (Dw.ffs n) 0 0 l) ∧ Below w.heap.size w w' := by
  have hB0 := (Below.refl w.heap.size w).alloc (Nat.le_refl _) (.cells (flashC [] [] 0 0 0) 27)
  have hC0 := han w (.cells (flashC [] [] 0 0 0) 27)
  have n1 : ¬ (n : Int) < 0 := by omega
  have n2 : ¬ (400 : Int) < (n : Int) := by omega
  have n3 : ¬ (l : Int) < 0 := by omega
  have n4 : ¬ (1000 : Int) < (l : Int) := by omega
  go_enter Tryz.func37, Tryz.ntmps37
  go_wp2_with fail
  refine cb (repeat_ff n (by omega) _) fun w1 hb1 => ?_
  have hC1 := (hb1.block w.heap.size (by simp)).trans hC0
  have hB1 := tr hB0 hb1
  clear hC0 hB0 hb1
  go_wp2_with (first | (refine lb hC1 rfl rfl rfl (by kernel_rfl) ?_) | (refine sb hC1 rfl rfl rfl rfl (by kernel_rfl) ?_))
  refine bodyPost_ret (rcr rfl (srh hC1) (by rfl) (by kernel_rfl)) rfl ⟨rfl, below_setRow hB1 (Nat.le_refl _) _⟩
end Go.Proofs.YtcadgecnlahkgaaGreatDoor
namespace Go.Proofs.YtcadgecnlahkgaaGreatDoor
open Go.RowKit Go.Shelf
attribute [local go_sem] Oper.semAt_some
namespace Dw
theorem encode_length (k q d : Nat) : (encode k q d).length = 24 := by unfold encode; rw [List.length_append, body_length]; rfl
end Dw
end Go.Proofs.YtcadgecnlahkgaaGreatDoor
namespace Go.Proofs.YtcadgecnlahkgaaGreatDoor
namespace Dw
theorem encode_parts (k q d : Nat) : encode k q d = [165] ++ ([UInt8.ofNat k] ++ (put 8 q ++ (put 8 d ++ (put 4 (rev4 (sum (head k q d))) ++ [90, 60])))) := by
  unfold encode body head
  simp
theorem not_blank (x : UInt8) (l : List UInt8) (h : x ≠ 255) : blankB (x :: l) = false := by
  unfold blankB
  rw [decide_eq_false_iff_not, List.count_cons_of_ne h, List.length_cons]
  have := List.count_le_length (a := (255 : UInt8)) (l := l)
  omega
theorem take18 (k q d : Nat) : (encode k q d).take 18 = head k q d := by
  unfold encode body
  rw [List.append_assoc, List.take_left' (head_length k q d)]
theorem decode_encode (k q d : Nat) (h1 : 1 ≤ k) (h3 : k ≤ 3) (hq : q < 18446744073709551616) (hd : d < 18446744073709551616) : decodeE (encode k q d) = 0 ∧ decodeR (encode k q d) = ⟨k, q, d⟩ := by
  have hp := parts 165 (UInt8.ofNat k) (put 8 q) (put 8 d) (put 4 (rev4 (sum (head k q d)))) [90, 60] (put_length 8 q) (put_length 8 d) (put_length 4 _)
  rw [← encode_parts] at hp
  obtain ⟨⟨p1, p2, p3⟩, p4⟩ := hp
  have hk : (UInt8.ofNat k).toNat = k := by simp; omega
  have g0 : (encode k q d).getD 0 0 = 165 := by rw [encode_parts]; rfl
  have g1 : (encode k q d).getD 1 0 = UInt8.ofNat k := by rw [encode_parts]; rfl
  have hE : decodeE (encode k q d) = 0 := by
    unfold decodeE
    rw [if_neg (by rw [encode_length]; simp), if_neg (by rw [encode_parts, List.singleton_append, not_blank 165 _ (by decide)]; decide), g0, if_neg (by simp), p3, take18, if_neg (by simp), g1, hk, if_neg (by omega), p4, if_neg (by simp)]
  refine ⟨hE, ?_⟩
  unfold decodeR
  rw [if_pos hE]
  unfold recOf
  rw [g1, hk, p1, p2, get_put, get_put, Nat.mod_eq_of_lt (by simpa using hq), Nat.mod_eq_of_lt (by simpa using hd)]
end Dw
end Go.Proofs.YtcadgecnlahkgaaGreatDoor
namespace Go.Proofs.YtcadgecnlahkgaaGreatDoor
namespace Dw
def ofT (s : List UInt8) (i : Int) : PS := ⟨i, genN s, (last s).1.seq, (last s).1.data⟩
theorem ofS_sound (s : List UInt8) (i : Int) (h : sound s = true) : ofS s i = ofT s i := by unfold ofS; rw [if_pos h]; rfl
theorem rd0 (a b : List UInt8) (ha : sound a = true) (h : sound b = false ∨ genN b ≤ genN a) : readS a b = ofT a 0 ∧ readE a b = 0 := by
  have e : best a b = ofT a 0 := by
    unfold best
    rw [← ofS_sound a 0 ha]
    split
    · rfl
    · rename_i hb
      rw [if_neg]
      rintro (h1 | h1)
      · rw [ha] at h1; cases h1
      · rcases h with h | h
        · exact hb h
        · omega
  unfold readS readE
  rw [e]
  exact ⟨if_neg (by simp [ofT]), if_neg (by simp [ofT])⟩
theorem rd1 (a b : List UInt8) (hb : sound b = true) (h : sound a = false ∨ genN a < genN b) : readS a b = ofT b 1 ∧ readE a b = 0 := by
  have e : best a b = ofT b 1 := by
    unfold best
    rw [← ofS_sound b 1 hb, if_neg (by rw [hb]; decide), if_pos h]
  unfold readS readE
  rw [e]
  exact ⟨if_neg (by simp [ofT]), if_neg (by simp [ofT])⟩
theorem rdN (a b : List UInt8) (ha : sound a = false) (hb : sound b = false) : readS a b = psZero ∧ readE a b = 10 := by
  have e : best a b = psNone := by unfold best ofS; rw [if_pos hb, if_neg (by rw [ha]; decide)]
  unfold readS readE
  rw [e]
  exact ⟨rfl, rfl⟩
end Dw
end Go.Proofs.YtcadgecnlahkgaaGreatDoor
namespace Go.Proofs.YtcadgecnlahkgaaGreatDoor
namespace Dw
structure Fl where
  a : List UInt8
  b : List UInt8
  e0 : Int
  e1 : Int
  li : Int
def Fl.bk (f : Fl) (k : Nat) : List UInt8 := if k = 0 then f.a else f.b
def Fl.er (f : Fl) (k : Nat) : Int := if k = 0 then f.e0 else f.e1
def Fl.put (f : Fl) (k : Nat) (s : List UInt8) : Fl := if k = 0 then { f with a := s } else { f with b := s }
structure Op where
  kind : Nat
  bank : Nat
  at_ : Nat
  data : List UInt8
def andB : List UInt8 → List UInt8 → List UInt8
  | [], _ => []
  | x :: xs, ys => (x &&& ys.headD 255) :: andB xs ys.tail
def tornB : List UInt8 → List UInt8 → List UInt8 → List UInt8
  | [], _, _ => []
  | x :: xs, ys, ms => (x &&& ~~~ (x &&& ~~~ ys.headD 255 &&& ms.headD 0)) :: tornB xs ys.tail ms.tail
def eraB : List UInt8 → List UInt8 → List UInt8
  | [], _ => []
  | x :: xs, ms => (if ms.headD 0 % 2 = 1 then 255 else x) :: eraB xs ms.tail
def sub (s : List UInt8) (at_ n : Nat) : List UInt8 := (s.drop at_).take n
def over (s : List UInt8) (at_ : Nat) (x : List UInt8) : List UInt8 := s.take at_ ++ (x ++ s.drop (at_ + x.length))
theorem andB_length : ∀ x y, (andB x y).length = x.length
  | [], _ => rfl
  | _ :: xs, _ => by simp [andB, andB_length xs]
theorem tornB_length : ∀ x y m, (tornB x y m).length = x.length
  | [], _, _ => rfl
  | _ :: xs, _, _ => by simp [tornB, tornB_length xs]
theorem eraB_length : ∀ x m, (eraB x m).length = x.length
  | [], _ => rfl
  | _ :: xs, _ => by simp [eraB, eraB_length xs]
theorem sub_length (s : List UInt8) (k n : Nat) (h : k + n ≤ s.length) : (sub s k n).length = n := by simp [sub]; omega
theorem over_length (s : List UInt8) (k : Nat) (x : List UInt8) (h : k + x.length ≤ s.length) : (over s k x).length = s.length := by simp [over]; omega
theorem over_get (s : List UInt8) (k : Nat) (x : List UInt8) (h : k + x.length ≤ s.length) (i : Nat) : (over s k x)[i]? = if i < k then s[i]? else if i < k + x.length then x[i - k]? else s[i]? := by
  unfold over
  rw [List.getElem?_append, List.length_take]
  have hm : min k s.length = k := by omega
  rw [hm]
  split
  · rename_i h1; rw [List.getElem?_take, if_pos h1]
  · rename_i h1
    rw [List.getElem?_append]
    split
    · rename_i h2; rw [if_pos (by omega)]
    · rename_i h2
      rw [if_neg (by omega), List.getElem?_drop]
      congr 1; omega
theorem place_get (s : List UInt8) (j i : Nat) : (place s j)[i]? = if i < 24 then s[24 * j + i]? else none := by
  unfold place
  rw [List.getElem?_take]
  split
  · rw [List.getElem?_drop]
  · rfl
theorem place_len (s : List UInt8) (n j : Nat) (h : s.length = 24 * n + 24) (hj : j ≤ n) : (place s j).length = 24 := by unfold place; simp; omega
theorem place_over (s x : List UInt8) (n j o i : Nat) (h : s.length = 24 * n + 24) (hj : j ≤ n) (ho : o + x.length ≤ 24) (hi : i ≤ n) :
    place (over s (24 * j + o) x) i = if i = j then over (place s i) o x else place s i := by
  apply List.ext_getElem?
  intro k
  rw [place_get]
  by_cases hk : k < 24
  · rw [if_pos hk, over_get _ _ _ (by omega)]
    by_cases e : i = j
    · subst e
      rw [if_pos rfl, over_get _ _ _ (by rw [place_len s n i h hi]; omega), place_get, if_pos hk]
      by_cases h1 : k < o
      · rw [if_pos (by omega), if_pos h1]
      · rw [if_neg (by omega), if_neg h1]
        by_cases h2 : k < o + x.length
        · rw [if_pos (by omega), if_pos h2]; congr 1; omega
        · rw [if_neg (by omega), if_neg h2]
    · rw [if_neg e, place_get, if_pos hk]
      by_cases h1 : 24 * i + k < 24 * j + o
      · rw [if_pos h1]
      · rw [if_neg h1, if_neg (by omega)]
  · rw [if_neg hk]
    split
    · rename_i e
      rw [List.getElem?_eq_none]
      rw [over_length _ _ _ (by rw [place_len s n i h hi]; omega), place_len s n i h hi]; omega
    · rw [place_get, if_neg hk]
theorem sub_place (s : List UInt8) (j o m : Nat) (ho : o + m ≤ 24) : sub s (24 * j + o) m = sub (place s j) o m := by
  unfold sub place
  apply List.ext_getElem?
  intro k
  simp only [List.getElem?_take, List.getElem?_drop]
  by_cases hk : k < m
  · rw [if_pos hk, if_pos hk, if_pos (by omega)]; congr 1; omega
  · rw [if_neg hk, if_neg hk]
theorem andB_ff : ∀ y : List UInt8, andB (ffs y.length) y = y
  | [] => rfl
  | x :: xs => by
    have h := andB_ff xs
    unfold ffs at *
    simp only [List.length_cons, List.replicate_succ, andB, List.headD_cons, List.tail_cons, h]
    congr 1
    rw [show (255 : UInt8) = -1 from rfl, UInt8.neg_one_and]
theorem eraB_get : ∀ (x m : List UInt8) (k : Nat), (eraB x m)[k]? = x[k]? ∨ (eraB x m)[k]? = some 255
  | [], _, _ => .inl (by simp [eraB])
  | x :: xs, m, 0 => by
    simp only [eraB, List.getElem?_cons_zero]
    split
    · exact .inr rfl
    · exact .inl rfl
  | x :: xs, m, k + 1 => by
    simp only [eraB, List.getElem?_cons_succ]
    exact eraB_get xs m.tail k
theorem ffs_get (n k : Nat) : (ffs n)[k]? = if k < n then some 255 else none := by unfold ffs; rw [List.getElem?_replicate]
theorem place_ffs (n j : Nat) (h : j ≤ n) : place (ffs (24 * n + 24)) j = ffs 24 := by
  apply List.ext_getElem?
  intro k
  rw [place_get, ffs_get, ffs_get]
  by_cases hk : k < 24
  · rw [if_pos hk, if_pos hk, if_pos (by omega)]
  · rw [if_neg hk, if_neg hk]
theorem sub_ffs (n k m : Nat) (h : k + m ≤ n) : sub (ffs n) k m = ffs m := by
  apply List.ext_getElem?
  intro i
  unfold sub
  rw [List.getElem?_take, ffs_get]
  split
  · rw [List.getElem?_drop, ffs_get, if_pos (by omega)]
  · rfl
theorem good_parts (i : Nat) (p : List UInt8) (h : stateOf i p = 2) : decodeE p = 0 ∧ p.length = 24 ∧ p[0]? = some 165 ∧ p.drop 22 = [90, 60] ∧ (i = 0 → p[1]? = some 1) := by
  unfold stateOf at h
  by_cases h5 : decodeE p = 5
  · rw [if_pos h5] at h; cases h
  · rw [if_neg h5] at h
    by_cases h0 : decodeE p = 0 ∧ ((decodeR p).kind = 1 ↔ i = 0)
    · obtain ⟨h0, hk⟩ := h0
      have hr : decodeR p = recOf p := by unfold decodeR; rw [if_pos h0]
      rw [hr] at hk
      have hd := h0
      unfold decodeE at hd
      by_cases h1 : p.length ≠ 24
      · rw [if_pos h1] at hd; cases hd
      rw [if_neg h1] at hd
      have hl : p.length = 24 := by omega
      by_cases h2 : blankB p = true
      · rw [if_pos h2] at hd; cases hd
      rw [if_neg h2] at hd
      by_cases h3 : p.getD 0 0 ≠ 165
      · rw [if_pos h3] at hd; cases hd
      rw [if_neg h3] at hd
      by_cases h4 : (p.drop 18).take 4 ≠ put 4 (rev4 (sum (p.take 18)))
      · rw [if_pos h4] at hd; cases hd
      rw [if_neg h4] at hd
      by_cases h6 : (p.getD 1 0).toNat < 1 ∨ 3 < (p.getD 1 0).toNat
      · rw [if_pos h6] at hd; cases hd
      rw [if_neg h6] at hd
      by_cases h7 : p.drop 22 ≠ [90, 60]
      · rw [if_pos h7] at hd; cases hd
      refine ⟨h0, hl, ?_, by simpa using h7, fun hi => ?_⟩
      · have h3' : p.getD 0 0 = 165 := by simpa using h3
        rw [List.getD_eq_getElem?_getD, List.getElem?_eq_getElem (by omega)] at h3'
        rw [List.getElem?_eq_getElem (by omega)]
        simpa using h3'
      · have h1' : (p.getD 1 0).toNat = 1 := hk.2 hi
        rw [List.getD_eq_getElem?_getD, List.getElem?_eq_getElem (by omega)] at h1'
        rw [List.getElem?_eq_getElem (by omega)]
        simp only [Option.getD_some] at h1'
        congr 1
        exact UInt8.toNat_inj.1 h1'
    · rw [if_neg h0] at h; cases h
def Hd (p : List UInt8) : Prop := p[0]? ≠ some 165 ∨ p[1]? ≠ some 1 ∨ p[22]? ≠ some 90 ∨ p[23]? ≠ some 60
theorem mark_get (p : List UInt8) (h : p.drop 22 = [90, 60]) : p[22]? = some 90 ∧ p[23]? = some 60 := by
  have h1 : (p.drop 22)[0]? = some 90 := by rw [h]; rfl
  have h2 : (p.drop 22)[1]? = some 60 := by rw [h]; rfl
  rw [List.getElem?_drop] at h1 h2
  exact ⟨h1, h2⟩
theorem hd_not_good (p : List UInt8) (h : Hd p) : stateOf 0 p ≠ 2 := by
  intro hg
  obtain ⟨_, _, h0, hm, h1⟩ := good_parts 0 p hg
  obtain ⟨m1, m2⟩ := mark_get p hm
  rcases h with h | h | h | h
  · exact h h0
  · exact h (h1 rfl)
  · exact h m1
  · exact h m2
theorem not_marked (i : Nat) (p : List UInt8) (h : p[22]? ≠ some 90 ∨ p[23]? ≠ some 60) : stateOf i p ≠ 2 := by
  intro hg
  obtain ⟨_, _, _, hm, _⟩ := good_parts i p hg
  obtain ⟨m1, m2⟩ := mark_get p hm
  exact h.elim (fun h => h m1) (fun h => h m2)
theorem hd_mix (p p' : List UInt8) (h : Hd p) (hm : ∀ k : Nat, p'[k]? = p[k]? ∨ p'[k]? = some 255) : Hd p' := by
  have key : ∀ (k : Nat) (v : UInt8), v ≠ 255 → p[k]? ≠ some v → p'[k]? ≠ some v := by
    intro k v hv hp hp'
    rcases hm k with e | e
    · exact hp (e ▸ hp')
    · rw [e] at hp'; exact hv (Option.some.inj hp').symm
  rcases h with h | h | h | h
  · exact .inl (key 0 _ (by decide) h)
  · exact .inr (.inl (key 1 _ (by decide) h))
  · exact .inr (.inr (.inl (key 22 _ (by decide) h)))
  · exact .inr (.inr (.inr (key 23 _ (by decide) h)))
theorem hd_ffs : Hd (ffs 24) := .inl (by decide)
theorem state_ffs (i : Nat) : stateOf i (ffs 24) = 0 := by
  unfold stateOf
  rw [if_pos]
  decide
end Dw
end Go.Proofs.YtcadgecnlahkgaaGreatDoor
