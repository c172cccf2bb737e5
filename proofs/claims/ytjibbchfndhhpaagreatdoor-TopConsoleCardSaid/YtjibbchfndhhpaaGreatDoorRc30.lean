/- What the statement's proof stands on, part 30: PlainCon, PlainWear, Split23, PlainShown23, Dig23. -/
import Derived.Test.YtjibbchfndhhpaaGreatDoorRc29
import Derived.Lib.FieldsP
import Derived.Lib.Atoi
import Derived.Lib.ItoaNum
import Derived.Lib.Join
import Derived.Test.YtjibbchfndhhpaaGreatDoorRc15
import Derived.Test.YtjibbchfndhhpaaGreatDoorRc1
import Derived.Test.YtjibbchfndhhpaaGreatDoorRcShelf
set_option linter.unusedSimpArgs false
set_option linter.unusedVariables false
set_option maxRecDepth 100000
set_option maxHeartbeats 4000000
namespace Go.Proofs.YtjibbchfndhhpaaGreatDoor
open Go.RowKit Go.Shelf
namespace Dw
def digF : Nat → Nat → List UInt8
  | 0, _ => []
  | f + 1, u => if u < 10 then [UInt8.ofNat (48 + u)] else digF f (u / 10) ++ [UInt8.ofNat (48 + u % 10)]
theorem digF_eq : ∀ (f u : Nat), u < 10 ^ (f + 1) → digF (f + 1) u = Lib.decDigits u
  | 0, u, h => by
    unfold digF
    rw [Lib.decDigits]
    rw [if_pos (by omega), dif_pos (by omega)]
  | f + 1, u, h => by
    unfold digF
    rw [Lib.decDigits]
    by_cases h1 : u < 10
    · rw [if_pos h1, dif_pos h1]
    · rw [if_neg h1, dif_neg h1, digF_eq f (u / 10) (by rw [Nat.pow_succ] at h; omega)]
def itoaS (n : Int) : List UInt8 := if n < 0 then 45 :: digF 19 n.natAbs else digF 19 n.toNat
theorem itoaS_eq {n : Int} (h0 : -9223372036854775808 ≤ n) (h1 : n ≤ 9223372036854775807) : itoaS n = Lib.itoa n := by
  unfold itoaS Lib.itoa
  have e : (10 : Nat) ^ (18 + 1) = 10000000000000000000 := by decide
  split
  · rw [digF_eq 18 _ (by rw [e]; omega)]
  · rw [digF_eq 18 _ (by rw [e]; omega)]
def isDig (b : UInt8) : Bool := decide (48 ≤ b.toNat ∧ b.toNat ≤ 57)
def stripM : List UInt8 → List UInt8
  | [] => []
  | b :: r => if b = 45 then r else b :: r
def numOk (s : List UInt8) : Bool := !(stripM s).isEmpty && decide ((stripM s).length ≤ 9) && (stripM s).all isDig
def numV (s : List UInt8) : Int := if numOk s then (Lib.atoi s).getD 0 else 0
theorem decFrom_all : ∀ (l : List UInt8) (a : Nat), l.all isDig = true → ∃ n, Lib.decFrom a l = some n ∧ n < (a + 1) * 10 ^ l.length
  | [], a, _ => ⟨a, rfl, by simp⟩
  | b :: r, a, h => by
    rw [List.all_cons, Bool.and_eq_true] at h
    have hb : 48 ≤ b.toNat ∧ b.toNat ≤ 57 := of_decide_eq_true h.1
    have hd : Lib.digitVal b = some (b.toNat - 48) := by unfold Lib.digitVal; rw [if_pos hb]
    obtain ⟨n, hn, hl⟩ := decFrom_all r (a * 10 + (b.toNat - 48)) h.2
    refine ⟨n, ?_, ?_⟩
    · unfold Lib.decFrom
      rw [hd]
      exact hn
    · refine Nat.lt_of_lt_of_le hl ?_
      rw [List.length_cons, Nat.pow_succ, ← Nat.mul_assoc, Nat.mul_right_comm]
      exact Nat.mul_le_mul_right _ (by omega)
theorem num_some {s : List UInt8} (h : numOk s = true) : ∃ n : Int, Lib.atoi s = some n ∧ -1000000000 < n ∧ n < 1000000000 ∧ s.length ≤ 10 := by
  unfold numOk at h
  simp only [Bool.and_eq_true, Bool.not_eq_true', decide_eq_true_eq] at h
  obtain ⟨⟨h1, h2⟩, h3⟩ := h
  have key : ∀ l : List UInt8, l.isEmpty = false → l.length ≤ 9 → l.all isDig = true → ∃ n : Nat, Lib.decNat l = some n ∧ n < 1000000000 := by
    intro l a b c
    obtain ⟨n, hn, hl⟩ := decFrom_all l 0 c
    refine ⟨n, ?_, ?_⟩
    · unfold Lib.decNat
      rw [if_neg (by rw [a]; decide)]
      exact hn
    · refine Nat.lt_of_lt_of_le hl ?_
      have : 10 ^ l.length ≤ 10 ^ 9 := Nat.pow_le_pow_right (by decide) b
      omega
  cases s with
  | nil => cases h1
  | cons b r =>
    rw [show stripM (b :: r) = if b = 45 then r else b :: r from rfl] at h1 h2 h3
    by_cases hb : b = 45
    · rw [if_pos hb] at h1 h2 h3
      obtain ⟨n, hn, hl⟩ := key r h1 h2 h3
      refine ⟨-(n : Int), ?_, by omega, by omega, by simp; omega⟩
      have ea : Lib.atoi (b :: r) = if b == 45 then (Lib.decNat r).map fun (m : Nat) => -(m : Int) else if b == 43 then (Lib.decNat r).map fun (m : Nat) => (m : Int) else (Lib.decNat (b :: r)).map fun (m : Nat) => (m : Int) := rfl
      rw [ea, if_pos (by rw [hb]; rfl), hn]
      rfl
    · rw [if_neg hb] at h1 h2 h3
      obtain ⟨n, hn, hl⟩ := key (b :: r) h1 h2 h3
      have h43 : ¬ (b == 43) = true := by
        intro q
        rw [List.all_cons, Bool.and_eq_true] at h3
        have := of_decide_eq_true h3.1
        have hq : b = 43 := by simpa using q
        rw [hq] at this
        exact absurd this.1 (by decide)
      refine ⟨(n : Int), ?_, by omega, by omega, by simp only [List.length_cons] at h2 ⊢; omega⟩
      have ea : Lib.atoi (b :: r) = if b == 45 then (Lib.decNat r).map fun (m : Nat) => -(m : Int) else if b == 43 then (Lib.decNat r).map fun (m : Nat) => (m : Int) else (Lib.decNat (b :: r)).map fun (m : Nat) => (m : Int) := rfl
      rw [ea, if_neg (by simpa using hb), if_neg h43, hn]
      rfl
theorem numV_range (s : List UInt8) : -1000000000 < numV s ∧ numV s < 1000000000 := by
  unfold numV
  split
  · rename_i h
    obtain ⟨n, hn, h1, h2, _⟩ := num_some h
    rw [hn]
    exact ⟨h1, h2⟩
  · decide
def saidS (word : List UInt8) (l : List Int) : List UInt8 := l.foldl (fun s n => s ++ (32 :: itoaS n)) word
def textL (s : St) : List (List UInt8) :=
  [saidS [109, 111, 100, 101] [s.mo]] ++ (if s.ar then [[97, 114, 109, 101, 100]] else []) ++ (if s.ho then [saidS [104, 111, 109, 101] [s.la, s.lo]] else []) ++ [saidS [105, 115, 111] [s.iso]]
def textS (s : St) : List UInt8 := Lib.join (textL s) [32]
def phaseW (ph : Int) : List UInt8 := if ph = 0 then [104, 111, 108, 100] else if ph = 1 then [114, 117, 110] else if ph = 2 then [102, 97, 105, 108, 101, 100] else if ph = 3 then [111, 102, 102] else []
def errW (e : Int) : List UInt8 := saidS [101, 114, 114, 111, 114] [e]
def replyS (x : Su) (e : Int) : List UInt8 := ((if e = 0 then phaseW x.ph else errW e) ++ [32]) ++ textS x.s
structure Dk where
  f : Fli
  p : Pw
def noP : Pw := ⟨-1, []⟩
def stepD (d : Dk) (e : En) : Dk × List UInt8 := (⟨stepF d.f e, d.p⟩, replyS (stepX d.f.x e) (stepE d.f.x e))
def powD (d : Dk) (e : En) : Dk × List UInt8 := stepD ⟨d.f, noP⟩ { e with p := d.p }
def askD (d : Dk) (c : Cmd) : Dk × List UInt8 := powD d ⟨1, c, 0, 0, 0, ⟨0, []⟩, 0⟩
def seeD (d : Dk) (a b c : Nat) : Dk × List UInt8 := powD d ⟨2, ⟨0, 0, 0, 0⟩, a, b, c, ⟨0, []⟩, 0⟩
def f64 (n : Int) : Nat := floatOfInt .f64 n
def byteI (n : Int) : UInt8 := UInt8.ofNat (n % 256).toNat
def doD (d : Dk) (i : Nat) (l : List Int) : Dk × List UInt8 :=
  match i with
  | 0 => (⟨beginF (l.getD 0 0) (l.getD 1 0), d.p⟩, replyS (beginF (l.getD 0 0) (l.getD 1 0)).x 0)
  | 1 => askD d ⟨1, l.getD 0 0, 0, 0⟩
  | 2 => askD d ⟨2, 0, 0, 0⟩
  | 3 => askD d ⟨3, 0, 0, 0⟩
  | 4 => askD d ⟨4, 0, f64 (l.getD 0 0), f64 (l.getD 1 0)⟩
  | 5 => askD d ⟨5, l.getD 0 0, 0, 0⟩
  | 6 => askD d ⟨6, l.getD 0 0, 0, 0⟩
  | 7 => seeD d 4621819117588971520 4621819117588971520 4607182418800017408
  | 8 => seeD d 0 0 0
  | 9 => seeD d 4609434218613702656 4611686018427387904 4596373779694328218
  | 10 => stepD d ⟨3, ⟨0, 0, 0, 0⟩, 0, 0, 0, ⟨0, []⟩, 0⟩
  | 11 => stepD d ⟨4, ⟨0, 0, 0, 0⟩, 0, 0, 0, ⟨0, []⟩, l.getD 0 0⟩
  | 12 => (⟨d.f, ⟨l.getD 0 0, List.replicate 300 (byteI (l.getD 1 0))⟩⟩, [111, 107])
  | _ => (d, saidS [119, 101, 97, 114] [d.f.x.f.e0 + d.f.x.f.e1])
def orders : List (List UInt8 × Nat) :=
  [([98, 101, 103, 105, 110], 2), ([103, 111], 1), ([97, 114, 109], 0), ([100, 105, 115, 97, 114, 109], 0), ([104, 111, 109, 101], 2), ([105, 115, 111, 108, 97, 116, 101], 1), ([114, 101, 115, 116, 111, 114, 101], 1),
   ([97, 105, 114], 0), ([103, 114, 111, 117, 110, 100], 0), ([110, 111, 116, 104, 105, 110, 103], 0), ([114, 101, 115, 101, 116], 0), ([116, 117, 114, 110], 1), ([99, 117, 116], 2), ([119, 101, 97, 114], 0)]
def ordW (w : List UInt8) : Option Nat := orders.findIdx? fun x => decide (x.1 = w)
def lineD (d : Dk) (w : List UInt8) (l : List (List UInt8)) : Dk × List UInt8 :=
  match ordW w with
  | some i => if l.all numOk = true ∧ l.length = (orders.getD i ([], 0)).2 then doD d i (l.map numV) else (d, errW 33)
  | none => (d, errW 33)
def splitL : List UInt8 → List (List UInt8)
  | [] => [[]]
  | b :: r => if b = 10 then [] :: splitL r else match splitL r with
    | [] => [[b]]
    | x :: xs => (b :: x) :: xs
def isB (r : Nat) : Bool := r == 9 || r == 13 || r == 32
def wordsL (l : List UInt8) : List (List UInt8) := (Lib.goFieldsP isB ⟨l.toArray⟩).map fun s => s.data.toList
def rowD (d : Dk) (l : List UInt8) : Dk × List (List UInt8) :=
  match wordsL l with
  | [] => (d, [])
  | w :: ws => ((lineD d w ws).1, [(lineD d w ws).2])
def rowsD : Dk → List (List UInt8) → Dk × List (List UInt8)
  | d, [] => (d, [])
  | d, l :: ls => ((rowsD (rowD d l).1 ls).1, (rowD d l).2 ++ (rowsD (rowD d l).1 ls).2)
def desk0 : Dk := ⟨beginF 4 100, noP⟩
def linesS (s : List UInt8) : List (List UInt8) := (rowsD desk0 (splitL s)).2
theorem splitL_ne (s : List UInt8) : splitL s ≠ [] := by
  cases s with
  | nil => simp [splitL]
  | cons b r =>
    unfold splitL
    split
    · simp
    · split <;> simp
theorem splitL_append : ∀ (s t : List UInt8), splitL (s ++ 10 :: t) = splitL s ++ splitL t
  | [], t => by
    show splitL (10 :: t) = _
    unfold splitL
    rw [if_pos rfl]
    cases t <;> rfl
  | b :: r, t => by
    show splitL (b :: (r ++ 10 :: t)) = _
    have ih := splitL_append r t
    unfold splitL
    by_cases hb : b = 10
    · rw [if_pos hb, if_pos hb]
      cases t with
      | nil => rw [ih]; rfl
      | cons c u => rw [ih]; rfl
    · rw [if_neg hb, if_neg hb, ih]
      cases h : splitL r with
      | nil => exact absurd h (splitL_ne r)
      | cons x xs => cases t <;> rfl
theorem rowsD_append : ∀ (l m : List (List UInt8)) (d : Dk), rowsD d (l ++ m) = ((rowsD (rowsD d l).1 m).1, (rowsD d l).2 ++ (rowsD (rowsD d l).1 m).2)
  | [], _, _ => rfl
  | x :: l, m, d => by
    have ih := rowsD_append l m (rowD d x).1
    show ((rowsD (rowD d x).1 (l ++ m)).1, (rowD d x).2 ++ (rowsD (rowD d x).1 (l ++ m)).2) = ((rowsD (rowsD (rowD d x).1 l).1 m).1, ((rowD d x).2 ++ (rowsD (rowD d x).1 l).2) ++ (rowsD (rowsD (rowD d x).1 l).1 m).2)
    rw [ih, List.append_assoc]
end Dw
end Go.Proofs.YtjibbchfndhhpaaGreatDoor
namespace Go.Proofs.YtjibbchfndhhpaaGreatDoor
open Go.RowKit Go.Shelf
namespace Dw
structure WOk (f : Fl) : Prop where
  a : 0 ≤ f.e0 ∧ f.e0 ≤ 1000
  b : 0 ≤ f.e1 ∧ f.e1 ≤ 1000
  li : f.li ≤ 1000
theorem wput {f : Fl} (h : WOk f) {k c : Nat} {s : List UInt8} (hc : f.er k + c ≤ f.er k ∨ f.er k + c ≤ f.li) : WOk ((f.put k s).wearN k c) := by
  obtain ⟨h1, h2, h3⟩ := h
  unfold Fl.er at hc
  unfold Fl.put Fl.wearN
  by_cases hk : k = 0
  · simp only [hk, if_true] at hc ⊢
    exact ⟨by simp; omega, h2, h3⟩
  · simp only [hk, if_false] at hc ⊢
    exact ⟨h1, by simp; omega, h3⟩
theorem wplay (cut : Int) (m : List UInt8) : ∀ (ops : List Op) (f : Fl) (i : Nat), WOk f → OpsOk f ops → WOk (playL f ops i cut m).1
  | [], _, _, hf, _ => hf
  | o :: os, f, i, hf, ho => by
    unfold playL
    split
    · exact wput hf (op_er ho.1)
    · exact wplay cut m os (doOp f o) (i + 1) (wput hf (op_er ho.1)) ho.2.2
theorem wwrite {x : Su} (hf : FlOk x.f) (h : WOk x.f) (t : St) (p : Pw) : WOk (writeX x t p).f := by
  by_cases h0 : (plan x.f (pack t)).2 = 0
  · obtain ⟨L, hlen, hok, _, _⟩ := plan_ok hf h0
    have := wplay p.cut p.mask _ x.f 0 h hok
    cases ha : ackB x.f (wStp t p)
    · rw [(write_off h0 ha).1]; exact this
    · rw [(write_ack h0 ha).1]; exact this
  · rw [(write_no h0).1]; exact h
theorem wcommand {x : Su} (hf : FlOk x.f) (h : WOk x.f) (c : Cmd) (p : Pw) : WOk (commandX x c p).f := by
  unfold commandX
  split
  · exact wwrite hf h _ _
  · exact h
theorem wsample {x : Su} (hf : FlOk x.f) (h : WOk x.f) (v : Int) (p : Pw) : WOk (sampleX x v p).f := by
  have hv : ∀ t, WOk (writeX (voted x v) t p).f := fun t => wwrite (x := voted x v) hf h t p
  unfold sampleX
  dsimp only
  (repeat' split) <;> first | exact h | exact hv _
theorem wflip {f : Fl} (h : WOk f) (k : Int) : WOk (flip f k) := by
  unfold flip
  (repeat' split) <;> exact ⟨h.a, h.b, h.li⟩
theorem wstep {x : Su} (hf : FlOk x.f) (h : WOk x.f) (e : En) : WOk (stepX x e).f := by
  unfold stepX
  (repeat' split)
  · exact wcommand hf h _ _
  · exact wsample hf h _ _
  · exact h
  · exact wflip h _
  · exact h
theorem wnew (n li : Int) : WOk (newF n li) := by
  unfold newF
  split
  · exact ⟨by decide, by decide, by decide⟩
  · rename_i h
    split
    · exact ⟨by show (0 : Int) ≤ 0 ∧ (0 : Int) ≤ 1000; decide, by show (0 : Int) ≤ 0 ∧ (0 : Int) ≤ 1000; decide, by show li ≤ 1000; omega⟩
    · exact ⟨by show (0 : Int) ≤ 0 ∧ (0 : Int) ≤ 1000; decide, by show (0 : Int) ≤ 0 ∧ (0 : Int) ≤ 1000; decide, by show li ≤ 1000; omega⟩
structure Dok (k : Nat) (d : Dk) : Prop where
  fl : FlOk d.f.x.f
  leg : legal d.f.x.s = true
  wo : WOk d.f.x.f
  len : d.f.out.length ≤ k
theorem Dok.more {k k' : Nat} {d : Dk} (h : Dok k d) (hk : k ≤ k') : Dok k' d := ⟨h.fl, h.leg, h.wo, Nat.le_trans h.len hk⟩
theorem dok_begin (n li : Int) (p : Pw) (k : Nat) : Dok k ⟨beginF n li, p⟩ := ⟨newF_ok n li, boot_legal _, wnew n li, Nat.zero_le _⟩
theorem dok_step {k : Nat} {d : Dk} (h : Dok k d) (e : En) : Dok (k + 1) (stepD d e).1 := by
  refine ⟨stepF_ok h.fl e, stepF_legal h.leg e, ?_, ?_⟩
  · show WOk (stepF d.f e).x.f
    rw [stepF_x]
    exact wstep h.fl h.wo e
  · show (stepF d.f e).out.length ≤ k + 1
    have := h.len
    unfold stepF
    split
    · simp; omega
    · omega
theorem dok_pow {k : Nat} {d : Dk} (h : Dok k d) (e : En) : Dok (k + 1) (powD d e).1 := dok_step (d := ⟨d.f, noP⟩) ⟨h.fl, h.leg, h.wo, h.len⟩ _
theorem dok_do {k : Nat} {d : Dk} (h : Dok k d) (i : Nat) (l : List Int) : Dok (k + 1) (doD d i l).1 := by
  unfold doD
  split
  · exact dok_begin _ _ _ _
  · exact dok_pow h _
  · exact dok_pow h _
  · exact dok_pow h _
  · exact dok_pow h _
  · exact dok_pow h _
  · exact dok_pow h _
  · exact dok_pow h _
  · exact dok_pow h _
  · exact dok_pow h _
  · exact dok_step h _
  · exact dok_step h _
  · exact ⟨h.fl, h.leg, h.wo, Nat.le_succ_of_le h.len⟩
  · exact h.more (Nat.le_succ _)
end Dw
end Go.Proofs.YtjibbchfndhhpaaGreatDoor
namespace Go.Proofs.YtjibbchfndhhpaaGreatDoor
open Go.RowKit Go.Shelf
attribute [local go_sem] Oper.semAt_some
namespace Dw
theorem index_ge : ∀ (r : List UInt8), -1 ≤ Lib.indexByte r 10
  | [] => by decide
  | b :: r => by
    unfold Lib.indexByte
    have := index_ge r
    (repeat' split) <;> omega
theorem split_none : ∀ (s : List UInt8), Lib.indexByte s 10 = -1 → splitL s = [s]
  | [], _ => rfl
  | b :: r, h => by
    unfold Lib.indexByte at h
    by_cases hb : b = 10
    · rw [if_pos (by simpa using hb)] at h
      cases h
    · rw [if_neg (by simpa using hb)] at h
      have hr : Lib.indexByte r 10 = -1 := by
        by_cases q : Lib.indexByte r 10 = -1
        · exact q
        · rw [if_neg (by simpa using q)] at h
          have := index_ge r
          omega
      unfold splitL
      rw [if_neg hb, split_none r hr]
theorem split_some : ∀ (s : List UInt8) (i : Nat), Lib.indexByte s 10 = (i : Int) → i < s.length ∧ splitL s = s.take i :: splitL (s.drop (i + 1))
  | [], i, h => by
    unfold Lib.indexByte at h
    omega
  | b :: r, i, h => by
    unfold Lib.indexByte at h
    by_cases hb : b = 10
    · rw [if_pos (by simpa using hb)] at h
      obtain rfl : i = 0 := by omega
      refine ⟨by simp, ?_⟩
      rw [splitL, if_pos hb]
      rfl
    · rw [if_neg (by simpa using hb)] at h
      by_cases q : Lib.indexByte r 10 = -1
      · rw [if_pos (by simpa using q)] at h
        omega
      · rw [if_neg (by simpa using q)] at h
        have := index_ge r
        obtain ⟨k, rfl⟩ : ∃ k, i = k + 1 := ⟨i - 1, by omega⟩
        obtain ⟨h1, h2⟩ := split_some r k (by omega)
        refine ⟨by simp; omega, ?_⟩
        rw [splitL, if_neg hb, h2]
        rfl
end Dw
abbrev strV (l : List UInt8) : Array Value := #[.string ⟨l.toArray⟩]
def strLen (v : Option Value) : Nat := match v with
  | some (.string b) => b.size
  | _ => 0
theorem split_tellsT (Bp Bs Bv : Nat) (hne : Bp ≠ Bs ∧ Bv ≠ Bs) (s : List UInt8) (hs : s.length ≤ 100000) (X : Nat → Prop) (w : World) (hX : ¬ X Bp ∧ ¬ X Bs ∧ ¬ X Bv)
    (hp : w.cell? ⟨Bp, 0, none⟩ = some (.string ⟨#[10]⟩)) (hc : w.heap[Bs]? = some (.cells #[.string ⟨s.toArray⟩] 9 (0, 0))) (hv : w.cell? ⟨Bv, 0, none⟩ = some (.int .i64 0)) :
    TellsT Tryz.prog 75 #[.pointer (some ⟨Bp, 0, none⟩), .pointer (some ⟨Bs, 0, none⟩), .pointer (some ⟨Bv, 0, none⟩)] strV (Dw.splitL s) X (fun _ k => k = Bs) (fun W => ∃ c, W.heap[Bs]? = some (.cells c 9 (0, 0))) w := fun n l J Jx W hW _ _ hJ _ hY h0 => by
  have hp0 := (hW.cell (p := ⟨Bp, 0, none⟩) (lt_of_cell hp) id).trans hp
  have hv0 := (hW.cell (p := ⟨Bv, 0, none⟩) (lt_of_cell hv) id).trans hv
  have hc0 := kpi hW hc
  clear hc hW hp hv
  refine callsIn_any (n := n + 1) ?_
  refine callsIn_of_wp Tryz.func75 rfl trivial ?_ rfl
  simp only [Tryz.ntmps75, List.size_toArray, List.length_cons, List.length_nil, Nat.reduceAdd, Nat.reduceSub, Array.replicate_succ, Array.replicate_zero, List.push_toArray, List.append_toArray, List.nil_append, List.cons_append]
  gi_wp2
  gi_loopw [7] (fun _ wr => ∃ (pre : List (List UInt8)) (r : List UInt8), r.length ≤ s.length ∧ Dw.splitL s = pre ++ Dw.splitL r ∧ J pre wr ∧ wr.cell? ⟨Bp, 0, none⟩ = some (.string ⟨#[10]⟩) ∧ wr.heap[Bs]? = some (.cells #[.string ⟨r.toArray⟩] 9 (0, 0)) ∧ wr.cell? ⟨Bv, 0, none⟩ = some (.int .i64 0)) (fun _ wr => strLen (wr.cell? ⟨Bs, 0, none⟩))
  case atStart => exact ⟨[], s, Nat.le_refl _, rfl, h0, hp0, hc0, hv0⟩
  case round =>
    clear h0 hp0 hc0 hv0
    obtain ⟨pre, r, hrl, hsp, hJp, hp, hb, hv⟩ := hrel
    have hc : wr.cell? ⟨Bs, 0, none⟩ = some (.string ⟨r.toArray⟩) := by rw [cell_of_row _ _ 0 _ _ _ hb]; rfl
    have HI := Lib.hid (fun w => Tryz.strings_Index_one ⟨r.toArray⟩ 10 w)
    have hge := Dw.index_ge r
    by_cases hi : Lib.indexByte r 10 = -1
    · have HSN := Lib.hid (Dw.split_none r hi)
      have HI2 := Lib.hid (show ∀ w, Calls Tryz.prog 77 #[.string ⟨r.toArray⟩, .string ⟨#[10]⟩] w fun e w' => e = .returned (.int .i64 (-1)) ∧ w' = w from fun w => by rw [← hi]; exact HI.out w)
      have HX := Lib.hid (show Dw.splitL s = pre ++ r :: [] by rw [hsp, Dw.split_none r hi])
      clear hi hge HI hsp HSN
      obtain ⟨fn, tmps, assign, body, hy, hR⟩ := hY _ r _ wr HX.out hJp ⟨_, hb⟩
      gi_wp2
      refine ⟨trivial, ?_⟩
      refine (callsIn_wide.2 (HI2.out _)).mono ?_
      rintro en w2 ⟨rfl, rfl⟩
      gi_wp2
      refine hR.mono ?_
      rintro en W3 (⟨rfl, hJ3, hk3⟩ | ⟨rfl, hJx3, _⟩)
      · gi_wp2
        go_end0
        exact ⟨⟨_, rfl⟩, .inl (by rw [HX.out]; exact hJ3)⟩
      · gi_wp2
        go_end0
        exact ⟨⟨_, rfl⟩, .inr ⟨_, ⟨[], by rw [List.append_nil]; exact HX.out.symm⟩, hJx3⟩⟩
    · obtain ⟨i, hii⟩ : ∃ i : Nat, Lib.indexByte r 10 = (i : Int) := ⟨(Lib.indexByte r 10).toNat, by omega⟩
      obtain ⟨hil, hss⟩ := Dw.split_some r i hii
      have HI2 := Lib.hid (show ∀ w, Calls Tryz.prog 77 #[.string ⟨r.toArray⟩, .string ⟨#[10]⟩] w fun e w' => e = .returned (.int .i64 (i : Int)) ∧ w' = w from fun w => by rw [← hii]; exact HI.out w)
      have HX := Lib.hid (show Dw.splitL s = pre ++ r.take i :: Dw.splitL (r.drop (i + 1)) by rw [hsp, hss])
      have HL := Lib.hid (show (r.drop (i + 1)).length ≤ s.length ∧ (r.drop (i + 1)).length < r.length by simp; omega)
      have hrs : (ByteArray.size ⟨r.toArray⟩) = r.length := by simp [ByteArray.size]
      have e1 : (⟨r.toArray⟩ : ByteArray).extract 0 i = ⟨(r.take i).toArray⟩ := by rw [bs_extract]; rfl
      have e2 : (⟨r.toArray⟩ : ByteArray).extract (i + 1) r.length = ⟨(r.drop (i + 1)).toArray⟩ := by rw [bs_extract, List.take_length]
      have g0 : (0 : Int) ≤ (i : Int) := by omega
      have g1 : (i : Int) ≤ (r.length : Int) := by omega
      have g2 : (i : Int) + 1 ≤ (r.length : Int) := by omega
      have g3 : ¬ (i : Int) < 0 := by omega
      have g4 : (0 : Int) ≤ (i : Int) + 1 := by omega
      have a1 : IntKind.i64.wrap (i : Int) = (i : Int) := IntWalk.i64_in _ (by omega)
      have a2 : IntKind.i64.wrap ((i : Int) + 1) = (i : Int) + 1 := by clear a1; exact IntWalk.i64_in _ (by omega)
      have a3 : wrap64 (i : Int) = (i : Int) := by clear a1 a2; exact IntWalk.wrap64_in _ (by omega)
      have a4 : wrap64 ((i : Int) + 1) = (i : Int) + 1 := by clear a1 a2 a3; exact IntWalk.wrap64_in _ (by omega)
      have HOLD := Lib.hid (show strLen (wr.cell? ⟨Bs, 0, none⟩) = r.length by rw [hc]; exact hrs)
      clear hi hge HI hsp hss hii
      obtain ⟨fn, tmps, assign, body, hy, hR⟩ := hY _ (r.take i) _ wr HX.out hJp ⟨_, hb⟩
      gi_wp2
      refine ⟨trivial, ?_⟩
      refine (callsIn_wide.2 (HI2.out _)).mono ?_
      rintro en w2 ⟨rfl, rfl⟩
      gi_wp2
      refine hR.mono ?_
      rintro en W3 (⟨rfl, hJ3, hk3⟩ | ⟨rfl, hJx3, _⟩)
      · have hp3 := (hk3.cell (p := ⟨Bp, 0, none⟩) (lt_of_cell hp) hX.1).trans hp
        have hb3 := (hk3.block Bs (block_lt hb) hX.2.1).trans hb
        have hv3 := (hk3.cell (p := ⟨Bv, 0, none⟩) (lt_of_cell hv) hX.2.2).trans hv
        have hc3 : W3.cell? ⟨Bs, 0, none⟩ = some (.string ⟨r.toArray⟩) := by rw [cell_of_row _ _ 0 _ _ _ hb3]; rfl
        have fz := frozen0 hb3 0
        have hkS := (KeepBut.refl (fun k => k = Bs) W3).setCell (p := ⟨Bs, 0, none⟩) rfl (.string ⟨(r.drop (i + 1)).toArray⟩)
        have hJ4 := hJ _ _ _ hJ3 hkS
        have hb4 := heap_setCell_same W3 Bs 0 _ _ (.string ⟨(r.drop (i + 1)).toArray⟩) hb3
        have hp4 := (hkS.cell (p := ⟨Bp, 0, none⟩) (lt_of_cell hp3) hne.1).trans hp3
        have hv4 := (hkS.cell (p := ⟨Bv, 0, none⟩) (lt_of_cell hv3) hne.2).trans hv3
        have HJ4 := Lib.hid hJ4; have HB4 := Lib.hid hb4; have HP4 := Lib.hid hp4; have HV4 := Lib.hid hv4
        clear hkS hJ4 hb4 hp4 hv4 hJ3 hk3 hb3 hp hb hc hv hJp
        gi_wp2
        go_roundw
        case rel => exact ⟨pre ++ [r.take i], r.drop (i + 1), HL.out.1, by rw [List.append_assoc]; exact HX.out, HJ4.out, HP4.out, HB4.out, HV4.out⟩
        case measure =>
          have h5 : strLen ((W3.setCell ⟨Bs, 0, none⟩ (.string ⟨(r.drop (i + 1)).toArray⟩)).cell? ⟨Bs, 0, none⟩) = (r.drop (i + 1)).length := by
            rw [cell_of_row _ _ 0 _ _ _ HB4.out]
            show ByteArray.size ⟨(r.drop (i + 1)).toArray⟩ = _
            simp [ByteArray.size]
          have h6 := HOLD.out
          have h7 := HL.out.2
          omega
      · gi_wp2
        refine bodyPost_ret (results_none rfl _ _ _) rfl ?_
        exact ⟨⟨_, rfl⟩, .inr ⟨_, ⟨Dw.splitL (r.drop (i + 1)), by rw [List.append_assoc]; exact HX.out.symm⟩, hJx3⟩⟩
end Go.Proofs.YtjibbchfndhhpaaGreatDoor
namespace Go.Proofs.YtjibbchfndhhpaaGreatDoor
open Go.RowKit Go.Shelf
namespace Dw
end Dw
end Go.Proofs.YtjibbchfndhhpaaGreatDoor
namespace Go.Proofs.YtjibbchfndhhpaaGreatDoor
open Go.RowKit Go.Shelf
attribute [local go_sem] Oper.semAt_some
abbrev tenS : ByteArray := ⟨#[48, 49, 50, 51, 52, 53, 54, 55, 56, 57]⟩
theorem ten_at : ∀ d : Fin 10, tenS.extract d.val (d.val + 1) = ⟨#[UInt8.ofNat (48 + d.val)]⟩ := by decide +kernel
theorem digF_small (f u : Nat) (h : u < 10) : Dw.digF (f + 1) u = [UInt8.ofNat (48 + u % 10)] := by
  unfold Dw.digF
  rw [if_pos h, Nat.mod_eq_of_lt h]
theorem digF_more (f u : Nat) (h : ¬ u < 10) : Dw.digF (f + 1) u = Dw.digF f (u / 10) ++ [UInt8.ofNat (48 + u % 10)] := by
  rw [Dw.digF, if_neg h]
theorem itoa_nat (n : Nat) : Dw.itoaS (n : Int) = Dw.digF 19 n := by
  unfold Dw.itoaS
  rw [if_neg (by omega), Int.toNat_natCast]
theorem pow_step (k m : Nat) (hk : k ≤ 8) (hm : m < 10 ^ (9 - k)) (h : ¬ m / 10 = 0) : k + 1 ≤ 8 ∧ m / 10 < 10 ^ (9 - (k + 1)) := by
  have hk8 : k ≠ 8 := by rintro rfl; omega
  refine ⟨by omega, ?_⟩
  rw [show 9 - k = (9 - (k + 1)) + 1 by omega, Nat.pow_succ] at hm
  omega
theorem ofNat48 (d : Nat) : UInt8.ofNat (48 + d) = 48 + UInt8.ofNat d := UInt8.ofNat_add 48 d
theorem dig_end {n k m d q : Nat} {s : List UInt8} (hk : k ≤ 8) (hS : Dw.digF 19 n = Dw.digF (19 - k) m ++ s) (hd : m % 10 = d ∧ m / 10 = q) (hq : q = 0) : Dw.digF 19 n = (48 + UInt8.ofNat d) :: s := by
  rw [hS, show 19 - k = (18 - k) + 1 by omega, digF_small _ _ (by omega), hd.1, ofNat48]
  rfl
theorem dig_next {n k m d q : Nat} {s : List UInt8} (hk : k ≤ 8) (hS : Dw.digF 19 n = Dw.digF (19 - k) m ++ s) (hd : m % 10 = d ∧ m / 10 = q) (hq : ¬ q = 0) : Dw.digF 19 n = Dw.digF (19 - (k + 1)) q ++ ((48 + UInt8.ofNat d) :: s) := by
  rw [hS, show 19 - k = (18 - k) + 1 by omega, digF_more _ _ (by omega), hd.1, hd.2, ofNat48, List.append_assoc, show 19 - (k + 1) = 18 - k by omega]
  rfl
theorem topdig_any (n : Nat) (hn : n < 1000000000) (w : World) :
    Calls Tryz.prog 6 #[.int .i64 (n : Int)] w fun e w' => e = .returned (.string ⟨(Dw.itoaS n).toArray⟩) ∧ w' = w := by
  rw [itoa_nat]
  go_enter Tryz.func6, Tryz.ntmps6
  go_wp2_with fail
  go_loopw [0, 3, 4] (fun a b c wr => ∃ (k m : Nat) (s : List UInt8), k ≤ 8 ∧ m < 10 ^ (9 - k) ∧ Dw.digF 19 n = Dw.digF (19 - k) m ++ s ∧ a = .int .i64 (m : Int) ∧ b = .string ⟨s.toArray⟩ ∧ c = .int .i64 (k : Int) ∧ s.length ≤ k ∧ wr = w) (fun _ _ c _ => 30 - (intOf c).toNat)
  case atStart => exact ⟨0, n, [], by omega, hn, by rw [List.append_nil], rfl, rfl, rfl, Nat.le_refl _, rfl⟩
  case round =>
    obtain ⟨k, m, s, hk, hm, hS, rfl, rfl, rfl, hsl, rfl⟩ := hrel
    have hk20 : (k : Int) < 20 := by omega
    obtain ⟨d, hd⟩ : ∃ d, m % 10 = d := ⟨_, rfl⟩
    obtain ⟨q, hq⟩ : ∃ q, m / 10 = q := ⟨_, rfl⟩
    have hd10 : d < 10 := by omega
    have hm9 : m < 1000000000 := Nat.lt_of_lt_of_le hm (Nat.pow_le_pow_right (by decide) (by omega) : 10 ^ (9 - k) ≤ 10 ^ 9)
    have a1 : Int.tmod (m : Int) 10 = (d : Int) := by rw [← hd]; rfl
    have a2 : Int.tdiv (m : Int) 10 = (q : Int) := by rw [← hq]; rfl
    have HP := Lib.hid (fun h => pow_step k m hk hm h)
    have hten : tenS.extract d (d + 1) = ⟨#[UInt8.ofNat (48 + d)]⟩ := ten_at ⟨d, hd10⟩
    have HE := Lib.hid (fun h => dig_end hk hS ⟨hd, hq⟩ h)
    have HX := Lib.hid (fun h => dig_next hk hS ⟨hd, hq⟩ h)
    rw [hq] at HP
    have hq9 : q < 1000000000 := by omega
    clear hS hm hd hq
    have b1 : IntKind.i64.wrap (d : Int) = (d : Int) := IntWalk.i64_in _ (by clear a1 a2; omega)
    have b2 : IntKind.i64.wrap ((d : Int) + 1) = (d : Int) + 1 := IntWalk.i64_in _ (by clear a1 a2 b1; omega)
    have b3 : IntKind.i64.wrap (q : Int) = (q : Int) := IntWalk.i64_in _ (by clear a1 a2 b1 b2; omega)
    have b4 : wrap64 (d : Int) = (d : Int) := IntWalk.wrap64_in _ (by clear a1 a2 b1 b2 b3; omega)
    have b5 : wrap64 ((d : Int) + 1) = (d : Int) + 1 := IntWalk.wrap64_in _ (by clear a1 a2 b1 b2 b3 b4; omega)
    have g1 : (0 : Int) ≤ (d : Int) := by clear a1 a2 b1 b2 b3 b4 b5; omega
    have g2 : (d : Int) + 1 ≤ 10 := by clear a1 a2 b1 b2 b3 b4 b5; omega
    have g3 : (d : Int) ≤ (d : Int) + 1 := by clear a1 a2 b1 b2 b3 b4 b5; omega
    have gl : ¬ 9223372036854775807 < 1 + s.length := by clear a1 a2 b1 b2 b3 b4 b5; omega
    have e1 : (⟨#[48 + UInt8.ofNat d]⟩ : ByteArray) ++ ⟨s.toArray⟩ = ⟨((48 + UInt8.ofNat d) :: s).toArray⟩ := bs_append [48 + UInt8.ofNat d] s
    have E1 := Lib.hid e1
    clear e1
    have b6 : IntKind.i64.wrap ((k : Int) + 1) = ((k + 1 : Nat) : Int) := IntWalk.i64_in _ (by clear a1 a2 b1 b2 b3 b4 b5; omega)
    by_cases h0 : q = 0
    · have HQ := Lib.hid (HE.out h0)
      subst h0
      go_wp2_with fail
      go_ret
      exact ⟨by rw [HQ.out, E1.out]; rfl, rfl⟩
    · have h0' : ((q : Int) == 0) = false := by simpa using h0
      have HQ := Lib.hid (HX.out h0)
      have HR := Lib.hid (HP.out h0)
      go_wp2_with fail
      refine ⟨⟨k + 1, q, _, HR.out.1, HR.out.2, HQ.out, rfl, by rw [E1.out], rfl, by simp; omega, trivial⟩, ?_⟩
      simp only [intOf]
      omega
end Go.Proofs.YtjibbchfndhhpaaGreatDoor
