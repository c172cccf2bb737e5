/- What the statement's proof stands on, part 39: Scr3. -/
import Derived.Test.YtjibbchfndhhpaaGreatDoorRb38
import Derived.Test.YtjibbchfndhhpaaGreatDoorRb25
import Derived.Test.YtjibbchfndhhpaaGreatDoorRb33
set_option linter.unusedSimpArgs false
set_option linter.unusedVariables false
set_option maxRecDepth 100000
set_option maxHeartbeats 4000000
namespace Go.Proofs.YtjibbchfndhhpaaGreatDoor
open Go.RowKit Go.Shelf
attribute [local go_sem] Oper.semAt_some
abbrev fliC (x : Dw.Su) (v : Value) : Array Value := #[.string ⟨x.f.a.toArray⟩, .string ⟨x.f.b.toArray⟩, .int .i64 x.f.e0, .int .i64 x.f.e1, .int .i64 x.f.li, .int .i64 x.s.mo, .bool x.s.ar, .bool x.s.ho, .int .i64 x.s.la, .int .i64 x.s.lo, .int .i64 x.s.iso, .int .i64 x.ph, .int .i64 x.vo, .int .i64 x.n, v]
abbrev fliV (x : Dw.Su) (v : Value) : Value := .agg #[.string ⟨x.f.a.toArray⟩, .string ⟨x.f.b.toArray⟩, .int .i64 x.f.e0, .int .i64 x.f.e1, .int .i64 x.f.li, .int .i64 x.s.mo, .bool x.s.ar, .bool x.s.ho, .int .i64 x.s.la, .int .i64 x.s.lo, .int .i64 x.s.iso, .int .i64 x.ph, .int .i64 x.vo, .int .i64 x.n, v]
abbrev Z15 : Array Value := #[.string ⟨#[]⟩, .string ⟨#[]⟩, .int .i64 0, .int .i64 0, .int .i64 0, .int .i64 0, .bool false, .bool false, .int .i64 0, .int .i64 0, .int .i64 0, .int .i64 0, .int .i64 0, .int .i64 0, .slice none 0 0]
abbrev repC (r : Dw.Rep) : Array Value := #[.int .i64 r.e, .int .i64 r.ph, .int .i64 r.s.mo, .bool r.s.ar, .bool r.s.ho, .int .i64 r.s.la, .int .i64 r.s.lo, .int .i64 r.s.iso]
def repCells (l : List Dw.Rep) : List Value := l.flatMap fun r => (repC r).toList
abbrev RepsAt (w : World) (v : Value) (l : List Dw.Rep) : Prop := w.ownsRow 0 173 8 v l.length (repCells l)
theorem reps_next {w w' : World} {v : Value} {l : List Dw.Rep} (h : RepsAt w v l) (hb : Below w.heap.size w w') : RepsAt w' v l := by
  obtain ⟨hl, h | ⟨g, cap, cur, he, h0, hg, hr⟩⟩ := h
  · exact ⟨hl, .inl h⟩
  · exact ⟨hl, .inr ⟨g, cap, cur, he, h0, kp hb hg, hr⟩⟩
theorem reps_low {w : World} {B n : Nat} {v : Value} {l : List Dw.Rep} (h : w.ownsRow B 173 8 v n (repCells l)) (hn : n = l.length) : RepsAt w v l := by
  subst hn
  obtain ⟨hl, h | ⟨g, cap, cur, he, h0, hg, hr⟩⟩ := h
  · exact ⟨hl, .inl h⟩
  · exact ⟨hl, .inr ⟨g, cap, cur, he, Nat.zero_le _, hg, hr⟩⟩
theorem repCells_len (l : List Dw.Rep) : (repCells l).length = l.length * 8 := by
  induction l with
  | nil => rfl
  | cons r l ih =>
    show ((repC r).toList ++ repCells l).length = _
    have h8 : (repC r).toList.length = 8 := rfl
    rw [List.length_append, ih, h8, show (r :: l).length = l.length + 1 from rfl]
    omega
theorem repCells_snoc (l : List Dw.Rep) (r : Dw.Rep) : repCells (l ++ [r]) = repCells l ++ (repC r).toList := by unfold repCells; simp
theorem new_bad (n : Nat) (hn : n ≤ 400) (l : Int) (hl : l < 0 ∨ 1000 < l) (w : World) :
    Calls Tryz.prog 33 #[.int .i64 n, .int .i64 l] w fun e w' => e = .returned (flashV [] [] 0 0 0) ∧ Below w.heap.size w w' := by
  have hB0 := (Below.refl w.heap.size w).alloc (Nat.le_refl _) (.cells (flashC [] [] 0 0 0) 41)
  have hC0 := han w (.cells (flashC [] [] 0 0 0) 41)
  have n1 : ¬ (n : Int) < 0 := by omega
  have n2 : ¬ (400 : Int) < (n : Int) := by omega
  rcases hl with hl | hl
  · go_enter Tryz.func33, Tryz.ntmps33
    go_wp2_with (first | (refine lb hC0 rfl rfl rfl (by kernel_rfl) ?_) | (refine sb hC0 rfl rfl rfl rfl (by kernel_rfl) ?_))
    exact bodyPost_ret (rcr rfl (srh hC0) (by rfl) (by kernel_rfl)) rfl ⟨rfl, below_setRow hB0 (Nat.le_refl _) _⟩
  · have n3 : ¬ l < 0 := by omega
    go_enter Tryz.func33, Tryz.ntmps33
    go_wp2_with (first | (refine lb hC0 rfl rfl rfl (by kernel_rfl) ?_) | (refine sb hC0 rfl rfl rfl rfl (by kernel_rfl) ?_))
    exact bodyPost_ret (rcr rfl (srh hC0) (by rfl) (by kernel_rfl)) rfl ⟨rfl, below_setRow hB0 (Nat.le_refl _) _⟩
theorem newF_any (n li : Int) (w : World) :
    Calls Tryz.prog 33 #[.int .i64 (Dw.size n), .int .i64 li] w fun e w' => e = .returned (flV (Dw.newF n li)) ∧ Below w.heap.size w w' := by
  obtain ⟨m, hm, hm4⟩ : ∃ m : Nat, Dw.size n = (m : Int) ∧ m ≤ 400 := by
    unfold Dw.size
    split
    · exact ⟨(24 * n + 24).toNat, by omega, by omega⟩
    · exact ⟨0, rfl, by omega⟩
  rw [hm]
  unfold Dw.newF
  by_cases hl : li < 0 ∨ 1000 < li
  · rw [if_pos hl]
    exact new_bad m hm4 li hl w
  · rw [if_neg hl]
    obtain ⟨l, rfl⟩ : ∃ l : Nat, li = (l : Int) := ⟨li.toNat, by omega⟩
    have h := new_any m l hm4 (by omega) w
    unfold Dw.size at hm
    by_cases hn : 1 ≤ n ∧ n ≤ 12
    · rw [if_pos hn] at hm ⊢
      obtain rfl : m = 24 * n.toNat + 24 := by omega
      exact h
    · rw [if_neg hn] at hm ⊢
      obtain rfl : m = 0 := by omega
      exact h
theorem begin_any (n li : Int) (w : World) (hn : NoneAt w) :
    Calls Tryz.prog 15 #[.int .i64 n, .int .i64 li] w fun e w' => e = .returned (fliV (Dw.beginF n li).x (.slice none 0 0)) ∧ Below w.heap.size w w' := by
  obtain ⟨V, hV⟩ : ∃ V, w.alloc (.cells Z15 48) = V := ⟨_, rfl⟩
  have b0 := han w (.cells Z15 48)
  have hB := (Below.refl w.heap.size w).alloc (Nat.le_refl _) (.cells Z15 48)
  rw [hV] at b0 hB
  have HS := Lib.hid (fun w => lsize_any n w)
  have HN := Lib.hid (fun w => newF_any n li w)
  have HBt := Lib.hid (fun w hn => boot_any (Dw.newF n li) (Dw.newF_ok n li) w hn)
  rw [show Dw.boot (Dw.newF n li) = (Dw.beginF n li).x from rfl] at HBt
  generalize (Dw.beginF n li).x = X at *
  generalize Dw.newF n li = F at *
  generalize Dw.size n = sz at *
  go_enter Tryz.func15, Tryz.ntmps15
  go_wp2_with fail
  try rw [hV]
  clear hV
  refine cb (HS.out _) fun w1 hb => ?_
  replace b0 := kp hb b0; replace hB := tr hB hb; clear hb HS
  go_wp2_with fail
  refine cb (HN.out _) fun w2 hb => ?_
  replace b0 := kp hb b0; replace hB := tr hB hb; clear hb HN
  go_wp2_with fail
  refine cb (HBt.out _ (hn.next hB)) fun w3 hb => ?_
  replace b0 := kp hb b0; replace hB := tr hB hb; clear hb HBt
  go_wp2_with (first | (refine sb b0 rfl rfl rfl rfl (by kernel_rfl) ?_))
  exact bodyPost_ret (rcr rfl (srh b0) (by rfl) (by kernel_rfl)) rfl ⟨rfl, below_setRow hB (Nat.le_refl _) _⟩
end Go.Proofs.YtjibbchfndhhpaaGreatDoor
