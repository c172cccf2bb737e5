/- Layer 1: the reference's at, And, Torn; a row of bytes of one's own. -/
import Derived.Test.YtaniehjhmjecjaaGreatDoorP10
import Derived.Test.YtaniehjhmjecjaaGreatDoorP8
import Derived.Laws.IdiomStrings
namespace Go.Proofs.YtaniehjhmjecjaaGreatDoor
open Go.RowKit Go.Shelf
attribute [local go_sem] Oper.semAt_some

abbrev bcells (l : List UInt8) : List Value := l.map fun b => Value.int .u8 ((b.toNat : Nat) : Int)
/-- A slice of bytes of one's own. -/
def OwnB (B : Nat) (w : World) (v : Value) (l : List UInt8) : Prop := (∃ g cap, v = .slice (some ⟨g, 0, none⟩) l.length cap) ∧ w.ownsRow B 5 1 v l.length (bcells l)
theorem ownB_new (w : World) {B : Nat} (hB : B ≤ w.heap.size) : OwnB B (w.alloc (.cells #[] 5)) (.slice (some ⟨w.heap.size, 0, none⟩) 0 0) [] :=
  ⟨⟨_, _, rfl⟩, by simp, .inr ⟨_, 0, #[], rfl, hB, World.alloc_heap_new _ _, by simp, by simp [maxLen], by simp, by simp⟩⟩
theorem ownB_cell {B : Nat} {w : World} {g n cap : Nat} {l : List UInt8} (h : OwnB B w (.slice (some ⟨g, 0, none⟩) n cap) l) (j : Nat) (hj : j < l.length) : w.cell? ((⟨g, 0, none⟩ : Addr).add j) = some (.int .u8 ((l[j].toNat : Nat) : Int)) := by
  obtain ⟨_, _, h⟩ := h
  rcases h with ⟨h1, _⟩ | ⟨g', cap', cur, h1, _, h3, _, _, _, h7⟩
  · cases h1
  · injection h1 with h1 _ _
    injection h1 with h1
    injection h1 with h1
    subst h1
    rw [addr_add, cell_of_row _ _ j _ _ _ h3]
    have e : (cur.toList.take (l.length * 1))[j]? = some (.int .u8 ((l[j].toNat : Nat) : Int)) := by rw [h7]; simp [bcells, hj]
    rw [List.getElem?_take, if_pos (by omega), Array.getElem?_toList] at e
    exact e
theorem ownB_conv {B : Nat} {w : World} {g n cap : Nat} {l : List UInt8} (h : OwnB B w (.slice (some ⟨g, 0, none⟩) n cap) l) : (convert 125 9 (.slice (some ⟨g, 0, none⟩) n cap)).run Tryz.prog w = .ok (.string ⟨l.toArray⟩) w := by
  obtain ⟨⟨g', cap', h1⟩, _⟩ := id h
  have hn : n = l.length := by injection h1
  subst hn
  exact run_convert_bytes_back (P := Tryz.prog) w 125 9 5 ⟨g, 0, none⟩ cap l Tryz.underlying125 Tryz.underlying5 Tryz.underlying9 (fun j hj => ownB_cell h j hj)
theorem ownB_keep {B : Nat} {A W : World} {v : Value} {l : List UInt8} {X : Nat → Prop} (h : OwnB B A v l) (hk : KeepBut X A W) (hX : ∀ g, B ≤ g → ¬ X g) : OwnB B W v l := ⟨h.1, ownsRow_keep h.2 hk hX⟩
/-- One byte is appended. -/
theorem append_byte {ops : Array Oper} {rest : List Oper} {o : Oper} {a : Act} {Q : Exit → Act → World → Prop} {w W : World} (hgd : o.guard = none) (s x : Operand)
    (ho : o.op = .call { callee := .builtin .append, args := #[s, x], argTypes := #[125, 125] }) {B : Nat} (hB : Below B W w) (hBW : B ≤ W.heap.size)
    {v : Value} {l : List UInt8} {p : UInt8} {g m c : Nat} (hs : a.eval s = v) (hown : OwnB B w v l) (hl : l.length ≤ 1000) (hx : a.eval x = .slice (some ⟨g, 0, none⟩) m c) (hm : m = 1) (hg : w.heap[g]? = some (.cells #[.int .u8 ((p.toNat : Nat) : Int)] 5 (0, 0)))
    (h : ∀ g' c' w', OwnB B w' (.slice (some ⟨g', 0, none⟩) (l.length + 1) c') (l ++ [p]) → Below B W w' → (∀ k, k < w.heap.size → k < B → w'.heap[k]? = w.heap[k]?) → w.heap.size ≤ w'.heap.size → wpList Tryz.prog ops Q rest (a.put o.dst (.slice (some ⟨g', 0, none⟩) (l.length + 1) c')) w') : wpList Tryz.prog ops Q (o :: rest) a w := by
  subst hm
  obtain ⟨i0, hi, hz0, hz1, hz2⟩ := info_parts infoB
  refine wpList_append_own _ hgd s x _ ho B 5 i0 _ 1 1 Tryz.underlying125 hi hz0 hz1 hz2 rfl (by decide) v _ _ hs hown.2 ⟨g, 0, none⟩ 1 c (bcells [p]) hx rfl (news_of_block (c := #[.int .u8 ((p.toNat : Nat) : Int)]) hg) (by simp [bcells, Value.oneCell']) (Nat.le_trans (Nat.add_le_add_right hl 1) (by decide)) (Nat.le_trans (Nat.mul_le_mul_right 1 (Nat.add_le_add_right hl 1)) (by decide)) (Nat.le_trans hBW hB.size) ?_
  intro v2 w2 hown2 hgrow2 _
  have hlt := hown.2.2
  have hk : ∀ k, some k = v.ownBlock → B ≤ k := fun k e => by
    rcases hlt with ⟨h1, _⟩ | ⟨g', cap, cur, h1, h2, _⟩
    · rw [h1] at e; cases e
    · rw [h1] at e
      obtain rfl : k = g' := by simpa [Value.ownBlock] using e
      exact h2
  have hkb : KeepBut (fun k => B ≤ k) w w2 := (KeepBut.refl _ w).grown hgrow2 (fun k e => hk k e.symm)
  rcases hown2.2 with ⟨h1, h2⟩ | ⟨g', c', cur, h1, h2, h3⟩
  · omega
  · subst h1
    refine h g' c' w2 ⟨⟨g', c', by rw [List.length_append]; rfl⟩, ?_⟩ (hB.trans (hkb.below (Nat.le_trans hBW hB.size) (fun _ h => h))) (fun k hk1 hk2 => hkb.block k hk1 (by omega)) hgrow2.size
    have := hown2
    rw [show bcells l ++ bcells [p] = bcells (l ++ [p]) from by simp [bcells]] at this
    rw [List.length_append]
    exact this

theorem bits_or (a b : UInt8) : bits .or .u8 (a.toNat : Int) (b.toNat : Int) = ((a ||| b).toNat : Int) := by
  show IntKind.u8.wrap ((BitVec.ofInt 8 (a.toNat : Int) ||| BitVec.ofInt 8 (b.toNat : Int)).toNat : Int) = _
  rw [bv8, bv8, wrap8]
  rfl
theorem torn_bits (x y m : UInt8) : (x &&& y) &&& m ||| x &&& ~~~m = x &&& ~~~ (x &&& ~~~y &&& m) := by
  apply UInt8.eq_of_toBitVec_eq
  simp only [UInt8.toBitVec_or, UInt8.toBitVec_and, UInt8.toBitVec_not]
  generalize x.toBitVec = a
  generalize y.toBitVec = b
  generalize m.toBitVec = c
  ext i hi
  simp only [BitVec.getElem_or, BitVec.getElem_and, BitVec.getElem_not]
  cases a[i] <;> cases b[i] <;> cases c[i] <;> rfl
namespace Dw
theorem getD_take_succ (l : List UInt8) (k : Nat) (h : k < l.length) : l.take (k + 1) = l.take k ++ [l.getD k 0] := by
  rw [List.take_add_one, List.getElem?_eq_getElem h, List.getD_eq_getElem?_getD, List.getElem?_eq_getElem h]
  rfl
theorem tornB_at' : ∀ (x y m : List UInt8) (k : Nat), k < x.length → (tornB x y m).getD k 0 = ((x.getD k 0 &&& y.getD k 255) &&& m.getD k 0 ||| x.getD k 0 &&& ~~~ m.getD k 0)
  | [], _, _, _, h => absurd h (Nat.not_lt_zero _)
  | x :: xs, y, m, 0, _ => by rw [torn_bits]; cases y <;> cases m <;> rfl
  | x :: xs, y, m, k + 1, h => by
    have h' : k < xs.length := by simpa using h
    have ih := tornB_at' xs y.tail m.tail k h'
    have e1 : ∀ (l : List UInt8) d, l.tail.getD k d = l.getD (k + 1) d := by intro l d; cases l <;> rfl
    rw [e1, e1] at ih
    exact ih
end Dw

theorem rat_any (s : List UInt8) (_hs : s.length ≤ 100000) (i : Nat) (b : UInt8) (B : Int) (hb : B = ((b.toNat : Nat) : Int)) (w : World) :
    Calls Tryz.prog 96 #[.string ⟨s.toArray⟩, .int .i64 i, .int .u8 B] w fun e w' => e = .returned (.int .u8 (((s.getD i b).toNat : Nat) : Int)) ∧ Below w.heap.size w w' := by
  subst hb
  by_cases h : i < s.length
  · have h1 : (i : Int) < (s.length : Int) := by omega
    have Hg := Lib.hid (getD_other s i 0 b h)
    go_enter Tryz.func96, Tryz.ntmps96
    go_wp2_with fail
    go_ret
    exact ⟨by first | rfl | (rw [ba_get, Hg.out]; rfl), Below.refl _ _⟩
  · have h1 : ¬ (i : Int) < (s.length : Int) := by omega
    have Hg := Lib.hid (getD_past s i b h)
    go_enter Tryz.func96, Tryz.ntmps96
    go_wp2_with fail
    go_ret
    exact ⟨by first | rfl | (rw [Hg.out]; rfl), Below.refl _ _⟩

set_option maxRecDepth 100000 in
set_option maxHeartbeats 1000000 in
theorem rand_any (x y : List UInt8) (hx : x.length ≤ 400) (hy : y.length ≤ 100000) (w : World) :
    Calls Tryz.prog 98 #[.string ⟨x.toArray⟩, .string ⟨y.toArray⟩] w fun e w' => e = .returned (.string ⟨(Dw.andB x y).toArray⟩) ∧ Below w.heap.size w w' := by
  have HL := Lib.hid (Dw.andB_length x y)
  have HAT := Lib.hid (Dw.andB_at x y)
  have hB0 := (Below.refl w.heap.size w).alloc (Nat.le_refl _) (.cells #[] 5)
  have hO0 := ownB_new w (Nat.le_refl _)
  generalize hD : Dw.andB x y = D at *
  clear hD
  go_enter Tryz.func98, Tryz.ntmps98
  go_wp2_with fail
  go_loopw [5, 6] (fun v i wr => ∃ k : Nat, k ≤ x.length ∧ i = .int .i64 k ∧ OwnB w.heap.size wr v (D.take k) ∧ Below w.heap.size w wr) (fun _ i _ => x.length - (intOf i).toNat)
  case atStart => exact ⟨0, Nat.zero_le _, rfl, hO0, hB0⟩
  case round =>
    clear hO0 hB0
    obtain ⟨k, hk, rfl, hown, hB⟩ := hrel
    obtain ⟨⟨g, cap, hv⟩, _⟩ := id hown
    have hlen : (D.take k).length = k := by rw [List.length_take, HL.out]; omega
    rw [hlen] at hv
    subst hv
    have hBs := hB.size
    by_cases hlt : k < x.length
    · have h1 : (k : Int) < (x.length : Int) := by omega
      have Htk := Lib.hid (Dw.getD_take_succ D k (by rw [HL.out]; exact hlt))
      have hb := (bits_and (x.getD k 0) (y.getD k 255)).trans (congrArg (fun z : UInt8 => ((z.toNat : Nat) : Int)) (HAT.out k hlt).symm)
      have hry := fun w => rat_any y hy k 255 255 rfl w
      have hxk := ba_get x k
      generalize D.take k = L at *
      generalize D.getD k 0 = dk at *
      generalize x.getD k 0 = xk at hb hxk
      generalize y.getD k 255 = yk at hb hry
      have Hb := Lib.hid hb; have HRY := Lib.hid hry; have HX := Lib.hid hxk; have Hlen := Lib.hid hlen
      clear hb hry hxk hlen
      go_wp2_with fail
      refine wp_letter [0, 1, 2, 3, 4, 5, 6, 7] 8 9 (NewRow wr #[.int .u8 ((dk.toNat : Nat) : Int)] 5) rfl (by kernel_rfl) (by kernel_rfl) rfl (fun v A B h hk => h.keep hk) ?_
      repeat' (first | (refine pl_nil ?_) | (refine pl_value (v := ?_) rfl rfl ?_ ?_; rotate_left 1; (focus (intro w' hk; go_simp; (first | done | with_reducible rfl | exact rfl))); (try simp only [Act.put, List.setIfInBounds_toArray, List.set_cons_zero, List.set_cons_succ])) | (refine pl_call (v := ?_) (f := ?_) (args := ?_) rfl rfl ?_ ?_ ?_; rotate_left 3; (focus (intro w' hk; go_simp; (first | done | (constructor <;> with_reducible rfl) | with_reducible rfl))); (focus (intro w' hk; exact HRY.out w')); (try simp only [Act.put, List.setIfInBounds_toArray, List.set_cons_zero, List.set_cons_succ])) | (refine pl_skip rfl rfl ?_; (try simp only [Act.put, List.setIfInBounds_toArray, List.set_cons_zero, List.set_cons_succ])))
      refine ⟨rfl, sure_row (fun w' _ => by go_simp; rw [HX.out, Hb.out]), ?_⟩
      rintro v2 W2 hk2 ⟨b, rfl, hb, hbc⟩
      simp only [List.drop_succ_cons, List.drop_zero, List.setIfInBounds_toArray, List.size_toArray, List.length_cons, List.length_nil, Nat.zero_add]
      refine append_byte (by rfl) _ _ (by rfl) (hB.trans (hk2.whole.mono hB.size)) (Nat.le_refl _) (by rfl) (ownB_keep hown hk2 (fun _ _ h => h.elim)) (by rw [Hlen.out]; omega) (by rfl) rfl hbc ?_
      intro g' c' w3 hown3 hB3 _ _
      go_wp2_with fail
      go_roundw
      case rel => exact ⟨k + 1, by omega, by go_num, by rw [Htk.out]; exact hown3, hB3⟩
      case measure => simp [intOf]; omega
    · obtain rfl : k = x.length := by omega
      have h1 : ¬ (x.length : Int) < (x.length : Int) := by omega
      have kc := ownB_conv hown
      rw [List.take_of_length_le (by rw [HL.out]; exact Nat.le_refl _)] at kc
      go_wp2_with fail
      go_ret
      exact ⟨rfl, hB⟩

set_option maxRecDepth 100000 in
set_option maxHeartbeats 1000000 in
theorem rtorn_any (x y m : List UInt8) (hx : x.length ≤ 400) (hy : y.length ≤ 100000) (hm : m.length ≤ 100000) (w : World) :
    Calls Tryz.prog 64 #[.string ⟨x.toArray⟩, .string ⟨y.toArray⟩, .string ⟨m.toArray⟩] w fun e w' => e = .returned (.string ⟨(Dw.tornB x y m).toArray⟩) ∧ Below w.heap.size w w' := by
  have HL := Lib.hid (Dw.tornB_length x y m)
  have HAT := Lib.hid (Dw.tornB_at' x y m)
  have hB0 := (Below.refl w.heap.size w).alloc (Nat.le_refl _) (.cells #[] 5)
  have hO0 := ownB_new w (Nat.le_refl _)
  generalize hD : Dw.tornB x y m = D at *
  clear hD
  go_enter Tryz.func64, Tryz.ntmps64
  go_wp2_with fail
  go_loopw [7, 8] (fun v i wr => ∃ k : Nat, k ≤ x.length ∧ i = .int .i64 k ∧ OwnB w.heap.size wr v (D.take k) ∧ Below w.heap.size w wr) (fun _ i _ => x.length - (intOf i).toNat)
  case atStart => exact ⟨0, Nat.zero_le _, rfl, hO0, hB0⟩
  case round =>
    clear hO0 hB0
    obtain ⟨k, hk, rfl, hown, hB⟩ := hrel
    obtain ⟨⟨g, cap, hv⟩, _⟩ := id hown
    have hlen : (D.take k).length = k := by rw [List.length_take, HL.out]; omega
    rw [hlen] at hv
    subst hv
    have hBs := hB.size
    by_cases hlt : k < x.length
    · have h1 : (k : Int) < (x.length : Int) := by omega
      have Htk := Lib.hid (Dw.getD_take_succ D k (by rw [HL.out]; exact hlt))
      have hat := HAT.out k hlt
      have hry := fun w => rat_any y hy k 255 255 rfl w
      have hrm := fun w => rat_any m hm k 0 0 rfl w
      have hxk := ba_get x k
      generalize D.take k = L at *
      generalize D.getD k 0 = dk at *
      generalize x.getD k 0 = xk at hat hxk
      generalize y.getD k 255 = yk at hat hry
      generalize m.getD k 0 = mk at hat hrm
      have Hat := Lib.hid hat; have HRY := Lib.hid hry; have HRM := Lib.hid hrm; have HX := Lib.hid hxk; have Hlen := Lib.hid hlen
      clear hat hry hrm hxk hlen
      go_wp2_with fail
      refine wp_pure (List.range 7) 7 (by kernel_rfl) (by kernel_rfl) rfl ?_
      rw [show List.range 7 = [0, 1, 2, 3, 4, 5, 6] from rfl]
      repeat' (first | (refine pl_nil ?_) | (refine pl_value (v := ?_) rfl rfl ?_ ?_; rotate_left 1; (focus (intro w' hk; go_simp; (first | done | with_reducible rfl | exact rfl))); (try simp only [Act.put, List.setIfInBounds_toArray, List.set_cons_zero, List.set_cons_succ])) | (refine pl_call (v := ?_) (f := ?_) (args := ?_) rfl rfl ?_ ?_ ?_; rotate_left 3; (focus (intro w' hk; go_simp; (first | done | (constructor <;> with_reducible rfl) | with_reducible rfl))); (focus (intro w' hk; exact HRY.out w')); (try simp only [Act.put, List.setIfInBounds_toArray, List.set_cons_zero, List.set_cons_succ])) | (refine pl_skip rfl rfl ?_; (try simp only [Act.put, List.setIfInBounds_toArray, List.set_cons_zero, List.set_cons_succ])))
      intro w2 hk2
      simp only [List.drop_succ_cons, List.drop_zero]
      have hown2 := ownB_keep hown hk2 (fun _ _ h => h.elim)
      have hB2 := hB.trans (hk2.whole.mono hB.size)
      clear hown hB hk2
      go_wp2_with fail
      refine (HRM.out _).mono ?_
      rintro e w3 ⟨rfl, hb⟩
      have hown3 := ownB_keep hown2 (keepB hb) (fun _ _ h => h.elim)
      have hB3 := hB2.trans (hb.mono hB2.size)
      clear hown2 hB2 hb
      have hz3 := hB3.size
      have hB4 := hB3.alloc hB3.size (.cells #[.int .u8 ((dk.toNat : Nat) : Int)] 5)
      have hown4 := ownB_keep hown3 ((KeepBut.refl (fun _ => False) w3).alloc (.cells #[.int .u8 ((dk.toNat : Nat) : Int)] 5)) (fun _ _ h => h)
      have hbc := heap_alloc_new w3 (.cells #[.int .u8 ((dk.toNat : Nat) : Int)] 5)
      have hbit : bits BinOp.or IntKind.u8 (bits BinOp.and IntKind.u8 (bits BinOp.and IntKind.u8 ((xk.toNat : Nat) : Int) ((yk.toNat : Nat) : Int)) ((mk.toNat : Nat) : Int)) (bits BinOp.andNot IntKind.u8 ((xk.toNat : Nat) : Int) ((mk.toNat : Nat) : Int)) = ((dk.toNat : Nat) : Int) := by
        rw [bits_and, bits_and, bits_andNot, bits_or, Hat.out]
      have Hbit := Lib.hid hbit
      clear hbit
      go_wp2_with (at_builtin; rw [HX.out, Hbit.out]; refine append_byte (by rfl) _ _ (by rfl) hB4 (Nat.le_refl _) (by rfl) hown4 (by rw [Hlen.out]; omega) (by rfl) rfl hbc ?_; intro g' c' w5 hown5 hB5 _ _)
      go_wp2_with fail
      go_roundw
      case rel => exact ⟨k + 1, by omega, by go_num, by rw [Htk.out]; exact hown5, hB5⟩
      case measure => simp [intOf]; omega
    · obtain rfl : k = x.length := by omega
      have h1 : ¬ (x.length : Int) < (x.length : Int) := by omega
      have kc := ownB_conv hown
      rw [List.take_of_length_le (by rw [HL.out]; exact Nat.le_refl _)] at kc
      go_wp2_with fail
      go_ret
      exact ⟨rfl, hB⟩
end Go.Proofs.YtaniehjhmjecjaaGreatDoor
