/- What the statement's proof stands on, part 21: RClear, RPut, RPut3, RSt, RBody. -/
import Derived.Test.YtjonoojhdifjiaaGreatDoorBa17
import Derived.Test.YtjonoojhdifjiaaGreatDoorBa15
import Derived.Laws.IdiomStrings
import Derived.Test.YtjonoojhdifjiaaGreatDoorBa20
import Derived.Test.YtjonoojhdifjiaaGreatDoorBa14
import Derived.Test.YtjonoojhdifjiaaGreatDoorBa13
set_option linter.unusedSimpArgs false
set_option linter.unusedVariables false
set_option maxRecDepth 100000
set_option maxHeartbeats 4000000
namespace Go.Proofs.YtjonoojhdifjiaaGreatDoor
open Go.RowKit Go.Shelf
attribute [local go_sem] Oper.semAt_some
abbrev bcells (l : List UInt8) : List Value := l.map fun b => Value.int .u8 ((b.toNat : Nat) : Int)
def OwnB (B : Nat) (w : World) (v : Value) (l : List UInt8) : Prop := (∃ g cap, v = .slice (some ⟨g, 0, none⟩) l.length cap) ∧ w.ownsRow B 5 1 v l.length (bcells l)
theorem ownB_new (w : World) {B : Nat} (hB : B ≤ w.heap.size) : OwnB B (w.alloc (.cells #[] 5)) (.slice (some ⟨w.heap.size, 0, none⟩) 0 0) [] :=
  ⟨⟨_, _, rfl⟩, by simp, .inr ⟨_, 0, #[], rfl, hB, World.alloc_heap_new _ _, by simp, by simp [maxLen], by simp, by simp⟩⟩
theorem ownB_cell {B : Nat} {w : World} {g n cap : Nat} {l : List UInt8} (h : OwnB B w (.slice (some ⟨g, 0, none⟩) n cap) l) (j : Nat) (hj : j < l.length) : w.cell? ((⟨g, 0, none⟩ : Addr).add j) = some (.int .u8 ((l[j].toNat : Nat) : Int)) := by
  obtain ⟨_, _, h⟩ := h
  rcases h with ⟨h1, _⟩ | ⟨g', cap', cur, h1, _, h3, _, _, _, h7⟩
  · cases h1
  · injection h1 with h1 _ _
    injection h1 with h1
    injection h1 with h1
    subst h1
    rw [addr_add, cell_of_row _ _ j _ _ _ h3]
    have e : (cur.toList.take (l.length * 1))[j]? = some (.int .u8 ((l[j].toNat : Nat) : Int)) := by rw [h7]; simp [bcells, hj]
    rw [List.getElem?_take, if_pos (by omega), Array.getElem?_toList] at e
    exact e
theorem ownB_conv {B : Nat} {w : World} {g n cap : Nat} {l : List UInt8} (h : OwnB B w (.slice (some ⟨g, 0, none⟩) n cap) l) : (convert 134 9 (.slice (some ⟨g, 0, none⟩) n cap)).run Tryz.prog w = .ok (.string ⟨l.toArray⟩) w := by
  obtain ⟨⟨g', cap', h1⟩, _⟩ := id h
  have hn : n = l.length := by injection h1
  subst hn
  exact run_convert_bytes_back (P := Tryz.prog) w 134 9 5 ⟨g, 0, none⟩ cap l Tryz.underlying134 Tryz.underlying5 Tryz.underlying9 (fun j hj => ownB_cell h j hj)
theorem ownB_keep {B : Nat} {A W : World} {v : Value} {l : List UInt8} {X : Nat → Prop} (h : OwnB B A v l) (hk : KeepBut X A W) (hX : ∀ g, B ≤ g → ¬ X g) : OwnB B W v l := ⟨h.1, ownsRow_keep h.2 hk hX⟩
theorem append_byte {ops : Array Oper} {rest : List Oper} {o : Oper} {a : Act} {Q : Exit → Act → World → Prop} {w W : World} (hgd : o.guard = none) (s x : Operand)
    (ho : o.op = .call { callee := .builtin .append, args := #[s, x], argTypes := #[134, 134] }) {B : Nat} (hB : Below B W w) (hBW : B ≤ W.heap.size)
    {v : Value} {l : List UInt8} {p : UInt8} {g m c : Nat} (hs : a.eval s = v) (hown : OwnB B w v l) (hl : l.length ≤ 1000) (hx : a.eval x = .slice (some ⟨g, 0, none⟩) m c) (hm : m = 1) (hg : w.heap[g]? = some (.cells #[.int .u8 ((p.toNat : Nat) : Int)] 5 (0, 0)))
    (h : ∀ g' c' w', OwnB B w' (.slice (some ⟨g', 0, none⟩) (l.length + 1) c') (l ++ [p]) → Below B W w' → (∀ k, k < w.heap.size → k < B → w'.heap[k]? = w.heap[k]?) → w.heap.size ≤ w'.heap.size → wpList Tryz.prog ops Q rest (a.put o.dst (.slice (some ⟨g', 0, none⟩) (l.length + 1) c')) w') : wpList Tryz.prog ops Q (o :: rest) a w := by
  subst hm
  obtain ⟨i0, hi, hz0, hz1, hz2⟩ := info_parts infoB
  refine wpList_append_own _ hgd s x _ ho B 5 i0 _ 1 1 Tryz.underlying134 hi hz0 hz1 hz2 rfl (by decide) v _ _ hs hown.2 ⟨g, 0, none⟩ 1 c (bcells [p]) hx rfl (news_of_block (c := #[.int .u8 ((p.toNat : Nat) : Int)]) hg) (by simp [bcells, Value.oneCell']) (Nat.le_trans (Nat.add_le_add_right hl 1) (by decide)) (Nat.le_trans (Nat.mul_le_mul_right 1 (Nat.add_le_add_right hl 1)) (by decide)) (Nat.le_trans hBW hB.size) ?_
  intro v2 w2 hown2 hgrow2 _
  have hlt := hown.2.2
  have hk : ∀ k, some k = v.ownBlock → B ≤ k := fun k e => by
    rcases hlt with ⟨h1, _⟩ | ⟨g', cap, cur, h1, h2, _⟩
    · rw [h1] at e; cases e
    · rw [h1] at e
      obtain rfl : k = g' := by simpa [Value.ownBlock] using e
      exact h2
  have hkb : KeepBut (fun k => B ≤ k) w w2 := (KeepBut.refl _ w).grown hgrow2 (fun k e => hk k e.symm)
  rcases hown2.2 with ⟨h1, h2⟩ | ⟨g', c', cur, h1, h2, h3⟩
  · omega
  · subst h1
    refine h g' c' w2 ⟨⟨g', c', by rw [List.length_append]; rfl⟩, ?_⟩ (hB.trans (hkb.below (Nat.le_trans hBW hB.size) (fun _ h => h))) (fun k hk1 hk2 => hkb.block k hk1 (by omega)) hgrow2.size
    have := hown2
    rw [show bcells l ++ bcells [p] = bcells (l ++ [p]) from by simp [bcells]] at this
    rw [List.length_append]
    exact this
theorem bits_or (a b : UInt8) : bits .or .u8 (a.toNat : Int) (b.toNat : Int) = ((a ||| b).toNat : Int) := by
  show IntKind.u8.wrap ((BitVec.ofInt 8 (a.toNat : Int) ||| BitVec.ofInt 8 (b.toNat : Int)).toNat : Int) = _
  rw [bv8, bv8, wrap8]
  rfl
theorem torn_bits (x y m : UInt8) : (x &&& y) &&& m ||| x &&& ~~~m = x &&& ~~~ (x &&& ~~~y &&& m) := by
  apply UInt8.eq_of_toBitVec_eq
  simp only [UInt8.toBitVec_or, UInt8.toBitVec_and, UInt8.toBitVec_not]
  generalize x.toBitVec = a
  generalize y.toBitVec = b
  generalize m.toBitVec = c
  ext i hi
  simp only [BitVec.getElem_or, BitVec.getElem_and, BitVec.getElem_not]
  cases a[i] <;> cases b[i] <;> cases c[i] <;> rfl
namespace Dw
theorem getD_take_succ (l : List UInt8) (k : Nat) (h : k < l.length) : l.take (k + 1) = l.take k ++ [l.getD k 0] := by
  rw [List.take_add_one, List.getElem?_eq_getElem h, List.getD_eq_getElem?_getD, List.getElem?_eq_getElem h]
  rfl
theorem tornB_at' : ∀ (x y m : List UInt8) (k : Nat), k < x.length → (tornB x y m).getD k 0 = ((x.getD k 0 &&& y.getD k 255) &&& m.getD k 0 ||| x.getD k 0 &&& ~~~ m.getD k 0)
  | [], _, _, _, h => absurd h (Nat.not_lt_zero _)
  | x :: xs, y, m, 0, _ => by rw [torn_bits]; cases y <;> cases m <;> rfl
  | x :: xs, y, m, k + 1, h => by
    have h' : k < xs.length := by simpa using h
    have ih := tornB_at' xs y.tail m.tail k h'
    have e1 : ∀ (l : List UInt8) d, l.tail.getD k d = l.getD (k + 1) d := by intro l d; cases l <;> rfl
    rw [e1, e1] at ih
    exact ih
end Dw
theorem rat_any (s : List UInt8) (_hs : s.length ≤ 100000) (i : Nat) (b : UInt8) (B : Int) (hb : B = ((b.toNat : Nat) : Int)) (w : World) :
    Calls Tryz.prog 181 #[.string ⟨s.toArray⟩, .int .i64 i, .int .u8 B] w fun e w' => e = .returned (.int .u8 (((s.getD i b).toNat : Nat) : Int)) ∧ Below w.heap.size w w' := by
  subst hb
  by_cases h : i < s.length
  · have h1 : (i : Int) < (s.length : Int) := by omega
    have Hg := Lib.hid (getD_other s i 0 b h)
    go_enter Tryz.func181, Tryz.ntmps181
    go_wp2_with fail
    go_ret
    exact ⟨by first | rfl | (rw [ba_get, Hg.out]; rfl), Below.refl _ _⟩
  · have h1 : ¬ (i : Int) < (s.length : Int) := by omega
    have Hg := Lib.hid (getD_past s i b h)
    go_enter Tryz.func181, Tryz.ntmps181
    go_wp2_with fail
    go_ret
    exact ⟨by first | rfl | (rw [Hg.out]; rfl), Below.refl _ _⟩
theorem rand_any (x y : List UInt8) (hx : x.length ≤ 400) (hy : y.length ≤ 100000) (w : World) :
    Calls Tryz.prog 183 #[.string ⟨x.toArray⟩, .string ⟨y.toArray⟩] w fun e w' => e = .returned (.string ⟨(Dw.andB x y).toArray⟩) ∧ Below w.heap.size w w' := by
  have HL := Lib.hid (Dw.andB_length x y)
  have HAT := Lib.hid (Dw.andB_at x y)
  have hB0 := (Below.refl w.heap.size w).alloc (Nat.le_refl _) (.cells #[] 5)
  have hO0 := ownB_new w (Nat.le_refl _)
  generalize hD : Dw.andB x y = D at *
  clear hD
  go_enter Tryz.func183, Tryz.ntmps183
  go_wp2_with fail
  go_loopw [5, 6] (fun v i wr => ∃ k : Nat, k ≤ x.length ∧ i = .int .i64 k ∧ OwnB w.heap.size wr v (D.take k) ∧ Below w.heap.size w wr) (fun _ i _ => x.length - (intOf i).toNat)
  case atStart => exact ⟨0, Nat.zero_le _, rfl, hO0, hB0⟩
  case round =>
    clear hO0 hB0
    obtain ⟨k, hk, rfl, hown, hB⟩ := hrel
    obtain ⟨⟨g, cap, hv⟩, _⟩ := id hown
    have hlen : (D.take k).length = k := by rw [List.length_take, HL.out]; omega
    rw [hlen] at hv
    subst hv
    have hBs := hB.size
    by_cases hlt : k < x.length
    · have h1 : (k : Int) < (x.length : Int) := by omega
      have Htk := Lib.hid (Dw.getD_take_succ D k (by rw [HL.out]; exact hlt))
      have hb := (bits_and (x.getD k 0) (y.getD k 255)).trans (congrArg (fun z : UInt8 => ((z.toNat : Nat) : Int)) (HAT.out k hlt).symm)
      have hry := fun w => rat_any y hy k 255 255 rfl w
      have hxk := ba_get x k
      generalize D.take k = L at *
      generalize D.getD k 0 = dk at *
      generalize x.getD k 0 = xk at hb hxk
      generalize y.getD k 255 = yk at hb hry
      have Hb := Lib.hid hb; have HRY := Lib.hid hry; have HX := Lib.hid hxk; have Hlen := Lib.hid hlen
      clear hb hry hxk hlen
      go_wp2_with fail
      refine wp_letter [0, 1, 2, 3, 4, 5, 6, 7] 8 9 (NewRow wr #[.int .u8 ((dk.toNat : Nat) : Int)] 5) rfl (by kernel_rfl) (by kernel_rfl) rfl (fun v A B h hk => h.keep hk) ?_
      (apply rat; (focus (intro w' hk; repeat' (first | exact rn | ((first | refine' rv ?_ rfl rfl (by go_simp; first | done | with_reducible rfl | exact rfl) | refine' rc ?_ (by exact rfl) (by exact rfl) (by go_simp; first | done | (constructor <;> with_reducible rfl) | with_reducible rfl) (by exact HRY.out w') | refine' rs ?_ rfl rfl); try simp only [Act.put, List.setIfInBounds_toArray, List.set_cons_zero, List.set_cons_succ])))))
      refine ⟨rfl, sure_row (fun w' _ => by go_simp; rw [HX.out, Hb.out]), ?_⟩
      rintro v2 W2 hk2 ⟨b, rfl, hb, hbc⟩
      simp only [List.drop_succ_cons, List.drop_zero, List.setIfInBounds_toArray, List.size_toArray, List.length_cons, List.length_nil, Nat.zero_add]
      refine append_byte (by rfl) _ _ (by rfl) (hB.trans (hk2.whole.mono hB.size)) (Nat.le_refl _) (by rfl) (ownB_keep hown hk2 (fun _ _ h => h.elim)) (by rw [Hlen.out]; omega) (by rfl) rfl hbc ?_
      intro g' c' w3 hown3 hB3 _ _
      go_wp2_with fail
      go_roundw
      case rel => exact ⟨k + 1, by omega, by go_num, by rw [Htk.out]; exact hown3, hB3⟩
      case measure => simp [intOf]; omega
    · obtain rfl : k = x.length := by omega
      have h1 : ¬ (x.length : Int) < (x.length : Int) := by omega
      have kc := ownB_conv hown
      rw [List.take_of_length_le (by rw [HL.out]; exact Nat.le_refl _)] at kc
      go_wp2_with fail
      go_ret
      exact ⟨rfl, hB⟩
theorem rtorn_any (x y m : List UInt8) (hx : x.length ≤ 400) (hy : y.length ≤ 100000) (hm : m.length ≤ 100000) (w : World) :
    Calls Tryz.prog 152 #[.string ⟨x.toArray⟩, .string ⟨y.toArray⟩, .string ⟨m.toArray⟩] w fun e w' => e = .returned (.string ⟨(Dw.tornB x y m).toArray⟩) ∧ Below w.heap.size w w' := by
  have HL := Lib.hid (Dw.tornB_length x y m)
  have HAT := Lib.hid (Dw.tornB_at' x y m)
  have hB0 := (Below.refl w.heap.size w).alloc (Nat.le_refl _) (.cells #[] 5)
  have hO0 := ownB_new w (Nat.le_refl _)
  generalize hD : Dw.tornB x y m = D at *
  clear hD
  go_enter Tryz.func152, Tryz.ntmps152
  go_wp2_with fail
  go_loopw [7, 8] (fun v i wr => ∃ k : Nat, k ≤ x.length ∧ i = .int .i64 k ∧ OwnB w.heap.size wr v (D.take k) ∧ Below w.heap.size w wr) (fun _ i _ => x.length - (intOf i).toNat)
  case atStart => exact ⟨0, Nat.zero_le _, rfl, hO0, hB0⟩
  case round =>
    clear hO0 hB0
    obtain ⟨k, hk, rfl, hown, hB⟩ := hrel
    obtain ⟨⟨g, cap, hv⟩, _⟩ := id hown
    have hlen : (D.take k).length = k := by rw [List.length_take, HL.out]; omega
    rw [hlen] at hv
    subst hv
    have hBs := hB.size
    by_cases hlt : k < x.length
    · have h1 : (k : Int) < (x.length : Int) := by omega
      have Htk := Lib.hid (Dw.getD_take_succ D k (by rw [HL.out]; exact hlt))
      have hat := HAT.out k hlt
      have hry := fun w => rat_any y hy k 255 255 rfl w
      have hrm := fun w => rat_any m hm k 0 0 rfl w
      have hxk := ba_get x k
      generalize D.take k = L at *
      generalize D.getD k 0 = dk at *
      generalize x.getD k 0 = xk at hat hxk
      generalize y.getD k 255 = yk at hat hry
      generalize m.getD k 0 = mk at hat hrm
      have Hat := Lib.hid hat; have HRY := Lib.hid hry; have HRM := Lib.hid hrm; have HX := Lib.hid hxk; have Hlen := Lib.hid hlen
      clear hat hry hrm hxk hlen
      go_wp2_with fail
      refine wp_pure [0,1,2,3,4,5,6] 7 (by kernel_rfl) (by kernel_rfl) rfl ?_
      (apply rat; (focus (intro w' hk; repeat' (first | exact rn | ((first | refine' rv ?_ rfl rfl (by go_simp; first | done | with_reducible rfl | exact rfl) | refine' rc ?_ (by exact rfl) (by exact rfl) (by go_simp; first | done | (constructor <;> with_reducible rfl) | with_reducible rfl) (by exact HRY.out w') | refine' rs ?_ rfl rfl); try simp only [Act.put, List.setIfInBounds_toArray, List.set_cons_zero, List.set_cons_succ])))))
      intro w2 hk2
      simp only [List.drop_succ_cons, List.drop_zero]
      have hown2 := ownB_keep hown hk2 (fun _ _ h => h.elim)
      have hB2 := hB.trans (hk2.whole.mono hB.size)
      clear hown hB hk2
      go_wp2_with fail
      refine cb (HRM.out _) fun w3 hb => ?_
      have hown3 := ownB_keep hown2 (keepB hb) (fun _ _ h => h.elim)
      have hB3 := tr hB2 hb
      clear hown2 hB2 hb
      have hz3 := hB3.size
      have hB4 := hB3.alloc hB3.size (.cells #[.int .u8 ((dk.toNat : Nat) : Int)] 5)
      have hown4 := ownB_keep hown3 ((KeepBut.refl (fun _ => False) w3).alloc (.cells #[.int .u8 ((dk.toNat : Nat) : Int)] 5)) (fun _ _ h => h)
      have hbc := han w3 (.cells #[.int .u8 ((dk.toNat : Nat) : Int)] 5)
      have hbit : bits BinOp.or IntKind.u8 (bits BinOp.and IntKind.u8 (bits BinOp.and IntKind.u8 ((xk.toNat : Nat) : Int) ((yk.toNat : Nat) : Int)) ((mk.toNat : Nat) : Int)) (bits BinOp.andNot IntKind.u8 ((xk.toNat : Nat) : Int) ((mk.toNat : Nat) : Int)) = ((dk.toNat : Nat) : Int) := by
        rw [bits_and, bits_and, bits_andNot, bits_or, Hat.out]
      have Hbit := Lib.hid hbit
      clear hbit
      go_wp2_with (at_builtin; rw [HX.out, Hbit.out]; refine append_byte (by rfl) _ _ (by rfl) hB4 (Nat.le_refl _) (by rfl) hown4 (by rw [Hlen.out]; omega) (by rfl) rfl hbc ?_; intro g' c' w5 hown5 hB5 _ _)
      go_wp2_with fail
      go_roundw
      case rel => exact ⟨k + 1, by omega, by go_num, by rw [Htk.out]; exact hown5, hB5⟩
      case measure => simp [intOf]; omega
    · obtain rfl : k = x.length := by omega
      have h1 : ¬ (x.length : Int) < (x.length : Int) := by omega
      have kc := ownB_conv hown
      rw [List.take_of_length_le (by rw [HL.out]; exact Nat.le_refl _)] at kc
      go_wp2_with fail
      go_ret
      exact ⟨rfl, hB⟩
theorem rat5_any (n : Nat) (hn : n ≤ 12) (w : World) :
    Calls Tryz.prog 148 #[.int .i64 n] w fun e w' => e = .returned (.int .i64 ((24 * n + 0 : Nat) : Int)) ∧ Below w.heap.size w w' := by
  have i1 : ¬ (n : Int) < 0 := by omega
  have i2 : ¬ (12 : Int) < (n : Int) := by omega
  have i3 : IntKind.i64.wrap (24 * (n : Int)) = 24 * (n : Int) := IntWalk.i64_in _ (by omega)
  go_enter Tryz.func148, Tryz.ntmps148
  go_wp2_with fail
  go_ret
  exact ⟨ret_int (by omega), Below.refl _ _⟩
theorem rmark5_any (n : Nat) (hn : n ≤ 12) (w : World) :
    Calls Tryz.prog 150 #[.int .i64 n] w fun e w' => e = .returned (.int .i64 ((24 * n + 22 : Nat) : Int)) ∧ Below w.heap.size w w' := by
  have i1 : ¬ (n : Int) < 0 := by omega
  have i2 : ¬ (12 : Int) < (n : Int) := by omega
  have i3 : IntKind.i64.wrap (24 * (n : Int)) = 24 * (n : Int) := IntWalk.i64_in _ (by omega)
  have i4 : IntKind.i64.wrap (24 * (n : Int) + 22) = 24 * (n : Int) + 22 := IntWalk.i64_in _ (by omega)
  go_enter Tryz.func150, Tryz.ntmps150
  go_wp2_with fail
  go_ret
  exact ⟨ret_int (by omega), Below.refl _ _⟩
theorem rput_any (n : Nat) (hn : n < 18446744073709551616) (w : World) :
    Calls Tryz.prog 71 #[.int .u64 n, .int .i64 8] w fun e w' => e = .returned (.string ⟨(Dw.put 8 n).toArray⟩) ∧ Below w.heap.size w w' := by
  have HL := Lib.hid (Dw.put_length 8 n)
  have HG := Lib.hid (show ∀ k, k < 8 → (((Dw.put 8 n).getD k 0).toNat : Int) = ((n / 256 ^ (7 - k) % 256 : Nat) : Int) from fun k hk => by
    have hk' : k < (Dw.put 8 n).length := by rw [Dw.put_length]; exact hk
    rw [List.getD_eq_getElem?_getD, List.getElem?_eq_getElem hk', Option.getD_some, Dw.put_at])
  have hB0 := (Below.refl w.heap.size w).alloc (Nat.le_refl _) (.cells #[] 5)
  have hO0 := ownB_new w (Nat.le_refl _)
  generalize hD : Dw.put 8 n = D at *
  clear hD
  have hmx : max (0 : Int) 8 = 8 := by decide
  go_enter Tryz.func71, Tryz.ntmps71
  go_wp2_with fail
  go_loopw [5, 6] (fun v i wr => ∃ k : Nat, k ≤ 8 ∧ i = .int .i64 (7 - (k : Int)) ∧ OwnB w.heap.size wr v (D.take k) ∧ Below w.heap.size w wr) (fun _ i _ => (intOf i + 1).toNat)
  case atStart => exact ⟨0, Nat.zero_le _, rfl, hO0, hB0⟩
  case round =>
    clear hO0 hB0
    obtain ⟨k, hk, rfl, hown, hB⟩ := hrel
    obtain ⟨⟨g, cap, hv⟩, _⟩ := id hown
    have hlen : (D.take k).length = k := by rw [List.length_take, HL.out]; omega
    rw [hlen] at hv
    subst hv
    have hBs := hB.size
    by_cases hlt : k < 8
    · have Htk := Lib.hid (Dw.getD_take_succ D k (by rw [HL.out]; exact hlt))
      have hg := HG.out k hlt
      generalize D.take k = L at *
      generalize D.getD k 0 = dk at *
      have hB4 := hB.alloc hB.size (.cells #[.int .u8 ((dk.toNat : Nat) : Int)] 5)
      have hown4 := ownB_keep hown ((KeepBut.refl (fun _ => False) wr).alloc (.cells #[.int .u8 ((dk.toNat : Nat) : Int)] 5)) (fun _ _ h => h)
      have hbc := han wr (.cells #[.int .u8 ((dk.toNat : Nat) : Int)] 5)
      have HB4 := Lib.hid hB4; have HO4 := Lib.hid hown4; have HBC := Lib.hid hbc; have Hlen := Lib.hid hlen
      clear hB4 hown4 hbc hown hB hlen
      rcases (by omega : k = 0 ∨ k = 1 ∨ k = 2 ∨ k = 3 ∨ k = 4 ∨ k = 5 ∨ k = 6 ∨ k = 7) with rfl | rfl | rfl | rfl | rfl | rfl | rfl | rfl
      · rw [show (7 - (((0 : Nat)) : Int)) = 7 from rfl]
        rw [show 256 ^ (7 - 0) = 72057594037927936 from rfl] at hg
        have hbyte : (n : Int) / 72057594037927936 = ((dk.toNat : Nat) : Int) := by rw [hg]; omega
        have Hbyte := Lib.hid hbyte
        clear hbyte hg
        go_wp2_with (at_builtin; rw [Hbyte.out]; refine append_byte (p := dk) (by rfl) _ _ (by rfl) HB4.out (Nat.le_refl _) (by rfl) HO4.out (by rw [Hlen.out]; decide) (by rfl) rfl HBC.out ?_; intro g' c' w5 hown5 hB5 _ _)
        go_wp2_with fail
        go_roundw
        case rel => exact ⟨1, by decide, by rfl, by rw [Htk.out]; exact hown5, hB5⟩
        case measure => first | done | (simp [intOf]; done) | (simp [intOf]; omega)
      · rw [show (7 - (((1 : Nat)) : Int)) = 6 from rfl]
        rw [show 256 ^ (7 - 1) = 281474976710656 from rfl] at hg
        have hbyte : (n : Int) / 281474976710656 % 256 = ((dk.toNat : Nat) : Int) := by rw [hg]; omega
        have Hbyte := Lib.hid hbyte
        clear hbyte hg
        go_wp2_with (at_builtin; rw [Hbyte.out]; refine append_byte (p := dk) (by rfl) _ _ (by rfl) HB4.out (Nat.le_refl _) (by rfl) HO4.out (by rw [Hlen.out]; decide) (by rfl) rfl HBC.out ?_; intro g' c' w5 hown5 hB5 _ _)
        go_wp2_with fail
        go_roundw
        case rel => exact ⟨2, by decide, by rfl, by rw [Htk.out]; exact hown5, hB5⟩
        case measure => first | done | (simp [intOf]; done) | (simp [intOf]; omega)
      · rw [show (7 - (((2 : Nat)) : Int)) = 5 from rfl]
        rw [show 256 ^ (7 - 2) = 1099511627776 from rfl] at hg
        have hbyte : (n : Int) / 1099511627776 % 256 = ((dk.toNat : Nat) : Int) := by rw [hg]; omega
        have Hbyte := Lib.hid hbyte
        clear hbyte hg
        go_wp2_with (at_builtin; rw [Hbyte.out]; refine append_byte (p := dk) (by rfl) _ _ (by rfl) HB4.out (Nat.le_refl _) (by rfl) HO4.out (by rw [Hlen.out]; decide) (by rfl) rfl HBC.out ?_; intro g' c' w5 hown5 hB5 _ _)
        go_wp2_with fail
        go_roundw
        case rel => exact ⟨3, by decide, by rfl, by rw [Htk.out]; exact hown5, hB5⟩
        case measure => first | done | (simp [intOf]; done) | (simp [intOf]; omega)
      · rw [show (7 - (((3 : Nat)) : Int)) = 4 from rfl]
        rw [show 256 ^ (7 - 3) = 4294967296 from rfl] at hg
        have hbyte : (n : Int) / 4294967296 % 256 = ((dk.toNat : Nat) : Int) := by rw [hg]; omega
        have Hbyte := Lib.hid hbyte
        clear hbyte hg
        go_wp2_with (at_builtin; rw [Hbyte.out]; refine append_byte (p := dk) (by rfl) _ _ (by rfl) HB4.out (Nat.le_refl _) (by rfl) HO4.out (by rw [Hlen.out]; decide) (by rfl) rfl HBC.out ?_; intro g' c' w5 hown5 hB5 _ _)
        go_wp2_with fail
        go_roundw
        case rel => exact ⟨4, by decide, by rfl, by rw [Htk.out]; exact hown5, hB5⟩
        case measure => first | done | (simp [intOf]; done) | (simp [intOf]; omega)
      · rw [show (7 - (((4 : Nat)) : Int)) = 3 from rfl]
        rw [show 256 ^ (7 - 4) = 16777216 from rfl] at hg
        have hbyte : (n : Int) / 16777216 % 256 = ((dk.toNat : Nat) : Int) := by rw [hg]; omega
        have Hbyte := Lib.hid hbyte
        clear hbyte hg
        go_wp2_with (at_builtin; rw [Hbyte.out]; refine append_byte (p := dk) (by rfl) _ _ (by rfl) HB4.out (Nat.le_refl _) (by rfl) HO4.out (by rw [Hlen.out]; decide) (by rfl) rfl HBC.out ?_; intro g' c' w5 hown5 hB5 _ _)
        go_wp2_with fail
        go_roundw
        case rel => exact ⟨5, by decide, by rfl, by rw [Htk.out]; exact hown5, hB5⟩
        case measure => first | done | (simp [intOf]; done) | (simp [intOf]; omega)
      · rw [show (7 - (((5 : Nat)) : Int)) = 2 from rfl]
        rw [show 256 ^ (7 - 5) = 65536 from rfl] at hg
        have hbyte : (n : Int) / 65536 % 256 = ((dk.toNat : Nat) : Int) := by rw [hg]; omega
        have Hbyte := Lib.hid hbyte
        clear hbyte hg
        go_wp2_with (at_builtin; rw [Hbyte.out]; refine append_byte (p := dk) (by rfl) _ _ (by rfl) HB4.out (Nat.le_refl _) (by rfl) HO4.out (by rw [Hlen.out]; decide) (by rfl) rfl HBC.out ?_; intro g' c' w5 hown5 hB5 _ _)
        go_wp2_with fail
        go_roundw
        case rel => exact ⟨6, by decide, by rfl, by rw [Htk.out]; exact hown5, hB5⟩
        case measure => first | done | (simp [intOf]; done) | (simp [intOf]; omega)
      · rw [show (7 - (((6 : Nat)) : Int)) = 1 from rfl]
        rw [show 256 ^ (7 - 6) = 256 from rfl] at hg
        have hbyte : (n : Int) / 256 % 256 = ((dk.toNat : Nat) : Int) := by rw [hg]; omega
        have Hbyte := Lib.hid hbyte
        clear hbyte hg
        go_wp2_with (at_builtin; rw [Hbyte.out]; refine append_byte (p := dk) (by rfl) _ _ (by rfl) HB4.out (Nat.le_refl _) (by rfl) HO4.out (by rw [Hlen.out]; decide) (by rfl) rfl HBC.out ?_; intro g' c' w5 hown5 hB5 _ _)
        go_wp2_with fail
        go_roundw
        case rel => exact ⟨7, by decide, by rfl, by rw [Htk.out]; exact hown5, hB5⟩
        case measure => first | done | (simp [intOf]; done) | (simp [intOf]; omega)
      · rw [show (7 - (((7 : Nat)) : Int)) = 0 from rfl]
        rw [show 256 ^ (7 - 7) = 1 from rfl] at hg
        have hbyte : (n : Int) % 256 = ((dk.toNat : Nat) : Int) := by rw [hg]; omega
        have Hbyte := Lib.hid hbyte
        clear hbyte hg
        go_wp2_with (at_builtin; rw [Hbyte.out]; refine append_byte (p := dk) (by rfl) _ _ (by rfl) HB4.out (Nat.le_refl _) (by rfl) HO4.out (by rw [Hlen.out]; decide) (by rfl) rfl HBC.out ?_; intro g' c' w5 hown5 hB5 _ _)
        go_wp2_with fail
        go_roundw
        case rel => exact ⟨8, by decide, by rfl, by rw [Htk.out]; exact hown5, hB5⟩
        case measure => first | done | (simp [intOf]; done) | (simp [intOf]; omega)
    · obtain rfl : k = 8 := by omega
      have kc := ownB_conv hown
      rw [List.take_of_length_le (by rw [HL.out]; exact Nat.le_refl _)] at kc
      go_wp2_with fail
      go_ret
      exact ⟨rfl, hB⟩
theorem rput3_any (n : Nat) (_ : n < 18446744073709551616) (w : World) :
    Calls Tryz.prog 71 #[.int .u64 n, .int .i64 3] w fun e w' => e = .returned (.string ⟨(Dw.put 3 n).toArray⟩) ∧ Below w.heap.size w w' := by
  have HL := Lib.hid (Dw.put_length 3 n)
  have HG := Lib.hid (show ∀ k, k < 3 → (((Dw.put 3 n).getD k 0).toNat : Int) = ((n / 256 ^ (2 - k) % 256 : Nat) : Int) from fun k hk => by
    have hk' : k < (Dw.put 3 n).length := by rw [Dw.put_length]; exact hk
    rw [List.getD_eq_getElem?_getD, List.getElem?_eq_getElem hk', Option.getD_some, Dw.put_at])
  have hB0 := (Below.refl w.heap.size w).alloc (Nat.le_refl _) (.cells #[] 5)
  have hO0 := ownB_new w (Nat.le_refl _)
  generalize hD : Dw.put 3 n = D at *
  clear hD
  have hmx : max (0 : Int) 3 = 3 := by decide
  have hmn : min (3 : Int) 8 = 3 := by decide
  go_enter Tryz.func71, Tryz.ntmps71
  go_wp2_with fail
  go_loopw [5, 6] (fun v i wr => ∃ k : Nat, k ≤ 3 ∧ i = .int .i64 (2 - (k : Int)) ∧ OwnB w.heap.size wr v (D.take k) ∧ Below w.heap.size w wr) (fun _ i _ => (intOf i + 1).toNat)
  case atStart => exact ⟨0, Nat.zero_le _, rfl, hO0, hB0⟩
  case round =>
    clear hO0 hB0
    obtain ⟨k, hk, rfl, hown, hB⟩ := hrel
    obtain ⟨⟨g, cap, hv⟩, _⟩ := id hown
    have hlen : (D.take k).length = k := by rw [List.length_take, HL.out]; omega
    rw [hlen] at hv
    subst hv
    have hBs := hB.size
    by_cases hlt : k < 3
    · have Htk := Lib.hid (Dw.getD_take_succ D k (by rw [HL.out]; exact hlt))
      have hg := HG.out k hlt
      generalize D.take k = L at *
      generalize D.getD k 0 = dk at *
      have hB4 := hB.alloc hB.size (.cells #[.int .u8 ((dk.toNat : Nat) : Int)] 5)
      have hown4 := ownB_keep hown ((KeepBut.refl (fun _ => False) wr).alloc (.cells #[.int .u8 ((dk.toNat : Nat) : Int)] 5)) (fun _ _ h => h)
      have hbc := han wr (.cells #[.int .u8 ((dk.toNat : Nat) : Int)] 5)
      have HB4 := Lib.hid hB4; have HO4 := Lib.hid hown4; have HBC := Lib.hid hbc; have Hlen := Lib.hid hlen
      clear hB4 hown4 hbc hown hB hlen
      rcases (by omega : k = 0 ∨ k = 1 ∨ k = 2) with rfl | rfl | rfl
      · rw [show (2 - (((0 : Nat)) : Int)) = 2 from rfl]
        rw [show 256 ^ (2 - 0) = 65536 from rfl] at hg
        have hbyte : (n : Int) / 65536 % 256 = ((dk.toNat : Nat) : Int) := by rw [hg]; omega
        have Hbyte := Lib.hid hbyte
        clear hbyte hg
        go_wp2_with (at_builtin; rw [Hbyte.out]; refine append_byte (p := dk) (by rfl) _ _ (by rfl) HB4.out (Nat.le_refl _) (by rfl) HO4.out (by rw [Hlen.out]; decide) (by rfl) rfl HBC.out ?_; intro g' c' w5 hown5 hB5 _ _)
        go_wp2_with fail
        go_roundw
        case rel => exact ⟨1, by decide, by rfl, by rw [Htk.out]; exact hown5, hB5⟩
        case measure => first | done | (simp [intOf]; done) | (simp [intOf]; omega)
      · rw [show (2 - (((1 : Nat)) : Int)) = 1 from rfl]
        rw [show 256 ^ (2 - 1) = 256 from rfl] at hg
        have hbyte : (n : Int) / 256 % 256 = ((dk.toNat : Nat) : Int) := by rw [hg]; omega
        have Hbyte := Lib.hid hbyte
        clear hbyte hg
        go_wp2_with (at_builtin; rw [Hbyte.out]; refine append_byte (p := dk) (by rfl) _ _ (by rfl) HB4.out (Nat.le_refl _) (by rfl) HO4.out (by rw [Hlen.out]; decide) (by rfl) rfl HBC.out ?_; intro g' c' w5 hown5 hB5 _ _)
        go_wp2_with fail
        go_roundw
        case rel => exact ⟨2, by decide, by rfl, by rw [Htk.out]; exact hown5, hB5⟩
        case measure => first | done | (simp [intOf]; done) | (simp [intOf]; omega)
      · rw [show (2 - (((2 : Nat)) : Int)) = 0 from rfl]
        rw [show 256 ^ (2 - 2) = 1 from rfl] at hg
        have hbyte : (n : Int) % 256 = ((dk.toNat : Nat) : Int) := by rw [hg]; omega
        have Hbyte := Lib.hid hbyte
        clear hbyte hg
        go_wp2_with (at_builtin; rw [Hbyte.out]; refine append_byte (p := dk) (by rfl) _ _ (by rfl) HB4.out (Nat.le_refl _) (by rfl) HO4.out (by rw [Hlen.out]; decide) (by rfl) rfl HBC.out ?_; intro g' c' w5 hown5 hB5 _ _)
        go_wp2_with fail
        go_roundw
        case rel => exact ⟨3, by decide, by rfl, by rw [Htk.out]; exact hown5, hB5⟩
        case measure => first | done | (simp [intOf]; done) | (simp [intOf]; omega)
    · obtain rfl : k = 3 := by omega
      have kc := ownB_conv hown
      rw [List.take_of_length_le (by rw [HL.out]; exact Nat.le_refl _)] at kc
      go_wp2_with fail
      go_ret
      exact ⟨rfl, hB⟩
theorem rlegal_any (s : Dw.St) (w : World) :
    Calls Tryz.prog 14 #[stV s] w fun e w' => e = .returned (.bool (Dw.legal s)) ∧ Below w.heap.size w w' := by
  have hB0 := (Below.refl w.heap.size w).alloc (Nat.le_refl _) (.cells (stC s) 30)
  have hC0 := han w (.cells (stC s) 30)
  obtain ⟨mo, ar, ho, la, lo, iso⟩ := s
  obtain ⟨c0, c1, c2, c3, c4, c5⟩ := cells6 hC0
  have HB := Lib.hid hB0
  clear hC0 hB0
  cases ho
  · have HLE := Lib.hid (show ∀ la, Dw.legal ⟨mo, ar, false, la, lo, iso⟩ = decide ((0 ≤ mo ∧ mo ≤ 5 ∧ 0 ≤ iso ∧ iso ≤ 15) ∧ (-737280 ≤ la ∧ la ≤ 737280 ∧ -1474560 ≤ lo ∧ lo ≤ 1474560) ∧ (la = 0 ∧ lo = 0)) from fun la => by
      rw [Bool.eq_iff_iff, Dw.legal_iff, decide_eq_true_eq]; simp)
    go_enter Tryz.func14, Tryz.ntmps14
    go_wp2_with fail
    all_goals
      go_ret
      refine ⟨?_, (Below.refl w.heap.size w).alloc (Nat.le_refl _) _⟩
      rw [HLE.out]
      first | exact ret_bool (decide_eq_true (by omega)).symm | exact ret_bool (decide_eq_false (by omega)).symm | exact ret_bool (show (lo == 0) = _ from by rw [Bool.eq_iff_iff]; simp; omega)
  · have HLE := Lib.hid (show Dw.legal ⟨mo, ar, true, la, lo, iso⟩ = decide ((0 ≤ mo ∧ mo ≤ 5 ∧ 0 ≤ iso ∧ iso ≤ 15) ∧ (-737280 ≤ la ∧ la ≤ 737280 ∧ -1474560 ≤ lo ∧ lo ≤ 1474560)) from by
      rw [Bool.eq_iff_iff, Dw.legal_iff, decide_eq_true_eq]; simp)
    go_enter Tryz.func14, Tryz.ntmps14
    go_wp2_with fail
    all_goals
      go_ret
      refine ⟨?_, (Below.refl w.heap.size w).alloc (Nat.le_refl _) _⟩
      rw [HLE.out]
      first | exact ret_bool (decide_eq_true (by omega)).symm | exact ret_bool (decide_eq_false (by omega)).symm
theorem rbody_any (k q d : Nat) (hk : k < 256) (hq : q < 18446744073709551616) (hd : d < 18446744073709551616) (w : World) :
    Calls Tryz.prog 149 #[.agg #[.int .i64 k, .int .u64 q, .int .u64 d]] w fun e w' => e = .returned (.string ⟨(Dw.body k q d).toArray⟩) ∧ Below w.heap.size w w' := by
  have hB := (Below.refl w.heap.size w).alloc (Nat.le_refl _) (.cells #[.int .i64 k, .int .u64 q, .int .u64 d] 122)
  have hF := han w (.cells #[.int .i64 k, .int .u64 q, .int .u64 d] 122)
  obtain ⟨c0, c1, c2⟩ := cells3 hF
  have hkb : IntKind.u8.wrap (k : Int) = (k : Int) := by rw [IntKind.wrap_u8']; omega
  have Hbody := Lib.hid (show Dw.body k q d = Dw.head k q d ++ Dw.put 4 (Dw.rev4 (Dw.sum (Dw.head k q d))) from rfl)
  have Hhead := Lib.hid (show Dw.head k q d = [165, UInt8.ofNat k] ++ (Dw.put 8 q ++ Dw.put 8 d) from rfl)
  have Hhl := Lib.hid (Dw.head_length k q d)
  have hsl : Dw.sum (Dw.head k q d) < 4294967296 := Dw.sum_lt _
  have HP1 := Lib.hid (fun w => rput_any q hq w)
  have HP2 := Lib.hid (fun w => rput_any d hd w)
  have l1 : (Dw.put 8 q).length = 8 := Dw.put_length 8 q
  have l2 : (Dw.put 8 d).length = 8 := Dw.put_length 8 d
  have hk8 : ((UInt8.ofNat k).toNat : Int) = (k : Int) := by rw [UInt8.toNat_ofNat']; omega
  generalize Dw.put 8 q = Q at *
  generalize Dw.put 8 d = D at *
  generalize hkk : UInt8.ofNat k = kb at *
  clear hkk hq hd
  have HK8 := Lib.hid hk8
  clear hk8
  go_enter Tryz.func149, Tryz.ntmps149
  go_wp2_with fail
  generalize w.alloc _ = W at *
  refine wp_letterM [0, 1, 2, 5, 6, 7, 9, 10, 11] 3 [4, 8, 12] 13 (some 7) (NewRow W #[.int .u8 165, .int .u8 (k : Int)] 5) rfl rfl (by kernel_rfl) (by kernel_rfl) (by kernel_rfl) rfl (fun v A B h hk => h.keep hk) ?_
  (apply rat; (focus (intro w' hk; obtain ⟨x0,x1,x2⟩ := look3 hk c0 c1 c2; (iterate 5 (refine' rv ?_ rfl rfl (by go_simp; first | done | with_reducible rfl | exact rfl); try simp only [Act.put, List.setIfInBounds_toArray, List.set_cons_zero, List.set_cons_succ])); (refine' rc ?_ (by exact rfl) (by exact rfl) (by go_simp; first | done | (constructor <;> with_reducible rfl) | with_reducible rfl) (by exact HP1.out w'); try simp only [Act.put, List.setIfInBounds_toArray, List.set_cons_zero, List.set_cons_succ]); (iterate 2 (refine' rv ?_ rfl rfl (by go_simp; first | done | with_reducible rfl | exact rfl); try simp only [Act.put, List.setIfInBounds_toArray, List.set_cons_zero, List.set_cons_succ])); (refine' rc ?_ (by exact rfl) (by exact rfl) (by go_simp; first | done | (constructor <;> with_reducible rfl) | with_reducible rfl) (by exact HP2.out w'); try simp only [Act.put, List.setIfInBounds_toArray, List.set_cons_zero, List.set_cons_succ]); (exact rn))))
  refine ⟨rfl, sure_row (fun w' _ => by go_simp), ?_⟩
  rintro v W2 hk2 ⟨b, rfl, hb, hbc⟩
  simp only [List.setIfInBounds_toArray, List.set_cons_zero, List.set_cons_succ, List.size_toArray, List.length_cons, List.length_nil, Nat.zero_add]
  have kc : ∀ w', Keep W2 w' → (convert 134 9 (.slice (some ⟨b, 0, none⟩) 2 2)).run Tryz.prog w' = .ok (.string ⟨([165, kb] : List UInt8).toArray⟩) w' := fun w' hk' => by
    have hbc' := kpi hk' hbc
    exact run_convert_bytes_back (P := Tryz.prog) w' 134 9 5 ⟨b, 0, none⟩ 2 [165, kb] Tryz.underlying134 Tryz.underlying5 Tryz.underlying9 (fun j hj => by
      rw [addr_add, cell_of_row _ _ j _ _ _ hbc']
      have hj2 : j < 2 := hj
      rcases (by omega : j = 0 ∨ j = 1) with rfl | rfl
      · rfl
      · show some (Value.int .u8 (k : Int)) = some (Value.int .u8 ((kb.toNat : Nat) : Int))
        rw [HK8.out])
  have KC := Lib.hid kc
  clear kc
  generalize hSS : ([165, kb] : List UInt8) = SS at *
  have hS2 : SS.length = 2 := by rw [← hSS]; rfl
  have HSS := Lib.hid hSS
  clear hSS
  have j1 : ¬ 9223372036854775807 < SS.length + Q.length := by omega
  have j2 : ¬ 9223372036854775807 < SS.length + Q.length + D.length := by omega
  repeat' (first | (refine pl_value (v := ?_) rfl rfl ?_ ?_; rotate_left 1; (focus (intro w' hk; have kc' := KC.out w' hk; go_simp; (first | done | with_reducible rfl | exact rfl))); (try simp only [Act.put, List.setIfInBounds_toArray, List.set_cons_zero, List.set_cons_succ])) | (refine pl_value (v := ?_) rfl rfl ?_ ?_; rotate_left 1; (focus (intro w' hk; go_simp; (first | done | with_reducible rfl | exact rfl))); (try simp only [Act.put, List.setIfInBounds_toArray, List.set_cons_zero, List.set_cons_succ])))
  refine pl_nil ?_
  intro w3 hk3 _
  simp only [List.drop_succ_cons, List.drop_zero]
  rw [show ((⟨SS.toArray⟩ : ByteArray) ++ ⟨Q.toArray⟩ ++ ⟨D.toArray⟩) = ⟨(Dw.head k q d).toArray⟩ from by rw [bs_append, bs_append, Hhead.out, ← HSS.out, List.append_assoc]]
  have hB3 := hB.trans ((hk2.trans hk3).whole.mono hB.size)
  have hhl := Hhl.out
  generalize Dw.head k q d = hd at *
  clear hk2 hk3 hbc hB KC c0 c1 c2 j1 j2 Hhead HP1 HP2
  go_wp2_with fail
  refine cb (rsum_any ⟨hd.toArray⟩ (by simp [ByteArray.size, hhl]) _) fun w4 hb4 => ?_
  go_wp2_with fail
  refine cb (rlow_any _ hsl _) fun w5 hb5 => ?_
  have hpl := Dw.put_length 4 (Dw.rev4 (Dw.sum hd))
  have hB5 := (hB3.trans (hb4.mono hB3.size)).trans (hb5.mono (hB3.trans (hb4.mono hB3.size)).size)
  clear hb4 hb5 hB3 hF
  go_wp2_with fail
  go_ret
  refine ⟨?_, hB5⟩
  rw [Hbody.out]
  exact ret_str (bs_append _ _)
end Go.Proofs.YtjonoojhdifjiaaGreatDoor
