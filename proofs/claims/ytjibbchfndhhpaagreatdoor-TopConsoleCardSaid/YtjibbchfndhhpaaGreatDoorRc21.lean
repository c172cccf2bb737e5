/- What the statement's proof stands on, part 21: Power, Do, Tear, TearE. -/
import Derived.Test.YtjibbchfndhhpaaGreatDoorRc20
import Derived.Lib.ConvBytes
set_option linter.unusedSimpArgs false
set_option linter.unusedVariables false
set_option maxRecDepth 100000
set_option maxHeartbeats 4000000
namespace Go.Proofs.YtjibbchfndhhpaaGreatDoor
open Go.RowKit Go.Shelf
attribute [local go_sem] Oper.semAt_some
namespace Dw
def oddAt (m : List UInt8) (i : Nat) : UInt8 := if m.getD i 0 % 2 = 1 then 255 else 0
def oddB (m : List UInt8) (n : Nat) : List UInt8 := (List.range n).map (oddAt m)
theorem oddB_length (m : List UInt8) (n : Nat) : (oddB m n).length = n := by simp [oddB]
theorem oddAt_val (m : List UInt8) (i : Nat) : (- bits BinOp.and IntKind.u8 ((m.getD i 0).toNat : Int) 1) % 256 = ((oddAt m i).toNat : Int) := by
  have h := bits_and (m.getD i 0) 1
  rw [show (((1 : UInt8).toNat : Nat) : Int) = 1 from rfl] at h
  rw [h]
  unfold oddAt
  generalize m.getD i 0 = b
  have key : ∀ n : Fin 256, (- (((UInt8.ofNat n.val &&& 1).toNat : Nat) : Int)) % 256 = (((if UInt8.ofNat n.val % 2 = 1 then (255 : UInt8) else 0).toNat : Nat) : Int) := by decide +kernel
  have := key ⟨b.toNat, b.toNat_lt⟩
  simpa using this
theorem inv_val (b : UInt8) : bits BinOp.xor IntKind.u8 (if IntKind.u8.signed = true then -1 else IntKind.u8.max) (b.toNat : Int) = ((~~~b).toNat : Int) := by
  rw [show (if IntKind.u8.signed = true then (-1 : Int) else IntKind.u8.max) = 255 from by decide]
  show IntKind.u8.wrap ((BitVec.ofInt 8 255 ^^^ BitVec.ofInt 8 (b.toNat : Int)).toNat : Int) = _
  rw [bv8, wrap8, show BitVec.ofInt 8 255 = BitVec.allOnes 8 from by decide, BitVec.allOnes_xor]
  rfl
end Dw
def RowAt (w : World) (b n : Nat) (f : Nat → Value) : Prop := ∃ c t fr, w.heap[b]? = some (.cells c t fr) ∧ n ≤ c.size ∧ n ≤ fr.1 ∧ ∀ j, j < n → c[j]? = some (f j)
theorem RowAt.cell {w : World} {b n : Nat} {f : Nat → Value} (h : RowAt w b n f) {j : Nat} (hj : j < n) : w.cell? ⟨b, j, none⟩ = some (f j) := by
  obtain ⟨c, t, fr, h1, _, _, h4⟩ := h
  rw [cell_of_row _ _ j c t fr h1, h4 j hj]
theorem RowAt.frozen {w : World} {b n : Nat} {f : Nat → Value} (h : RowAt w b n f) {j : Nat} (hj : j < n) : w.frozen? ⟨b, j, none⟩ = false := by
  obtain ⟨c, t, fr, h1, _, h3, _⟩ := h
  simp [World.frozen?, h1]
  omega
theorem RowAt.set {w : World} {b n : Nat} {f : Nat → Value} (h : RowAt w b n f) (j : Nat) (v : Value) : RowAt (w.setCell ⟨b, j, none⟩ v) b n (fun i => if i = j then v else f i) := by
  obtain ⟨c, t, fr, h1, h2, h3, h4⟩ := h
  refine ⟨c.setIfInBounds j v, t, fr, by simp [World.setCell, Array.getElem?_modify, h1], by simpa using h2, h3, fun i hi => ?_⟩
  rw [Array.getElem?_setIfInBounds]
  show _ = some (if i = j then v else f i)
  by_cases e : i = j
  · subst e
    rw [if_pos rfl, if_pos (by omega), if_pos rfl]
  · rw [if_neg (Ne.symm e), if_neg e, h4 i hi]
theorem RowAt.congr {w : World} {b n : Nat} {f g : Nat → Value} (h : RowAt w b n f) (e : ∀ j, j < n → f j = g j) : RowAt w b n g := by
  obtain ⟨c, t, fr, h1, h2, h3, h4⟩ := h
  exact ⟨c, t, fr, h1, h2, h3, fun j hj => by rw [h4 j hj, e j hj]⟩
theorem odd_any (m : List UInt8) (n : Nat) (hn : n ≤ 400) (w : World) :
    Calls Tryz.prog 197 #[.string ⟨m.toArray⟩, .int .i64 n] w fun e w' => e = .returned (.string ⟨(Dw.oddB m n).toArray⟩) ∧ Below w.heap.size w w' := by
  obtain ⟨i0, hi, hz0, hz1, hz2⟩ := info_parts infoB
  have hby : i0.bytes * n ≤ 281474976710656 := by rw [hz2, Nat.one_mul]; exact Nat.le_trans hn (by decide)
  have hb63 : n ≤ 9223372036854775807 := Nat.le_trans hn (by decide)
  have Hov := Lib.hid (Dw.oddAt_val m)
  obtain ⟨L, hL, hL1, hL2, hL3⟩ : ∃ L : Nat, min (n : Int) (m.length : Int) = (L : Int) ∧ L ≤ n ∧ L ≤ m.length ∧ (L = n ∨ L = m.length) := ⟨min n m.length, by omega, by omega, by omega, by omega⟩
  go_enter Tryz.func197, Tryz.ntmps197
  go_wp2_with (refine wpList_make_row _ rfl _ _ 119 rfl 5 i0 (.int .u8 0) Tryz.underlying119 hi hz0 hz1 rfl .i64 .i64 n (by rfl) (by rfl) hby hb63 ?_)
  have hrow := World.rowIs_made w (.int .u8 0) n 5
  have hBw := (Below.refl w.heap.size w).alloc (Nat.le_refl _) (.cells (madeCells #[.int .u8 0] n) 5)
  generalize w.alloc _ = w1 at *
  clear hL
  go_loopw [13] (fun i wr => ∃ k : Nat, k ≤ L ∧ i = .int .i64 k ∧ wr.rowIs w.heap.size 5 n (fun j => .int .u8 ((if j < k then (Dw.oddAt m j).toNat else 0 : Nat) : Int)) ∧ Below w.heap.size w wr) (fun i _ => L - (intOf i).toNat)
  case atStart => exact ⟨0, Nat.zero_le _, rfl, hrow.congr (fun j hj => by rw [if_neg (by omega)]; rfl), hBw⟩
  case round =>
    obtain ⟨k, hk, rfl, hT, hB⟩ := hrel
    by_cases hlt : k < L
    · have hkn : k < n := by omega
      have hck := hT.cell hkn
      have hfk := hT.frozen k
      have j1 : (k : Int) < (m.length : Int) := by omega
      have j2 : (k : Int) < (n : Int) := by omega
      have j3 : (k : Int) < (L : Int) := by omega
      go_wp2_with fail
      go_roundw
      case rel =>
        refine ⟨k + 1, by omega, by go_num, (hT.set k _).congr (fun j hj => ?_), hB.setCell (p := ⟨w.heap.size, k, none⟩) (Nat.le_refl _) _⟩
        by_cases hjk : j = k
        · rw [if_pos hjk, if_pos (by omega), hjk]
          rw [ba_get, Hov.out k]
        · rw [if_neg hjk]
          by_cases h1 : j < k
          · rw [if_pos h1, if_pos (by omega)]
          · rw [if_neg h1, if_neg (by omega)]
      case measure => simp [intOf]; omega
    · obtain rfl : k = L := by omega
      have kc := run_convert_bytes_back (P := Tryz.prog) wr 119 9 5 ⟨w.heap.size, 0, none⟩ n (Dw.oddB m n) Tryz.underlying119 Tryz.underlying5 Tryz.underlying9 (fun j hj => by
        have hj' : j < n := by rw [← Dw.oddB_length m n]; exact hj
        rw [addr_add, hT.cell hj']
        have e : (Dw.oddB m n)[j]'hj = Dw.oddAt m j := by simp [Dw.oddB]
        rw [e]
        by_cases h1 : j < k
        · rw [if_pos h1]
        · rw [if_neg h1]
          have : Dw.oddAt m j = 0 := by unfold Dw.oddAt; rw [getD_past m j 0 (by omega)]; decide
          rw [this]; rfl)
      rw [Dw.oddB_length] at kc
      go_wp2_with fail
      go_ret
      exact ⟨rfl, hB⟩
theorem invert_any (m : List UInt8) (hm : m.length ≤ 400) (w : World) :
    Calls Tryz.prog 196 #[.string ⟨m.toArray⟩] w fun e w' => e = .returned (.string ⟨(m.map (~~~ ·)).toArray⟩) ∧ Below w.heap.size w w' := by
  have hcv := Lib.run_convert_string_bytes (P := Tryz.prog) w 9 119 5 ⟨m.toArray⟩ Tryz.underlying9 Tryz.underlying119 Tryz.underlying5
  have hnew := Lib.bytesWorld_at_new w 5 ⟨m.toArray⟩
  have hR : RowAt (Lib.bytesWorld w 5 ⟨m.toArray⟩) w.heap.size m.length (fun j => .int .u8 (((m.getD j 0).toNat : Nat) : Int)) := by
    refine ⟨_, _, _, hnew, ?_, ?_, fun j hj => ?_⟩
    · simp [Lib.bytesCells]
    · simp [Lib.bytesCells]
    · have := Lib.bytesWorld_cell w 5 ⟨m.toArray⟩ j (by rw [bs_size]; exact hj)
      rw [cell_of_row _ _ j _ _ _ hnew] at this
      exact this
  have hB0 : Below w.heap.size w (Lib.bytesWorld w 5 ⟨m.toArray⟩) := ⟨rfl, rfl, rfl, by rw [Lib.bytesWorld_size]; omega, fun k hk => Lib.bytesWorld_at_old w _ _ k hk⟩
  generalize Lib.bytesWorld w 5 ⟨m.toArray⟩ = w1 at *
  generalize grownCap w _ 0 _ = cap at *
  clear hnew
  go_enter Tryz.func196, Tryz.ntmps196
  go_wp2_with fail
  have Hinv := Lib.hid Dw.inv_val
  have hml : (m.map (~~~ ·)).length = m.length := List.length_map ..
  clear hcv
  go_loopw [9] (fun i wr => ∃ k : Nat, k ≤ m.length ∧ i = .int .i64 k ∧ RowAt wr w.heap.size m.length (fun j => .int .u8 ((if j < k then (~~~ m.getD j 0).toNat else (m.getD j 0).toNat : Nat) : Int)) ∧ Below w.heap.size w wr) (fun i _ => m.length - (intOf i).toNat)
  case atStart => exact ⟨0, Nat.zero_le _, rfl, hR.congr (fun j hj => by rw [if_neg (by omega)]), hB0⟩
  case round =>
    obtain ⟨k, hk, rfl, hT, hB⟩ := hrel
    by_cases hlt : k < m.length
    · have hck := hT.cell hlt
      have hfk := hT.frozen hlt
      rw [if_neg (by omega)] at hck
      have j1 : (k : Int) < (m.length : Int) := by omega
      have HT := Lib.hid hT
      clear hT hR hml
      generalize hx : m.getD k 0 = x at *
      go_wp2_with fail
      go_roundw
      case rel =>
        refine ⟨k + 1, by omega, by go_num, (HT.out.set k _).congr (fun j hj => ?_), hB.setCell (p := ⟨w.heap.size, k, none⟩) (Nat.le_refl _) _⟩
        by_cases hjk : j = k
        · rw [if_pos hjk, hjk, hx, if_pos (Nat.lt_succ_self k), Hinv.out x]
        · rw [if_neg hjk]
          by_cases h1 : j < k
          · rw [if_pos h1, if_pos (by omega)]
          · rw [if_neg h1, if_neg (by omega)]
      case measure => simp [intOf]; omega
    · obtain rfl : k = m.length := by omega
      have kc := run_convert_bytes_back (P := Tryz.prog) wr 119 9 5 ⟨w.heap.size, 0, none⟩ cap (m.map (~~~ ·)) Tryz.underlying119 Tryz.underlying5 Tryz.underlying9 (fun j hj => by
        have hj' : j < m.length := by rw [← hml]; exact hj
        rw [addr_add, hT.cell hj', if_pos hj']
        rw [List.getElem_map, getL m j hj'])
      rw [hml] at kc
      clear hml
      go_wp2_with fail
      go_ret
      exact ⟨rfl, hB⟩
end Go.Proofs.YtjibbchfndhhpaaGreatDoor
namespace Go.Proofs.YtjibbchfndhhpaaGreatDoor
open Go.RowKit Go.Shelf
attribute [local go_sem] Oper.semAt_some
abbrev opC (o : Dw.Op) : Array Value := #[.int .i64 o.kind, .int .i64 o.bank, .int .i64 o.at_, .string ⟨o.data.toArray⟩]
abbrev opV (o : Dw.Op) : Value := .agg (opC o)
namespace Dw
structure FlOk (f : Fl) : Prop where
  a : f.a.length ≤ 400
  b : f.b.length ≤ 400
  li : f.li ≤ 9223372036854775807
  e0 : -9223372036854775808 ≤ f.e0
  e1 : -9223372036854775808 ≤ f.e1
def OpOk (f : Fl) (o : Op) : Prop := o.bank < 2 ∧ ((o.kind = 1 ∧ o.at_ + o.data.length ≤ (f.bk o.bank).length ∧ o.at_ % 2 = 0 ∧ o.data.length % 2 = 0) ∨ (o.kind = 2 ∧ f.er o.bank < f.li ∧ o.at_ + o.data.length ≤ 1000000))
end Dw
theorem i64_succ {x y : Int} (h : -9223372036854775808 ≤ x) (h1 : x < y) (h2 : y ≤ 9223372036854775807) : IntKind.i64.wrap (x + 1) = x + 1 := IntWalk.i64_in _ (by omega)
theorem program_any (f : Dw.Fl) (hf : Dw.FlOk f) (k at_ : Nat) (data : List UInt8) (hk : k < 2) (h : at_ + data.length ≤ (f.bk k).length) (he : at_ % 2 = 0) (hd : data.length % 2 = 0) (w : World) :
    Calls Tryz.prog 194 #[flV f, .int .i64 k, .int .i64 at_, .string ⟨data.toArray⟩] w fun e w' => e = .returned (.tuple #[flV (Dw.doOp f ⟨1, k, at_, data⟩), .int .i64 0]) ∧ Below w.heap.size w w' := by
  rcases (by omega : k = 0 ∨ k = 1) with rfl | rfl
  · exact programA f at_ data h hf.a he hd w
  · exact programB f at_ data h hf.b he hd w
theorem erase_any (f : Dw.Fl) (hf : Dw.FlOk f) (k at_ : Nat) (data : List UInt8) (hk : k < 2) (h : f.er k < f.li) (w : World) :
    Calls Tryz.prog 195 #[flV f, .int .i64 k] w fun e w' => e = .returned (.tuple #[flV (Dw.doOp f ⟨2, k, at_, data⟩), .int .i64 0]) ∧ Below w.heap.size w w' := by
  rcases (by omega : k = 0 ∨ k = 1) with rfl | rfl
  · exact eraseA f hf.a (i64_succ hf.e0 h hf.li) h at_ data w
  · exact eraseB f hf.b (i64_succ hf.e1 h hf.li) h at_ data w
theorem do_any (f : Dw.Fl) (hf : Dw.FlOk f) (o : Dw.Op) (ho : Dw.OpOk f o) (w : World) :
    Calls Tryz.prog 167 #[flV f, opV o] w fun e w' => e = .returned (.tuple #[flV (Dw.doOp f o), .int .i64 0]) ∧ Below w.heap.size w w' := by
  obtain ⟨V, hV⟩ : ∃ V, ((w.alloc (.cells (flashC f.a f.b f.e0 f.e1 f.li) 41)).alloc (.cells (opC o) 243)).alloc (.cells (flashC [] [] 0 0 0) 41) = V := ⟨_, rfl⟩
  obtain ⟨vz, vB, b0, b1, b2⟩ := alloc3 w _ _ _ V hV
  obtain ⟨c0, c1, c2, c3, c4⟩ := cells5 b0
  obtain ⟨o0, o1, o2, o3⟩ := cells4 b1
  obtain ⟨k, b, a, d⟩ := o
  obtain ⟨hb2, ho⟩ := ho
  dsimp only at *
  rcases ho with ⟨rfl, h1, h2, h3⟩ | ⟨rfl, h1, _⟩
  · have P := program_any f hf b a d hb2 h1 h2 h3
    have HP := Lib.hid P
    clear P
    generalize Dw.doOp f _ = g at *
    go_enter Tryz.func167, Tryz.ntmps167
    go_wp2_with fail
    refine cb (HP.out _) fun w1 hb => ?_
    replace b2 := kp hb b2
    replace vB := tr vB hb
    clear hV
    go_wp2_with (refine sb b2 rfl rfl rfl rfl (by kernel_rfl) ?_)
    refine bodyPost_ret (rct rfl (srh b2) (by rfl) (by kernel_rfl)) rfl ⟨?_, below_setRow vB (by omega) _⟩
    rfl
  · have P := erase_any f hf b a d hb2 h1
    have HP := Lib.hid P
    clear P
    generalize Dw.doOp f _ = g at *
    go_enter Tryz.func167, Tryz.ntmps167
    go_wp2_with fail
    refine cb (HP.out _) fun w1 hb => ?_
    replace b2 := kp hb b2
    replace vB := tr vB hb
    clear hV
    go_wp2_with (refine sb b2 rfl rfl rfl rfl (by kernel_rfl) ?_)
    refine bodyPost_ret (rct rfl (srh b2) (by rfl) (by kernel_rfl)) rfl ⟨?_, below_setRow vB (by omega) _⟩
    rfl
end Go.Proofs.YtjibbchfndhhpaaGreatDoor
namespace Go.Proofs.YtjibbchfndhhpaaGreatDoor
open Go.RowKit Go.Shelf
attribute [local go_sem] Oper.semAt_some
namespace Dw
theorem byte_torn (x y m : UInt8) : x &&& ~~~ (x &&& ~~~ (x &&& y) &&& m) = x &&& ~~~ (x &&& ~~~ y &&& m) := by
  apply UInt8.toBitVec_inj.1
  apply BitVec.eq_of_getLsbD_eq
  intro i hi
  simp only [UInt8.toBitVec_and, UInt8.toBitVec_not, BitVec.getLsbD_and, BitVec.getLsbD_not]
  cases x.toBitVec.getLsbD i <;> cases y.toBitVec.getLsbD i <;> cases m.toBitVec.getLsbD i <;> simp
theorem tornB_and : ∀ (x y m : List UInt8), tornB x (andB x y) m = tornB x y m
  | [], _, _ => rfl
  | a :: xs, y, m => by
    simp only [tornB, andB, List.headD_cons, List.tail_cons]
    rw [tornB_and xs y.tail m.tail, byte_torn]
theorem eraB_at : ∀ (x m : List UInt8) (k : Nat), k < x.length → (eraB x m).getD k 0 = if m.getD k 0 % 2 = 1 then 255 else x.getD k 0
  | [], _, _, h => by simp at h
  | a :: xs, m, 0, _ => by cases m <;> rfl
  | a :: xs, m, k + 1, h => by
    have := eraB_at xs m.tail k (by simpa using h)
    have e1 : m.tail.getD k 0 = m.getD (k + 1) 0 := by cases m <;> simp
    rw [e1] at this
    simpa [eraB] using this
theorem list_ext0 (x y : List UInt8) (h : x.length = y.length) (e : ∀ k, k < x.length → x.getD k 0 = y.getD k 0) : x = y := by
  apply List.ext_getElem h
  intro k h1 h2
  rw [getL x k h1, getL y k h2, e k h1]
theorem byte_era (x : UInt8) : (255 : UInt8) &&& ~~~ (255 &&& ~~~ x &&& ~~~ 255) = 255 ∧ (255 : UInt8) &&& ~~~ (255 &&& ~~~ x &&& ~~~ 0) = x := by
  rw [show (255 : UInt8) = -1 from rfl, UInt8.neg_one_and, UInt8.neg_one_and, UInt8.neg_one_and]
  constructor
  · rw [show (~~~ (-1 : UInt8)) = 0 from rfl, UInt8.and_zero]; rfl
  · rw [show (~~~ (0 : UInt8)) = -1 from rfl, UInt8.and_neg_one, UInt8.not_not]
theorem torn_era (s m : List UInt8) : tornB (ffs s.length) s ((oddB m s.length).map (~~~ ·)) = eraB s m := by
  have hl : (tornB (ffs s.length) s ((oddB m s.length).map (~~~ ·))).length = s.length := by rw [tornB_length, ffs_length]
  apply list_ext0
  · rw [hl, eraB_length]
  · intro k hk
    rw [hl] at hk
    rw [tornB_at _ _ _ k (by rw [ffs_length]; exact hk), eraB_at s m k hk]
    have e1 : (ffs s.length).getD k 0 = 255 := by rw [List.getD_eq_getElem?_getD, ffs_get, if_pos hk]; rfl
    have e2 : ((oddB m s.length).map (~~~ ·)).getD k 0 = ~~~ oddAt m k := by
      rw [List.getD_eq_getElem?_getD, List.getElem?_map, oddB, List.getElem?_map, List.getElem?_range hk]; rfl
    rw [e1, e2, getD_other s k 255 0 hk]
    unfold oddAt
    by_cases h : m.getD k 0 % 2 = 1
    · rw [if_pos h, if_pos h]; exact (byte_era _).1
    · rw [if_neg h, if_neg h]; exact (byte_era _).2
theorem sub_over (s x : List UInt8) (k : Nat) (h : k + x.length ≤ s.length) : sub (over s k x) k x.length = x := by
  unfold sub over
  rw [List.drop_left' (by rw [List.length_take]; omega), List.take_left' rfl]
end Dw
theorem tearPA (f : Dw.Fl) (hf : Dw.FlOk f) (a : Nat) (d m : List UInt8) (ho : Dw.OpOk f ⟨1, 0, a, d⟩) (w : World) :
    Calls Tryz.prog 168 #[flV f, opV ⟨1, 0, a, d⟩, .string ⟨m.toArray⟩] w fun e w' => e = .returned (.tuple #[flV (Dw.tearOp f ⟨1, 0, a, d⟩ m), .int .i64 0]) ∧ Below w.heap.size w w' := by
  obtain ⟨V, hV⟩ : ∃ V, ((w.alloc (.cells (flashC f.a f.b f.e0 f.e1 f.li) 41)).alloc (.cells (opC ⟨1, 0, a, d⟩) 243)).alloc (.cells (flashC [] [] 0 0 0) 41) = V := ⟨_, rfl⟩
  obtain ⟨vz, vB, b0, b1, b2⟩ := alloc3 w _ _ _ V hV
  obtain ⟨c0, c1, c2, c3, c4⟩ := cells5 b0
  obtain ⟨o0, o1, o2, o3⟩ := cells4 b1
  have HD := Lib.hid (do_any f hf _ ho)
  obtain ⟨_, h1, _, _⟩ := ho.2.resolve_right fun h => absurd (show (1 : Nat) = 2 from h.1) (by decide)
  clear ho
  have h1 : a + d.length ≤ (f.a).length := h1
  have hl : (f.a).length ≤ 400 := by first | exact hf.a | exact hf.b
  have hS : (Dw.sub (f.a) a d.length).length = d.length := Dw.sub_length _ _ _ h1
  have hX : (Dw.andB (Dw.sub (f.a) a d.length) d).length = d.length := by rw [Dw.andB_length, hS]
  have hY : (Dw.tornB (Dw.sub (f.a) a d.length) d m).length = d.length := by rw [Dw.tornB_length, hS]
  have hgs : (Dw.doOp f ⟨1, 0, a, d⟩).bk 0 = Dw.over (f.a) a (Dw.andB (Dw.sub (f.a) a d.length) d) := rfl
  have hgl : ((Dw.doOp f ⟨1, 0, a, d⟩).bk 0).length = (f.a).length := by rw [hgs, Dw.over_length _ _ _ (by rw [hX]; exact h1)]
  have x4 : (⟨((Dw.doOp f ⟨1, 0, a, d⟩).bk 0).toArray⟩ : ByteArray).extract a (a + d.length) = ⟨(Dw.andB (Dw.sub (f.a) a d.length) d).toArray⟩ := by
    have := Dw.sub_over (f.a) (Dw.andB (Dw.sub (f.a) a d.length) d) a (by rw [hX]; exact h1)
    rw [hX] at this
    rw [bs_extract, List.drop_take, Nat.add_sub_cancel_left, hgs]
    exact congrArg (fun l : List UInt8 => (⟨l.toArray⟩ : ByteArray)) this
  have x1 : (⟨(f.a).toArray⟩ : ByteArray).extract 0 a = ⟨((f.a).take a).toArray⟩ := by rw [bs_extract, List.drop_zero]
  have x2 : (⟨(f.a).toArray⟩ : ByteArray).extract a (a + d.length) = ⟨(Dw.sub (f.a) a d.length).toArray⟩ := by rw [bs_extract, List.drop_take, Nat.add_sub_cancel_left]; rfl
  have x3 : (⟨(f.a).toArray⟩ : ByteArray).extract (a + d.length) (f.a).length = ⟨((f.a).drop (a + d.length)).toArray⟩ := by rw [bs_extract, List.take_length]
  obtain ⟨T, hT⟩ : ∃ T, (f.a).take a ++ (Dw.tornB (Dw.sub (f.a) a d.length) d m ++ (f.a).drop (a + d.length)) = T := ⟨_, rfl⟩
  have hov : Dw.over (f.a) a (Dw.tornB (Dw.sub (f.a) a d.length) d m) = T := by rw [← hT]; unfold Dw.over; rw [hY]
  have HO : flV (Dw.tearOp f ⟨1, 0, a, d⟩ m) = (fun g : Dw.Fl => flashV (T) (g.b) g.e0 g.e1 g.li) (Dw.doOp f ⟨1, 0, a, d⟩) := by rw [← hov]; rfl
  have HT := Lib.hid (Dw.tornB_and (Dw.sub (f.a) a d.length) d m)
  have lA : ((f.a).take a).length ≤ 400 := by rw [List.length_take]; omega
  have lZ : ((f.a).drop (a + d.length)).length ≤ 400 := by rw [List.length_drop]; omega
  have i6 : IntKind.i64.wrap ((a : Int) + (d.length : Int)) = (a : Int) + (d.length : Int) := IntWalk.i64_in _ (by omega)
  have i8 : ((a : Int) + (d.length : Int)).toNat = a + d.length := by omega
  have i9 : (0 : Int) ≤ (a : Int) + (d.length : Int) := by omega
  have i11 : (a : Int) ≤ (a : Int) + (d.length : Int) := by omega
  have i7 : (a : Int) + (d.length : Int) ≤ ((f.a).length : Int) := by omega
  have i10 : (a : Int) ≤ ((f.a).length : Int) := by omega
  have HO := Lib.hid HO
  clear hov hgs
  generalize Dw.doOp f ⟨1, 0, a, d⟩ = g at *
  change (g.a).length = (f.a).length at hgl
  change (⟨(g.a).toArray⟩ : ByteArray).extract a (a + d.length) = _ at x4
  have i12 : (a : Int) + (d.length : Int) ≤ ((g.a).length : Int) := by omega
  generalize (f.a).take a = A at *
  generalize (f.a).drop (a + d.length) = Z at *
  generalize Dw.sub (f.a) a d.length = S at *
  generalize Dw.andB S d = X at *
  generalize hM : Dw.tornB S d m = M at *
  have j1 : ¬ 9223372036854775807 < A.length + M.length := by omega
  have j2 : ¬ 9223372036854775807 < A.length + M.length + Z.length := by omega
  have Hgl := Lib.hid hgl
  clear hM hgl
  have Hl := Lib.hid (And.intro hS (And.intro h1 hl))
  clear hS hX hY h1 hl lA lZ
  go_enter Tryz.func168, Tryz.ntmps168
  go_wp2_with fail
  refine cb (HD.out _) fun w1 hb => ?_
  replace b0 := kp hb b0
  replace b1 := kp hb b1
  replace b2 := kp hb b2
  replace vB := tr vB hb
  clear hb hV c0 c1 c2 c3 c4 o0 o1 o2 o3 HD vz
  go_wp2_with fail
  have hq := block_lt b2
  have b8 := han w1 (.cells (flashC g.a g.b g.e0 g.e1 g.li) 41)
  replace b0 := hao w1 (.cells (flashC g.a g.b g.e0 g.e1 g.li) 41) b0
  replace b1 := hao w1 (.cells (flashC g.a g.b g.e0 g.e1 g.li) 41) b1
  replace b2 := hao w1 (.cells (flashC g.a g.b g.e0 g.e1 g.li) 41) b2
  replace vB := vB.alloc vB.size (.cells (flashC g.a g.b g.e0 g.e1 g.li) 41)
  generalize w1.alloc _ = W2 at *
  generalize w1.heap.size = q at *
  obtain ⟨c0, c1, c2, c3, c4⟩ := cells5 b0
  obtain ⟨o0, o1, o2, o3⟩ := cells4 b1
  obtain ⟨e0, e1, e2, e3, e4⟩ := cells5 b8
  refine wp_pure [0,1,2,3,4,5,6,7,8,9,10,11] 12 (by kernel_rfl) (by kernel_rfl) rfl ?_
  (apply rat; (focus (intro w' hk; obtain ⟨k0,k1,k2⟩ := look3 hk c0 o1 e0; repeat' (first | exact rn | ((first | refine' rv ?_ rfl rfl (by go_simp; first | done | with_reducible rfl | exact rfl) | refine' rs ?_ rfl rfl); try simp only [Act.put, List.setIfInBounds_toArray, List.set_cons_zero, List.set_cons_succ])))))
  intro w3 hk3
  simp only [List.drop_succ_cons, List.drop_zero]
  replace b1 := kpi hk3 b1
  replace b2 := kpi hk3 b2
  replace b8 := kpi hk3 b8
  replace vB := vB.trans (hk3.whole.mono vB.size)
  clear hk3 c0 c1 c2 c3 c4 o0 o1 o2 o3 e0 e1 e2 e3 e4 b0
  obtain ⟨o0, o1, o2, o3⟩ := cells4 b1
  go_wp2_with fail
  refine wp_pure [0,1,2,3,4,5,6,7,8,9] 10 (by kernel_rfl) (by kernel_rfl) rfl ?_
  (apply rat; (focus (intro w' hk; obtain ⟨k2,k3⟩ := look2 hk o2 o3; repeat' (first | exact rn | ((first | refine' rv ?_ rfl rfl (by go_simp; first | done | with_reducible rfl | exact rfl) | refine' rs ?_ rfl rfl); try simp only [Act.put, List.setIfInBounds_toArray, List.set_cons_zero, List.set_cons_succ])))))
  intro w4 hk4
  simp only [List.drop_succ_cons, List.drop_zero]
  replace b1 := kpi hk4 b1
  replace b2 := kpi hk4 b2
  replace b8 := kpi hk4 b8
  replace vB := vB.trans (hk4.whole.mono vB.size)
  clear hk4 o0 o1 o2 o3
  obtain ⟨o0, o1, o2, o3⟩ := cells4 b1
  go_wp2_with fail
  refine wp_pure [0,1,2,3,4,5,6,7,8,9,10,11,12,13,14,15,16,17,18,19,20,21] 22 (by kernel_rfl) (by kernel_rfl) rfl ?_
  have HTo := torn_any S X m (by have := Hl.out; omega)
  rw [HT.out] at HTo
  have HTo := Lib.hid HTo
  (apply rat; (focus (intro w' hk; have k1 := look hk o1; repeat' (first | exact rn | ((first | refine' rv ?_ rfl rfl (by go_simp; first | done | with_reducible rfl | exact rfl) | refine' rc ?_ (by exact rfl) (by exact rfl) (by go_simp; first | done | (constructor <;> with_reducible rfl) | with_reducible rfl) (by exact HTo.out w') | refine' rs ?_ rfl rfl); try simp only [Act.put, List.setIfInBounds_toArray, List.set_cons_zero, List.set_cons_succ])))))
  intro w5 hk5
  simp only [List.drop_succ_cons, List.drop_zero]
  replace b2 := kpi hk5 b2
  replace b8 := kpi hk5 b8
  replace vB := vB.trans (hk5.whole.mono vB.size)
  clear hk5 o0 o1 o2 o3 b1
  have f8 := frozen0 b8 0
  obtain ⟨e0, e1, e2, e3, e4⟩ := cells5 b8
  rw [show ((⟨A.toArray⟩ : ByteArray) ++ ⟨M.toArray⟩ ++ ⟨Z.toArray⟩) = ⟨T.toArray⟩ from by rw [bs_append, bs_append, List.append_assoc, hT]]
  have q8 := heap_setCell_same w5 q 0 _ 41 (.string ⟨T.toArray⟩) b8
  change _ = some (Obj.cells (flashC (T) (g.b) g.e0 g.e1 g.li) _ _) at q8
  have q2 := (heap_setCell_other w5 ⟨q, 0, none⟩ (w.heap.size + 2) (.string ⟨T.toArray⟩) (by simp; omega)).trans b2
  have vB2 := vB.setCell (p := ⟨q, 0, none⟩) (by simp; omega) (.string ⟨T.toArray⟩)
  have Q8 := Lib.hid q8; have Q2 := Lib.hid q2; have VB := Lib.hid vB2
  clear q8 q2 vB2 vB b2 b8
  go_wp2_with (first | (refine lb Q8.out rfl rfl rfl (by kernel_rfl) ?_) | (refine sb Q2.out rfl rfl rfl rfl (by kernel_rfl) ?_))
  refine bodyPost_ret (rct rfl (srh Q2.out) (by rfl) (by kernel_rfl)) rfl ⟨?_, below_setRow VB.out (by omega) _⟩
  rw [HO.out]
  rfl
theorem tearPB (f : Dw.Fl) (hf : Dw.FlOk f) (a : Nat) (d m : List UInt8) (ho : Dw.OpOk f ⟨1, 1, a, d⟩) (w : World) :
    Calls Tryz.prog 168 #[flV f, opV ⟨1, 1, a, d⟩, .string ⟨m.toArray⟩] w fun e w' => e = .returned (.tuple #[flV (Dw.tearOp f ⟨1, 1, a, d⟩ m), .int .i64 0]) ∧ Below w.heap.size w w' := by
  obtain ⟨V, hV⟩ : ∃ V, ((w.alloc (.cells (flashC f.a f.b f.e0 f.e1 f.li) 41)).alloc (.cells (opC ⟨1, 1, a, d⟩) 243)).alloc (.cells (flashC [] [] 0 0 0) 41) = V := ⟨_, rfl⟩
  obtain ⟨vz, vB, b0, b1, b2⟩ := alloc3 w _ _ _ V hV
  obtain ⟨c0, c1, c2, c3, c4⟩ := cells5 b0
  obtain ⟨o0, o1, o2, o3⟩ := cells4 b1
  have HD := Lib.hid (do_any f hf _ ho)
  obtain ⟨_, h1, _, _⟩ := ho.2.resolve_right fun h => absurd (show (1 : Nat) = 2 from h.1) (by decide)
  clear ho
  have h1 : a + d.length ≤ (f.b).length := h1
  have hl : (f.b).length ≤ 400 := by first | exact hf.a | exact hf.b
  have hS : (Dw.sub (f.b) a d.length).length = d.length := Dw.sub_length _ _ _ h1
  have hX : (Dw.andB (Dw.sub (f.b) a d.length) d).length = d.length := by rw [Dw.andB_length, hS]
  have hY : (Dw.tornB (Dw.sub (f.b) a d.length) d m).length = d.length := by rw [Dw.tornB_length, hS]
  have hgs : (Dw.doOp f ⟨1, 1, a, d⟩).bk 1 = Dw.over (f.b) a (Dw.andB (Dw.sub (f.b) a d.length) d) := rfl
  have hgl : ((Dw.doOp f ⟨1, 1, a, d⟩).bk 1).length = (f.b).length := by rw [hgs, Dw.over_length _ _ _ (by rw [hX]; exact h1)]
  have x4 : (⟨((Dw.doOp f ⟨1, 1, a, d⟩).bk 1).toArray⟩ : ByteArray).extract a (a + d.length) = ⟨(Dw.andB (Dw.sub (f.b) a d.length) d).toArray⟩ := by
    have := Dw.sub_over (f.b) (Dw.andB (Dw.sub (f.b) a d.length) d) a (by rw [hX]; exact h1)
    rw [hX] at this
    rw [bs_extract, List.drop_take, Nat.add_sub_cancel_left, hgs]
    exact congrArg (fun l : List UInt8 => (⟨l.toArray⟩ : ByteArray)) this
  have x1 : (⟨(f.b).toArray⟩ : ByteArray).extract 0 a = ⟨((f.b).take a).toArray⟩ := by rw [bs_extract, List.drop_zero]
  have x2 : (⟨(f.b).toArray⟩ : ByteArray).extract a (a + d.length) = ⟨(Dw.sub (f.b) a d.length).toArray⟩ := by rw [bs_extract, List.drop_take, Nat.add_sub_cancel_left]; rfl
  have x3 : (⟨(f.b).toArray⟩ : ByteArray).extract (a + d.length) (f.b).length = ⟨((f.b).drop (a + d.length)).toArray⟩ := by rw [bs_extract, List.take_length]
  obtain ⟨T, hT⟩ : ∃ T, (f.b).take a ++ (Dw.tornB (Dw.sub (f.b) a d.length) d m ++ (f.b).drop (a + d.length)) = T := ⟨_, rfl⟩
  have hov : Dw.over (f.b) a (Dw.tornB (Dw.sub (f.b) a d.length) d m) = T := by rw [← hT]; unfold Dw.over; rw [hY]
  have HO : flV (Dw.tearOp f ⟨1, 1, a, d⟩ m) = (fun g : Dw.Fl => flashV (g.a) (T) g.e0 g.e1 g.li) (Dw.doOp f ⟨1, 1, a, d⟩) := by rw [← hov]; rfl
  have HT := Lib.hid (Dw.tornB_and (Dw.sub (f.b) a d.length) d m)
  have lA : ((f.b).take a).length ≤ 400 := by rw [List.length_take]; omega
  have lZ : ((f.b).drop (a + d.length)).length ≤ 400 := by rw [List.length_drop]; omega
  have i6 : IntKind.i64.wrap ((a : Int) + (d.length : Int)) = (a : Int) + (d.length : Int) := IntWalk.i64_in _ (by omega)
  have i8 : ((a : Int) + (d.length : Int)).toNat = a + d.length := by omega
  have i9 : (0 : Int) ≤ (a : Int) + (d.length : Int) := by omega
  have i11 : (a : Int) ≤ (a : Int) + (d.length : Int) := by omega
  have i7 : (a : Int) + (d.length : Int) ≤ ((f.b).length : Int) := by omega
  have i10 : (a : Int) ≤ ((f.b).length : Int) := by omega
  have HO := Lib.hid HO
  clear hov hgs
  generalize Dw.doOp f ⟨1, 1, a, d⟩ = g at *
  change (g.b).length = (f.b).length at hgl
  change (⟨(g.b).toArray⟩ : ByteArray).extract a (a + d.length) = _ at x4
  have i12 : (a : Int) + (d.length : Int) ≤ ((g.b).length : Int) := by omega
  generalize (f.b).take a = A at *
  generalize (f.b).drop (a + d.length) = Z at *
  generalize Dw.sub (f.b) a d.length = S at *
  generalize Dw.andB S d = X at *
  generalize hM : Dw.tornB S d m = M at *
  have j1 : ¬ 9223372036854775807 < A.length + M.length := by omega
  have j2 : ¬ 9223372036854775807 < A.length + M.length + Z.length := by omega
  have Hgl := Lib.hid hgl
  clear hM hgl
  have Hl := Lib.hid (And.intro hS (And.intro h1 hl))
  clear hS hX hY h1 hl lA lZ
  go_enter Tryz.func168, Tryz.ntmps168
  go_wp2_with fail
  refine cb (HD.out _) fun w1 hb => ?_
  replace b0 := kp hb b0
  replace b1 := kp hb b1
  replace b2 := kp hb b2
  replace vB := tr vB hb
  clear hb hV c0 c1 c2 c3 c4 o0 o1 o2 o3 HD vz
  go_wp2_with fail
  have hq := block_lt b2
  have b8 := han w1 (.cells (flashC g.a g.b g.e0 g.e1 g.li) 41)
  replace b0 := hao w1 (.cells (flashC g.a g.b g.e0 g.e1 g.li) 41) b0
  replace b1 := hao w1 (.cells (flashC g.a g.b g.e0 g.e1 g.li) 41) b1
  replace b2 := hao w1 (.cells (flashC g.a g.b g.e0 g.e1 g.li) 41) b2
  replace vB := vB.alloc vB.size (.cells (flashC g.a g.b g.e0 g.e1 g.li) 41)
  generalize w1.alloc _ = W2 at *
  generalize w1.heap.size = q at *
  obtain ⟨c0, c1, c2, c3, c4⟩ := cells5 b0
  obtain ⟨o0, o1, o2, o3⟩ := cells4 b1
  obtain ⟨e0, e1, e2, e3, e4⟩ := cells5 b8
  refine wp_pure [0,1,2,3,4,5,6,7,8,9,10,11] 12 (by kernel_rfl) (by kernel_rfl) rfl ?_
  (apply rat; (focus (intro w' hk; obtain ⟨k0,k1,k2⟩ := look3 hk c1 o1 e1; repeat' (first | exact rn | ((first | refine' rv ?_ rfl rfl (by go_simp; first | done | with_reducible rfl | exact rfl) | refine' rs ?_ rfl rfl); try simp only [Act.put, List.setIfInBounds_toArray, List.set_cons_zero, List.set_cons_succ])))))
  intro w3 hk3
  simp only [List.drop_succ_cons, List.drop_zero]
  replace b1 := kpi hk3 b1
  replace b2 := kpi hk3 b2
  replace b8 := kpi hk3 b8
  replace vB := vB.trans (hk3.whole.mono vB.size)
  clear hk3 c0 c1 c2 c3 c4 o0 o1 o2 o3 e0 e1 e2 e3 e4 b0
  obtain ⟨o0, o1, o2, o3⟩ := cells4 b1
  go_wp2_with fail
  refine wp_pure [0,1,2,3,4,5,6,7,8,9] 10 (by kernel_rfl) (by kernel_rfl) rfl ?_
  (apply rat; (focus (intro w' hk; obtain ⟨k2,k3⟩ := look2 hk o2 o3; repeat' (first | exact rn | ((first | refine' rv ?_ rfl rfl (by go_simp; first | done | with_reducible rfl | exact rfl) | refine' rs ?_ rfl rfl); try simp only [Act.put, List.setIfInBounds_toArray, List.set_cons_zero, List.set_cons_succ])))))
  intro w4 hk4
  simp only [List.drop_succ_cons, List.drop_zero]
  replace b1 := kpi hk4 b1
  replace b2 := kpi hk4 b2
  replace b8 := kpi hk4 b8
  replace vB := vB.trans (hk4.whole.mono vB.size)
  clear hk4 o0 o1 o2 o3
  obtain ⟨o0, o1, o2, o3⟩ := cells4 b1
  go_wp2_with fail
  refine wp_pure [0,1,2,3,4,5,6,7,8,9,10,11,12,13,14,15,16,17,18,19,20,21] 22 (by kernel_rfl) (by kernel_rfl) rfl ?_
  have HTo := torn_any S X m (by have := Hl.out; omega)
  rw [HT.out] at HTo
  have HTo := Lib.hid HTo
  (apply rat; (focus (intro w' hk; have k1 := look hk o1; repeat' (first | exact rn | ((first | refine' rv ?_ rfl rfl (by go_simp; first | done | with_reducible rfl | exact rfl) | refine' rc ?_ (by exact rfl) (by exact rfl) (by go_simp; first | done | (constructor <;> with_reducible rfl) | with_reducible rfl) (by exact HTo.out w') | refine' rs ?_ rfl rfl); try simp only [Act.put, List.setIfInBounds_toArray, List.set_cons_zero, List.set_cons_succ])))))
  intro w5 hk5
  simp only [List.drop_succ_cons, List.drop_zero]
  replace b2 := kpi hk5 b2
  replace b8 := kpi hk5 b8
  replace vB := vB.trans (hk5.whole.mono vB.size)
  clear hk5 o0 o1 o2 o3 b1
  have f8 := frozen0 b8 1
  obtain ⟨e0, e1, e2, e3, e4⟩ := cells5 b8
  rw [show ((⟨A.toArray⟩ : ByteArray) ++ ⟨M.toArray⟩ ++ ⟨Z.toArray⟩) = ⟨T.toArray⟩ from by rw [bs_append, bs_append, List.append_assoc, hT]]
  have q8 := heap_setCell_same w5 q 1 _ 41 (.string ⟨T.toArray⟩) b8
  change _ = some (Obj.cells (flashC (g.a) (T) g.e0 g.e1 g.li) _ _) at q8
  have q2 := (heap_setCell_other w5 ⟨q, 1, none⟩ (w.heap.size + 2) (.string ⟨T.toArray⟩) (by simp; omega)).trans b2
  have vB2 := vB.setCell (p := ⟨q, 1, none⟩) (by simp; omega) (.string ⟨T.toArray⟩)
  have Q8 := Lib.hid q8; have Q2 := Lib.hid q2; have VB := Lib.hid vB2
  clear q8 q2 vB2 vB b2 b8
  go_wp2_with (first | (refine lb Q8.out rfl rfl rfl (by kernel_rfl) ?_) | (refine sb Q2.out rfl rfl rfl rfl (by kernel_rfl) ?_))
  refine bodyPost_ret (rct rfl (srh Q2.out) (by rfl) (by kernel_rfl)) rfl ⟨?_, below_setRow VB.out (by omega) _⟩
  rw [HO.out]
  rfl
end Go.Proofs.YtjibbchfndhhpaaGreatDoor
namespace Go.Proofs.YtjibbchfndhhpaaGreatDoor
open Go.RowKit Go.Shelf
attribute [local go_sem] Oper.semAt_some
theorem tearEA (f : Dw.Fl) (hf : Dw.FlOk f) (a : Nat) (d m : List UInt8) (ha : a + d.length ≤ 1000000) (ho : Dw.OpOk f ⟨2, 0, a, d⟩) (w : World) :
    Calls Tryz.prog 168 #[flV f, opV ⟨2, 0, a, d⟩, .string ⟨m.toArray⟩] w fun e w' => e = .returned (.tuple #[flV (Dw.tearOp f ⟨2, 0, a, d⟩ m), .int .i64 0]) ∧ Below w.heap.size w w' := by
  obtain ⟨V, hV⟩ : ∃ V, ((w.alloc (.cells (flashC f.a f.b f.e0 f.e1 f.li) 41)).alloc (.cells (opC ⟨2, 0, a, d⟩) 243)).alloc (.cells (flashC [] [] 0 0 0) 41) = V := ⟨_, rfl⟩
  obtain ⟨vz, vB, b0, b1, b2⟩ := alloc3 w _ _ _ V hV
  obtain ⟨c0, c1, c2, c3, c4⟩ := cells5 b0
  obtain ⟨o0, o1, o2, o3⟩ := cells4 b1
  have HD := Lib.hid (do_any f hf _ ho)
  clear ho
  have hl : (f.a).length ≤ 400 := by first | exact hf.a | exact hf.b
  have hgs : (Dw.doOp f ⟨2, 0, a, d⟩).bk 0 = Dw.ffs (f.a).length := rfl
  have x1 : (⟨(Dw.ffs (f.a).length).toArray⟩ : ByteArray).extract 0 0 = ⟨#[]⟩ := by rw [bs_extract]; rfl
  have x2 : (⟨(Dw.ffs (f.a).length).toArray⟩ : ByteArray).extract 0 (f.a).length = ⟨(Dw.ffs (f.a).length).toArray⟩ := by rw [bs_extract, List.drop_zero, List.take_of_length_le (by rw [Dw.ffs_length]; exact Nat.le_refl _)]
  have x4 : (⟨(Dw.ffs (f.a).length).toArray⟩ : ByteArray).extract (f.a).length (Dw.ffs (f.a).length).length = ⟨#[]⟩ := by rw [bs_extract, Dw.ffs_length, List.drop_of_length_le (by rw [List.length_take, Dw.ffs_length]; omega)]
  have x3 : (⟨(f.a).toArray⟩ : ByteArray).extract 0 (f.a).length = ⟨(f.a).toArray⟩ := by rw [bs_extract, List.drop_zero, List.take_length]
  obtain ⟨T, hT⟩ : ∃ T, Dw.eraB (f.a) m = T := ⟨_, rfl⟩
  have lT : T.length = (f.a).length := by rw [← hT, Dw.eraB_length]
  have HO : flV (Dw.tearOp f ⟨2, 0, a, d⟩ m) = (fun g : Dw.Fl => flashV (T) (g.b) g.e0 g.e1 g.li) (Dw.doOp f ⟨2, 0, a, d⟩) := by rw [← hT]; rfl
  have i6 : IntKind.i64.wrap ((a : Int) + (d.length : Int)) = (a : Int) + (d.length : Int) := IntWalk.i64_in _ (by omega)
  have HTo := torn_any (Dw.ffs (f.a).length) (f.a) ((Dw.oddB m (f.a).length).map (~~~ ·)) (by rw [Dw.ffs_length]; exact hl)
  rw [Dw.torn_era, hT] at HTo
  have HOdd := Lib.hid (odd_any m (f.a).length hl)
  have HInv := Lib.hid (invert_any (Dw.oddB m (f.a).length) (by rw [Dw.oddB_length]; exact hl))
  have HTo := Lib.hid HTo
  have j1 : ¬ 9223372036854775807 < T.length := by omega
  have HO := Lib.hid HO
  have lF := Dw.ffs_length (f.a).length
  generalize Dw.doOp f ⟨2, 0, a, d⟩ = g at *
  change (g.a) = _ at hgs
  rw [← hgs] at x1 x2 x4 HTo lF
  have i5 : (f.a).length ≤ (g.a).length := by omega
  have i13 : ((f.a).length : Int) ≤ ((g.a).length : Int) := by omega
  generalize (Dw.oddB m (f.a).length).map (~~~ ·) = mi at *
  generalize Dw.oddB m (f.a).length = mo at *
  clear hgs
  have Hl := Lib.hid (And.intro hT (And.intro hl (And.intro lF lT)))
  clear hT lT hl lF
  go_enter Tryz.func168, Tryz.ntmps168
  go_wp2_with fail
  refine cb (HD.out _) fun w1 hb => ?_
  replace b0 := kp hb b0
  replace b1 := kp hb b1
  replace b2 := kp hb b2
  replace vB := tr vB hb
  clear hb hV c0 c1 c2 c3 c4 o0 o1 o2 o3 HD vz
  go_wp2_with fail
  have hq := block_lt b2
  have b8 := han w1 (.cells (flashC g.a g.b g.e0 g.e1 g.li) 41)
  replace b0 := hao w1 (.cells (flashC g.a g.b g.e0 g.e1 g.li) 41) b0
  replace b1 := hao w1 (.cells (flashC g.a g.b g.e0 g.e1 g.li) 41) b1
  replace b2 := hao w1 (.cells (flashC g.a g.b g.e0 g.e1 g.li) 41) b2
  replace vB := vB.alloc vB.size (.cells (flashC g.a g.b g.e0 g.e1 g.li) 41)
  generalize w1.alloc _ = W2 at *
  generalize w1.heap.size = q at *
  obtain ⟨c0, c1, c2, c3, c4⟩ := cells5 b0
  obtain ⟨o0, o1, o2, o3⟩ := cells4 b1
  obtain ⟨e0, e1, e2, e3, e4⟩ := cells5 b8
  refine wp_pure [0,1,2,3,4,5,6,7,8,9,10,11] 12 (by kernel_rfl) (by kernel_rfl) rfl ?_
  (apply rat; (focus (intro w' hk; obtain ⟨k0,k1,k2⟩ := look3 hk c0 o1 e0; repeat' (first | exact rn | ((first | refine' rv ?_ rfl rfl (by go_simp; first | done | with_reducible rfl | exact rfl) | refine' rs ?_ rfl rfl); try simp only [Act.put, List.setIfInBounds_toArray, List.set_cons_zero, List.set_cons_succ])))))
  intro w3 hk3
  simp only [List.drop_succ_cons, List.drop_zero]
  replace b1 := kpi hk3 b1
  replace b2 := kpi hk3 b2
  replace b8 := kpi hk3 b8
  replace vB := vB.trans (hk3.whole.mono vB.size)
  clear hk3 c0 c1 c2 c3 c4 o0 o1 o2 o3 e0 e1 e2 e3 e4 b0
  obtain ⟨o0, o1, o2, o3⟩ := cells4 b1
  go_wp2_with fail
  refine wp_pure [0,1,2,3,4,5,6,7,8,9] 10 (by kernel_rfl) (by kernel_rfl) rfl ?_
  (apply rat; (focus (intro w' hk; obtain ⟨k2,k3⟩ := look2 hk o2 o3; repeat' (first | exact rn | ((first | refine' rv ?_ rfl rfl (by go_simp; first | done | with_reducible rfl | exact rfl) | refine' rs ?_ rfl rfl); try simp only [Act.put, List.setIfInBounds_toArray, List.set_cons_zero, List.set_cons_succ])))))
  intro w4 hk4
  simp only [List.drop_succ_cons, List.drop_zero]
  replace b1 := kpi hk4 b1
  replace b2 := kpi hk4 b2
  replace b8 := kpi hk4 b8
  replace vB := vB.trans (hk4.whole.mono vB.size)
  clear hk4 o0 o1 o2 o3
  obtain ⟨o0, o1, o2, o3⟩ := cells4 b1
  go_wp2_with fail
  refine cb (HOdd.out _) fun w6 hb => ?_
  replace b1 := kp hb b1
  replace b2 := kp hb b2
  replace b8 := kp hb b8
  replace vB := tr vB hb
  clear hb o0 o1 o2 o3
  go_wp2_with fail
  refine cb (HInv.out _) fun w7 hb => ?_
  replace b1 := kp hb b1
  replace b2 := kp hb b2
  replace b8 := kp hb b8
  replace vB := tr vB hb
  clear hb
  obtain ⟨o0, o1, o2, o3⟩ := cells4 b1
  go_wp2_with fail
  refine wp_pure [0,1,2,3,4,5,6,7,8,9,10,11,12,13,14,15,16,17,18,19,20,21] 22 (by kernel_rfl) (by kernel_rfl) rfl ?_
  (apply rat; (focus (intro w' hk; have k1 := look hk o1; repeat' (first | exact rn | ((first | refine' rv ?_ rfl rfl (by go_simp; first | done | with_reducible rfl | exact rfl) | refine' rc ?_ (by exact rfl) (by exact rfl) (by go_simp; first | done | (constructor <;> with_reducible rfl) | with_reducible rfl) (by exact HTo.out w') | refine' rs ?_ rfl rfl); try simp only [Act.put, List.setIfInBounds_toArray, List.set_cons_zero, List.set_cons_succ])))))
  intro w5 hk5
  simp only [List.drop_succ_cons, List.drop_zero]
  replace b2 := kpi hk5 b2
  replace b8 := kpi hk5 b8
  replace vB := vB.trans (hk5.whole.mono vB.size)
  clear hk5 o0 o1 o2 o3 b1
  have f8 := frozen0 b8 0
  obtain ⟨e0, e1, e2, e3, e4⟩ := cells5 b8
  rw [show ((⟨T.toArray⟩ : ByteArray) ++ ⟨#[]⟩) = ⟨T.toArray⟩ from by rw [show (⟨#[]⟩ : ByteArray) = ⟨([] : List UInt8).toArray⟩ from rfl, bs_append, List.append_nil]]
  have q8 := heap_setCell_same w5 q 0 _ 41 (.string ⟨T.toArray⟩) b8
  change _ = some (Obj.cells (flashC (T) (g.b) g.e0 g.e1 g.li) _ _) at q8
  have q2 := (heap_setCell_other w5 ⟨q, 0, none⟩ (w.heap.size + 2) (.string ⟨T.toArray⟩) (by simp; omega)).trans b2
  have vB2 := vB.setCell (p := ⟨q, 0, none⟩) (by simp; omega) (.string ⟨T.toArray⟩)
  have Q8 := Lib.hid q8; have Q2 := Lib.hid q2; have VB := Lib.hid vB2
  clear q8 q2 vB2 vB b2 b8
  go_wp2_with (first | (refine lb Q8.out rfl rfl rfl (by kernel_rfl) ?_) | (refine sb Q2.out rfl rfl rfl rfl (by kernel_rfl) ?_))
  refine bodyPost_ret (rct rfl (srh Q2.out) (by rfl) (by kernel_rfl)) rfl ⟨?_, below_setRow VB.out (by omega) _⟩
  rw [HO.out]
  rfl
theorem tearEB (f : Dw.Fl) (hf : Dw.FlOk f) (a : Nat) (d m : List UInt8) (ha : a + d.length ≤ 1000000) (ho : Dw.OpOk f ⟨2, 1, a, d⟩) (w : World) :
    Calls Tryz.prog 168 #[flV f, opV ⟨2, 1, a, d⟩, .string ⟨m.toArray⟩] w fun e w' => e = .returned (.tuple #[flV (Dw.tearOp f ⟨2, 1, a, d⟩ m), .int .i64 0]) ∧ Below w.heap.size w w' := by
  obtain ⟨V, hV⟩ : ∃ V, ((w.alloc (.cells (flashC f.a f.b f.e0 f.e1 f.li) 41)).alloc (.cells (opC ⟨2, 1, a, d⟩) 243)).alloc (.cells (flashC [] [] 0 0 0) 41) = V := ⟨_, rfl⟩
  obtain ⟨vz, vB, b0, b1, b2⟩ := alloc3 w _ _ _ V hV
  obtain ⟨c0, c1, c2, c3, c4⟩ := cells5 b0
  obtain ⟨o0, o1, o2, o3⟩ := cells4 b1
  have HD := Lib.hid (do_any f hf _ ho)
  clear ho
  have hl : (f.b).length ≤ 400 := by first | exact hf.a | exact hf.b
  have hgs : (Dw.doOp f ⟨2, 1, a, d⟩).bk 1 = Dw.ffs (f.b).length := rfl
  have x1 : (⟨(Dw.ffs (f.b).length).toArray⟩ : ByteArray).extract 0 0 = ⟨#[]⟩ := by rw [bs_extract]; rfl
  have x2 : (⟨(Dw.ffs (f.b).length).toArray⟩ : ByteArray).extract 0 (f.b).length = ⟨(Dw.ffs (f.b).length).toArray⟩ := by rw [bs_extract, List.drop_zero, List.take_of_length_le (by rw [Dw.ffs_length]; exact Nat.le_refl _)]
  have x4 : (⟨(Dw.ffs (f.b).length).toArray⟩ : ByteArray).extract (f.b).length (Dw.ffs (f.b).length).length = ⟨#[]⟩ := by rw [bs_extract, Dw.ffs_length, List.drop_of_length_le (by rw [List.length_take, Dw.ffs_length]; omega)]
  have x3 : (⟨(f.b).toArray⟩ : ByteArray).extract 0 (f.b).length = ⟨(f.b).toArray⟩ := by rw [bs_extract, List.drop_zero, List.take_length]
  obtain ⟨T, hT⟩ : ∃ T, Dw.eraB (f.b) m = T := ⟨_, rfl⟩
  have lT : T.length = (f.b).length := by rw [← hT, Dw.eraB_length]
  have HO : flV (Dw.tearOp f ⟨2, 1, a, d⟩ m) = (fun g : Dw.Fl => flashV (g.a) (T) g.e0 g.e1 g.li) (Dw.doOp f ⟨2, 1, a, d⟩) := by rw [← hT]; rfl
  have i6 : IntKind.i64.wrap ((a : Int) + (d.length : Int)) = (a : Int) + (d.length : Int) := IntWalk.i64_in _ (by omega)
  have HTo := torn_any (Dw.ffs (f.b).length) (f.b) ((Dw.oddB m (f.b).length).map (~~~ ·)) (by rw [Dw.ffs_length]; exact hl)
  rw [Dw.torn_era, hT] at HTo
  have HOdd := Lib.hid (odd_any m (f.b).length hl)
  have HInv := Lib.hid (invert_any (Dw.oddB m (f.b).length) (by rw [Dw.oddB_length]; exact hl))
  have HTo := Lib.hid HTo
  have j1 : ¬ 9223372036854775807 < T.length := by omega
  have HO := Lib.hid HO
  have lF := Dw.ffs_length (f.b).length
  generalize Dw.doOp f ⟨2, 1, a, d⟩ = g at *
  change (g.b) = _ at hgs
  rw [← hgs] at x1 x2 x4 HTo lF
  have i5 : (f.b).length ≤ (g.b).length := by omega
  have i13 : ((f.b).length : Int) ≤ ((g.b).length : Int) := by omega
  generalize (Dw.oddB m (f.b).length).map (~~~ ·) = mi at *
  generalize Dw.oddB m (f.b).length = mo at *
  clear hgs
  have Hl := Lib.hid (And.intro hT (And.intro hl (And.intro lF lT)))
  clear hT lT hl lF
  go_enter Tryz.func168, Tryz.ntmps168
  go_wp2_with fail
  refine cb (HD.out _) fun w1 hb => ?_
  replace b0 := kp hb b0
  replace b1 := kp hb b1
  replace b2 := kp hb b2
  replace vB := tr vB hb
  clear hb hV c0 c1 c2 c3 c4 o0 o1 o2 o3 HD vz
  go_wp2_with fail
  have hq := block_lt b2
  have b8 := han w1 (.cells (flashC g.a g.b g.e0 g.e1 g.li) 41)
  replace b0 := hao w1 (.cells (flashC g.a g.b g.e0 g.e1 g.li) 41) b0
  replace b1 := hao w1 (.cells (flashC g.a g.b g.e0 g.e1 g.li) 41) b1
  replace b2 := hao w1 (.cells (flashC g.a g.b g.e0 g.e1 g.li) 41) b2
  replace vB := vB.alloc vB.size (.cells (flashC g.a g.b g.e0 g.e1 g.li) 41)
  generalize w1.alloc _ = W2 at *
  generalize w1.heap.size = q at *
  obtain ⟨c0, c1, c2, c3, c4⟩ := cells5 b0
  obtain ⟨o0, o1, o2, o3⟩ := cells4 b1
  obtain ⟨e0, e1, e2, e3, e4⟩ := cells5 b8
  refine wp_pure [0,1,2,3,4,5,6,7,8,9,10,11] 12 (by kernel_rfl) (by kernel_rfl) rfl ?_
  (apply rat; (focus (intro w' hk; obtain ⟨k0,k1,k2⟩ := look3 hk c1 o1 e1; repeat' (first | exact rn | ((first | refine' rv ?_ rfl rfl (by go_simp; first | done | with_reducible rfl | exact rfl) | refine' rs ?_ rfl rfl); try simp only [Act.put, List.setIfInBounds_toArray, List.set_cons_zero, List.set_cons_succ])))))
  intro w3 hk3
  simp only [List.drop_succ_cons, List.drop_zero]
  replace b1 := kpi hk3 b1
  replace b2 := kpi hk3 b2
  replace b8 := kpi hk3 b8
  replace vB := vB.trans (hk3.whole.mono vB.size)
  clear hk3 c0 c1 c2 c3 c4 o0 o1 o2 o3 e0 e1 e2 e3 e4 b0
  obtain ⟨o0, o1, o2, o3⟩ := cells4 b1
  go_wp2_with fail
  refine wp_pure [0,1,2,3,4,5,6,7,8,9] 10 (by kernel_rfl) (by kernel_rfl) rfl ?_
  (apply rat; (focus (intro w' hk; obtain ⟨k2,k3⟩ := look2 hk o2 o3; repeat' (first | exact rn | ((first | refine' rv ?_ rfl rfl (by go_simp; first | done | with_reducible rfl | exact rfl) | refine' rs ?_ rfl rfl); try simp only [Act.put, List.setIfInBounds_toArray, List.set_cons_zero, List.set_cons_succ])))))
  intro w4 hk4
  simp only [List.drop_succ_cons, List.drop_zero]
  replace b1 := kpi hk4 b1
  replace b2 := kpi hk4 b2
  replace b8 := kpi hk4 b8
  replace vB := vB.trans (hk4.whole.mono vB.size)
  clear hk4 o0 o1 o2 o3
  obtain ⟨o0, o1, o2, o3⟩ := cells4 b1
  go_wp2_with fail
  refine cb (HOdd.out _) fun w6 hb => ?_
  replace b1 := kp hb b1
  replace b2 := kp hb b2
  replace b8 := kp hb b8
  replace vB := tr vB hb
  clear hb o0 o1 o2 o3
  go_wp2_with fail
  refine cb (HInv.out _) fun w7 hb => ?_
  replace b1 := kp hb b1
  replace b2 := kp hb b2
  replace b8 := kp hb b8
  replace vB := tr vB hb
  clear hb
  obtain ⟨o0, o1, o2, o3⟩ := cells4 b1
  go_wp2_with fail
  refine wp_pure [0,1,2,3,4,5,6,7,8,9,10,11,12,13,14,15,16,17,18,19,20,21] 22 (by kernel_rfl) (by kernel_rfl) rfl ?_
  (apply rat; (focus (intro w' hk; have k1 := look hk o1; repeat' (first | exact rn | ((first | refine' rv ?_ rfl rfl (by go_simp; first | done | with_reducible rfl | exact rfl) | refine' rc ?_ (by exact rfl) (by exact rfl) (by go_simp; first | done | (constructor <;> with_reducible rfl) | with_reducible rfl) (by exact HTo.out w') | refine' rs ?_ rfl rfl); try simp only [Act.put, List.setIfInBounds_toArray, List.set_cons_zero, List.set_cons_succ])))))
  intro w5 hk5
  simp only [List.drop_succ_cons, List.drop_zero]
  replace b2 := kpi hk5 b2
  replace b8 := kpi hk5 b8
  replace vB := vB.trans (hk5.whole.mono vB.size)
  clear hk5 o0 o1 o2 o3 b1
  have f8 := frozen0 b8 1
  obtain ⟨e0, e1, e2, e3, e4⟩ := cells5 b8
  rw [show ((⟨T.toArray⟩ : ByteArray) ++ ⟨#[]⟩) = ⟨T.toArray⟩ from by rw [show (⟨#[]⟩ : ByteArray) = ⟨([] : List UInt8).toArray⟩ from rfl, bs_append, List.append_nil]]
  have q8 := heap_setCell_same w5 q 1 _ 41 (.string ⟨T.toArray⟩) b8
  change _ = some (Obj.cells (flashC (g.a) (T) g.e0 g.e1 g.li) _ _) at q8
  have q2 := (heap_setCell_other w5 ⟨q, 1, none⟩ (w.heap.size + 2) (.string ⟨T.toArray⟩) (by simp; omega)).trans b2
  have vB2 := vB.setCell (p := ⟨q, 1, none⟩) (by simp; omega) (.string ⟨T.toArray⟩)
  have Q8 := Lib.hid q8; have Q2 := Lib.hid q2; have VB := Lib.hid vB2
  clear q8 q2 vB2 vB b2 b8
  go_wp2_with (first | (refine lb Q8.out rfl rfl rfl (by kernel_rfl) ?_) | (refine sb Q2.out rfl rfl rfl rfl (by kernel_rfl) ?_))
  refine bodyPost_ret (rct rfl (srh Q2.out) (by rfl) (by kernel_rfl)) rfl ⟨?_, below_setRow VB.out (by omega) _⟩
  rw [HO.out]
  rfl
theorem tear_any (f : Dw.Fl) (hf : Dw.FlOk f) (o : Dw.Op) (ho : Dw.OpOk f o) (m : List UInt8) (w : World) :
    Calls Tryz.prog 168 #[flV f, opV o, .string ⟨m.toArray⟩] w fun e w' => e = .returned (.tuple #[flV (Dw.tearOp f o m), .int .i64 0]) ∧ Below w.heap.size w w' := by
  obtain ⟨k, b, a, d⟩ := o
  have ho' := ho
  obtain ⟨hb2, ho⟩ := ho
  dsimp only at *
  rcases ho with ⟨rfl, _⟩ | ⟨rfl, _, h2⟩
  · rcases (by omega : b = 0 ∨ b = 1) with rfl | rfl
    · exact tearPA f hf a d m ho' w
    · exact tearPB f hf a d m ho' w
  · rcases (by omega : b = 0 ∨ b = 1) with rfl | rfl
    · exact tearEA f hf a d m h2 ho' w
    · exact tearEB f hf a d m h2 ho' w
end Go.Proofs.YtjibbchfndhhpaaGreatDoor
