/- What the statement's proof stands on, part 13: Body, PlainField, Decode, RDecode. -/
import Derived.Test.YtjibbchfndhhpaaGreatDoorRc12
import Derived.Lib.AppendStr
import Derived.Test.YtjibbchfndhhpaaGreatDoorRc2
set_option linter.unusedSimpArgs false
set_option linter.unusedVariables false
set_option maxRecDepth 100000
set_option maxHeartbeats 4000000
namespace Go.Proofs.YtjibbchfndhhpaaGreatDoor
open Go.RowKit Go.Shelf
attribute [local go_sem] Oper.semAt_some
theorem putSize (m n : Nat) : (⟨(Dw.put m n).toArray⟩ : ByteArray).size = m := by simp [ByteArray.size, Dw.put_length]
namespace Dw
def head (k q d : Nat) : List UInt8 := 165 :: UInt8.ofNat k :: (put 8 q ++ put 8 d)
def body (k q d : Nat) : List UInt8 := head k q d ++ put 4 (rev4 (sum (head k q d)))
def encode (k q d : Nat) : List UInt8 := body k q d ++ [90, 60]
theorem head_length (k q d : Nat) : (head k q d).length = 18 := by simp [head, put_length]
theorem rev4_lt (n : Nat) (h : n < 4294967296) : rev4 n < 4294967296 := by unfold rev4; omega
end Dw
theorem cells_head (k q d : Nat) (hk : k < 256) : [Value.int .u8 165, .int .u8 (k : Int)] ++ Lib.strCells ⟨(Dw.put 8 q).toArray⟩ ++ Lib.strCells ⟨(Dw.put 8 d).toArray⟩ = (Dw.head k q d).map fun b => Value.int .u8 (b.toNat : Int) := by
  simp only [Dw.head, Lib.strCells, List.map_cons, List.map_append, List.cons_append, List.nil_append]
  rw [show (UInt8.ofNat k).toNat = k from by simpa using hk]
  rfl
theorem body_any (K : Int) (k q d : Nat) (hK : K = (k : Int)) (hk : k < 256) (hq : q < 18446744073709551616) (hd : d < 18446744073709551616) (w : World) :
    Calls Tryz.prog 213 #[.agg #[.int .i64 K, .int .u64 q, .int .u64 d]] w fun e w' => e = .returned (.string ⟨(Dw.body k q d).toArray⟩) ∧ Below w.heap.size w w' := by
  subst hK
  obtain ⟨i0, hi, hz0, hz1, hz2⟩ := info_parts infoB
  have hA := ((Below.refl w.heap.size w).alloc (Nat.le_refl _) (.cells #[.int .i64 k, .int .u64 q, .int .u64 d] 256)).alloc (by simp) (.cells #[.int .u8 165, .int .u8 (k : Int)] 5)
  have hB0 := heap_alloc2_old w (.cells #[.int .i64 k, .int .u64 q, .int .u64 d] 256) (.cells #[.int .u8 165, .int .u8 (k : Int)] 5)
  have hC0 := han (w.alloc (.cells #[.int .i64 k, .int .u64 q, .int .u64 d] 256)) (.cells #[.int .u8 165, .int .u8 (k : Int)] 5)
  have hkb : IntKind.u8.wrap (k : Int) = (k : Int) := by rw [IntKind.wrap_u8']; omega
  have Hh := Lib.hid (cells_head k q d hk)
  have Hbody := Lib.hid (show Dw.body k q d = Dw.head k q d ++ Dw.put 4 (Dw.rev4 (Dw.sum (Dw.head k q d))) from rfl)
  have Hhl := Dw.head_length k q d
  have hsl : Dw.sum (Dw.head k q d) < 4294967296 := Dw.sum_lt _
  have hrl := Dw.rev4_lt _ hsl
  go_enter Tryz.func213, Tryz.ntmps213
  go_wp2_with fail
  refine cb (put_any _ 8 hq (by decide) _) fun w1 hb1 => ?_
  rw [World.size_alloc] at hC0
  have hB1 := (hb1.block w.heap.size (by simp; omega)).trans hB0
  have hC1 := (hb1.block (w.heap.size + 1) (by simp)).trans hC0
  have hW := tr hA hb1
  have hown : w1.ownsRow (w.heap.size + 1) 5 1 (.slice (some ⟨w.heap.size + 1, 0, none⟩) 2 2) 2 [.int .u8 165, .int .u8 (k : Int)] :=
    ⟨rfl, .inr ⟨w.heap.size + 1, 2, _, rfl, Nat.le_refl _, hC1, Nat.le_refl _, by unfold maxLen; omega, rfl, rfl⟩⟩
  have hs1 : w.heap.size + 1 < w1.heap.size := (Array.getElem?_eq_some_iff.1 hC1).1
  have hL1 : 2 + (⟨(Dw.put 8 q).toArray⟩ : ByteArray).size ≤ maxLen := by rw [putSize]; decide
  have hL2 : 2 + (⟨(Dw.put 8 q).toArray⟩ : ByteArray).size ≤ 140737488355328 := by rw [putSize]; decide
  clear hA hB0 hC0 hb1
  go_wp2_with (at_builtin; go_loud (refine Lib.wpList_append_own_string _ (by rfl) _ _ 119 9 (by rfl) (w.heap.size + 1) 5 i0 Tryz.underlying119 Tryz.underlying9 hi hz0 hz1 hz2 _ 2 _ (by rfl) hown ⟨(Dw.put 8 q).toArray⟩ (by rfl) hL1 hL2 (Nat.le_of_lt hs1) ?_); intro v2 w2 hown2 hgrow2 _; have hB2 := (hgrow2.block w.heap.size (by omega) (by simp [Value.ownBlock])).trans hB1; have q2 := cell_of_row _ _ 2 _ _ _ hB2; simp only [List.getElem?_toArray, List.getElem?_cons_succ, List.getElem?_cons_zero] at q2; clear hB1 hC1)
  refine cb (put_any _ 8 hd (by decide) _) fun w3 hb3 => ?_
  have hW2 := hW.grown hgrow2 (by omega) (fun k hk => by simp [Value.ownBlock] at hk; omega)
  have hW3 := tr hW2 hb3
  have hown3 := hown2.kept (w' := w3) (row := none) ⟨hb3.os, hb3.tape, hb3.output, hb3.size, fun k hk _ => hb3.block k hk⟩ (by rcases h : v2.ownBlock with _ | x <;> simp)
  have hs3 : w.heap.size + 1 ≤ w3.heap.size := Nat.le_trans (Nat.le_of_lt hs1) (Nat.le_trans hgrow2.size hb3.size)
  rw [putSize] at hown3
  clear hown2 hown q2 hB2 hb3 hgrow2 hW hW2 hs1 hL1 hL2
  have hL1 : 10 + (⟨(Dw.put 8 d).toArray⟩ : ByteArray).size ≤ maxLen := by rw [putSize]; decide
  have hL2 : 10 + (⟨(Dw.put 8 d).toArray⟩ : ByteArray).size ≤ 140737488355328 := by rw [putSize]; decide
  go_wp2_with (at_builtin; go_loud (refine Lib.wpList_append_own_string _ (by rfl) _ _ 119 9 (by rfl) (w.heap.size + 1) 5 i0 Tryz.underlying119 Tryz.underlying9 hi hz0 hz1 hz2 _ 10 _ (by rfl) hown3 ⟨(Dw.put 8 d).toArray⟩ (by rfl) hL1 hL2 hs3 ?_); intro v4 w4 hown4 hgrow4 _; have hW4 := hW3.grown hgrow4 (by omega) (fun k hk => by have := hown3.lt k hk; omega); clear hgrow4 hown3)
  rw [putSize, Hh.out] at hown4
  obtain ⟨hln, hr⟩ := hown4
  rcases hr with ⟨_, h0⟩ | ⟨g, cap, cur, rfl, hbg, hg, hnc, hcm, hcs, htake⟩
  · exact absurd h0 (by decide)
  have hcell : ∀ j, j < 18 → w4.cell? ⟨g, j, none⟩ = (Dw.head k q d)[j]?.map fun b => Value.int .u8 (b.toNat : Int) := fun j hj => by
    rw [cell_of_row _ _ j _ _ _ hg]
    have := congrArg (fun l : List Value => l[j]?) htake
    simp only [List.getElem?_map] at this
    rw [← this, List.getElem?_take_of_lt (by omega)]
    simp
  have kc : ∀ w', Keep w4 w' → (convert 119 9 (.slice (some ⟨g, 0, none⟩) 18 cap)).run Tryz.prog w' = .ok (.string ⟨(Dw.head k q d).toArray⟩) w' := fun w' hk' => by
    have := run_convert_bytes_back (P := Tryz.prog) w' 119 9 5 ⟨g, 0, none⟩ cap (Dw.head k q d) Tryz.underlying119 Tryz.underlying5 Tryz.underlying9 (fun j hj => by
      rw [addr_add]
      have e1 := hcell j (by rw [Hhl] at hj; exact hj)
      have hj' : j < (Dw.head k q d).length := hj
      rw [List.getElem?_eq_getElem hj'] at e1
      have hlt : g < w4.heap.size := (Array.getElem?_eq_some_iff.1 hg).1
      exact (hk'.cell (p := ⟨g, j, none⟩) hlt id).trans e1)
    rwa [Hhl] at this
  clear hcell hg htake hln hcs
  generalize hh : Dw.head k q d = h at *
  have hhs : (⟨h.toArray⟩ : ByteArray).size ≤ 100000 := by simp [ByteArray.size, Hhl]
  have Hhl' := Lib.hid Hhl
  clear Hhl
  refine wp_pure [0,1,2,3,4,5,6,7,8,9] 10 (by kernel_rfl) (by kernel_rfl) rfl ?_
  have hu : IntKind.u64.wrap ((Dw.rev4 (Dw.sum h) : Nat) : Int) = ((Dw.rev4 (Dw.sum h) : Nat) : Int) := u64_id (by omega) (by omega)
  have Hhl := Hhl'.out
  have hpl := Dw.put_length 4 (Dw.rev4 (Dw.sum h))
  (apply rat; (focus (intro w' hk; have kc' := kc w' hk; repeat' (first | exact rn | ((first | refine' rv ?_ rfl rfl (by go_simp; first | done | with_reducible rfl | exact rfl) | refine' rc ?_ (by exact rfl) (by exact rfl) (by go_simp; first | done | (constructor <;> with_reducible rfl) | with_reducible rfl) (by first | first | exact sum_any ⟨h.toArray⟩ hhs w' | exact rev_any _ hsl w' | exact put_any _ 4 (Nat.lt_trans hrl (by decide)) (by decide) w') | refine' rs ?_ rfl rfl); try simp only [Act.put, List.setIfInBounds_toArray, List.set_cons_zero, List.set_cons_succ])))))
  intro w5 hk5
  simp only [List.drop_succ_cons, List.drop_zero]
  go_wp2_with fail
  go_ret
  refine ⟨?_, hW4.trans (hk5.whole.mono hW4.size)⟩
  rw [Hbody.out]
  exact ret_str (bs_append _ _)
theorem body_length (k q d : Nat) : (Dw.body k q d).length = 22 := by simp [Dw.body, Dw.head_length, Dw.put_length]
theorem mark_any (w : World) : Calls Tryz.prog 215 #[] w fun e w' => e = .returned (.string ⟨#[90, 60]⟩) ∧ Below w.heap.size w w' := by
  go_enter Tryz.func215, Tryz.ntmps215
  go_wp2_with fail
  go_ret
  exact ⟨rfl, Below.refl _ _⟩
end Go.Proofs.YtjibbchfndhhpaaGreatDoor
namespace Go.Proofs.YtjibbchfndhhpaaGreatDoor
namespace Dw
theorem put_succ (w n : Nat) : put (w + 1) n = put w (n / 256) ++ [UInt8.ofNat (n % 256)] := by
  unfold put
  rw [List.range_succ, List.map_append, List.map_cons, List.map_nil]
  congr 1
  · apply List.map_congr_left
    intro i hi
    rw [List.mem_range] at hi
    rw [show w + 1 - 1 - i = w - 1 - i + 1 from by omega, Nat.pow_succ, Nat.mul_comm, ← Nat.div_div_eq_div_mul]
  · simp
theorem get_put (w : Nat) : ∀ n, get (put w n) = n % 256 ^ w := by
  induction w with
  | zero => intro n; simp [put, get, getFrom, Nat.mod_one]
  | succ w ih =>
    intro n
    rw [put_succ]
    unfold get at *
    rw [getFrom_snoc, ih, show (UInt8.ofNat (n % 256)).toNat = n % 256 from by simp, Nat.pow_succ, Nat.mul_comm (256 ^ w) 256, Nat.mod_mul]
    omega
theorem put_get (w : Nat) : ∀ l : List UInt8, l.length = w → put w (get l) = l := by
  induction w with
  | zero => intro l hl; rw [List.eq_nil_of_length_eq_zero hl]; rfl
  | succ w ih =>
    intro l hl
    have hne : l ≠ [] := by intro e; subst e; simp at hl
    have e := List.dropLast_concat_getLast hne
    rw [← e]
    generalize l.getLast hne = b
    have hd : l.dropLast.length = w := by simp [hl]
    generalize l.dropLast = d at *
    have hb := b.toNat_lt
    rw [put_succ]
    unfold get at *
    rw [getFrom_snoc, show (getFrom 0 d * 256 + b.toNat) / 256 = getFrom 0 d from by omega, show (getFrom 0 d * 256 + b.toNat) % 256 = b.toNat from by omega, ih d hd]
    simp
theorem rev4_rev4 (n : Nat) (h : n < 4294967296) : rev4 (rev4 n) = n := by
  have e : ∀ a b c d : Nat, a < 256 → b < 256 → c < 256 → d < 256 → rev4 (d * 16777216 + c * 65536 + b * 256 + a) = a * 16777216 + b * 65536 + c * 256 + d := by
    intro a b c d ha hb hc hd
    obtain ⟨h1, h2, h3, h4⟩ := four_bytes a b c d ha hb hc hd
    unfold rev4
    rw [Nat.div_one] at h4
    rw [h4, h3, h2, show (d * 16777216 + c * 65536 + b * 256 + a) / 16777216 = d from by omega]
  obtain ⟨a, b, c, d, ha, hb, hc, hd, rfl⟩ : ∃ a b c d : Nat, a < 256 ∧ b < 256 ∧ c < 256 ∧ d < 256 ∧ n = d * 16777216 + c * 65536 + b * 256 + a :=
    ⟨n % 256, n / 256 % 256, n / 65536 % 256, n / 16777216, by omega, by omega, by omega, by omega, by omega⟩
  rw [e a b c d ha hb hc hd, e d c b a hd hc hb ha]
theorem check_iff (c : List UInt8) (n : Nat) (hc : c.length = 4) (hn : n < 4294967296) : rev4 (get c) = n ↔ c = put 4 (rev4 n) := by
  have hg : get c < 4294967296 := by have := get_lt c; rwa [hc] at this
  constructor
  · rintro rfl
    rw [rev4_rev4 _ hg, put_get 4 c hc]
  · intro h
    have hr := rev4_lt n hn
    rw [h, get_put, Nat.mod_eq_of_lt (by simpa using hr), rev4_rev4 n hn]
theorem parts (x0 x1 : UInt8) (q d c m : List UInt8) (hq : q.length = 8) (hd : d.length = 8) (hc : c.length = 4) :
    ((([x0] ++ ([x1] ++ (q ++ (d ++ (c ++ m))))).drop 2).take 8 = q ∧ (([x0] ++ ([x1] ++ (q ++ (d ++ (c ++ m))))).drop 10).take 8 = d ∧
    (([x0] ++ ([x1] ++ (q ++ (d ++ (c ++ m))))).drop 18).take 4 = c) ∧ ([x0] ++ ([x1] ++ (q ++ (d ++ (c ++ m))))).drop 22 = m := by
  have e2 : ([x0] ++ ([x1] ++ (q ++ (d ++ (c ++ m))))).drop 2 = q ++ (d ++ (c ++ m)) := rfl
  have e10 : ([x0] ++ ([x1] ++ (q ++ (d ++ (c ++ m))))).drop 10 = d ++ (c ++ m) := by
    rw [show 10 = 2 + 8 from rfl, ← List.drop_drop, e2, List.drop_left' hq]
  have e18 : ([x0] ++ ([x1] ++ (q ++ (d ++ (c ++ m))))).drop 18 = c ++ m := by
    rw [show 18 = 10 + 8 from rfl, ← List.drop_drop, e10, List.drop_left' hd]
  have e22 : ([x0] ++ ([x1] ++ (q ++ (d ++ (c ++ m))))).drop 22 = m := by
    rw [show 22 = 18 + 4 from rfl, ← List.drop_drop, e18, List.drop_left' hc]
  exact ⟨⟨by rw [e2, List.take_left' hq], by rw [e10, List.take_left' hd], by rw [e18, List.take_left' hc]⟩, e22⟩
theorem splits (l : List UInt8) (h : l.length = 24) : ∃ (x0 x1 : UInt8) (q d c m : List UInt8), q.length = 8 ∧ d.length = 8 ∧ c.length = 4 ∧ m.length = 2 ∧ l = [x0] ++ ([x1] ++ (q ++ (d ++ (c ++ m)))) := by
  match l, h with
  | x0 :: x1 :: t, h =>
    simp at h
    refine ⟨x0, x1, t.take 8, (t.drop 8).take 8, (t.drop 16).take 4, t.drop 20, by simp; omega, by simp; omega, by simp; omega, by simp; omega, ?_⟩
    rw [show t.drop 20 = (t.drop 16).drop 4 from by rw [List.drop_drop], List.take_append_drop, show t.drop 16 = (t.drop 8).drop 8 from by rw [List.drop_drop], List.take_append_drop, List.take_append_drop]
    rfl
end Dw
end Go.Proofs.YtjibbchfndhhpaaGreatDoor
namespace Go.Proofs.YtjibbchfndhhpaaGreatDoor
open Go.RowKit Go.Shelf
attribute [local go_sem] Oper.semAt_some
namespace Dw
structure Rec where
  kind : Nat
  seq : Nat
  data : Nat
def zeroRec : Rec := ⟨0, 0, 0⟩
def decodeE (l : List UInt8) : Int :=
  if l.length ≠ 24 then 1 else if blankB l = true then 5 else if l.getD 0 0 ≠ 165 then 6
  else if (l.drop 18).take 4 ≠ put 4 (rev4 (sum (l.take 18))) then 7
  else if (l.getD 1 0).toNat < 1 ∨ 3 < (l.getD 1 0).toNat then 8 else if l.drop 22 ≠ [90, 60] then 9 else 0
def recOf (l : List UInt8) : Rec := ⟨(l.getD 1 0).toNat, get ((l.drop 2).take 8), get ((l.drop 10).take 8)⟩
def decodeR (l : List UInt8) : Rec := if decodeE l = 0 then recOf l else zeroRec
end Dw
abbrev recV (r : Dw.Rec) : Value := .agg #[.int .i64 r.kind, .int .u64 r.seq, .int .u64 r.data]
theorem takeL_any (b k : Nat) (p r : List UInt8) (hk : p.length = k) (w : World) (hc : w.cell? ⟨b, 0, none⟩ = some (.string ⟨(p ++ r).toArray⟩)) (hf : w.frozen? ⟨b, 0, none⟩ = false) :
    Calls Tryz.prog 231 #[.pointer (some ⟨b, 0, none⟩), .int .i64 k] w fun e w' => e = .returned (.string ⟨p.toArray⟩) ∧ w'.cell? ⟨b, 0, none⟩ = some (.string ⟨r.toArray⟩) ∧ w'.frozen? ⟨b, 0, none⟩ = false ∧ KeepBut (fun g => g = b) w w' := by
  refine (take_any b k _ (by rw [bs_size]; simp; omega) w hc hf).mono ?_
  rintro e w' ⟨rfl, h1, h2, h3⟩
  refine ⟨?_, ?_, h2, h3⟩
  · rw [bs_extract]; subst hk; simp
  · rw [h1, bs_extract, bs_size, List.take_of_length_le (Nat.le_refl _)]; subst hk; simp
theorem take_link (b k : Nat) (p r : List UInt8) (hk : p.length = k) (w2 w : World) (hb : KeepBut (fun g => g = b) w2 w) (hc : w.cell? ⟨b, 0, none⟩ = some (.string ⟨(p ++ r).toArray⟩)) (hf : w.frozen? ⟨b, 0, none⟩ = false) :
    Calls Tryz.prog 231 #[.pointer (some ⟨b, 0, none⟩), .int .i64 k] w fun e w' => e = .returned (.string ⟨p.toArray⟩) ∧ KeepBut (fun g => g = b) w2 w' ∧ w'.cell? ⟨b, 0, none⟩ = some (.string ⟨r.toArray⟩) ∧ w'.frozen? ⟨b, 0, none⟩ = false :=
  (takeL_any b k p r hk w hc hf).mono fun _ _ ⟨h1, h2, h3, h4⟩ => ⟨h1, hb.trans h4, h2, h3⟩
theorem ba_one (x : UInt8) (h : 0 < (⟨#[x]⟩ : ByteArray).size) : (⟨#[x]⟩ : ByteArray)[0]'h = x := rfl
theorem wrap_byte (x : UInt8) : IntKind.i64.wrap (x.toNat : Int) = (x.toNat : Int) := by
  have := x.toNat_lt
  exact IntWalk.i64_in _ (by omega)
def rest3 (a b c : List UInt8) : Nat → List UInt8
  | 0 => a
  | 1 => b
  | _ => c
theorem decode_full (x0 x1 : UInt8) (q d c m : List UInt8) (hq : q.length = 8) (hd : d.length = 8) (hc : c.length = 4) (hm : m.length = 2) (l : List UInt8) (hl : l = [x0] ++ ([x1] ++ (q ++ (d ++ (c ++ m))))) (hbl : Dw.blankB l = false) (w : World) :
    Calls Tryz.prog 222 #[.string ⟨l.toArray⟩] w fun e w' => e = .returned (.tuple #[recV (Dw.decodeR l), .int .i64 (Dw.decodeE l)]) ∧ Below w.heap.size w w' := by
  have hlen : l.length = 24 := by subst hl; simp; omega
  have Hl := Lib.hid hl
  clear hl
  have hB0 := (Below.refl w.heap.size w).alloc (Nat.le_refl _) (.cells #[.int .i64 0, .int .u64 0, .int .u64 0] 256)
  have hC0 := han w (.cells #[.int .i64 0, .int .u64 0, .int .u64 0] 256)
  go_enter Tryz.func222, Tryz.ntmps222
  go_wp2_with fail
  refine cb (blank_any _ _) fun w1 hb1 => ?_
  have hC1 := (hb1.block w.heap.size (by simp)).trans hC0
  have hB1 := tr hB0 hb1
  rw [show Dw.blankB (⟨l.toArray⟩ : ByteArray).data.toList = false from hbl]
  have hs1 : w.heap.size < w1.heap.size := (Array.getElem?_eq_some_iff.1 hC1).1
  clear hB0 hC0 hb1
  go_wp2_with fail
  have hC2 := (heap_alloc_old w1 (.cells #[.string ⟨l.toArray⟩] 317) _ hs1).trans hC1
  have hB2 := hB1.alloc hB1.size (.cells #[.string ⟨l.toArray⟩] 317)
  have hT2 := han w1 (.cells #[.string ⟨l.toArray⟩] 317)
  generalize w1.alloc _ = w2 at *
  clear hC1 hB1
  generalize w1.heap.size = b at *
  have hbB : w.heap.size < b := hs1
  clear hs1 w1
  have c0 := cell_of_row _ _ 0 _ _ _ hT2
  have f0 : w2.frozen? ⟨b, 0, none⟩ = false := by simp [World.frozen?, hT2]
  simp only [List.getElem?_toArray, List.getElem?_cons_zero] at c0
  rw [Hl.out] at c0
  refine wp_chain [0,1,2,3,4,5,6,7,8] [1, 4] 9 (fun i w' => KeepBut (fun g => g = b) w2 w' ∧ w'.cell? ⟨b, 0, none⟩ = some (.string ⟨(rest3 ([x0] ++ ([x1] ++ (q ++ (d ++ (c ++ m))))) ([x1] ++ (q ++ (d ++ (c ++ m)))) (q ++ (d ++ (c ++ m))) i).toArray⟩) ∧ w'.frozen? ⟨b, 0, none⟩ = false) (by kernel_rfl) (by kernel_rfl) (by kernel_rfl) rfl
    (fun n A B h hk => ⟨h.1.trans (hk.mono fun _ _ h => h.elim), look hk h.2.1, (kfrozen hk _ _ (lt_of_cell h.2.1)).trans h.2.2⟩) ⟨KeepBut.refl _ _, c0, f0⟩ ?_
  repeat' (first | (refine cl_nil ?_) | (refine cl_value (v := ?_) rfl (by rfl) rfl ?_ ?_; rotate_left 1; (focus (intro m w' hst; go_simp; (first | done | with_reducible rfl | exact rfl))); (try simp only [Act.put, List.setIfInBounds_toArray, List.set_cons_zero, List.set_cons_succ])) | (refine cl_link (v := ?_) (f := ?_) (args := ?_) rfl (by rfl) rfl ?_ ?_ ?_; rotate_left 3; (focus (intro w' hst; go_simp; (first | done | (constructor <;> with_reducible rfl) | with_reducible rfl))); (focus (intro w' hst; first | exact take_link b 1 [x0] ([x1] ++ (q ++ (d ++ (c ++ m)))) rfl w2 w' hst.1 hst.2.1 hst.2.2 | exact take_link b 1 [x1] (q ++ (d ++ (c ++ m))) rfl w2 w' hst.1 hst.2.1 hst.2.2)); (try simp only [Act.put, List.setIfInBounds_toArray, List.set_cons_zero, List.set_cons_succ])) | (refine cl_skip rfl (by rfl) rfl ?_; (try simp only [Act.put, List.setIfInBounds_toArray, List.set_cons_zero, List.set_cons_succ])))
  clear hT2 c0 f0
  intro w3 hst
  obtain ⟨hk3, c3, f3⟩ := hst
  have hC3 := (hk3.block _ (Array.getElem?_eq_some_iff.1 hC2).1 (by omega)).trans hC2
  have hB3 := hB2.trans (hk3.below hB2.size (fun k e => by omega))
  have hbl3 := lt_of_cell c3
  clear hk3 hC2 hB2 w2
  simp only [ba_one, wrap_byte, List.drop_succ_cons, List.drop_zero, rest3] at c3 ⊢
  go_wp2_with fail
  refine (takeL_any b 8 q _ hq w3 c3 f3).mono ?_
  rintro e w4 ⟨rfl, c4, f4, hk4⟩
  have hC4 := (hk4.block _ (Array.getElem?_eq_some_iff.1 hC3).1 (by omega)).trans hC3
  have hB4 := hB3.trans (hk4.below hB3.size (fun k e => by omega))
  clear hk4 hC3 hB3 c3 f3 hbl3 w3
  go_wp2_with fail
  refine cb (fget_any ⟨q.toArray⟩ (by simp [ByteArray.size, hq]) w4) fun w5 hb5 => ?_
  have hC5 := (hb5.block _ (Array.getElem?_eq_some_iff.1 hC4).1).trans hC4
  have c5 := (hb5.cell (p := ⟨b, 0, none⟩) (lt_of_cell c4)).trans c4
  have f5 := (hb5.frozen (p := ⟨b, 0, none⟩) (lt_of_cell c4)).trans f4
  have hB5 := tr hB4 hb5
  clear hb5 hC4 hB4 c4 f4 w4
  go_wp2_with fail
  refine (takeL_any b 8 d _ hd w5 c5 f5).mono ?_
  rintro e w6 ⟨rfl, c6, f6, hk6⟩
  have hC6 := (hk6.block _ (Array.getElem?_eq_some_iff.1 hC5).1 (by omega)).trans hC5
  have hB6 := hB5.trans (hk6.below hB5.size (fun k e => by omega))
  clear hk6 hC5 hB5 c5 f5 w5
  go_wp2_with fail
  refine cb (fget_any ⟨d.toArray⟩ (by simp [ByteArray.size, hd]) w6) fun w7 hb7 => ?_
  have hC7 := (hb7.block _ (Array.getElem?_eq_some_iff.1 hC6).1).trans hC6
  have c7 := (hb7.cell (p := ⟨b, 0, none⟩) (lt_of_cell c6)).trans c6
  have f7 := (hb7.frozen (p := ⟨b, 0, none⟩) (lt_of_cell c6)).trans f6
  have hB7 := tr hB6 hb7
  clear hb7 hC6 hB6 c6 f6 w6
  go_wp2_with fail
  have hC8 := (heap_alloc_old w7 (.cells #[.int .i64 (x1.toNat : Int), .int .u64 ((Dw.get q : Nat) : Int), .int .u64 ((Dw.get d : Nat) : Int)] 256) _ (Array.getElem?_eq_some_iff.1 hC7).1).trans hC7
  have hR8 := han w7 (.cells #[.int .i64 (x1.toNat : Int), .int .u64 ((Dw.get q : Nat) : Int), .int .u64 ((Dw.get d : Nat) : Int)] 256)
  have hK8 := (KeepBut.refl (fun _ => False) w7).alloc (.cells #[.int .i64 (x1.toNat : Int), .int .u64 ((Dw.get q : Nat) : Int), .int .u64 ((Dw.get d : Nat) : Int)] 256)
  have c8 := look hK8 c7
  have f8 := (kfrozen hK8 _ _ (lt_of_cell c7)).trans f7
  have hB8 := hB7.alloc hB7.size (.cells #[.int .i64 (x1.toNat : Int), .int .u64 ((Dw.get q : Nat) : Int), .int .u64 ((Dw.get d : Nat) : Int)] 256)
  have hne : w7.heap.size ≠ b := by have := lt_of_cell c7; simp at this; omega
  have hg0 : w.heap.size < w7.heap.size := (Array.getElem?_eq_some_iff.1 hC7).1
  generalize w7.alloc _ = w8 at *
  clear hK8 hC7 c7 f7 hB7
  generalize w7.heap.size = g at *
  clear w7
  refine (takeL_any b 4 c _ hc w8 c8 f8).mono ?_
  rintro e w9 ⟨rfl, c9, f9, hk9⟩
  have hC9 := (hk9.block _ (Array.getElem?_eq_some_iff.1 hC8).1 (by omega)).trans hC8
  have hR9 := (hk9.block _ (Array.getElem?_eq_some_iff.1 hR8).1 hne).trans hR8
  have hB9 := hB8.trans (hk9.below hB8.size (fun k e => by omega))
  clear hk9 hC8 hB8 c8 f8 hR8 w8
  go_wp2_with fail
  refine cb (fget_any ⟨c.toArray⟩ (by simp [ByteArray.size, hc]) w9) fun w10 hb10 => ?_
  have hC10 := (hb10.block _ (Array.getElem?_eq_some_iff.1 hC9).1).trans hC9
  have hR10 := (hb10.block _ (Array.getElem?_eq_some_iff.1 hR9).1).trans hR9
  have c10 := (hb10.cell (p := ⟨b, 0, none⟩) (lt_of_cell c9)).trans c9
  have hB10 := tr hB9 hb10
  clear hb10 hC9 hB9 c9 f9 hR9 w9
  have hcl : Dw.get c < 4294967296 := by have := Dw.get_lt c; rwa [hc] at this
  have hc32 : IntKind.u32.wrap ((Dw.get c : Nat) : Int) = ((Dw.get c : Nat) : Int) := by rw [IntKind.wrap_u32']; omega
  go_wp2_with fail
  refine cb (rev_any _ hcl w10) fun w11 hb11 => ?_
  have hC11 := (hb11.block _ (Array.getElem?_eq_some_iff.1 hC10).1).trans hC10
  have hR11 := (hb11.block _ (Array.getElem?_eq_some_iff.1 hR10).1).trans hR10
  have c11 := (hb11.cell (p := ⟨b, 0, none⟩) (lt_of_cell c10)).trans c10
  have hB11 := tr hB10 hb11
  clear hb11 hC10 hB10 c10 hR10 hc32
  clear w10
  have l0 : l.getD 0 0 = x0 := by rw [Hl.out]; rfl
  have l1 : l.getD 1 0 = x1 := by rw [Hl.out]; rfl
  have hE0 : Dw.decodeE l = (if x0 ≠ 165 then 6 else if (l.drop 18).take 4 ≠ Dw.put 4 (Dw.rev4 (Dw.sum (l.take 18))) then 7 else if x1.toNat < 1 ∨ 3 < x1.toNat then 8 else if l.drop 22 ≠ [90, 60] then 9 else 0) := by
    unfold Dw.decodeE
    rw [if_neg (by simp [hlen]), if_neg (by simp [hbl]), l0, l1]
  have HE0 := Lib.hid hE0
  have HB11 := Lib.hid hB11
  clear hE0 l0 l1 hB11
  by_cases h0 : x0 = 165
  · subst h0
    go_wp2_with fail
    refine cb (range_any ⟨l.toArray⟩ (by simp [ByteArray.size, hlen]) 18 (by simp [ByteArray.size, hlen]) (by decide) w11) fun w12 hb12 => ?_
    have hC12 := kp hb12 hC11
    have hR12 := kp hb12 hR11
    have c12 := (hb12.cell (p := ⟨b, 0, none⟩) (lt_of_cell c11)).trans c11
    have HB12 := Lib.hid (HB11.out.trans (hb12.mono HB11.out.size))
    obtain ⟨⟨hHq, hHd, hHc⟩, hHm⟩ := Dw.parts 165 x1 q d c m hq hd hc
    rw [← Hl.out] at hHq hHd hHc hHm
    have HK := Lib.hid (Dw.check_iff c _ hc (Dw.sum_lt (l.take 18)))
    have HE1 := Lib.hid (show Dw.decodeE l = (if c ≠ Dw.put 4 (Dw.rev4 (Dw.sum (l.take 18))) then 7 else if x1.toNat < 1 ∨ 3 < x1.toNat then 8 else if m ≠ [90, 60] then 9 else 0) from by rw [HE0.out, if_neg (by simp), hHc, hHm])
    have HR := Lib.hid (show Dw.recOf l = ⟨x1.toNat, Dw.get q, Dw.get d⟩ from by unfold Dw.recOf; rw [hHq, hHd, show l.getD 1 0 = x1 from by rw [Hl.out]; rfl])
    have HZ := Lib.hid (show Dw.decodeE l ≠ 0 → Dw.decodeR l = Dw.zeroRec from fun h => by unfold Dw.decodeR; rw [if_neg h])
    clear hb12 hC11 hR11 c11 HB11 HE0 hHc hHm hHq hHd
    by_cases h1 : Dw.rev4 (Dw.get c) = Dw.sum (l.take 18)
    · have h1' : ((Dw.rev4 (Dw.get c) : Int) != (Dw.sum (l.take 18) : Int)) = false := by rw [bne_eq_false_iff_eq]; omega
      have HE2 := Lib.hid (show Dw.decodeE l = (if x1.toNat < 1 ∨ 3 < x1.toNat then 8 else if m ≠ [90, 60] then 9 else 0) from by rw [HE1.out, if_neg (fun e => e (HK.out.1 h1))])
      clear h1 HE1 HK
      by_cases k1 : x1.toNat < 1
      · have k1' : (x1.toNat : Int) < 1 := by omega
        have HE := Lib.hid (show Dw.decodeE l = 8 from by rw [HE2.out, if_pos (.inl k1)])
        clear k1
        go_wp2_with (first | (refine lb hC12 rfl rfl rfl (by kernel_rfl) ?_) | (refine sb hC12 rfl rfl rfl rfl (by kernel_rfl) ?_))
        refine bodyPost_ret (rct rfl (srh hC12) (by rfl) (by kernel_rfl)) rfl ⟨?_, below_setRow HB12.out (Nat.le_refl _) _⟩
        rw [HE.out, HZ.out (by rw [HE.out]; decide)]; rfl
      · by_cases k3 : 3 < x1.toNat
        · have k1' : ¬ (x1.toNat : Int) < 1 := by omega
          have k3' : 3 < (x1.toNat : Int) := by omega
          have HE := Lib.hid (show Dw.decodeE l = 8 from by rw [HE2.out, if_pos (.inr k3)])
          clear k1 k3
          go_wp2_with (first | (refine lb hC12 rfl rfl rfl (by kernel_rfl) ?_) | (refine sb hC12 rfl rfl rfl rfl (by kernel_rfl) ?_))
          refine bodyPost_ret (rct rfl (srh hC12) (by rfl) (by kernel_rfl)) rfl ⟨?_, below_setRow HB12.out (Nat.le_refl _) _⟩
          rw [HE.out, HZ.out (by rw [HE.out]; decide)]; rfl
        · have k1' : ¬ (x1.toNat : Int) < 1 := by omega
          have k3' : ¬ 3 < (x1.toNat : Int) := by omega
          have HE3 := Lib.hid (show Dw.decodeE l = (if m ≠ [90, 60] then 9 else 0) from by rw [HE2.out, if_neg (fun h => h.elim k1 k3)])
          clear k1 k3 HE2
          by_cases k9 : m = [90, 60]
          · have HE := Lib.hid (show Dw.decodeE l = 0 from by rw [HE3.out, if_neg (fun h => h k9)])
            have hm' : (m == [90, 60]) = true := by simp [k9]
            clear HE3 k9
            have hC13 := setRow_heap w12 w.heap.size _ #[.int .i64 (x1.toNat : Int), .int .u64 ((Dw.get q : Nat) : Int), .int .u64 ((Dw.get d : Nat) : Int)] _ _ hC12
            go_wp2_with (first | (refine lb hR12 rfl rfl rfl (by kernel_rfl) ?_) | (refine sb hC12 rfl rfl rfl rfl (by kernel_rfl) ?_) | (refine lb hC13 rfl rfl rfl (by kernel_rfl) ?_) | (refine sb hC13 rfl rfl rfl rfl (by kernel_rfl) ?_))
            refine bodyPost_ret (rct rfl (srh hC13) (by rfl) (by kernel_rfl)) rfl ⟨?_, below_setRow (below_setRow HB12.out (Nat.le_refl _) _) (Nat.le_refl _) _⟩
            rw [HE.out, show Dw.decodeR l = ⟨x1.toNat, Dw.get q, Dw.get d⟩ from by unfold Dw.decodeR; rw [if_pos HE.out, HR.out]]; rfl
          · have HE := Lib.hid (show Dw.decodeE l = 9 from by rw [HE3.out, if_pos k9])
            have hm' : (m == [90, 60]) = false := by simp [k9]
            clear k9 HE3
            go_wp2_with (first | (refine lb hC12 rfl rfl rfl (by kernel_rfl) ?_) | (refine sb hC12 rfl rfl rfl rfl (by kernel_rfl) ?_))
            refine bodyPost_ret (rct rfl (srh hC12) (by rfl) (by kernel_rfl)) rfl ⟨?_, below_setRow HB12.out (Nat.le_refl _) _⟩
            rw [HE.out, HZ.out (by rw [HE.out]; decide)]; rfl
    · have h1' : ((Dw.rev4 (Dw.get c) : Int) != (Dw.sum (l.take 18) : Int)) = true := by rw [bne_iff_ne]; omega
      have HE := Lib.hid (show Dw.decodeE l = 7 from by rw [HE1.out, if_pos (fun e => h1 (HK.out.2 e))])
      clear h1
      go_wp2_with (first | (refine lb hC12 rfl rfl rfl (by kernel_rfl) ?_) | (refine sb hC12 rfl rfl rfl rfl (by kernel_rfl) ?_))
      refine bodyPost_ret (rct rfl (srh hC12) (by rfl) (by kernel_rfl)) rfl ⟨?_, below_setRow HB12.out (Nat.le_refl _) _⟩
      rw [HE.out, HZ.out (by rw [HE.out]; decide)]; rfl
  · have hx : ((x0.toNat : Int) != 165) = true := by
      rw [bne_iff_ne]; intro e; exact h0 (UInt8.toNat_inj.1 (by simpa using (Int.ofNat.inj e)))
    have HE := Lib.hid (show Dw.decodeE l = 6 from by rw [HE0.out, if_pos h0])
    go_wp2_with (first | (refine lb hC11 rfl rfl rfl (by kernel_rfl) ?_) | (refine sb hC11 rfl rfl rfl rfl (by kernel_rfl) ?_))
    refine bodyPost_ret (rct rfl (srh hC11) (by rfl) (by kernel_rfl)) rfl ⟨?_, below_setRow HB11.out (Nat.le_refl _) _⟩
    rw [HE.out, show Dw.decodeR l = Dw.zeroRec from by unfold Dw.decodeR; rw [HE.out]; rfl]; rfl
theorem decode_any (l : List UInt8) (w : World) :
    Calls Tryz.prog 222 #[.string ⟨l.toArray⟩] w fun e w' => e = .returned (.tuple #[recV (Dw.decodeR l), .int .i64 (Dw.decodeE l)]) ∧ Below w.heap.size w w' := by
  have hB0 := (Below.refl w.heap.size w).alloc (Nat.le_refl _) (.cells #[.int .i64 0, .int .u64 0, .int .u64 0] 256)
  have hC0 := han w (.cells #[.int .i64 0, .int .u64 0, .int .u64 0] 256)
  by_cases h24 : l.length = 24
  · cases hbl : Dw.blankB l
    · obtain ⟨x0, x1, q, d, c, m, hq, hd, hc, hm, hl⟩ := Dw.splits l h24
      exact decode_full x0 x1 q d c m hq hd hc hm l hl hbl w
    · have HE := Lib.hid (show Dw.decodeE l = 5 from by unfold Dw.decodeE; rw [if_neg (by simp [h24]), if_pos hbl])
      have Hbl := Lib.hid hbl
      clear hbl
      go_enter Tryz.func222, Tryz.ntmps222
      go_wp2_with fail
      refine cb (blank_any _ _) fun w1 hb1 => ?_
      have hC1 := (hb1.block w.heap.size (by simp)).trans hC0
      have hB1 := tr hB0 hb1
      rw [show Dw.blankB (⟨l.toArray⟩ : ByteArray).data.toList = true from Hbl.out]
      go_wp2_with (first | (refine lb hC1 rfl rfl rfl (by kernel_rfl) ?_) | (refine sb hC1 rfl rfl rfl rfl (by kernel_rfl) ?_))
      refine bodyPost_ret (rct rfl (srh hC1) (by rfl) (by kernel_rfl)) rfl ⟨?_, below_setRow hB1 (Nat.le_refl _) _⟩
      rw [HE.out, show Dw.decodeR l = Dw.zeroRec from by unfold Dw.decodeR; rw [HE.out]; rfl]; rfl
  · have HE := Lib.hid (show Dw.decodeE l = 1 from by unfold Dw.decodeE; rw [if_pos (by simp [h24])])
    have hne : ¬ (l.length : Int) = 24 := by omega
    go_enter Tryz.func222, Tryz.ntmps222
    go_wp2_with (first | (refine lb hC0 rfl rfl rfl (by kernel_rfl) ?_) | (refine sb hC0 rfl rfl rfl rfl (by kernel_rfl) ?_))
    refine bodyPost_ret (rct rfl (srh hC0) (by rfl) (by kernel_rfl)) rfl ⟨?_, below_setRow hB0 (Nat.le_refl _) _⟩
    rw [HE.out, show Dw.decodeR l = Dw.zeroRec from by unfold Dw.decodeR; rw [HE.out]; rfl]; rfl
end Go.Proofs.YtjibbchfndhhpaaGreatDoor
namespace Go.Proofs.YtjibbchfndhhpaaGreatDoor
open Go.RowKit Go.Shelf
attribute [local go_sem] Oper.semAt_some
end Go.Proofs.YtjibbchfndhhpaaGreatDoor
