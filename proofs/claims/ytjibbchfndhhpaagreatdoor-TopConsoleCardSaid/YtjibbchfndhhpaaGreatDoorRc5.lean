/- What the statement's proof stands on, part 5: Put, PlainSt, Tab. -/
import Derived.Test.YtjibbchfndhhpaaGreatDoorRc4
import Derived.Laws.IdiomStrings
set_option linter.unusedSimpArgs false
set_option linter.unusedVariables false
set_option maxRecDepth 100000
set_option maxHeartbeats 4000000
namespace Go.Proofs.YtjibbchfndhhpaaGreatDoor
open Go.RowKit Go.Shelf
attribute [local go_sem] Oper.semAt_some
namespace Dw
def put (w n : Nat) : List UInt8 := (List.range w).map fun i => UInt8.ofNat (n / 256 ^ (w - 1 - i) % 256)
theorem put_length (w n : Nat) : (put w n).length = w := by simp [put]
theorem put_at (w n i : Nat) (h : i < (put w n).length) : ((put w n)[i]).toNat = n / 256 ^ (w - 1 - i) % 256 := by
  simp [put]
end Dw
theorem addr_add (b j : Nat) : (⟨b, 0, none⟩ : Addr).add j = ⟨b, j, none⟩ := by unfold Addr.add; split <;> simp_all
theorem infoB : (Tryz.prog.info? 5).map (fun i => (i.zero, i.size, i.bytes)) = some (some (.int .u8 0), 1, 1) := by kernel_rfl
theorem put_any (n m : Nat) (hn : n < 18446744073709551616) (hm : m ≤ 8) (w : World) :
    Calls Tryz.prog 132 #[.int .u64 n, .int .i64 m] w fun e w' => e = .returned (.string ⟨(Dw.put m n).toArray⟩) ∧ Below w.heap.size w w' := by
  have a1 : ¬ ((m : Int) < 0) := by omega
  have a2 : ¬ ((8 : Int) < (m : Int)) := by omega
  have a3 : (0 : Int) ≤ (m : Int) := by omega
  have a4 : (m : Int) ≤ 8 := by omega
  obtain ⟨i0, hi, hz0, hz1, hz2⟩ := info_parts infoB
  have hby : i0.bytes * m ≤ 281474976710656 := by rw [hz2, Nat.one_mul]; exact Nat.le_trans hm (by decide)
  have hb63 : m ≤ 9223372036854775807 := Nat.le_trans hm (by decide)
  go_enter Tryz.func132, Tryz.ntmps132
  go_wp2_with (refine wpList_make_row _ rfl _ _ 119 rfl 5 i0 (.int .u8 0) Tryz.underlying119 hi hz0 hz1 rfl .i64 .i64 m (by rfl) (by rfl) hby hb63 ?_)
  have hrow := World.rowIs_made w (.int .u8 0) m 5
  have hBw := (Below.refl w.heap.size w).alloc (Nat.le_refl _) (.cells (madeCells #[.int .u8 0] m) 5)
  generalize w.alloc _ = w1 at *
  go_loopw [0, 13] (fun c i wr => ∃ k : Nat, k ≤ m ∧ i = .int .i64 k ∧ c = .int .u64 ((n / 256 ^ k : Nat) : Int) ∧ wr.rowIs w.heap.size 5 m (fun j => .int .u8 ((if m - k ≤ j then n / 256 ^ (m - 1 - j) % 256 else 0 : Nat) : Int)) ∧ Below w.heap.size w wr) (fun _ i _ => m - (intOf i).toNat)
  case atStart => exact ⟨0, Nat.zero_le _, rfl, by simp, hrow.congr (fun j hj => by rw [if_neg (by omega)]; rfl), hBw⟩
  case round =>
    obtain ⟨k, hk, rfl, rfl, hT, hB⟩ := hrel
    by_cases hlt : k < m
    · have hj : m - 1 - k < m := by omega
      have hck := hT.cell hj
      have hfk := hT.frozen (m - 1 - k)
      have Hp := Lib.hid (show n / 256 ^ (k + 1) = n / 256 ^ k / 256 from by rw [Nat.pow_succ, Nat.div_div_eq_div_mul])
      have Hd := Lib.hid (show ∀ j, j = m - 1 - k → n / 256 ^ (m - 1 - j) = n / 256 ^ k from fun j e => by rw [show m - 1 - j = k from by omega])
      have hq : n / 256 ^ k < 18446744073709551616 := Nat.lt_of_le_of_lt (Nat.div_le_self _ _) hn
      generalize hxx : n / 256 ^ k = x at *
      clear hxx
      have b1 : (0 : Int) ≤ (m : Int) - 1 - (k : Int) := by omega
      have b2 : (m : Int) - 1 - (k : Int) < (m : Int) := by omega
      have w1' : IntKind.i64.wrap ((m : Int) - 1) = (m : Int) - 1 := IntWalk.i64_in _ (by omega)
      have w2' : IntKind.i64.wrap ((m : Int) - 1 - (k : Int)) = (m : Int) - 1 - (k : Int) := IntWalk.i64_in _ (by omega)
      have t1 : ((m : Int) - 1 - (k : Int)).toNat = m - 1 - k := by omega
      have c1 : IntKind.u8.wrap (x : Int) = (x : Int) % 256 := IntKind.wrap_u8' _
      go_wp2_with fail
      go_roundw
      case rel =>
        refine ⟨k + 1, by omega, by go_num, by rw [Hp.out]; exact int_val (by omega), (hT.set (m - 1 - k) _).congr (fun j hj => ?_), hB.setCell (p := ⟨w.heap.size, m - 1 - k, none⟩) (Nat.le_refl _) _⟩
        by_cases hjk : j = m - 1 - k
        · rw [if_pos hjk, if_pos (by omega), Hd.out j hjk]; exact int_val (by omega)
        · rw [if_neg hjk]
          by_cases h1 : m - k ≤ j
          · rw [if_pos h1, if_pos (by omega)]
          · rw [if_neg h1, if_neg (by omega)]
      case measure => simp [intOf]; omega
    · obtain rfl : k = m := by omega
      have kc := run_convert_bytes_back (P := Tryz.prog) wr 119 9 5 ⟨w.heap.size, 0, none⟩ k (Dw.put k n) Tryz.underlying119 Tryz.underlying5 Tryz.underlying9 (fun j hj => by
        rw [addr_add, hT.cell (by simpa [Dw.put_length] using hj), Dw.put_at, if_pos (by omega)])
      rw [Dw.put_length] at kc
      go_wp2_with fail
      go_ret
      exact ⟨rfl, hB⟩
end Go.Proofs.YtjibbchfndhhpaaGreatDoor
namespace Go.Proofs.YtjibbchfndhhpaaGreatDoor
open Go.RowKit Go.Shelf
namespace Dw
structure St where
  mo : Int
  ar : Bool
  ho : Bool
  la : Int
  lo : Int
  iso : Int
  deriving DecidableEq
def st0 : St := ⟨0, false, false, 0, 0, 0⟩
def legal (s : St) : Bool :=
  decide (0 ≤ s.mo ∧ s.mo ≤ 5 ∧ 0 ≤ s.iso ∧ s.iso ≤ 15) && decide (-737280 ≤ s.la ∧ s.la ≤ 737280 ∧ -1474560 ≤ s.lo ∧ s.lo ≤ 1474560) && (s.ho || decide (s.la = 0 ∧ s.lo = 0))
def m24 (n : Int) : Nat := (n % 16777216).toNat
def sg24 (m : Nat) : Int := if m < 8388608 then (m : Int) else (m : Int) - 16777216
def firstN (s : St) : Nat := s.mo.toNat + (if s.ar then 8 else 0) + (if s.ho then 16 else 0)
def pack (s : St) : Nat := if legal s then firstN s * 72057594037927936 + s.iso.toNat * 281474976710656 + m24 s.la * 16777216 + m24 s.lo else 0
def unS (n : Nat) : St := ⟨((n / 72057594037927936 % 8 : Nat) : Int), n / 576460752303423488 % 2 == 1, n / 1152921504606846976 % 2 == 1, sg24 (n / 16777216 % 16777216), sg24 (n % 16777216), ((n / 281474976710656 % 256 : Nat) : Int)⟩
def unOk (n : Nat) : Bool := legal (unS n) && decide (n < 2305843009213693952)
def unP (n : Nat) : St := if unOk n then unS n else st0
def unE (n : Nat) : Int := if unOk n then 0 else 13
theorem legal_iff (s : St) : legal s = true ↔ (0 ≤ s.mo ∧ s.mo ≤ 5 ∧ 0 ≤ s.iso ∧ s.iso ≤ 15) ∧ (-737280 ≤ s.la ∧ s.la ≤ 737280 ∧ -1474560 ≤ s.lo ∧ s.lo ≤ 1474560) ∧ (s.ho = true ∨ (s.la = 0 ∧ s.lo = 0)) := by
  unfold legal
  simp only [Bool.and_eq_true, Bool.or_eq_true, decide_eq_true_eq, and_assoc]
theorem legal0 : legal st0 = true := by decide
theorem sg24_m24 {n : Int} (h1 : -8388608 ≤ n) (h2 : n < 8388608) : sg24 (m24 n) = n := by
  unfold sg24 m24
  split <;> omega
theorem m24_sg24 {m : Nat} (h : m < 16777216) : m24 (sg24 m) = m := by
  unfold sg24 m24
  split <;> omega
theorem m24_lt (n : Int) : m24 n < 16777216 := by unfold m24; omega
theorem firstN_lt {s : St} (h : legal s = true) : firstN s < 32 := by
  obtain ⟨⟨h1, h2, _⟩, _⟩ := (legal_iff s).1 h
  unfold firstN
  split <;> split <;> omega
theorem pack_lt (s : St) : pack s < 2305843009213693952 := by
  unfold pack
  split
  · rename_i h
    have h1 := firstN_lt h
    have h2 := m24_lt s.la; have h3 := m24_lt s.lo
    obtain ⟨⟨_, _, h4, h5⟩, _⟩ := (legal_iff s).1 h
    have : s.iso.toNat ≤ 15 := by omega
    omega
  · decide
theorem pack_lt64 (s : St) : pack s < 18446744073709551616 := Nat.lt_trans (pack_lt s) (by decide)
theorem unS_pack {s : St} (h : legal s = true) : unS (pack s) = s := by
  have h1 := firstN_lt h
  have h2 := m24_lt s.la; have h3 := m24_lt s.lo
  obtain ⟨⟨m0, m1, h4, h5⟩, ⟨l1, l2, l3, l4⟩, _⟩ := (legal_iff s).1 h
  have e1 := sg24_m24 (n := s.la) (by omega) (by omega)
  have e2 := sg24_m24 (n := s.lo) (by omega) (by omega)
  have h6 : s.iso.toNat < 256 := by omega
  have hp : pack s = firstN s * 72057594037927936 + s.iso.toNat * 281474976710656 + m24 s.la * 16777216 + m24 s.lo := by unfold pack; rw [if_pos h]
  rw [hp]
  have hf : firstN s = s.mo.toNat + (if s.ar then 8 else 0) + (if s.ho then 16 else 0) := rfl
  obtain ⟨mo, ar, ho, la, lo, iso⟩ := s
  dsimp only at *
  generalize m24 la = A at *
  generalize m24 lo = B at *
  generalize hI : iso.toNat = I at *
  generalize hM : mo.toNat = M at *
  clear hp h
  generalize firstN _ = F at *
  unfold unS
  have d1 : (F * 72057594037927936 + I * 281474976710656 + A * 16777216 + B) / 72057594037927936 = F := by omega
  have d2 : (F * 72057594037927936 + I * 281474976710656 + A * 16777216 + B) / 576460752303423488 = F / 8 := by omega
  have d3 : (F * 72057594037927936 + I * 281474976710656 + A * 16777216 + B) / 1152921504606846976 = F / 16 := by omega
  have d4 : (F * 72057594037927936 + I * 281474976710656 + A * 16777216 + B) / 16777216 % 16777216 = A := by omega
  have d5 : (F * 72057594037927936 + I * 281474976710656 + A * 16777216 + B) % 16777216 = B := by omega
  have d6 : (F * 72057594037927936 + I * 281474976710656 + A * 16777216 + B) / 281474976710656 % 256 = I := by omega
  rw [d1, d2, d3, d4, d5, d6, e1, e2]
  have f1 : ((F % 8 : Nat) : Int) = mo := by rw [hf]; cases ar <;> cases ho <;> simp <;> omega
  have f2 : (F / 8 % 2 == 1) = ar := by rw [hf]; cases ar <;> cases ho <;> simp <;> omega
  have f3 : (F / 16 % 2 == 1) = ho := by rw [hf]; cases ar <;> cases ho <;> simp <;> omega
  have f4 : ((I : Nat) : Int) = iso := by omega
  rw [f1, f2, f3, f4]
theorem unOk_pack {s : St} (h : legal s = true) : unOk (pack s) = true := by
  unfold unOk
  rw [unS_pack h, h, decide_eq_true (pack_lt s), Bool.true_and]
theorem unP_pack {s : St} (h : legal s = true) : unP (pack s) = s := by unfold unP; rw [if_pos (unOk_pack h), unS_pack h]
theorem unP_legal (n : Nat) : legal (unP n) = true := by
  unfold unP
  split
  · rename_i h
    unfold unOk at h
    exact (Bool.and_eq_true_iff.1 h).1
  · exact legal0
theorem pack_unS {n : Nat} (h : unOk n = true) : pack (unS n) = n := by
  unfold unOk at h
  obtain ⟨h1, h2⟩ := Bool.and_eq_true_iff.1 h
  have h2 := of_decide_eq_true h2
  unfold pack
  rw [if_pos h1]
  unfold firstN unS
  dsimp only
  rw [m24_sg24 (Nat.mod_lt _ (by decide)), m24_sg24 (Nat.mod_lt _ (by decide))]
  rw [Int.toNat_natCast, Int.toNat_natCast]
  have e1 : n / 576460752303423488 = n / 72057594037927936 / 8 := by omega
  have e2 : n / 1152921504606846976 = n / 72057594037927936 / 16 := by omega
  have e3 : n / 72057594037927936 < 32 := by omega
  have e4 : n = n / 72057594037927936 * 72057594037927936 + n / 281474976710656 % 256 * 281474976710656 + n / 16777216 % 16777216 * 16777216 + n % 16777216 := by omega
  have e5 : n / 72057594037927936 % 8 + (if (n / 576460752303423488 % 2 == 1) = true then 8 else 0) + (if (n / 1152921504606846976 % 2 == 1) = true then 16 else 0) = n / 72057594037927936 := by
    rw [e1, e2]
    generalize n / 72057594037927936 = F at *
    clear e4
    by_cases a : F / 8 % 2 = 1 <;> by_cases b : F / 16 % 2 = 1 <;> simp [a, b] <;> omega
  rw [e5]
  exact e4.symm
def soundN (iso : Int) : Int := (if iso % 2 = 0 then 1 else 0) + (if iso / 2 % 2 = 0 then 1 else 0) + (if iso / 4 % 2 = 0 then 1 else 0) + (if iso / 8 % 2 = 0 then 1 else 0)
def wayB (a b : Int) : Bool :=
  decide (0 ≤ a ∧ a ≤ 5) && decide (0 ≤ b ∧ b ≤ 5) && (decide (a = b) || (decide (a = 0) && decide (b = 1)) || decide (a = 1) || ((decide (a = 2) || decide (a = 3)) && !decide (b = 0)) || (decide (a = 4) && (decide (b = 1) || decide (b = 2) || decide (b = 5))) || (decide (a = 5) && (decide (b = 1) || decide (b = 0))))
def needsI (m : Int) : Int := if m = 1 ∨ m = 5 then 1 else if m = 2 ∨ m = 4 then 2 else if m = 3 then 3 else 0
def homeB (m : Int) : Bool := decide (m = 3) || decide (m = 4)
def flyB (m : Int) : Bool := decide (0 ≤ m ∧ m ≤ 5) && !decide (m = 0)
def safeI (s : St) : Int :=
  if flyB s.mo && (s.ho || !homeB s.mo) && decide (needsI s.mo ≤ soundN s.iso) then s.mo else if 2 ≤ soundN s.iso then 2 else 5
def resolveS (s : St) (v : Int) : St := if v = 2 then { s with mo := safeI s, ar := true } else if v = 1 then { s with mo := 0, ar := false } else s
theorem safe_range (s : St) (h : legal s = true) : 0 ≤ safeI s ∧ safeI s ≤ 5 := by
  obtain ⟨⟨h1, h2, _⟩, _⟩ := (legal_iff s).1 h
  unfold safeI
  split
  · exact ⟨h1, h2⟩
  · split <;> decide
theorem resolve_legal {s : St} (h : legal s = true) (v : Int) : legal (resolveS s v) = true := by
  have hs := safe_range s h
  obtain ⟨⟨h1, h2, h3, h4⟩, h5, h6⟩ := (legal_iff s).1 h
  unfold resolveS
  split
  · exact (legal_iff _).2 ⟨⟨hs.1, hs.2, h3, h4⟩, h5, h6⟩
  · split
    · exact (legal_iff _).2 ⟨⟨by show (0 : Int) ≤ 0; decide, by show (0 : Int) ≤ 5; decide, h3, h4⟩, h5, h6⟩
    · exact h
end Dw
abbrev stC (s : Dw.St) : Array Value := #[.int .i64 s.mo, .bool s.ar, .bool s.ho, .int .i64 s.la, .int .i64 s.lo, .int .i64 s.iso]
abbrev stV (s : Dw.St) : Value := .agg #[.int .i64 s.mo, .bool s.ar, .bool s.ho, .int .i64 s.la, .int .i64 s.lo, .int .i64 s.iso]
end Go.Proofs.YtjibbchfndhhpaaGreatDoor
namespace Go.Proofs.YtjibbchfndhhpaaGreatDoor
open Go.RowKit Go.Shelf
attribute [local go_sem] Oper.semAt_some
def rowC (m : Int) : Array Value := #[.bool (Dw.wayB m 0), .bool (Dw.wayB m 1), .bool (Dw.wayB m 2), .bool (Dw.wayB m 3), .bool (Dw.wayB m 4), .bool (Dw.wayB m 5), .int .i64 (Dw.needsI m), .bool (Dw.homeB m)]
theorem row_none (m : Int) (h : ¬ (0 ≤ m ∧ m < 6)) : rowC m = #[.bool false, .bool false, .bool false, .bool false, .bool false, .bool false, .int .i64 0, .bool false] := by
  have h1 : ∀ b, Dw.wayB m b = false := fun b => by
    unfold Dw.wayB
    rw [show decide (0 ≤ m ∧ m ≤ 5) = false from decide_eq_false (by omega)]
    rfl
  have h2 : Dw.needsI m = 0 := by unfold Dw.needsI; rw [if_neg (by omega), if_neg (by omega), if_neg (by omega)]
  have h3 : Dw.homeB m = false := by
    unfold Dw.homeB
    rw [decide_eq_false (show ¬ m = 3 from by omega), decide_eq_false (show ¬ m = 4 from by omega)]; rfl
  unfold rowC
  simp only [h1, h2, h3]
theorem six {m : Int} (h : 0 ≤ m ∧ m < 6) : m = 0 ∨ m = 1 ∨ m = 2 ∨ m = 3 ∨ m = 4 ∨ m = 5 := by omega
theorem mtab_any (w : World) :
    Calls Tryz.prog 182 #[] w fun e w' => e = .returned (.agg #[.bool true, .bool true, .bool false, .bool false, .bool false, .bool false, .int .i64 0, .bool false, .bool true, .bool true, .bool true, .bool true, .bool true, .bool true, .int .i64 1, .bool false, .bool false, .bool true, .bool true, .bool true, .bool true, .bool true, .int .i64 2, .bool false, .bool false, .bool true, .bool true, .bool true, .bool true, .bool true, .int .i64 3, .bool true, .bool false, .bool true, .bool true, .bool false, .bool true, .bool true, .int .i64 2, .bool true, .bool true, .bool true, .bool false, .bool false, .bool false, .bool true, .int .i64 1, .bool false]) ∧ Below w.heap.size w w' := by
  have hB0 := (Below.refl w.heap.size w).alloc (Nat.le_refl _) (.cells #[.bool false, .bool false, .bool false, .bool false, .bool false, .bool false, .int .i64 0, .bool false, .bool false, .bool false, .bool false, .bool false, .bool false, .bool false, .int .i64 0, .bool false, .bool false, .bool false, .bool false, .bool false, .bool false, .bool false, .int .i64 0, .bool false, .bool false, .bool false, .bool false, .bool false, .bool false, .bool false, .int .i64 0, .bool false, .bool false, .bool false, .bool false, .bool false, .bool false, .bool false, .int .i64 0, .bool false, .bool false, .bool false, .bool false, .bool false, .bool false, .bool false, .int .i64 0, .bool false] 270)
  have hC0 := han w (.cells #[.bool false, .bool false, .bool false, .bool false, .bool false, .bool false, .int .i64 0, .bool false, .bool false, .bool false, .bool false, .bool false, .bool false, .bool false, .int .i64 0, .bool false, .bool false, .bool false, .bool false, .bool false, .bool false, .bool false, .int .i64 0, .bool false, .bool false, .bool false, .bool false, .bool false, .bool false, .bool false, .int .i64 0, .bool false, .bool false, .bool false, .bool false, .bool false, .bool false, .bool false, .int .i64 0, .bool false, .bool false, .bool false, .bool false, .bool false, .bool false, .bool false, .int .i64 0, .bool false] 270)
  go_enter Tryz.func182, Tryz.ntmps182
  go_wp2_with (first | (refine lb hC0 rfl rfl rfl (by kernel_rfl) ?_) | (refine sb hC0 rfl rfl rfl rfl (by kernel_rfl) ?_))
  refine bodyPost_ret (rcr rfl (srh hC0) (by rfl) (by kernel_rfl)) rfl ⟨rfl, below_setRow hB0 (Nat.le_refl _) _⟩
theorem mof_any (m : Int) (w : World) :
    Calls Tryz.prog 155 #[.int .i64 m] w fun e w' => e = .returned (.agg (rowC m)) ∧ Below w.heap.size w w' := by
  have hB0 := (Below.refl w.heap.size w).alloc (Nat.le_refl _) (.cells #[.bool false, .bool false, .bool false, .bool false, .bool false, .bool false, .int .i64 0, .bool false] 231)
  have hC0 := han w (.cells #[.bool false, .bool false, .bool false, .bool false, .bool false, .bool false, .int .i64 0, .bool false] 231)
  by_cases h : 0 ≤ m ∧ m < 6
  · rcases six h with rfl | rfl | rfl | rfl | rfl | rfl
    · have hi : ∀ w, (Instr.index 270 (.agg #[.bool true, .bool true, .bool false, .bool false, .bool false, .bool false, .int .i64 0, .bool false, .bool true, .bool true, .bool true, .bool true, .bool true, .bool true, .int .i64 1, .bool false, .bool false, .bool true, .bool true, .bool true, .bool true, .bool true, .int .i64 2, .bool false, .bool false, .bool true, .bool true, .bool true, .bool true, .bool true, .int .i64 3, .bool true, .bool false, .bool true, .bool true, .bool false, .bool true, .bool true, .int .i64 2, .bool true, .bool true, .bool true, .bool false, .bool false, .bool false, .bool true, .int .i64 1, .bool false]) (.int .i64 0)).run Tryz.prog w = .ok (.agg #[.bool (Dw.wayB 0 0), .bool (Dw.wayB 0 1), .bool (Dw.wayB 0 2), .bool (Dw.wayB 0 3), .bool (Dw.wayB 0 4), .bool (Dw.wayB 0 5), .int .i64 (Dw.needsI 0), .bool (Dw.homeB 0)]) w := fun w => by kernel_rfl
      go_enter Tryz.func155, Tryz.ntmps155
      go_wp2_with fail
      refine cb (mtab_any _) fun w1 hb => ?_
      have hC1 := kp hb hC0
      have hB1 := tr hB0 hb
      clear hC0 hB0 hb
      go_wp2_with (first | ((refine sb hC1 rfl rfl rfl rfl (by kernel_rfl) ?_); have hC2 := setRow_heap w1 _ _ #[.bool (Dw.wayB 0 0), .bool (Dw.wayB 0 1), .bool (Dw.wayB 0 2), .bool (Dw.wayB 0 3), .bool (Dw.wayB 0 4), .bool (Dw.wayB 0 5), .int .i64 (Dw.needsI 0), .bool (Dw.homeB 0)] _ _ hC1; have hB2 := below_setRow hB1 (Nat.le_refl _) #[.bool (Dw.wayB 0 0), .bool (Dw.wayB 0 1), .bool (Dw.wayB 0 2), .bool (Dw.wayB 0 3), .bool (Dw.wayB 0 4), .bool (Dw.wayB 0 5), .int .i64 (Dw.needsI 0), .bool (Dw.homeB 0)]; generalize World.setRow w1 _ _ = W2 at *; clear hC1 hB1) | (refine lb hC2 rfl rfl rfl (by kernel_rfl) ?_) | (refine sb hC2 rfl rfl rfl rfl (by kernel_rfl) ?_))
      refine bodyPost_ret (rcr rfl (srh hC2) (by rfl) (by kernel_rfl)) rfl ⟨rfl, below_setRow hB2 (Nat.le_refl _) _⟩
    · have hi : ∀ w, (Instr.index 270 (.agg #[.bool true, .bool true, .bool false, .bool false, .bool false, .bool false, .int .i64 0, .bool false, .bool true, .bool true, .bool true, .bool true, .bool true, .bool true, .int .i64 1, .bool false, .bool false, .bool true, .bool true, .bool true, .bool true, .bool true, .int .i64 2, .bool false, .bool false, .bool true, .bool true, .bool true, .bool true, .bool true, .int .i64 3, .bool true, .bool false, .bool true, .bool true, .bool false, .bool true, .bool true, .int .i64 2, .bool true, .bool true, .bool true, .bool false, .bool false, .bool false, .bool true, .int .i64 1, .bool false]) (.int .i64 1)).run Tryz.prog w = .ok (.agg #[.bool (Dw.wayB 1 0), .bool (Dw.wayB 1 1), .bool (Dw.wayB 1 2), .bool (Dw.wayB 1 3), .bool (Dw.wayB 1 4), .bool (Dw.wayB 1 5), .int .i64 (Dw.needsI 1), .bool (Dw.homeB 1)]) w := fun w => by kernel_rfl
      go_enter Tryz.func155, Tryz.ntmps155
      go_wp2_with fail
      refine cb (mtab_any _) fun w1 hb => ?_
      have hC1 := kp hb hC0
      have hB1 := tr hB0 hb
      clear hC0 hB0 hb
      go_wp2_with (first | ((refine sb hC1 rfl rfl rfl rfl (by kernel_rfl) ?_); have hC2 := setRow_heap w1 _ _ #[.bool (Dw.wayB 1 0), .bool (Dw.wayB 1 1), .bool (Dw.wayB 1 2), .bool (Dw.wayB 1 3), .bool (Dw.wayB 1 4), .bool (Dw.wayB 1 5), .int .i64 (Dw.needsI 1), .bool (Dw.homeB 1)] _ _ hC1; have hB2 := below_setRow hB1 (Nat.le_refl _) #[.bool (Dw.wayB 1 0), .bool (Dw.wayB 1 1), .bool (Dw.wayB 1 2), .bool (Dw.wayB 1 3), .bool (Dw.wayB 1 4), .bool (Dw.wayB 1 5), .int .i64 (Dw.needsI 1), .bool (Dw.homeB 1)]; generalize World.setRow w1 _ _ = W2 at *; clear hC1 hB1) | (refine lb hC2 rfl rfl rfl (by kernel_rfl) ?_) | (refine sb hC2 rfl rfl rfl rfl (by kernel_rfl) ?_))
      refine bodyPost_ret (rcr rfl (srh hC2) (by rfl) (by kernel_rfl)) rfl ⟨rfl, below_setRow hB2 (Nat.le_refl _) _⟩
    · have hi : ∀ w, (Instr.index 270 (.agg #[.bool true, .bool true, .bool false, .bool false, .bool false, .bool false, .int .i64 0, .bool false, .bool true, .bool true, .bool true, .bool true, .bool true, .bool true, .int .i64 1, .bool false, .bool false, .bool true, .bool true, .bool true, .bool true, .bool true, .int .i64 2, .bool false, .bool false, .bool true, .bool true, .bool true, .bool true, .bool true, .int .i64 3, .bool true, .bool false, .bool true, .bool true, .bool false, .bool true, .bool true, .int .i64 2, .bool true, .bool true, .bool true, .bool false, .bool false, .bool false, .bool true, .int .i64 1, .bool false]) (.int .i64 2)).run Tryz.prog w = .ok (.agg #[.bool (Dw.wayB 2 0), .bool (Dw.wayB 2 1), .bool (Dw.wayB 2 2), .bool (Dw.wayB 2 3), .bool (Dw.wayB 2 4), .bool (Dw.wayB 2 5), .int .i64 (Dw.needsI 2), .bool (Dw.homeB 2)]) w := fun w => by kernel_rfl
      go_enter Tryz.func155, Tryz.ntmps155
      go_wp2_with fail
      refine cb (mtab_any _) fun w1 hb => ?_
      have hC1 := kp hb hC0
      have hB1 := tr hB0 hb
      clear hC0 hB0 hb
      go_wp2_with (first | ((refine sb hC1 rfl rfl rfl rfl (by kernel_rfl) ?_); have hC2 := setRow_heap w1 _ _ #[.bool (Dw.wayB 2 0), .bool (Dw.wayB 2 1), .bool (Dw.wayB 2 2), .bool (Dw.wayB 2 3), .bool (Dw.wayB 2 4), .bool (Dw.wayB 2 5), .int .i64 (Dw.needsI 2), .bool (Dw.homeB 2)] _ _ hC1; have hB2 := below_setRow hB1 (Nat.le_refl _) #[.bool (Dw.wayB 2 0), .bool (Dw.wayB 2 1), .bool (Dw.wayB 2 2), .bool (Dw.wayB 2 3), .bool (Dw.wayB 2 4), .bool (Dw.wayB 2 5), .int .i64 (Dw.needsI 2), .bool (Dw.homeB 2)]; generalize World.setRow w1 _ _ = W2 at *; clear hC1 hB1) | (refine lb hC2 rfl rfl rfl (by kernel_rfl) ?_) | (refine sb hC2 rfl rfl rfl rfl (by kernel_rfl) ?_))
      refine bodyPost_ret (rcr rfl (srh hC2) (by rfl) (by kernel_rfl)) rfl ⟨rfl, below_setRow hB2 (Nat.le_refl _) _⟩
    · have hi : ∀ w, (Instr.index 270 (.agg #[.bool true, .bool true, .bool false, .bool false, .bool false, .bool false, .int .i64 0, .bool false, .bool true, .bool true, .bool true, .bool true, .bool true, .bool true, .int .i64 1, .bool false, .bool false, .bool true, .bool true, .bool true, .bool true, .bool true, .int .i64 2, .bool false, .bool false, .bool true, .bool true, .bool true, .bool true, .bool true, .int .i64 3, .bool true, .bool false, .bool true, .bool true, .bool false, .bool true, .bool true, .int .i64 2, .bool true, .bool true, .bool true, .bool false, .bool false, .bool false, .bool true, .int .i64 1, .bool false]) (.int .i64 3)).run Tryz.prog w = .ok (.agg #[.bool (Dw.wayB 3 0), .bool (Dw.wayB 3 1), .bool (Dw.wayB 3 2), .bool (Dw.wayB 3 3), .bool (Dw.wayB 3 4), .bool (Dw.wayB 3 5), .int .i64 (Dw.needsI 3), .bool (Dw.homeB 3)]) w := fun w => by kernel_rfl
      go_enter Tryz.func155, Tryz.ntmps155
      go_wp2_with fail
      refine cb (mtab_any _) fun w1 hb => ?_
      have hC1 := kp hb hC0
      have hB1 := tr hB0 hb
      clear hC0 hB0 hb
      go_wp2_with (first | ((refine sb hC1 rfl rfl rfl rfl (by kernel_rfl) ?_); have hC2 := setRow_heap w1 _ _ #[.bool (Dw.wayB 3 0), .bool (Dw.wayB 3 1), .bool (Dw.wayB 3 2), .bool (Dw.wayB 3 3), .bool (Dw.wayB 3 4), .bool (Dw.wayB 3 5), .int .i64 (Dw.needsI 3), .bool (Dw.homeB 3)] _ _ hC1; have hB2 := below_setRow hB1 (Nat.le_refl _) #[.bool (Dw.wayB 3 0), .bool (Dw.wayB 3 1), .bool (Dw.wayB 3 2), .bool (Dw.wayB 3 3), .bool (Dw.wayB 3 4), .bool (Dw.wayB 3 5), .int .i64 (Dw.needsI 3), .bool (Dw.homeB 3)]; generalize World.setRow w1 _ _ = W2 at *; clear hC1 hB1) | (refine lb hC2 rfl rfl rfl (by kernel_rfl) ?_) | (refine sb hC2 rfl rfl rfl rfl (by kernel_rfl) ?_))
      refine bodyPost_ret (rcr rfl (srh hC2) (by rfl) (by kernel_rfl)) rfl ⟨rfl, below_setRow hB2 (Nat.le_refl _) _⟩
    · have hi : ∀ w, (Instr.index 270 (.agg #[.bool true, .bool true, .bool false, .bool false, .bool false, .bool false, .int .i64 0, .bool false, .bool true, .bool true, .bool true, .bool true, .bool true, .bool true, .int .i64 1, .bool false, .bool false, .bool true, .bool true, .bool true, .bool true, .bool true, .int .i64 2, .bool false, .bool false, .bool true, .bool true, .bool true, .bool true, .bool true, .int .i64 3, .bool true, .bool false, .bool true, .bool true, .bool false, .bool true, .bool true, .int .i64 2, .bool true, .bool true, .bool true, .bool false, .bool false, .bool false, .bool true, .int .i64 1, .bool false]) (.int .i64 4)).run Tryz.prog w = .ok (.agg #[.bool (Dw.wayB 4 0), .bool (Dw.wayB 4 1), .bool (Dw.wayB 4 2), .bool (Dw.wayB 4 3), .bool (Dw.wayB 4 4), .bool (Dw.wayB 4 5), .int .i64 (Dw.needsI 4), .bool (Dw.homeB 4)]) w := fun w => by kernel_rfl
      go_enter Tryz.func155, Tryz.ntmps155
      go_wp2_with fail
      refine cb (mtab_any _) fun w1 hb => ?_
      have hC1 := kp hb hC0
      have hB1 := tr hB0 hb
      clear hC0 hB0 hb
      go_wp2_with (first | ((refine sb hC1 rfl rfl rfl rfl (by kernel_rfl) ?_); have hC2 := setRow_heap w1 _ _ #[.bool (Dw.wayB 4 0), .bool (Dw.wayB 4 1), .bool (Dw.wayB 4 2), .bool (Dw.wayB 4 3), .bool (Dw.wayB 4 4), .bool (Dw.wayB 4 5), .int .i64 (Dw.needsI 4), .bool (Dw.homeB 4)] _ _ hC1; have hB2 := below_setRow hB1 (Nat.le_refl _) #[.bool (Dw.wayB 4 0), .bool (Dw.wayB 4 1), .bool (Dw.wayB 4 2), .bool (Dw.wayB 4 3), .bool (Dw.wayB 4 4), .bool (Dw.wayB 4 5), .int .i64 (Dw.needsI 4), .bool (Dw.homeB 4)]; generalize World.setRow w1 _ _ = W2 at *; clear hC1 hB1) | (refine lb hC2 rfl rfl rfl (by kernel_rfl) ?_) | (refine sb hC2 rfl rfl rfl rfl (by kernel_rfl) ?_))
      refine bodyPost_ret (rcr rfl (srh hC2) (by rfl) (by kernel_rfl)) rfl ⟨rfl, below_setRow hB2 (Nat.le_refl _) _⟩
    · have hi : ∀ w, (Instr.index 270 (.agg #[.bool true, .bool true, .bool false, .bool false, .bool false, .bool false, .int .i64 0, .bool false, .bool true, .bool true, .bool true, .bool true, .bool true, .bool true, .int .i64 1, .bool false, .bool false, .bool true, .bool true, .bool true, .bool true, .bool true, .int .i64 2, .bool false, .bool false, .bool true, .bool true, .bool true, .bool true, .bool true, .int .i64 3, .bool true, .bool false, .bool true, .bool true, .bool false, .bool true, .bool true, .int .i64 2, .bool true, .bool true, .bool true, .bool false, .bool false, .bool false, .bool true, .int .i64 1, .bool false]) (.int .i64 5)).run Tryz.prog w = .ok (.agg #[.bool (Dw.wayB 5 0), .bool (Dw.wayB 5 1), .bool (Dw.wayB 5 2), .bool (Dw.wayB 5 3), .bool (Dw.wayB 5 4), .bool (Dw.wayB 5 5), .int .i64 (Dw.needsI 5), .bool (Dw.homeB 5)]) w := fun w => by kernel_rfl
      go_enter Tryz.func155, Tryz.ntmps155
      go_wp2_with fail
      refine cb (mtab_any _) fun w1 hb => ?_
      have hC1 := kp hb hC0
      have hB1 := tr hB0 hb
      clear hC0 hB0 hb
      go_wp2_with (first | ((refine sb hC1 rfl rfl rfl rfl (by kernel_rfl) ?_); have hC2 := setRow_heap w1 _ _ #[.bool (Dw.wayB 5 0), .bool (Dw.wayB 5 1), .bool (Dw.wayB 5 2), .bool (Dw.wayB 5 3), .bool (Dw.wayB 5 4), .bool (Dw.wayB 5 5), .int .i64 (Dw.needsI 5), .bool (Dw.homeB 5)] _ _ hC1; have hB2 := below_setRow hB1 (Nat.le_refl _) #[.bool (Dw.wayB 5 0), .bool (Dw.wayB 5 1), .bool (Dw.wayB 5 2), .bool (Dw.wayB 5 3), .bool (Dw.wayB 5 4), .bool (Dw.wayB 5 5), .int .i64 (Dw.needsI 5), .bool (Dw.homeB 5)]; generalize World.setRow w1 _ _ = W2 at *; clear hC1 hB1) | (refine lb hC2 rfl rfl rfl (by kernel_rfl) ?_) | (refine sb hC2 rfl rfl rfl rfl (by kernel_rfl) ?_))
      refine bodyPost_ret (rcr rfl (srh hC2) (by rfl) (by kernel_rfl)) rfl ⟨rfl, below_setRow hB2 (Nat.le_refl _) _⟩
  · rw [row_none m h]
    go_enter Tryz.func155, Tryz.ntmps155
    go_wp2_with (first | (refine lb hC0 rfl rfl rfl (by kernel_rfl) ?_) | (refine sb hC0 rfl rfl rfl rfl (by kernel_rfl) ?_))
    all_goals first | omega | skip
    all_goals refine bodyPost_ret (rcr rfl (srh hC0) (by rfl) (by kernel_rfl)) rfl ⟨rfl, below_setRow hB0 (Nat.le_refl _) _⟩
theorem needs_any (m : Int) (w : World) :
    Calls Tryz.prog 125 #[.int .i64 m] w fun e w' => e = .returned (.int .i64 (Dw.needsI m)) ∧ Below w.heap.size w w' := by
  have hf : ∀ w, (Instr.field 231 (.agg (rowC m)) 1).run Tryz.prog w = .ok (.int .i64 (Dw.needsI m)) w := fun w => by kernel_rfl
  go_enter Tryz.func125, Tryz.ntmps125
  go_wp2_with fail
  refine cb (mof_any _ _) fun w1 hb => ?_
  go_wp2_with fail
  go_ret
  exact ⟨rfl, hb⟩
theorem home_any (m : Int) (w : World) :
    Calls Tryz.prog 123 #[.int .i64 m] w fun e w' => e = .returned (.bool (Dw.homeB m)) ∧ Below w.heap.size w w' := by
  have hf : ∀ w, (Instr.field 231 (.agg (rowC m)) 2).run Tryz.prog w = .ok (.bool (Dw.homeB m)) w := fun w => by kernel_rfl
  go_enter Tryz.func123, Tryz.ntmps123
  go_wp2_with fail
  refine cb (mof_any _ _) fun w1 hb => ?_
  go_wp2_with fail
  go_ret
  exact ⟨rfl, hb⟩
theorem fly_needs (m : Int) : decide (0 < Dw.needsI m) = Dw.flyB m := by
  unfold Dw.needsI Dw.flyB
  by_cases h : 0 ≤ m ∧ m < 6
  · rcases six h with rfl | rfl | rfl | rfl | rfl | rfl <;> decide
  · rw [if_neg (by omega), if_neg (by omega), if_neg (by omega), show decide (0 ≤ m ∧ m ≤ 5) = false from decide_eq_false (by omega)]; rfl
theorem fly_any (m : Int) (w : World) :
    Calls Tryz.prog 172 #[.int .i64 m] w fun e w' => e = .returned (.bool (Dw.flyB m)) ∧ Below w.heap.size w w' := by
  have hf : ∀ w, (Instr.field 231 (.agg (rowC m)) 1).run Tryz.prog w = .ok (.int .i64 (Dw.needsI m)) w := fun w => by kernel_rfl
  have HF := Lib.hid (fly_needs m)
  go_enter Tryz.func172, Tryz.ntmps172
  go_wp2_with fail
  refine cb (mof_any _ _) fun w1 hb => ?_
  go_wp2_with fail
  go_ret
  exact ⟨ret_bool HF.out, hb⟩
theorem way_any (a b : Int) (w : World) :
    Calls Tryz.prog 122 #[.int .i64 a, .int .i64 b] w fun e w' => e = .returned (.bool (Dw.wayB a b)) ∧ Below w.heap.size w w' := by
  have hf : ∀ w, (Instr.field 231 (.agg (rowC a)) 0).run Tryz.prog w = .ok (.agg #[.bool (Dw.wayB a 0), .bool (Dw.wayB a 1), .bool (Dw.wayB a 2), .bool (Dw.wayB a 3), .bool (Dw.wayB a 4), .bool (Dw.wayB a 5)]) w := fun w => by kernel_rfl
  by_cases h : 0 ≤ b ∧ b < 6
  · rcases six h with rfl | rfl | rfl | rfl | rfl | rfl
    · have hi : ∀ w, (Instr.index 229 (.agg #[.bool (Dw.wayB a 0), .bool (Dw.wayB a 1), .bool (Dw.wayB a 2), .bool (Dw.wayB a 3), .bool (Dw.wayB a 4), .bool (Dw.wayB a 5)]) (.int .i64 0)).run Tryz.prog w = .ok (.bool (Dw.wayB a 0)) w := fun w => by kernel_rfl
      go_enter Tryz.func122, Tryz.ntmps122
      go_wp2_with fail
      refine cb (mof_any _ _) fun w1 hb => ?_
      go_wp2_with fail
      go_ret
      exact ⟨rfl, hb⟩
    · have hi : ∀ w, (Instr.index 229 (.agg #[.bool (Dw.wayB a 0), .bool (Dw.wayB a 1), .bool (Dw.wayB a 2), .bool (Dw.wayB a 3), .bool (Dw.wayB a 4), .bool (Dw.wayB a 5)]) (.int .i64 1)).run Tryz.prog w = .ok (.bool (Dw.wayB a 1)) w := fun w => by kernel_rfl
      go_enter Tryz.func122, Tryz.ntmps122
      go_wp2_with fail
      refine cb (mof_any _ _) fun w1 hb => ?_
      go_wp2_with fail
      go_ret
      exact ⟨rfl, hb⟩
    · have hi : ∀ w, (Instr.index 229 (.agg #[.bool (Dw.wayB a 0), .bool (Dw.wayB a 1), .bool (Dw.wayB a 2), .bool (Dw.wayB a 3), .bool (Dw.wayB a 4), .bool (Dw.wayB a 5)]) (.int .i64 2)).run Tryz.prog w = .ok (.bool (Dw.wayB a 2)) w := fun w => by kernel_rfl
      go_enter Tryz.func122, Tryz.ntmps122
      go_wp2_with fail
      refine cb (mof_any _ _) fun w1 hb => ?_
      go_wp2_with fail
      go_ret
      exact ⟨rfl, hb⟩
    · have hi : ∀ w, (Instr.index 229 (.agg #[.bool (Dw.wayB a 0), .bool (Dw.wayB a 1), .bool (Dw.wayB a 2), .bool (Dw.wayB a 3), .bool (Dw.wayB a 4), .bool (Dw.wayB a 5)]) (.int .i64 3)).run Tryz.prog w = .ok (.bool (Dw.wayB a 3)) w := fun w => by kernel_rfl
      go_enter Tryz.func122, Tryz.ntmps122
      go_wp2_with fail
      refine cb (mof_any _ _) fun w1 hb => ?_
      go_wp2_with fail
      go_ret
      exact ⟨rfl, hb⟩
    · have hi : ∀ w, (Instr.index 229 (.agg #[.bool (Dw.wayB a 0), .bool (Dw.wayB a 1), .bool (Dw.wayB a 2), .bool (Dw.wayB a 3), .bool (Dw.wayB a 4), .bool (Dw.wayB a 5)]) (.int .i64 4)).run Tryz.prog w = .ok (.bool (Dw.wayB a 4)) w := fun w => by kernel_rfl
      go_enter Tryz.func122, Tryz.ntmps122
      go_wp2_with fail
      refine cb (mof_any _ _) fun w1 hb => ?_
      go_wp2_with fail
      go_ret
      exact ⟨rfl, hb⟩
    · have hi : ∀ w, (Instr.index 229 (.agg #[.bool (Dw.wayB a 0), .bool (Dw.wayB a 1), .bool (Dw.wayB a 2), .bool (Dw.wayB a 3), .bool (Dw.wayB a 4), .bool (Dw.wayB a 5)]) (.int .i64 5)).run Tryz.prog w = .ok (.bool (Dw.wayB a 5)) w := fun w => by kernel_rfl
      go_enter Tryz.func122, Tryz.ntmps122
      go_wp2_with fail
      refine cb (mof_any _ _) fun w1 hb => ?_
      go_wp2_with fail
      go_ret
      exact ⟨rfl, hb⟩
  · have hw : Dw.wayB a b = false := by
      unfold Dw.wayB
      rw [show decide (0 ≤ b ∧ b ≤ 5) = false from decide_eq_false (by omega), Bool.and_false, Bool.false_and]
    have HW := Lib.hid hw
    clear hw
    go_enter Tryz.func122, Tryz.ntmps122
    go_wp2_with fail
    all_goals first | omega | skip
    all_goals
      go_ret
      exact ⟨by rw [HW.out]; rfl, Below.refl _ _⟩
end Go.Proofs.YtjibbchfndhhpaaGreatDoor
