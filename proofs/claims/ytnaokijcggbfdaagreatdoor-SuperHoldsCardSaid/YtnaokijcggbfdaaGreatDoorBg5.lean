/- What the statement's proof stands on, part 5: Put. -/
import Derived.Test.YtnaokijcggbfdaaGreatDoorBg4
import Derived.Laws.IdiomStrings
set_option linter.unusedSimpArgs false
set_option linter.unusedVariables false
set_option maxRecDepth 100000
set_option maxHeartbeats 4000000
namespace Go.Proofs.YtnaokijcggbfdaaGreatDoor
open Go.RowKit Go.Shelf
attribute [local go_sem] Oper.semAt_some
namespace Dw
def put (w n : Nat) : List UInt8 := (List.range w).map fun i => UInt8.ofNat (n / 256 ^ (w - 1 - i) % 256)
theorem put_length (w n : Nat) : (put w n).length = w := by simp [put]
theorem put_at (w n i : Nat) (h : i < (put w n).length) : ((put w n)[i]).toNat = n / 256 ^ (w - 1 - i) % 256 := by
  simp [put]
end Dw
theorem addr_add (b j : Nat) : (⟨b, 0, none⟩ : Addr).add j = ⟨b, j, none⟩ := by unfold Addr.add; split <;> simp_all
theorem infoB : (Tryz.prog.info? 5).map (fun i => (i.zero, i.size, i.bytes)) = some (some (.int .u8 0), 1, 1) := by kernel_rfl
theorem put_any (n m : Nat) (hn : n < 18446744073709551616) (hm : m ≤ 8) (w : World) :
    Calls Tryz.prog 104 #[.int .u64 n, .int .i64 m] w fun e w' => e = .returned (.string ⟨(Dw.put m n).toArray⟩) ∧ Below w.heap.size w w' := by
  have a1 : ¬ ((m : Int) < 0) := by omega
  have a2 : ¬ ((8 : Int) < (m : Int)) := by omega
  have a3 : (0 : Int) ≤ (m : Int) := by omega
  have a4 : (m : Int) ≤ 8 := by omega
  obtain ⟨i0, hi, hz0, hz1, hz2⟩ := info_parts infoB
  have hby : i0.bytes * m ≤ 281474976710656 := by rw [hz2, Nat.one_mul]; exact Nat.le_trans hm (by decide)
  have hb63 : m ≤ 9223372036854775807 := Nat.le_trans hm (by decide)
  go_enter Tryz.func104, Tryz.ntmps104
  go_wp2_with (refine wpList_make_row _ rfl _ _ 135 rfl 5 i0 (.int .u8 0) Tryz.underlying135 hi hz0 hz1 rfl .i64 .i64 m (by rfl) (by rfl) hby hb63 ?_)
  have hrow := World.rowIs_made w (.int .u8 0) m 5
  have hBw := (Below.refl w.heap.size w).alloc (Nat.le_refl _) (.cells (madeCells #[.int .u8 0] m) 5)
  generalize w.alloc _ = w1 at *
  go_loopw [0, 13] (fun c i wr => ∃ k : Nat, k ≤ m ∧ i = .int .i64 k ∧ c = .int .u64 ((n / 256 ^ k : Nat) : Int) ∧ wr.rowIs w.heap.size 5 m (fun j => .int .u8 ((if m - k ≤ j then n / 256 ^ (m - 1 - j) % 256 else 0 : Nat) : Int)) ∧ Below w.heap.size w wr) (fun _ i _ => m - (intOf i).toNat)
  case atStart => exact ⟨0, Nat.zero_le _, rfl, by simp, hrow.congr (fun j hj => by rw [if_neg (by omega)]; rfl), hBw⟩
  case round =>
    obtain ⟨k, hk, rfl, rfl, hT, hB⟩ := hrel
    by_cases hlt : k < m
    · have hj : m - 1 - k < m := by omega
      have hck := hT.cell hj
      have hfk := hT.frozen (m - 1 - k)
      have Hp := Lib.hid (show n / 256 ^ (k + 1) = n / 256 ^ k / 256 from by rw [Nat.pow_succ, Nat.div_div_eq_div_mul])
      have Hd := Lib.hid (show ∀ j, j = m - 1 - k → n / 256 ^ (m - 1 - j) = n / 256 ^ k from fun j e => by rw [show m - 1 - j = k from by omega])
      have hq : n / 256 ^ k < 18446744073709551616 := Nat.lt_of_le_of_lt (Nat.div_le_self _ _) hn
      generalize hxx : n / 256 ^ k = x at *
      clear hxx
      have b1 : (0 : Int) ≤ (m : Int) - 1 - (k : Int) := by omega
      have b2 : (m : Int) - 1 - (k : Int) < (m : Int) := by omega
      have w1' : IntKind.i64.wrap ((m : Int) - 1) = (m : Int) - 1 := IntWalk.i64_in _ (by omega)
      have w2' : IntKind.i64.wrap ((m : Int) - 1 - (k : Int)) = (m : Int) - 1 - (k : Int) := IntWalk.i64_in _ (by omega)
      have t1 : ((m : Int) - 1 - (k : Int)).toNat = m - 1 - k := by omega
      have c1 : IntKind.u8.wrap (x : Int) = (x : Int) % 256 := IntKind.wrap_u8' _
      go_wp2_with fail
      go_roundw
      case rel =>
        refine ⟨k + 1, by omega, by go_num, by rw [Hp.out]; exact int_val (by omega), (hT.set (m - 1 - k) _).congr (fun j hj => ?_), hB.setCell (p := ⟨w.heap.size, m - 1 - k, none⟩) (Nat.le_refl _) _⟩
        by_cases hjk : j = m - 1 - k
        · rw [if_pos hjk, if_pos (by omega), Hd.out j hjk]; exact int_val (by omega)
        · rw [if_neg hjk]
          by_cases h1 : m - k ≤ j
          · rw [if_pos h1, if_pos (by omega)]
          · rw [if_neg h1, if_neg (by omega)]
      case measure => simp [intOf]; omega
    · obtain rfl : k = m := by omega
      have kc := run_convert_bytes_back (P := Tryz.prog) wr 135 9 5 ⟨w.heap.size, 0, none⟩ k (Dw.put k n) Tryz.underlying135 Tryz.underlying5 Tryz.underlying9 (fun j hj => by
        rw [addr_add, hT.cell (by simpa [Dw.put_length] using hj), Dw.put_at, if_pos (by omega)])
      rw [Dw.put_length] at kc
      go_wp2_with fail
      go_ret
      exact ⟨rfl, hB⟩
end Go.Proofs.YtnaokijcggbfdaaGreatDoor
