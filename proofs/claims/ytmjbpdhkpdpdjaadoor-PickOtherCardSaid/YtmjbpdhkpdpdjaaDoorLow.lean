/- Layer 7: the reference's small functions. -/
import Derived.Test.YtmjbpdhkpdpdjaaDoorRecord
namespace Go.Proofs.YtmjbpdhkpdpdjaaDoor
open Go.RowKit Go.Shelf
attribute [local go_sem] Oper.semAt_some

theorem four_bytes (a b c d : Nat) (ha : a < 256) (hb : b < 256) (hc : c < 256) (hd : d < 256) :
    (d * 16777216 + c * 65536 + b * 256 + a) / 16777216 % 256 = d ∧ (d * 16777216 + c * 65536 + b * 256 + a) / 65536 % 256 = c ∧ (d * 16777216 + c * 65536 + b * 256 + a) / 256 % 256 = b ∧ (d * 16777216 + c * 65536 + b * 256 + a) / 1 % 256 = a :=
  ⟨by omega, by omega, by omega, by omega⟩

set_option maxRecDepth 100000 in
set_option maxHeartbeats 1000000 in
theorem rlow_any (n : Nat) (hn : n < 4294967296) (w : World) :
    Calls Tryd.prog 65 #[.int .u32 n] w fun e w' => e = .returned (.string ⟨(Dw.put 4 (Dw.rev4 n)).toArray⟩) ∧ Below w.heap.size w w' := by
  have kc := run_convert_bytes_back (P := Tryd.prog) (w.alloc (.cells #[.int .u8 ((n : Int) % 256), .int .u8 ((n : Int) / 256 % 256), .int .u8 ((n : Int) / 65536 % 256), .int .u8 ((n : Int) / 16777216)] 5)) 92 9 5 ⟨w.heap.size, 0, none⟩ 4 (Dw.put 4 (Dw.rev4 n)) Tryd.underlying92 Tryd.underlying5 Tryd.underlying9 (fun j hj => by
    rw [Dw.put_at, addr_add]
    have hj4 : j < 4 := by simpa [Dw.put_length] using hj
    obtain ⟨h0, h1, h2, h3⟩ := four_bytes (n / 16777216) (n / 65536 % 256) (n / 256 % 256) (n % 256) (by omega) (by omega) (by omega) (by omega)
    change Dw.rev4 n / 16777216 % 256 = _ at h0
    change Dw.rev4 n / 65536 % 256 = _ at h1
    change Dw.rev4 n / 256 % 256 = _ at h2
    change Dw.rev4 n / 1 % 256 = _ at h3
    rcases (by omega : j = 0 ∨ j = 1 ∨ j = 2 ∨ j = 3) with rfl | rfl | rfl | rfl
    · rw [show 256 ^ (4 - 1 - 0) = 16777216 from rfl, h0]; simp [go_sem]
    · rw [show 256 ^ (4 - 1 - 1) = 65536 from rfl, h1]; simp [go_sem]
    · rw [show 256 ^ (4 - 1 - 2) = 256 from rfl, h2]; simp [go_sem]
    · rw [show 256 ^ (4 - 1 - 3) = 1 from rfl, h3]; simp [go_sem])
  rw [Dw.put_length] at kc
  go_enter Tryd.func65, Tryd.ntmps65
  go_wp2_with fail
  go_ret
  exact ⟨rfl, (Below.refl _ _).alloc (Nat.le_refl _) _⟩

theorem rmark_any (w : World) :
    Calls Tryd.prog 67 #[] w fun e w' => e = .returned (.string ⟨#[90, 60]⟩) ∧ Below w.heap.size w w' := by
  have kc := run_convert_bytes_back (P := Tryd.prog) (w.alloc (.cells #[.int .u8 90, .int .u8 60] 5)) 92 9 5 ⟨w.heap.size, 0, none⟩ 2 [90, 60] Tryd.underlying92 Tryd.underlying5 Tryd.underlying9 (fun j hj => by
    rw [addr_add]
    have hj4 : j < 2 := hj
    rcases (by omega : j = 0 ∨ j = 1) with rfl | rfl <;> simp [go_sem])
  rw [show [(90 : UInt8), 60].length = 2 from rfl] at kc
  go_enter Tryd.func67, Tryd.ntmps67
  go_wp2_with fail
  go_ret
  exact ⟨rfl, (Below.refl _ _).alloc (Nat.le_refl _) _⟩
end Go.Proofs.YtmjbpdhkpdpdjaaDoor
