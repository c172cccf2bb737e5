/- Layer 10: what its laws call: big, one, shown. -/
import Derived.Test.YtmjbpdhkpdpdjaaDoorNew
namespace Go.Proofs.YtmjbpdhkpdpdjaaDoor
open Go.RowKit Go.Shelf
attribute [local go_sem] Oper.semAt_some

namespace Dw
def oneB (g q d : Nat) : List UInt8 := encode 1 g 0 ++ encode 3 q d
theorem encode_length (k q d : Nat) : (encode k q d).length = 24 := by unfold encode; rw [List.length_append, body_length]; rfl
theorem oneB_length (g q d : Nat) : (oneB g q d).length = 48 := by unfold oneB; rw [List.length_append, encode_length, encode_length]
theorem ev0 : readE (ffs 48) (ffs 48) = 10 := by decide +kernel
theorem ev1 : readS (oneB 4 9 1) (ffs 48) = ⟨0, 4, 9, 1⟩ := by kernel_rfl
theorem ev1e : readE (oneB 4 9 1) (ffs 48) = 0 := by decide +kernel
theorem ev2 : readS (oneB 4 9 1) (oneB 5 3 2) = ⟨1, 5, 3, 2⟩ := by kernel_rfl
theorem ev2e : readE (oneB 4 9 1) (oneB 5 3 2) = 0 := by decide +kernel
theorem ev3 : (best (oneB 4 9 1) (oneB 5 3 2)).bank = 1 := by decide +kernel
theorem ev4 : even (oneB 4 9 1) (oneB 5 3 2) = true := by unfold even; rw [oneB_length, oneB_length]; decide
end Dw

set_option maxRecDepth 100000 in
theorem one_any (g q d : Nat) (hg : g < 18446744073709551616) (hq : q < 18446744073709551616) (hd : d < 18446744073709551616) (w : World) :
    Calls Tryd.prog 19 #[.int .u64 g, .int .u64 q, .int .u64 d] w fun e w' => e = .returned (.string ⟨(Dw.oneB g q d).toArray⟩) ∧ Below w.heap.size w w' := by
  have HO := Lib.hid (show Dw.oneB g q d = Dw.encode 1 g 0 ++ Dw.encode 3 q d from rfl)
  have l1 := Dw.encode_length 1 g 0
  have l2 := Dw.encode_length 3 q d
  have HG := Lib.hid hg; have HQ := Lib.hid hq; have HD := Lib.hid hd
  clear hg hq hd
  go_enter Tryd.func19, Tryd.ntmps19
  go_wp2_with fail
  refine (encode_any 1 1 g 0 rfl (by decide) HG.out (by decide) _).mono ?_
  rintro e w1 ⟨rfl, hb1⟩
  go_wp2_with fail
  refine (encode_any 3 3 q d rfl (by decide) HQ.out HD.out _).mono ?_
  rintro e w2 ⟨rfl, hb2⟩
  go_wp2_with fail
  go_ret
  exact ⟨by rw [HO.out]; exact ret_str (bs_append _ _), hb1.trans (hb2.mono hb1.size)⟩

def Dw.big (a b : List UInt8) : Bool := decide (400 < a.length ∨ 400 < b.length)
set_option maxRecDepth 100000 in
theorem big_any (a b : List UInt8) (e0 e1 li : Int) (w : World) :
    Calls Tryd.prog 12 #[flashV a b e0 e1 li] w fun e w' => e = .returned (.bool (Dw.big a b)) ∧ Below w.heap.size w w' := by
  have hB := (Below.refl w.heap.size w).alloc (Nat.le_refl _) (.cells (flashC a b e0 e1 li) 25)
  have HG := Lib.hid (show Dw.big a b = decide (400 < a.length ∨ 400 < b.length) from rfl)
  by_cases h : 400 < a.length
  · have h' : (400 : Int) < (a.length : Int) := by omega
    go_enter Tryd.func12, Tryd.ntmps12
    go_wp2_with fail
    go_ret
    exact ⟨by rw [HG.out]; simp [h], hB⟩
  · have h' : ¬ (400 : Int) < (a.length : Int) := by omega
    by_cases h2 : 400 < b.length
    · have h2' : (400 : Int) < (b.length : Int) := by omega
      go_enter Tryd.func12, Tryd.ntmps12
      go_wp2_with fail
      go_ret
      exact ⟨by rw [HG.out]; simp [h, h2], hB⟩
    · have h2' : ¬ (400 : Int) < (b.length : Int) := by omega
      go_enter Tryd.func12, Tryd.ntmps12
      go_wp2_with fail
      go_ret
      exact ⟨by rw [HG.out]; simp [h, h2], hB⟩
end Go.Proofs.YtmjbpdhkpdpdjaaDoor
