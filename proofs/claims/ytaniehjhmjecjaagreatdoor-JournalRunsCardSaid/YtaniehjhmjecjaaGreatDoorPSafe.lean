/- The walk of JournalSafe. -/
import Derived.Test.YtaniehjhmjecjaaGreatDoorP20
namespace Go.Proofs.YtaniehjhmjecjaaGreatDoor
open Go.RowKit Go.Shelf
attribute [local go_sem] Oper.semAt_some

namespace Dw
theorem size_n {n : Nat} (h : n < 12) : size (1 + (n : Int)) = ((24 * (n + 1) + 24 : Nat) : Int) := by unfold size; rw [if_pos (by omega)]; omega
end Dw

theorem StepsAt.get {w : World} {sa : Option Addr} {len cap k : Nat} {l : List Dw.Stp} {s : Dw.Stp} (h : StepsAt w (.slice sa len cap) l) (hk : l[k]? = some s) :
    s.data < 18446744073709551616 ∧ ∃ b off, sa = some ⟨b, off, none⟩ ∧ w.cell? ⟨b, off + k * 3, none⟩ = some (.int .u64 s.data) ∧ w.cell? ⟨b, off + k * 3 + 1, none⟩ = some (.int .i64 s.cut) ∧ w.cell? ⟨b, off + k * 3 + 2, none⟩ = some (.string ⟨s.mask.toArray⟩) := by
  obtain ⟨sa', cap', he, hd, hs⟩ := h
  cases he
  refine ⟨hd s (List.mem_of_getElem? hk), ?_⟩
  rcases hs with rfl | ⟨b, off, h, hc⟩
  · simp at hk
  · exact ⟨b, off, h, hc k s hk⟩
theorem new12_any (n l : Nat) (hn : n < 12) (hl : l ≤ 1000) (w : World) :
    Calls Tryz.prog 28 #[.int .i64 ((24 * (n + 1) + 24 : Nat) : Int), .int .i64 l] w fun e w' => e = .returned (flV (Dw.fNew (n + 1) l)) ∧ Below w.heap.size w w' :=
  new_any (24 * (n + 1) + 24) l (by omega) hl w

end Go.Proofs.YtaniehjhmjecjaaGreatDoor
