/- A slice of numbers that came in. -/
import Derived.Test.YtmjbpdhkpdpdjaaDoorP20
namespace Go.Proofs.YtmjbpdhkpdpdjaaDoor
open Go.RowKit Go.Shelf
def U64sAt (w : World) (v : Value) (l : List Nat) : Prop :=
  ∃ sa cap, v = .slice sa l.length cap ∧ (∀ x ∈ l, x < 18446744073709551616) ∧ (l = [] ∨ ∃ b off, sa = some ⟨b, off, none⟩ ∧ ∀ (j : Nat) (x : Nat), l[j]? = some x → w.cell? ⟨b, off + j, none⟩ = some (.int .u64 x))
theorem U64sAt.get {w w' : World} {sa : Option Addr} {len cap k : Nat} {l : List Nat} {x : Nat} (h : U64sAt w (.slice sa len cap) l) (hb : Below w.heap.size w w') (hk : l[k]? = some x) :
    x < 18446744073709551616 ∧ ∃ b off, sa = some ⟨b, off, none⟩ ∧ w'.cell? ⟨b, off + k, none⟩ = some (.int .u64 x) := by
  obtain ⟨sa', cap', he, hd, hs⟩ := h
  cases he
  refine ⟨hd x (List.mem_of_getElem? hk), ?_⟩
  rcases hs with rfl | ⟨b, off, h, hc⟩
  · simp at hk
  · have q := hc k x hk
    exact ⟨b, off, h, (hb.cell (lt_of_cell q)).trans q⟩
end Go.Proofs.YtmjbpdhkpdpdjaaDoor
