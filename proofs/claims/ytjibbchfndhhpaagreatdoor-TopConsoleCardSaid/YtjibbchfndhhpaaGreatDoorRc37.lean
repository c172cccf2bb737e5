/- What the statement's proof stands on, part 37: Card20, Rows20, Rows21. -/
import Derived.Test.YtjibbchfndhhpaaGreatDoorRc31
import Derived.Test.YtjibbchfndhhpaaGreatDoorRc36
import Derived.Deep.Slices
import Derived.Deep.Strs
import Derived.Test.YtjibbchfndhhpaaGreatDoorRc29
set_option linter.unusedSimpArgs false
set_option linter.unusedVariables false
set_option maxRecDepth 100000
set_option maxHeartbeats 4000000
namespace Go.Proofs.YtjibbchfndhhpaaGreatDoor
open Go.ChangeShapes Go.WideShapes Go.ChangeAt Go.RowKit Go.Joins Go.WideElems
open Go.ChangeMaps (open_string shut_string)
section
variable {H : Type} {enc : TypeId × Value → H} {w : World} {base : Nat} {spare : Nat → Bool} {held : Bool} {fuel : Nat} {cs : List Value} {x : DataW H × List MemPlace}
end
section
variable {H : Type} {enc : TypeId × Value → H} {w : World} {base : Nat} {spare : Nat → Bool} {held : Bool} {r : Reach} {b0 : Nat} {v : Value} {d : DataW H} {p : List MemPlace}
end
theorem u8_wf {x : Int} (h : (Lit.int .u8 x).wf = true) : ∃ n : Nat, x = (n : Int) ∧ n < 256 := by
  have h0 : IntKind.u8.min = 0 := by decide
  have h1 : IntKind.u8.max = 255 := by decide
  simp [Lit.wf, h0, h1] at h
  exact ⟨x.toNat, by omega, by omega⟩
def RowsAt {α : Type} (enc : α → List Value) (k : Nat) (ok : α → Prop) (w : World) (v : Value) (l : List α) : Prop :=
  ∃ sa cap, v = .slice sa l.length cap ∧ (∀ x ∈ l, ok x) ∧ (l = [] ∨ ∃ b off, sa = some ⟨b, off, none⟩ ∧ ∀ j x, l[j]? = some x → ∀ i u, (enc x)[i]? = some u → w.cell? ⟨b, off + j * k + i, none⟩ = some u)
theorem RowsAt.next {α : Type} {enc : α → List Value} {k : Nat} {ok : α → Prop} {w w' : World} {v : Value} {l : List α} (h : RowsAt enc k ok w v l) (hb : Below w.heap.size w w') : RowsAt enc k ok w' v l := by
  obtain ⟨sa, cap, rfl, hd, h⟩ := h
  refine ⟨sa, cap, rfl, hd, ?_⟩
  rcases h with h | ⟨b, off, rfl, hc⟩
  · exact .inl h
  · refine .inr ⟨b, off, rfl, fun j x hj i u hi => ?_⟩
    have q := hc j x hj i u hi
    exact (hb.cell (lt_of_cell q)).trans q
section
variable {H : Type} {enc : TypeId × Value → H} {w : World} {base : Nat} {spare : Nat → Bool} {held : Bool} {r : Reach} {b0 : Nat} {v : Value} {d : DataW H} {p : List MemPlace}
end
abbrev enC (e : Dw.En) : Array Value := #[.int .i64 e.ki, .int .i64 e.c.ki, .int .i64 e.c.n, .float .f64 e.c.la, .float .f64 e.c.lo, .float .f64 e.va, .float .f64 e.vb, .float .f64 e.vc, .int .i64 e.p.cut, .string ⟨e.p.mask.toArray⟩, .int .i64 e.at_]
abbrev enV (e : Dw.En) : Value := .agg #[.int .i64 e.ki, .int .i64 e.c.ki, .int .i64 e.c.n, .float .f64 e.c.la, .float .f64 e.c.lo, .float .f64 e.va, .float .f64 e.vb, .float .f64 e.vc, .int .i64 e.p.cut, .string ⟨e.p.mask.toArray⟩, .int .i64 e.at_]
abbrev enOk (e : Dw.En) : Prop := (e.c.la < 18446744073709551616 ∧ e.c.lo < 18446744073709551616 ∧ e.vb < 18446744073709551616) ∧ (-9223372036854775808 ≤ e.at_ ∧ e.at_ ≤ 9223372036854775807)
abbrev EnsAt (w : World) (v : Value) (l : List Dw.En) : Prop := RowsAt (fun e => (enC e).toList) 11 enOk w v l
section
variable {H : Type} {enc : TypeId × Value → H} {w : World} {base : Nat} {spare : Nat → Bool} {held : Bool}
variable {r : Reach} {b0 : Nat} {v : Value} {d : DataW H} {p : List MemPlace}
end
theorem EnsAt.get {w : World} {sa : Option Addr} {len cap k : Nat} {l : List Dw.En} {e : Dw.En} (h : EnsAt w (.slice sa len cap) l) (hk : l[k]? = some e) :
    enOk e ∧ ∃ b off, sa = some ⟨b, off, none⟩ ∧ ∀ i u, (enC e).toList[i]? = some u → w.cell? ⟨b, off + k * 11 + i, none⟩ = some u := by
  obtain ⟨sa', cap', he, hd, hs⟩ := h
  cases he
  refine ⟨hd e (List.mem_of_getElem? hk), ?_⟩
  rcases hs with rfl | ⟨b, off, h, hc⟩
  · simp at hk
  · exact ⟨b, off, h, fun i u hi => hc k e hk i u hi⟩
end Go.Proofs.YtjibbchfndhhpaaGreatDoor
