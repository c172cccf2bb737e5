/- What the statement's proof stands on, part 34: Card20, Rows20, Rows21. -/
import Derived.Test.YtjibbchfndhhpaaGreatDoorRb27
import Derived.Test.YtjibbchfndhhpaaGreatDoorRb33
import Derived.Deep.Slices
import Derived.Deep.Strs
import Derived.Test.YtjibbchfndhhpaaGreatDoorRb25
set_option linter.unusedSimpArgs false
set_option linter.unusedVariables false
set_option maxRecDepth 100000
set_option maxHeartbeats 4000000
namespace Go.Proofs.YtjibbchfndhhpaaGreatDoor
open Go.ChangeShapes Go.WideShapes Go.ChangeAt Go.RowKit Go.Joins Go.WideElems
open Go.ChangeMaps (open_string shut_string)
theorem c5st : Tryz.prog.cellsOf 28 = 6 := by kernel_rfl
section
variable {H : Type} {enc : TypeId × Value → H} {w : World} {base : Nat} {spare : Nat → Bool} {held : Bool} {fuel : Nat} {cs : List Value} {x : DataW H × List MemPlace}
theorem trod_st (h : DataW.trod enc Tryz.prog w base spare held fuel 28 cs = some x) : ∃ s : Dw.St, cs = (stC s).toList := by
  obtain ⟨xs, n, _, hx, hl, hlen, hfs⟩ := DataW.trod_struct Tryz.underlying28 h
  rw [c5st] at hl
  obtain ⟨y0, y1, y2, y3, y4, y5, rfl⟩ : ∃ y0 y1 y2 y3 y4 y5, xs = [y0, y1, y2, y3, y4, y5] := by
    match xs, hlen with
    | [y0, y1, y2, y3, y4, y5], _ => exact ⟨y0, y1, y2, y3, y4, y5, rfl⟩
  have h0 := hfs 0 _ rfl
  have h1 := hfs 1 _ rfl
  have h2 := hfs 2 _ rfl
  have h3 := hfs 3 _ rfl
  have h4 := hfs 4 _ rfl
  have h5 := hfs 5 _ rfl
  match cs, hl with
  | [x0, x1, x2, x3, x4, x5], _ =>
    simp only [List.getElem?_cons_zero, List.getElem?_cons_succ] at h0 h1 h2 h3 h4 h5
    obtain ⟨a0, b0, _⟩ := DataW.trod_int Tryz.underlying3 h0
    obtain ⟨a1, b1, _⟩ := DataW.trod_bool Tryz.underlying4 h1
    obtain ⟨a2, b2, _⟩ := DataW.trod_bool Tryz.underlying4 h2
    obtain ⟨a3, b3, _⟩ := DataW.trod_int Tryz.underlying3 h3
    obtain ⟨a4, b4, _⟩ := DataW.trod_int Tryz.underlying3 h4
    obtain ⟨a5, b5, _⟩ := DataW.trod_int Tryz.underlying3 h5
    cases b0; cases b1; cases b2; cases b3; cases b4; cases b5
    exact ⟨⟨a0, a1, a2, a3, a4, a5⟩, rfl⟩
end
section
variable {H : Type} {enc : TypeId × Value → H} {w : World} {base : Nat} {spare : Nat → Bool} {held : Bool} {r : Reach} {b0 : Nat} {v : Value} {d : DataW H} {p : List MemPlace}
theorem open_st20 (hv : Value.okWide Tryz.prog w r b0 28 v) (h : DataW.Trod enc Tryz.prog w base spare held 28 v d p) : ∃ s : Dw.St, v = stV s := by
  obtain ⟨cs, rfl, _⟩ := okWide_struct Tryz.underlying28 hv
  obtain ⟨fuel, hf⟩ := h
  obtain ⟨f, hc⟩ := trod_st hf
  obtain ⟨cs⟩ := cs
  simp only [Value.cells] at hc
  subst hc
  exact ⟨f, rfl⟩
end
def RowsAt {α : Type} (enc : α → List Value) (k : Nat) (ok : α → Prop) (w : World) (v : Value) (l : List α) : Prop :=
  ∃ sa cap, v = .slice sa l.length cap ∧ (∀ x ∈ l, ok x) ∧ (l = [] ∨ ∃ b off, sa = some ⟨b, off, none⟩ ∧ ∀ j x, l[j]? = some x → ∀ i u, (enc x)[i]? = some u → w.cell? ⟨b, off + j * k + i, none⟩ = some u)
theorem RowsAt.next {α : Type} {enc : α → List Value} {k : Nat} {ok : α → Prop} {w w' : World} {v : Value} {l : List α} (h : RowsAt enc k ok w v l) (hb : Below w.heap.size w w') : RowsAt enc k ok w' v l := by
  obtain ⟨sa, cap, rfl, hd, h⟩ := h
  refine ⟨sa, cap, rfl, hd, ?_⟩
  rcases h with h | ⟨b, off, rfl, hc⟩
  · exact .inl h
  · refine .inr ⟨b, off, rfl, fun j x hj i u hi => ?_⟩
    have q := hc j x hj i u hi
    exact (hb.cell (lt_of_cell q)).trans q
section
variable {H : Type} {enc : TypeId × Value → H} {w : World} {base : Nat} {spare : Nat → Bool} {held : Bool} {r : Reach} {b0 : Nat} {v : Value} {d : DataW H} {p : List MemPlace}
end
abbrev enC (e : Dw.En) : Array Value := #[.int .i64 e.ki, .int .i64 e.c.ki, .int .i64 e.c.n, .float .f64 e.c.la, .float .f64 e.c.lo, .float .f64 e.va, .float .f64 e.vb, .float .f64 e.vc, .int .i64 e.p.cut, .string ⟨e.p.mask.toArray⟩, .int .i64 e.at_]
abbrev enV (e : Dw.En) : Value := .agg #[.int .i64 e.ki, .int .i64 e.c.ki, .int .i64 e.c.n, .float .f64 e.c.la, .float .f64 e.c.lo, .float .f64 e.va, .float .f64 e.vb, .float .f64 e.vc, .int .i64 e.p.cut, .string ⟨e.p.mask.toArray⟩, .int .i64 e.at_]
abbrev enOk (e : Dw.En) : Prop := (e.c.la < 18446744073709551616 ∧ e.c.lo < 18446744073709551616 ∧ e.vb < 18446744073709551616) ∧ (-9223372036854775808 ≤ e.at_ ∧ e.at_ ≤ 9223372036854775807)
abbrev EnsAt (w : World) (v : Value) (l : List Dw.En) : Prop := RowsAt (fun e => (enC e).toList) 11 enOk w v l
section
variable {H : Type} {enc : TypeId × Value → H} {w : World} {base : Nat} {spare : Nat → Bool} {held : Bool}
variable {r : Reach} {b0 : Nat} {v : Value} {d : DataW H} {p : List MemPlace}
end
theorem EnsAt.get {w : World} {sa : Option Addr} {len cap k : Nat} {l : List Dw.En} {e : Dw.En} (h : EnsAt w (.slice sa len cap) l) (hk : l[k]? = some e) :
    enOk e ∧ ∃ b off, sa = some ⟨b, off, none⟩ ∧ ∀ i u, (enC e).toList[i]? = some u → w.cell? ⟨b, off + k * 11 + i, none⟩ = some u := by
  obtain ⟨sa', cap', he, hd, hs⟩ := h
  cases he
  refine ⟨hd e (List.mem_of_getElem? hk), ?_⟩
  rcases hs with rfl | ⟨b, off, h, hc⟩
  · simp at hk
  · exact ⟨b, off, h, fun i u hi => hc k e hk i u hi⟩
end Go.Proofs.YtjibbchfndhhpaaGreatDoor
