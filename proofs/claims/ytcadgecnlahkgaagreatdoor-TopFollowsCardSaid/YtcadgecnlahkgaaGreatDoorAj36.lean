/- What the statement's proof stands on, part 36: Card20, Rows20, Rows21, Law21. -/
import Derived.Test.YtcadgecnlahkgaaGreatDoorAj14
import Derived.Test.YtcadgecnlahkgaaGreatDoorAj35
import Derived.Deep.Slices
import Derived.Deep.Strs
import Derived.Test.YtcadgecnlahkgaaGreatDoorAj33
set_option linter.unusedSimpArgs false
set_option linter.unusedVariables false
set_option maxRecDepth 100000
set_option maxHeartbeats 4000000
namespace Go.Proofs.YtcadgecnlahkgaaGreatDoor
open Go.ChangeShapes Go.WideShapes Go.ChangeAt Go.RowKit Go.Joins Go.WideElems
open Go.ChangeMaps (open_string shut_string)
theorem i64_wf {x : Int} (h : (Lit.int .i64 x).wf = true) : -9223372036854775808 ≤ x ∧ x ≤ 9223372036854775807 := by
  have h0 : IntKind.i64.min = -9223372036854775808 := by decide
  have h1 : IntKind.i64.max = 9223372036854775807 := by decide
  simp [Lit.wf, h0, h1] at h
  omega
theorem f64_wf {b : Nat} (h : (Lit.float .f64 b).wf = true) : b < 18446744073709551616 := by
  simp [Lit.wf] at h
  omega
theorem trod_f64 {H : Type} {enc : TypeId × Value → H} {P : Program} {w : World} {base : Nat} {spare : Nat → Bool} {held : Bool} {fuel : Nat} {t : TypeId} {cs : List Value} {x : DataW H × List MemPlace} (ht : P.underlying t = some (.float .f64))
    (h : DataW.trod enc P w base spare held fuel t cs = some x) : ∃ n, cs = [.float .f64 n] ∧ n < 18446744073709551616 := by
  cases fuel with
  | zero => simp [DataW.trod] at h
  | succ n =>
    unfold DataW.trod at h
    rw [ht] at h
    split at h <;> simp_all
    exact f64_wf (by simp_all)
theorem c5st : Tryz.prog.cellsOf 29 = 6 := by kernel_rfl
theorem c5pw : Tryz.prog.cellsOf 46 = 2 := by kernel_rfl
theorem c5cm : Tryz.prog.cellsOf 42 = 4 := by kernel_rfl
theorem c5sm : Tryz.prog.cellsOf 44 = 3 := by kernel_rfl
section
variable {H : Type} {enc : TypeId × Value → H} {w : World} {base : Nat} {spare : Nat → Bool} {held : Bool} {fuel : Nat} {cs : List Value} {x : DataW H × List MemPlace}
theorem trod_st (h : DataW.trod enc Tryz.prog w base spare held fuel 29 cs = some x) : ∃ s : Dw.St, cs = (stC s).toList := by
  obtain ⟨xs, n, _, hx, hl, hlen, hfs⟩ := DataW.trod_struct Tryz.underlying29 h
  rw [c5st] at hl
  obtain ⟨y0, y1, y2, y3, y4, y5, rfl⟩ : ∃ y0 y1 y2 y3 y4 y5, xs = [y0, y1, y2, y3, y4, y5] := by
    match xs, hlen with
    | [y0, y1, y2, y3, y4, y5], _ => exact ⟨y0, y1, y2, y3, y4, y5, rfl⟩
  have h0 := hfs 0 _ rfl
  have h1 := hfs 1 _ rfl
  have h2 := hfs 2 _ rfl
  have h3 := hfs 3 _ rfl
  have h4 := hfs 4 _ rfl
  have h5 := hfs 5 _ rfl
  match cs, hl with
  | [x0, x1, x2, x3, x4, x5], _ =>
    simp only [List.getElem?_cons_zero, List.getElem?_cons_succ] at h0 h1 h2 h3 h4 h5
    obtain ⟨a0, b0, _⟩ := DataW.trod_int Tryz.underlying3 h0
    obtain ⟨a1, b1, _⟩ := DataW.trod_bool Tryz.underlying4 h1
    obtain ⟨a2, b2, _⟩ := DataW.trod_bool Tryz.underlying4 h2
    obtain ⟨a3, b3, _⟩ := DataW.trod_int Tryz.underlying3 h3
    obtain ⟨a4, b4, _⟩ := DataW.trod_int Tryz.underlying3 h4
    obtain ⟨a5, b5, _⟩ := DataW.trod_int Tryz.underlying3 h5
    cases b0; cases b1; cases b2; cases b3; cases b4; cases b5
    exact ⟨⟨a0, a1, a2, a3, a4, a5⟩, rfl⟩
end
section
variable {H : Type} {enc : TypeId × Value → H} {w : World} {base : Nat} {spare : Nat → Bool} {held : Bool} {r : Reach} {b0 : Nat} {v : Value} {d : DataW H} {p : List MemPlace}
theorem open_st20 (hv : Value.okWide Tryz.prog w r b0 29 v) (h : DataW.Trod enc Tryz.prog w base spare held 29 v d p) : ∃ s : Dw.St, v = stV s := by
  obtain ⟨cs, rfl, _⟩ := okWide_struct Tryz.underlying29 hv
  obtain ⟨fuel, hf⟩ := h
  obtain ⟨f, hc⟩ := trod_st hf
  obtain ⟨cs⟩ := cs
  simp only [Value.cells] at hc
  subst hc
  exact ⟨f, rfl⟩
theorem trod_cm {fuel : Nat} {cs : List Value} {x : DataW H × List MemPlace} (h : DataW.trod enc Tryz.prog w base spare held fuel 42 cs = some x) : ∃ c : Dw.Cmd, cs = (cmC c).toList ∧ c.la < 18446744073709551616 ∧ c.lo < 18446744073709551616 := by
  obtain ⟨xs, n, _, hx, hl, hlen, hfs⟩ := DataW.trod_struct Tryz.underlying42 h
  rw [c5cm] at hl
  obtain ⟨y0, y1, y2, y3, rfl⟩ : ∃ y0 y1 y2 y3, xs = [y0, y1, y2, y3] := by
    match xs, hlen with
    | [y0, y1, y2, y3], _ => exact ⟨y0, y1, y2, y3, rfl⟩
  have h0 := hfs 0 _ rfl
  have h1 := hfs 1 _ rfl
  have h2 := hfs 2 _ rfl
  have h3 := hfs 3 _ rfl
  match cs, hl with
  | [x0, x1, x2, x3], _ =>
    simp only [List.getElem?_cons_zero, List.getElem?_cons_succ] at h0 h1 h2 h3
    obtain ⟨a0, b0, _⟩ := DataW.trod_int Tryz.underlying3 h0
    obtain ⟨a1, b1, _⟩ := DataW.trod_int Tryz.underlying3 h1
    obtain ⟨a2, b2, l2⟩ := trod_f64 Tryz.underlying40 h2
    obtain ⟨a3, b3, l3⟩ := trod_f64 Tryz.underlying40 h3
    cases b0; cases b1; cases b2; cases b3
    exact ⟨⟨a0, a1, a2, a3⟩, rfl, l2, l3⟩
theorem trod_sm {fuel : Nat} {cs : List Value} {x : DataW H × List MemPlace} (h : DataW.trod enc Tryz.prog w base spare held fuel 44 cs = some x) : ∃ a b c : Nat, cs = (smC a b c).toList ∧ b < 18446744073709551616 := by
  obtain ⟨xs, n, _, hx, hl, hlen, hfs⟩ := DataW.trod_struct Tryz.underlying44 h
  rw [c5sm] at hl
  obtain ⟨y0, y1, y2, rfl⟩ : ∃ y0 y1 y2, xs = [y0, y1, y2] := by
    match xs, hlen with
    | [y0, y1, y2], _ => exact ⟨y0, y1, y2, rfl⟩
  have h0 := hfs 0 _ rfl
  have h1 := hfs 1 _ rfl
  have h2 := hfs 2 _ rfl
  match cs, hl with
  | [x0, x1, x2], _ =>
    simp only [List.getElem?_cons_zero, List.getElem?_cons_succ] at h0 h1 h2
    obtain ⟨a0, b0, _⟩ := trod_f64 Tryz.underlying40 h0
    obtain ⟨a1, b1, l1⟩ := trod_f64 Tryz.underlying40 h1
    obtain ⟨a2, b2, _⟩ := trod_f64 Tryz.underlying40 h2
    cases b0; cases b1; cases b2
    exact ⟨a0, a1, a2, rfl, l1⟩
end
theorem u8_wf {x : Int} (h : (Lit.int .u8 x).wf = true) : ∃ n : Nat, x = (n : Int) ∧ n < 256 := by
  have h0 : IntKind.u8.min = 0 := by decide
  have h1 : IntKind.u8.max = 255 := by decide
  simp [Lit.wf, h0, h1] at h
  exact ⟨x.toNat, by omega, by omega⟩
def RowsAt {α : Type} (enc : α → List Value) (k : Nat) (ok : α → Prop) (w : World) (v : Value) (l : List α) : Prop :=
  ∃ sa cap, v = .slice sa l.length cap ∧ (∀ x ∈ l, ok x) ∧ (l = [] ∨ ∃ b off, sa = some ⟨b, off, none⟩ ∧ ∀ j x, l[j]? = some x → ∀ i u, (enc x)[i]? = some u → w.cell? ⟨b, off + j * k + i, none⟩ = some u)
theorem RowsAt.next {α : Type} {enc : α → List Value} {k : Nat} {ok : α → Prop} {w w' : World} {v : Value} {l : List α} (h : RowsAt enc k ok w v l) (hb : Below w.heap.size w w') : RowsAt enc k ok w' v l := by
  obtain ⟨sa, cap, rfl, hd, h⟩ := h
  refine ⟨sa, cap, rfl, hd, ?_⟩
  rcases h with h | ⟨b, off, rfl, hc⟩
  · exact .inl h
  · refine .inr ⟨b, off, rfl, fun j x hj i u hi => ?_⟩
    have q := hc j x hj i u hi
    exact (hb.cell (lt_of_cell q)).trans q
theorem open_rows {α : Type} [Inhabited α] {e2 : α → List Value} {k : Nat} {ok : α → Prop} {te ts : TypeId} (hu : Tryz.prog.underlying ts = some (.slice te)) (hk : Tryz.prog.cellsOf te = k) (hpos : 0 < k) (hlen : ∀ a, (e2 a).length = k)
    {H : Type} {enc : TypeId × Value → H} {w : World} {base : Nat} {spare : Nat → Bool} {held : Bool} (hel' : ∀ {fuel : Nat} {cs : List Value} {x : DataW H × List MemPlace}, DataW.trod enc Tryz.prog w base spare held fuel te cs = some x → ∃ a, cs = e2 a ∧ ok a)
    {r : Reach} {b0 : Nat} {v : Value} {d : DataW H} {p : List MemPlace} (hv : Value.okWide Tryz.prog w r b0 ts v) (h : DataW.Trod enc Tryz.prog w base spare held ts v d p) : ∃ l, RowsAt e2 k ok w v l := by
  obtain ⟨sa, len, cap, rfl⟩ := okWide_slice hu hv
  obtain ⟨fuel, hf⟩ := h
  rcases Go.Deep.open_slice hu hf with ⟨hcs, _⟩ | ⟨a, l, c, m, n, D, Pl, hcs, _, hl, _, hm, _, hel⟩
  · simp [Value.cells] at hcs
    obtain ⟨rfl, rfl, rfl⟩ := hcs
    exact ⟨[], none, 0, rfl, by simp, .inl rfl⟩
  · simp [Value.cells] at hcs
    obtain ⟨rfl, rfl, rfl⟩ := hcs
    have hlm : len ≤ m := by rw [hm]; split <;> omega
    obtain ⟨F, hF⟩ := Go.Deep.choose_lt (n := len) (p := fun i (s : α) => ok s ∧ ∀ j, j < k → w.cell? ((a.add (i * k)).add j) = (e2 s)[j]?) (fun i hi => by
      obtain ⟨cs', h1, h2⟩ := hel i (by omega)
      obtain ⟨s, rfl, hd⟩ := hel' h2
      rw [hk] at h1
      obtain ⟨_, _, hc⟩ := World.cells?_some h1
      exact ⟨s, hd, fun j hj => hc j hj⟩)
    refine ⟨(List.range len).map F, some a, cap, by simp, ?_, ?_⟩
    · intro s hs
      obtain ⟨i, hi, rfl⟩ := List.mem_map.1 hs
      exact (hF i (List.mem_range.1 hi)).1
    · rcases Nat.eq_zero_or_pos len with h0 | h0
      · left; rw [h0]; rfl
      · right
        obtain ⟨b, off, spot⟩ := a
        have hs0 : spot = none := by
          have h1 := (hF 0 h0).2 0 hpos
          rw [List.getElem?_eq_getElem (by rw [hlen]; exact hpos)] at h1
          simp only [Nat.zero_mul, Addr.add] at h1
          exact World.cell?_spot h1
        subst hs0
        refine ⟨b, off, rfl, fun j s hj i u hi => ?_⟩
        have hjl : j < len := by
          have := (List.getElem?_eq_some_iff.1 hj).1
          simpa using this
        rw [List.getElem?_map, List.getElem?_range hjl] at hj
        cases hj
        have hik : i < k := by rw [← hlen (F j)]; exact (List.getElem?_eq_some_iff.1 hi).1
        have hc := (hF j hjl).2 i hik
        simp only [Go.WideShapes.add_plain] at hc
        exact hc.trans hi
section
variable {H : Type} {enc : TypeId × Value → H} {w : World} {base : Nat} {spare : Nat → Bool} {held : Bool} {r : Reach} {b0 : Nat} {v : Value} {d : DataW H} {p : List MemPlace}
end
abbrev enC (e : Dw.En) : Array Value := #[.int .i64 e.ki, .int .i64 e.c.ki, .int .i64 e.c.n, .float .f64 e.c.la, .float .f64 e.c.lo, .float .f64 e.va, .float .f64 e.vb, .float .f64 e.vc, .int .i64 e.p.cut, .string ⟨e.p.mask.toArray⟩, .int .i64 e.at_]
abbrev enV (e : Dw.En) : Value := .agg #[.int .i64 e.ki, .int .i64 e.c.ki, .int .i64 e.c.n, .float .f64 e.c.la, .float .f64 e.c.lo, .float .f64 e.va, .float .f64 e.vb, .float .f64 e.vc, .int .i64 e.p.cut, .string ⟨e.p.mask.toArray⟩, .int .i64 e.at_]
abbrev enOk (e : Dw.En) : Prop := (e.c.la < 18446744073709551616 ∧ e.c.lo < 18446744073709551616 ∧ e.vb < 18446744073709551616) ∧ (-9223372036854775808 ≤ e.at_ ∧ e.at_ ≤ 9223372036854775807)
abbrev EnsAt (w : World) (v : Value) (l : List Dw.En) : Prop := RowsAt (fun e => (enC e).toList) 11 enOk w v l
theorem c5en : Tryz.prog.cellsOf 48 = 11 := by kernel_rfl
section
variable {H : Type} {enc : TypeId × Value → H} {w : World} {base : Nat} {spare : Nat → Bool} {held : Bool}
theorem trod_pw {fuel : Nat} {cs : List Value} {x : DataW H × List MemPlace} (h : DataW.trod enc Tryz.prog w base spare held fuel 46 cs = some x) : ∃ s : Dw.Pw, cs = [.int .i64 s.cut, .string ⟨s.mask.toArray⟩] := by
  obtain ⟨v0, v1, _, _, hl3, g0, g1⟩ := trod_struct2 Tryz.underlying46 h
  rw [c5pw] at hl3
  match cs, hl3 with
  | [x0, x1], _ =>
    simp only [c5i, c5s, List.drop_zero, List.take_succ_cons, List.take_zero, List.drop_succ_cons] at g0 g1
    obtain ⟨a0, b0, _⟩ := DataW.trod_int Tryz.underlying3 g0
    obtain ⟨a1, b1, _⟩ := DataW.trod_string Tryz.underlying9 g1
    cases b0; cases b1
    exact ⟨⟨a0, a1.data.toList⟩, rfl⟩
theorem trod_en {fuel : Nat} {cs : List Value} {x : DataW H × List MemPlace} (h : DataW.trod enc Tryz.prog w base spare held fuel 48 cs = some x) : ∃ e : Dw.En, cs = (enC e).toList ∧ enOk e := by
  obtain ⟨xs, n, _, hx, hl, hlen, hfs⟩ := DataW.trod_struct Tryz.underlying48 h
  rw [c5en] at hl
  obtain ⟨y0, y1, y2, y3, y4, rfl⟩ : ∃ y0 y1 y2 y3 y4, xs = [y0, y1, y2, y3, y4] := by
    match xs, hlen with
    | [y0, y1, y2, y3, y4], _ => exact ⟨y0, y1, y2, y3, y4, rfl⟩
  have h0 := hfs 0 _ rfl
  have h1 := hfs 1 _ rfl
  have h2 := hfs 2 _ rfl
  have h3 := hfs 3 _ rfl
  have h4 := hfs 4 _ rfl
  match cs, hl with
  | [x0, x1, x2, x3, x4, x5, x6, x7, x8, x9, x10], _ =>
    simp only [List.getElem?_cons_zero, List.getElem?_cons_succ] at h0 h1 h2 h3 h4
    obtain ⟨a0, b0, _⟩ := DataW.trod_int Tryz.underlying3 h0
    obtain ⟨c, hc, hla, hlo⟩ := trod_cm h1
    obtain ⟨va, vb, vc, hv, hvb⟩ := trod_sm h2
    obtain ⟨p, hp⟩ := trod_pw h3
    obtain ⟨a4, b4, _, w4⟩ := DataW.trod_int Tryz.underlying3 h4
    cases b0; cases hc; cases hv; cases hp; cases b4
    exact ⟨⟨a0, c, va, vb, vc, p, a4⟩, rfl, ⟨hla, hlo, hvb⟩, i64_wf w4⟩
variable {r : Reach} {b0 : Nat} {v : Value} {d : DataW H} {p : List MemPlace}
theorem open_ens (hv : Value.okWide Tryz.prog w r b0 22 v) (h : DataW.Trod enc Tryz.prog w base spare held 22 v d p) : ∃ l, EnsAt w v l := by
  haveI : Inhabited Dw.En := ⟨⟨0, ⟨0, 0, 0, 0⟩, 0, 0, 0, ⟨0, []⟩, 0⟩⟩
  exact open_rows (e2 := fun e => (enC e).toList) (ok := enOk) Tryz.underlying22 c5en (by decide) (fun _ => rfl) trod_en hv h
end
theorem EnsAt.get {w : World} {sa : Option Addr} {len cap k : Nat} {l : List Dw.En} {e : Dw.En} (h : EnsAt w (.slice sa len cap) l) (hk : l[k]? = some e) :
    enOk e ∧ ∃ b off, sa = some ⟨b, off, none⟩ ∧ ∀ i u, (enC e).toList[i]? = some u → w.cell? ⟨b, off + k * 11 + i, none⟩ = some u := by
  obtain ⟨sa', cap', he, hd, hs⟩ := h
  cases he
  refine ⟨hd e (List.mem_of_getElem? hk), ?_⟩
  rcases hs with rfl | ⟨b, off, h, hc⟩
  · simp at hk
  · exact ⟨b, off, h, fun i u hi => hc k e hk i u hi⟩
end Go.Proofs.YtcadgecnlahkgaaGreatDoor
namespace Go.Proofs.YtcadgecnlahkgaaGreatDoor
open Go.RowKit Go.Shelf
attribute [local go_sem] Oper.semAt_some
def LongSaid (l : List Dw.En) (en : Ending) : Prop := ∃ b, en = .returned (.bool b) ∧ (b = false → l.length ≤ 60)
end Go.Proofs.YtcadgecnlahkgaaGreatDoor
