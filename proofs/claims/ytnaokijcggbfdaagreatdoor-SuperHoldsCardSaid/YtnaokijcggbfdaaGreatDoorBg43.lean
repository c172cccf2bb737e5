/- What the statement's proof stands on, part 43: Card20, Rows20, Cms20, HoldL20. -/
import Derived.Test.YtnaokijcggbfdaaGreatDoorBg41
import Derived.Test.YtnaokijcggbfdaaGreatDoorBg37
import Derived.Deep.Slices
import Derived.Deep.Strs
import Derived.Test.YtnaokijcggbfdaaGreatDoorBg30
import Derived.Test.YtnaokijcggbfdaaGreatDoorBg39
import Derived.Test.YtnaokijcggbfdaaGreatDoorBg18
import Derived.Test.YtnaokijcggbfdaaGreatDoorBg32
import Derived.Test.YtnaokijcggbfdaaGreatDoorBg42
set_option linter.unusedSimpArgs false
set_option linter.unusedVariables false
set_option maxRecDepth 100000
set_option maxHeartbeats 4000000
namespace Go.Proofs.YtnaokijcggbfdaaGreatDoor
open Go.ChangeShapes Go.WideShapes Go.ChangeAt Go.RowKit Go.Joins Go.WideElems
open Go.ChangeMaps (open_string shut_string)
theorem i64_wf {x : Int} (h : (Lit.int .i64 x).wf = true) : -9223372036854775808 ≤ x ∧ x ≤ 9223372036854775807 := by
  have h0 : IntKind.i64.min = -9223372036854775808 := by decide
  have h1 : IntKind.i64.max = 9223372036854775807 := by decide
  simp [Lit.wf, h0, h1] at h
  omega
theorem f64_wf {b : Nat} (h : (Lit.float .f64 b).wf = true) : b < 18446744073709551616 := by
  simp [Lit.wf] at h
  omega
theorem trod_f64 {H : Type} {enc : TypeId × Value → H} {P : Program} {w : World} {base : Nat} {spare : Nat → Bool} {held : Bool} {fuel : Nat} {t : TypeId} {cs : List Value} {x : DataW H × List MemPlace} (ht : P.underlying t = some (.float .f64))
    (h : DataW.trod enc P w base spare held fuel t cs = some x) : ∃ n, cs = [.float .f64 n] ∧ n < 18446744073709551616 := by
  cases fuel with
  | zero => simp [DataW.trod] at h
  | succ n =>
    unfold DataW.trod at h
    rw [ht] at h
    split at h <;> simp_all
    exact f64_wf (by simp_all)
theorem c5st : Tryz.prog.cellsOf 27 = 6 := by kernel_rfl
theorem c5su : Tryz.prog.cellsOf 31 = 14 := by kernel_rfl
theorem c5pw : Tryz.prog.cellsOf 36 = 2 := by kernel_rfl
theorem c5cm : Tryz.prog.cellsOf 34 = 4 := by kernel_rfl
theorem c5sm : Tryz.prog.cellsOf 55 = 3 := by kernel_rfl
section
variable {H : Type} {enc : TypeId × Value → H} {w : World} {base : Nat} {spare : Nat → Bool} {held : Bool} {fuel : Nat} {cs : List Value} {x : DataW H × List MemPlace}
theorem trod_fl (h : DataW.trod enc Tryz.prog w base spare held fuel 25 cs = some x) : ∃ f : Dw.Fl, cs = (flC f).toList ∧ Dw.FlR f := by
  obtain ⟨xs, n, _, hx, hl, hlen, hfs⟩ := DataW.trod_struct Tryz.underlying25 h
  rw [c5f] at hl
  obtain ⟨y0, y1, y2, rfl⟩ : ∃ y0 y1 y2, xs = [y0, y1, y2] := by
    match xs, hlen with
    | [y0, y1, y2], _ => exact ⟨y0, y1, y2, rfl⟩
  have h0 := hfs 0 _ rfl
  have h1 := hfs 1 _ rfl
  have h2 := hfs 2 _ rfl
  match cs, hl with
  | [x0, x1, x2, x3, x4], _ =>
    simp only [List.getElem?_cons_zero, List.getElem?_cons_succ] at h0 h1 h2
    obtain ⟨ws0, m0, _, _, _, hw0, k0⟩ := DataW.trod_array Tryz.underlying22 h0
    obtain ⟨ws1, m1, _, _, _, hw1, k1⟩ := DataW.trod_array Tryz.underlying23 h1
    obtain ⟨z0, hz0⟩ := some_of_get (k0 0 (by decide)) (by omega)
    obtain ⟨z1, hz1⟩ := some_of_get (k0 1 (by decide)) (by omega)
    obtain ⟨z2, hz2⟩ := some_of_get (k1 0 (by decide)) (by omega)
    obtain ⟨z3, hz3⟩ := some_of_get (k1 1 (by decide)) (by omega)
    simp only [c5s, c5i, Nat.zero_mul, Nat.one_mul, List.drop_zero] at hz0 hz1 hz2 hz3
    obtain ⟨a, b0, _⟩ := DataW.trod_string Tryz.underlying9 hz0
    obtain ⟨b, b1, _⟩ := DataW.trod_string Tryz.underlying9 hz1
    obtain ⟨e0, b2, _, w0⟩ := DataW.trod_int Tryz.underlying3 hz2
    obtain ⟨e1, b3, _, w1⟩ := DataW.trod_int Tryz.underlying3 hz3
    obtain ⟨li, b4, _, w2⟩ := DataW.trod_int Tryz.underlying3 h2
    cases b0; cases b1; cases b2; cases b3; cases b4
    exact ⟨⟨a.data.toList, b.data.toList, e0, e1, li⟩, rfl, ⟨(i64_wf w2).2, (i64_wf w0).1, (i64_wf w1).1⟩⟩
theorem trod_st (h : DataW.trod enc Tryz.prog w base spare held fuel 27 cs = some x) : ∃ s : Dw.St, cs = (stC s).toList := by
  obtain ⟨xs, n, _, hx, hl, hlen, hfs⟩ := DataW.trod_struct Tryz.underlying27 h
  rw [c5st] at hl
  obtain ⟨y0, y1, y2, y3, y4, y5, rfl⟩ : ∃ y0 y1 y2 y3 y4 y5, xs = [y0, y1, y2, y3, y4, y5] := by
    match xs, hlen with
    | [y0, y1, y2, y3, y4, y5], _ => exact ⟨y0, y1, y2, y3, y4, y5, rfl⟩
  have h0 := hfs 0 _ rfl
  have h1 := hfs 1 _ rfl
  have h2 := hfs 2 _ rfl
  have h3 := hfs 3 _ rfl
  have h4 := hfs 4 _ rfl
  have h5 := hfs 5 _ rfl
  match cs, hl with
  | [x0, x1, x2, x3, x4, x5], _ =>
    simp only [List.getElem?_cons_zero, List.getElem?_cons_succ] at h0 h1 h2 h3 h4 h5
    obtain ⟨a0, b0, _⟩ := DataW.trod_int Tryz.underlying3 h0
    obtain ⟨a1, b1, _⟩ := DataW.trod_bool Tryz.underlying4 h1
    obtain ⟨a2, b2, _⟩ := DataW.trod_bool Tryz.underlying4 h2
    obtain ⟨a3, b3, _⟩ := DataW.trod_int Tryz.underlying3 h3
    obtain ⟨a4, b4, _⟩ := DataW.trod_int Tryz.underlying3 h4
    obtain ⟨a5, b5, _⟩ := DataW.trod_int Tryz.underlying3 h5
    cases b0; cases b1; cases b2; cases b3; cases b4; cases b5
    exact ⟨⟨a0, a1, a2, a3, a4, a5⟩, rfl⟩
theorem trod_su (h : DataW.trod enc Tryz.prog w base spare held fuel 31 cs = some x) : ∃ s : Dw.Su, cs = (suC s).toList ∧ Dw.FlR s.f := by
  obtain ⟨xs, n, _, hx, hl, hlen, hfs⟩ := DataW.trod_struct Tryz.underlying31 h
  rw [c5su] at hl
  obtain ⟨y0, y1, y2, y3, rfl⟩ : ∃ y0 y1 y2 y3, xs = [y0, y1, y2, y3] := by
    match xs, hlen with
    | [y0, y1, y2, y3], _ => exact ⟨y0, y1, y2, y3, rfl⟩
  have h0 := hfs 0 _ rfl
  have h1 := hfs 1 _ rfl
  have h2 := hfs 2 _ rfl
  have h3 := hfs 3 _ rfl
  match cs, hl with
  | [x0, x1, x2, x3, x4, x5, x6, x7, x8, x9, x10, x11, x12, x13], _ =>
    simp only [List.getElem?_cons_zero, List.getElem?_cons_succ] at h0 h1 h2 h3
    obtain ⟨f, hf, hr⟩ := trod_fl h0
    obtain ⟨s, hs⟩ := trod_st h1
    obtain ⟨a2, b2, _⟩ := DataW.trod_int Tryz.underlying3 h2
    obtain ⟨v0, v1, _, _, hl3, g0, g1⟩ := trod_struct2 Tryz.underlying29 h3
    simp only [c5i, List.drop_zero] at g0 g1
    obtain ⟨a3, b3, _⟩ := DataW.trod_int Tryz.underlying3 g0
    obtain ⟨a4, b4, _⟩ := DataW.trod_int Tryz.underlying3 g1
    cases hf; cases hs; cases b2; cases b3; cases b4
    exact ⟨⟨f, s, a2, a3, a4⟩, rfl, hr⟩
end
section
variable {H : Type} {enc : TypeId × Value → H} {w : World} {base : Nat} {spare : Nat → Bool} {held : Bool} {r : Reach} {b0 : Nat} {v : Value} {d : DataW H} {p : List MemPlace}
theorem open_fl20 (hv : Value.okWide Tryz.prog w r b0 25 v) (h : DataW.Trod enc Tryz.prog w base spare held 25 v d p) : ∃ f : Dw.Fl, v = flV f ∧ Dw.FlR f := by
  obtain ⟨cs, rfl, _⟩ := okWide_struct Tryz.underlying25 hv
  obtain ⟨fuel, hf⟩ := h
  obtain ⟨f, hc, hr⟩ := trod_fl hf
  obtain ⟨cs⟩ := cs
  simp only [Value.cells] at hc
  subst hc
  exact ⟨f, rfl, hr⟩
theorem open_su20 (hv : Value.okWide Tryz.prog w r b0 31 v) (h : DataW.Trod enc Tryz.prog w base spare held 31 v d p) : ∃ s : Dw.Su, v = suV s ∧ Dw.FlR s.f := by
  obtain ⟨cs, rfl, _⟩ := okWide_struct Tryz.underlying31 hv
  obtain ⟨fuel, hf⟩ := h
  obtain ⟨f, hc, hr⟩ := trod_su hf
  obtain ⟨cs⟩ := cs
  simp only [Value.cells] at hc
  subst hc
  exact ⟨f, rfl, hr⟩
theorem open_pw20 (hv : Value.okWide Tryz.prog w r b0 36 v) (h : DataW.Trod enc Tryz.prog w base spare held 36 v d p) : ∃ s : Dw.Pw, v = pwV s := by
  obtain ⟨cs, rfl, _⟩ := okWide_struct Tryz.underlying36 hv
  obtain ⟨fuel, hf⟩ := h
  obtain ⟨v0, v1, _, _, hl3, g0, g1⟩ := trod_struct2 Tryz.underlying36 hf
  obtain ⟨cs⟩ := cs
  simp only [Value.cells] at hl3 g0 g1
  rw [c5pw] at hl3
  match cs, hl3 with
  | [x0, x1], _ =>
    simp only [c5i, c5s, List.drop_zero, List.take_succ_cons, List.take_zero, List.drop_succ_cons] at g0 g1
    obtain ⟨a0, b0, _⟩ := DataW.trod_int Tryz.underlying3 g0
    obtain ⟨a1, b1, _⟩ := DataW.trod_string Tryz.underlying9 g1
    cases b0; cases b1
    exact ⟨⟨a0, a1.data.toList⟩, rfl⟩
theorem trod_cm {fuel : Nat} {cs : List Value} {x : DataW H × List MemPlace} (h : DataW.trod enc Tryz.prog w base spare held fuel 34 cs = some x) : ∃ c : Dw.Cmd, cs = (cmC c).toList ∧ c.la < 18446744073709551616 ∧ c.lo < 18446744073709551616 := by
  obtain ⟨xs, n, _, hx, hl, hlen, hfs⟩ := DataW.trod_struct Tryz.underlying34 h
  rw [c5cm] at hl
  obtain ⟨y0, y1, y2, y3, rfl⟩ : ∃ y0 y1 y2 y3, xs = [y0, y1, y2, y3] := by
    match xs, hlen with
    | [y0, y1, y2, y3], _ => exact ⟨y0, y1, y2, y3, rfl⟩
  have h0 := hfs 0 _ rfl
  have h1 := hfs 1 _ rfl
  have h2 := hfs 2 _ rfl
  have h3 := hfs 3 _ rfl
  match cs, hl with
  | [x0, x1, x2, x3], _ =>
    simp only [List.getElem?_cons_zero, List.getElem?_cons_succ] at h0 h1 h2 h3
    obtain ⟨a0, b0, _⟩ := DataW.trod_int Tryz.underlying3 h0
    obtain ⟨a1, b1, _⟩ := DataW.trod_int Tryz.underlying3 h1
    obtain ⟨a2, b2, l2⟩ := trod_f64 Tryz.underlying32 h2
    obtain ⟨a3, b3, l3⟩ := trod_f64 Tryz.underlying32 h3
    cases b0; cases b1; cases b2; cases b3
    exact ⟨⟨a0, a1, a2, a3⟩, rfl, l2, l3⟩
theorem open_cm20 (hv : Value.okWide Tryz.prog w r b0 34 v) (h : DataW.Trod enc Tryz.prog w base spare held 34 v d p) : ∃ c : Dw.Cmd, v = cmV c ∧ c.la < 18446744073709551616 ∧ c.lo < 18446744073709551616 := by
  obtain ⟨cs, rfl, _⟩ := okWide_struct Tryz.underlying34 hv
  obtain ⟨fuel, hf⟩ := h
  obtain ⟨f, hc, hr⟩ := trod_cm hf
  obtain ⟨cs⟩ := cs
  simp only [Value.cells] at hc
  subst hc
  exact ⟨f, rfl, hr⟩
theorem trod_sm {fuel : Nat} {cs : List Value} {x : DataW H × List MemPlace} (h : DataW.trod enc Tryz.prog w base spare held fuel 55 cs = some x) : ∃ a b c : Nat, cs = (smC a b c).toList ∧ b < 18446744073709551616 := by
  obtain ⟨xs, n, _, hx, hl, hlen, hfs⟩ := DataW.trod_struct Tryz.underlying55 h
  rw [c5sm] at hl
  obtain ⟨y0, y1, y2, rfl⟩ : ∃ y0 y1 y2, xs = [y0, y1, y2] := by
    match xs, hlen with
    | [y0, y1, y2], _ => exact ⟨y0, y1, y2, rfl⟩
  have h0 := hfs 0 _ rfl
  have h1 := hfs 1 _ rfl
  have h2 := hfs 2 _ rfl
  match cs, hl with
  | [x0, x1, x2], _ =>
    simp only [List.getElem?_cons_zero, List.getElem?_cons_succ] at h0 h1 h2
    obtain ⟨a0, b0, _⟩ := trod_f64 Tryz.underlying32 h0
    obtain ⟨a1, b1, l1⟩ := trod_f64 Tryz.underlying32 h1
    obtain ⟨a2, b2, _⟩ := trod_f64 Tryz.underlying32 h2
    cases b0; cases b1; cases b2
    exact ⟨a0, a1, a2, rfl, l1⟩
end
def RowsAt {α : Type} (enc : α → List Value) (k : Nat) (ok : α → Prop) (w : World) (v : Value) (l : List α) : Prop :=
  ∃ sa cap, v = .slice sa l.length cap ∧ (∀ x ∈ l, ok x) ∧ (l = [] ∨ ∃ b off, sa = some ⟨b, off, none⟩ ∧ ∀ j x, l[j]? = some x → ∀ i u, (enc x)[i]? = some u → w.cell? ⟨b, off + j * k + i, none⟩ = some u)
theorem RowsAt.next {α : Type} {enc : α → List Value} {k : Nat} {ok : α → Prop} {w w' : World} {v : Value} {l : List α} (h : RowsAt enc k ok w v l) (hb : Below w.heap.size w w') : RowsAt enc k ok w' v l := by
  obtain ⟨sa, cap, rfl, hd, h⟩ := h
  refine ⟨sa, cap, rfl, hd, ?_⟩
  rcases h with h | ⟨b, off, rfl, hc⟩
  · exact .inl h
  · refine .inr ⟨b, off, rfl, fun j x hj i u hi => ?_⟩
    have q := hc j x hj i u hi
    exact (hb.cell (lt_of_cell q)).trans q
theorem open_rows {α : Type} [Inhabited α] {e2 : α → List Value} {k : Nat} {ok : α → Prop} {te ts : TypeId} (hu : Tryz.prog.underlying ts = some (.slice te)) (hk : Tryz.prog.cellsOf te = k) (hpos : 0 < k) (hlen : ∀ a, (e2 a).length = k)
    {H : Type} {enc : TypeId × Value → H} {w : World} {base : Nat} {spare : Nat → Bool} {held : Bool} (hel' : ∀ {fuel : Nat} {cs : List Value} {x : DataW H × List MemPlace}, DataW.trod enc Tryz.prog w base spare held fuel te cs = some x → ∃ a, cs = e2 a ∧ ok a)
    {r : Reach} {b0 : Nat} {v : Value} {d : DataW H} {p : List MemPlace} (hv : Value.okWide Tryz.prog w r b0 ts v) (h : DataW.Trod enc Tryz.prog w base spare held ts v d p) : ∃ l, RowsAt e2 k ok w v l := by
  obtain ⟨sa, len, cap, rfl⟩ := okWide_slice hu hv
  obtain ⟨fuel, hf⟩ := h
  rcases Go.Deep.open_slice hu hf with ⟨hcs, _⟩ | ⟨a, l, c, m, n, D, Pl, hcs, _, hl, _, hm, _, hel⟩
  · simp [Value.cells] at hcs
    obtain ⟨rfl, rfl, rfl⟩ := hcs
    exact ⟨[], none, 0, rfl, by simp, .inl rfl⟩
  · simp [Value.cells] at hcs
    obtain ⟨rfl, rfl, rfl⟩ := hcs
    have hlm : len ≤ m := by rw [hm]; split <;> omega
    obtain ⟨F, hF⟩ := Go.Deep.choose_lt (n := len) (p := fun i (s : α) => ok s ∧ ∀ j, j < k → w.cell? ((a.add (i * k)).add j) = (e2 s)[j]?) (fun i hi => by
      obtain ⟨cs', h1, h2⟩ := hel i (by omega)
      obtain ⟨s, rfl, hd⟩ := hel' h2
      rw [hk] at h1
      obtain ⟨_, _, hc⟩ := World.cells?_some h1
      exact ⟨s, hd, fun j hj => hc j hj⟩)
    refine ⟨(List.range len).map F, some a, cap, by simp, ?_, ?_⟩
    · intro s hs
      obtain ⟨i, hi, rfl⟩ := List.mem_map.1 hs
      exact (hF i (List.mem_range.1 hi)).1
    · rcases Nat.eq_zero_or_pos len with h0 | h0
      · left; rw [h0]; rfl
      · right
        obtain ⟨b, off, spot⟩ := a
        have hs0 : spot = none := by
          have h1 := (hF 0 h0).2 0 hpos
          rw [List.getElem?_eq_getElem (by rw [hlen]; exact hpos)] at h1
          simp only [Nat.zero_mul, Addr.add] at h1
          exact World.cell?_spot h1
        subst hs0
        refine ⟨b, off, rfl, fun j s hj i u hi => ?_⟩
        have hjl : j < len := by
          have := (List.getElem?_eq_some_iff.1 hj).1
          simpa using this
        rw [List.getElem?_map, List.getElem?_range hjl] at hj
        cases hj
        have hik : i < k := by rw [← hlen (F j)]; exact (List.getElem?_eq_some_iff.1 hi).1
        have hc := (hF j hjl).2 i hik
        simp only [Go.WideShapes.add_plain] at hc
        exact hc.trans hi
abbrev cmOk (c : Dw.Cmd) : Prop := c.la < 18446744073709551616 ∧ c.lo < 18446744073709551616
abbrev CmsAt (w : World) (v : Value) (l : List Dw.Cmd) : Prop := RowsAt (fun c => (cmC c).toList) 4 cmOk w v l
structure Dw.Smp where
  a : Nat
  b : Nat
  c : Nat
abbrev smOk (s : Dw.Smp) : Prop := s.b < 18446744073709551616
abbrev SmsAt (w : World) (v : Value) (l : List Dw.Smp) : Prop := RowsAt (fun s : Dw.Smp => (smC s.a s.b s.c).toList) 3 smOk w v l
section
variable {H : Type} {enc : TypeId × Value → H} {w : World} {base : Nat} {spare : Nat → Bool} {held : Bool} {r : Reach} {b0 : Nat} {v : Value} {d : DataW H} {p : List MemPlace}
theorem open_sms (hv : Value.okWide Tryz.prog w r b0 47 v) (h : DataW.Trod enc Tryz.prog w base spare held 47 v d p) : ∃ l, SmsAt w v l := by
  haveI : Inhabited Dw.Smp := ⟨⟨0, 0, 0⟩⟩
  refine open_rows (e2 := fun s : Dw.Smp => (smC s.a s.b s.c).toList) (ok := smOk) Tryz.underlying47 c5sm (by decide) (fun _ => rfl) (fun h => ?_) hv h
  obtain ⟨a, b, c, rfl, hb⟩ := trod_sm h
  exact ⟨⟨a, b, c⟩, rfl, hb⟩
end
end Go.Proofs.YtnaokijcggbfdaaGreatDoor
namespace Go.Proofs.YtnaokijcggbfdaaGreatDoor
open Go.RowKit Go.Shelf
attribute [local go_sem] Oper.semAt_some
theorem CmsAt.get {w : World} {sa : Option Addr} {len cap k : Nat} {l : List Dw.Cmd} {c : Dw.Cmd} (h : CmsAt w (.slice sa len cap) l) (hk : l[k]? = some c) :
    cmOk c ∧ ∃ b off, sa = some ⟨b, off, none⟩ ∧ w.cell? ⟨b, off + k * 4, none⟩ = some (.int .i64 c.ki) ∧ w.cell? ⟨b, off + k * 4 + 1, none⟩ = some (.int .i64 c.n) ∧ w.cell? ⟨b, off + k * 4 + 2, none⟩ = some (.float .f64 c.la) ∧ w.cell? ⟨b, off + k * 4 + 3, none⟩ = some (.float .f64 c.lo) := by
  obtain ⟨sa', cap', he, hd, hs⟩ := h
  cases he
  refine ⟨hd c (List.mem_of_getElem? hk), ?_⟩
  rcases hs with rfl | ⟨b, off, h, hc⟩
  · simp at hk
  · exact ⟨b, off, h, hc k c hk 0 _ rfl, hc k c hk 1 _ rfl, hc k c hk 2 _ rfl, hc k c hk 3 _ rfl⟩
theorem SmsAt.get {w : World} {sa : Option Addr} {len cap k : Nat} {l : List Dw.Smp} {c : Dw.Smp} (h : SmsAt w (.slice sa len cap) l) (hk : l[k]? = some c) :
    smOk c ∧ ∃ b off, sa = some ⟨b, off, none⟩ ∧ w.cell? ⟨b, off + k * 3, none⟩ = some (.float .f64 c.a) ∧ w.cell? ⟨b, off + k * 3 + 1, none⟩ = some (.float .f64 c.b) ∧ w.cell? ⟨b, off + k * 3 + 2, none⟩ = some (.float .f64 c.c) := by
  obtain ⟨sa', cap', he, hd, hs⟩ := h
  cases he
  refine ⟨hd c (List.mem_of_getElem? hk), ?_⟩
  rcases hs with rfl | ⟨b, off, h, hc⟩
  · simp at hk
  · exact ⟨b, off, h, hc k c hk 0 _ rfl, hc k c hk 1 _ rfl, hc k c hk 2 _ rfl⟩
theorem holds20_big (f : Dw.Fl) (d : Dw.Cmd) (l : List Dw.Smp) (v : Value) (hda : d.la < 18446744073709551616) (hdo : d.lo < 18446744073709551616) (hr : Dw.FlR f) (hbg : Dw.big f.a f.b = true) (w : World) (hv : SmsAt w v l) (hn : NoneAt w) :
    Calls Tryz.prog 4 #[flV f, cmV d, v] w fun e w' => e = .returned (.bool true) ∧ Below w.heap.size w w' := by
  have HV0 := Lib.hid hv
  obtain ⟨sa, cap, hvs, -, -⟩ := id hv
  subst hvs
  clear hv
  have hll : (0 : Int) ≤ (l.length : Int) := by omega
  obtain ⟨V, hV⟩ : ∃ V, (w.alloc (.cells (flC f) 25)).alloc (.cells (cmC d) 34) = V := ⟨_, rfl⟩
  have bF : V.heap[w.heap.size]? = some (.cells (flC f) 25) := by rw [← hV]; exact heap_alloc2_old _ _ _
  have bC : V.heap[w.heap.size + 1]? = some (.cells (cmC d) 34) := by rw [← hV]; exact heap_alloc2_new _ _ _
  have hB : Below w.heap.size w V := by rw [← hV]; exact ((Below.refl _ w).alloc (Nat.le_refl _) _).alloc (by simp) _
  have HL := Lib.hid (fun w => big20_any f w)
  rw [hbg] at HL
  go_enter Tryz.func4, Tryz.ntmps4
  go_wp2_with (first | (refine lb bF rfl rfl rfl (by kernel_rfl) ?_))
  try rw [hV]
  clear hV
  refine cb (HL.out _) fun w1 hb => ?_
  replace bF := kp hb bF
  replace bC := kp hb bC
  replace hB := tr hB hb
  clear hb HL
  go_wp2_with fail
  refine cb (shown20_any _ (hn.next hB)) fun wy hb => ?_
  replace hB := tr hB hb
  clear hb
  go_wp2_with fail
  go_ret
  exact ⟨rfl, hB⟩
theorem holds20_long (f : Dw.Fl) (d : Dw.Cmd) (l : List Dw.Smp) (v : Value) (hda : d.la < 18446744073709551616) (hdo : d.lo < 18446744073709551616) (hr : Dw.FlR f) (hbg : Dw.big f.a f.b = false) (hlen : (40 : Int) < (l.length : Int)) (w : World) (hv : SmsAt w v l) (hn : NoneAt w) :
    Calls Tryz.prog 4 #[flV f, cmV d, v] w fun e w' => e = .returned (.bool true) ∧ Below w.heap.size w w' := by
  have HV0 := Lib.hid hv
  obtain ⟨sa, cap, hvs, -, -⟩ := id hv
  subst hvs
  clear hv
  have hll : (0 : Int) ≤ (l.length : Int) := by omega
  obtain ⟨V, hV⟩ : ∃ V, (w.alloc (.cells (flC f) 25)).alloc (.cells (cmC d) 34) = V := ⟨_, rfl⟩
  have bF : V.heap[w.heap.size]? = some (.cells (flC f) 25) := by rw [← hV]; exact heap_alloc2_old _ _ _
  have bC : V.heap[w.heap.size + 1]? = some (.cells (cmC d) 34) := by rw [← hV]; exact heap_alloc2_new _ _ _
  have hB : Below w.heap.size w V := by rw [← hV]; exact ((Below.refl _ w).alloc (Nat.le_refl _) _).alloc (by simp) _
  have HL := Lib.hid (fun w => big20_any f w)
  rw [hbg] at HL
  go_enter Tryz.func4, Tryz.ntmps4
  go_wp2_with (first | (refine lb bF rfl rfl rfl (by kernel_rfl) ?_))
  try rw [hV]
  clear hV
  refine cb (HL.out _) fun w1 hb => ?_
  replace bF := kp hb bF
  replace bC := kp hb bC
  replace hB := tr hB hb
  clear hb HL
  go_wp2_with fail
  refine cb (shown20_any _ (hn.next hB)) fun wy hb => ?_
  replace hB := tr hB hb
  clear hb
  go_wp2_with fail
  go_ret
  exact ⟨rfl, hB⟩
end Go.Proofs.YtnaokijcggbfdaaGreatDoor
