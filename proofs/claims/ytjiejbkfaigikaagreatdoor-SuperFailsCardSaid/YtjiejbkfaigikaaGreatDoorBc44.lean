/- What the statement's proof stands on, part 44: Card20, Rows20, Cms20, Crash20, Fails20. -/
import Derived.Test.YtjiejbkfaigikaaGreatDoorBc14
import Derived.Test.YtjiejbkfaigikaaGreatDoorBc41
import Derived.Deep.Slices
import Derived.Deep.Strs
import Derived.Test.YtjiejbkfaigikaaGreatDoorBc34
import Derived.Test.YtjiejbkfaigikaaGreatDoorBc43
import Derived.Test.YtjiejbkfaigikaaGreatDoorBc13
import Derived.Test.YtjiejbkfaigikaaGreatDoorBc32
set_option linter.unusedSimpArgs false
set_option linter.unusedVariables false
set_option maxRecDepth 100000
set_option maxHeartbeats 4000000
namespace Go.Proofs.YtjiejbkfaigikaaGreatDoor
open Go.ChangeShapes Go.WideShapes Go.ChangeAt Go.RowKit Go.Joins Go.WideElems
open Go.ChangeMaps (open_string shut_string)
theorem f64_wf {b : Nat} (h : (Lit.float .f64 b).wf = true) : b < 18446744073709551616 := by
  simp [Lit.wf] at h
  omega
theorem trod_f64 {H : Type} {enc : TypeId × Value → H} {P : Program} {w : World} {base : Nat} {spare : Nat → Bool} {held : Bool} {fuel : Nat} {t : TypeId} {cs : List Value} {x : DataW H × List MemPlace} (ht : P.underlying t = some (.float .f64))
    (h : DataW.trod enc P w base spare held fuel t cs = some x) : ∃ n, cs = [.float .f64 n] ∧ n < 18446744073709551616 := by
  cases fuel with
  | zero => simp [DataW.trod] at h
  | succ n =>
    unfold DataW.trod at h
    rw [ht] at h
    split at h <;> simp_all
    exact f64_wf (by simp_all)
theorem c5pw : Tryz.prog.cellsOf 36 = 2 := by kernel_rfl
theorem c5cm : Tryz.prog.cellsOf 34 = 4 := by kernel_rfl
section
variable {H : Type} {enc : TypeId × Value → H} {w : World} {base : Nat} {spare : Nat → Bool} {held : Bool} {fuel : Nat} {cs : List Value} {x : DataW H × List MemPlace}
end
section
variable {H : Type} {enc : TypeId × Value → H} {w : World} {base : Nat} {spare : Nat → Bool} {held : Bool} {r : Reach} {b0 : Nat} {v : Value} {d : DataW H} {p : List MemPlace}
theorem open_pw20 (hv : Value.okWide Tryz.prog w r b0 36 v) (h : DataW.Trod enc Tryz.prog w base spare held 36 v d p) : ∃ s : Dw.Pw, v = pwV s := by
  obtain ⟨cs, rfl, _⟩ := okWide_struct Tryz.underlying36 hv
  obtain ⟨fuel, hf⟩ := h
  obtain ⟨v0, v1, _, _, hl3, g0, g1⟩ := trod_struct2 Tryz.underlying36 hf
  obtain ⟨cs⟩ := cs
  simp only [Value.cells] at hl3 g0 g1
  rw [c5pw] at hl3
  match cs, hl3 with
  | [x0, x1], _ =>
    simp only [c5i, c5s, List.drop_zero, List.take_succ_cons, List.take_zero, List.drop_succ_cons] at g0 g1
    obtain ⟨a0, b0, _⟩ := DataW.trod_int Tryz.underlying3 g0
    obtain ⟨a1, b1, _⟩ := DataW.trod_string Tryz.underlying9 g1
    cases b0; cases b1
    exact ⟨⟨a0, a1.data.toList⟩, rfl⟩
theorem trod_cm {fuel : Nat} {cs : List Value} {x : DataW H × List MemPlace} (h : DataW.trod enc Tryz.prog w base spare held fuel 34 cs = some x) : ∃ c : Dw.Cmd, cs = (cmC c).toList ∧ c.la < 18446744073709551616 ∧ c.lo < 18446744073709551616 := by
  obtain ⟨xs, n, _, hx, hl, hlen, hfs⟩ := DataW.trod_struct Tryz.underlying34 h
  rw [c5cm] at hl
  obtain ⟨y0, y1, y2, y3, rfl⟩ : ∃ y0 y1 y2 y3, xs = [y0, y1, y2, y3] := by
    match xs, hlen with
    | [y0, y1, y2, y3], _ => exact ⟨y0, y1, y2, y3, rfl⟩
  have h0 := hfs 0 _ rfl
  have h1 := hfs 1 _ rfl
  have h2 := hfs 2 _ rfl
  have h3 := hfs 3 _ rfl
  match cs, hl with
  | [x0, x1, x2, x3], _ =>
    simp only [List.getElem?_cons_zero, List.getElem?_cons_succ] at h0 h1 h2 h3
    obtain ⟨a0, b0, _⟩ := DataW.trod_int Tryz.underlying3 h0
    obtain ⟨a1, b1, _⟩ := DataW.trod_int Tryz.underlying3 h1
    obtain ⟨a2, b2, l2⟩ := trod_f64 Tryz.underlying32 h2
    obtain ⟨a3, b3, l3⟩ := trod_f64 Tryz.underlying32 h3
    cases b0; cases b1; cases b2; cases b3
    exact ⟨⟨a0, a1, a2, a3⟩, rfl, l2, l3⟩
theorem open_cm20 (hv : Value.okWide Tryz.prog w r b0 34 v) (h : DataW.Trod enc Tryz.prog w base spare held 34 v d p) : ∃ c : Dw.Cmd, v = cmV c ∧ c.la < 18446744073709551616 ∧ c.lo < 18446744073709551616 := by
  obtain ⟨cs, rfl, _⟩ := okWide_struct Tryz.underlying34 hv
  obtain ⟨fuel, hf⟩ := h
  obtain ⟨f, hc, hr⟩ := trod_cm hf
  obtain ⟨cs⟩ := cs
  simp only [Value.cells] at hc
  subst hc
  exact ⟨f, rfl, hr⟩
end
theorem u8_wf {x : Int} (h : (Lit.int .u8 x).wf = true) : ∃ n : Nat, x = (n : Int) ∧ n < 256 := by
  have h0 : IntKind.u8.min = 0 := by decide
  have h1 : IntKind.u8.max = 255 := by decide
  simp [Lit.wf, h0, h1] at h
  exact ⟨x.toNat, by omega, by omega⟩
def RowsAt {α : Type} (enc : α → List Value) (k : Nat) (ok : α → Prop) (w : World) (v : Value) (l : List α) : Prop :=
  ∃ sa cap, v = .slice sa l.length cap ∧ (∀ x ∈ l, ok x) ∧ (l = [] ∨ ∃ b off, sa = some ⟨b, off, none⟩ ∧ ∀ j x, l[j]? = some x → ∀ i u, (enc x)[i]? = some u → w.cell? ⟨b, off + j * k + i, none⟩ = some u)
theorem RowsAt.next {α : Type} {enc : α → List Value} {k : Nat} {ok : α → Prop} {w w' : World} {v : Value} {l : List α} (h : RowsAt enc k ok w v l) (hb : Below w.heap.size w w') : RowsAt enc k ok w' v l := by
  obtain ⟨sa, cap, rfl, hd, h⟩ := h
  refine ⟨sa, cap, rfl, hd, ?_⟩
  rcases h with h | ⟨b, off, rfl, hc⟩
  · exact .inl h
  · refine .inr ⟨b, off, rfl, fun j x hj i u hi => ?_⟩
    have q := hc j x hj i u hi
    exact (hb.cell (lt_of_cell q)).trans q
theorem open_rows {α : Type} [Inhabited α] {e2 : α → List Value} {k : Nat} {ok : α → Prop} {te ts : TypeId} (hu : Tryz.prog.underlying ts = some (.slice te)) (hk : Tryz.prog.cellsOf te = k) (hpos : 0 < k) (hlen : ∀ a, (e2 a).length = k)
    {H : Type} {enc : TypeId × Value → H} {w : World} {base : Nat} {spare : Nat → Bool} {held : Bool} (hel' : ∀ {fuel : Nat} {cs : List Value} {x : DataW H × List MemPlace}, DataW.trod enc Tryz.prog w base spare held fuel te cs = some x → ∃ a, cs = e2 a ∧ ok a)
    {r : Reach} {b0 : Nat} {v : Value} {d : DataW H} {p : List MemPlace} (hv : Value.okWide Tryz.prog w r b0 ts v) (h : DataW.Trod enc Tryz.prog w base spare held ts v d p) : ∃ l, RowsAt e2 k ok w v l := by
  obtain ⟨sa, len, cap, rfl⟩ := okWide_slice hu hv
  obtain ⟨fuel, hf⟩ := h
  rcases Go.Deep.open_slice hu hf with ⟨hcs, _⟩ | ⟨a, l, c, m, n, D, Pl, hcs, _, hl, _, hm, _, hel⟩
  · simp [Value.cells] at hcs
    obtain ⟨rfl, rfl, rfl⟩ := hcs
    exact ⟨[], none, 0, rfl, by simp, .inl rfl⟩
  · simp [Value.cells] at hcs
    obtain ⟨rfl, rfl, rfl⟩ := hcs
    have hlm : len ≤ m := by rw [hm]; split <;> omega
    obtain ⟨F, hF⟩ := Go.Deep.choose_lt (n := len) (p := fun i (s : α) => ok s ∧ ∀ j, j < k → w.cell? ((a.add (i * k)).add j) = (e2 s)[j]?) (fun i hi => by
      obtain ⟨cs', h1, h2⟩ := hel i (by omega)
      obtain ⟨s, rfl, hd⟩ := hel' h2
      rw [hk] at h1
      obtain ⟨_, _, hc⟩ := World.cells?_some h1
      exact ⟨s, hd, fun j hj => hc j hj⟩)
    refine ⟨(List.range len).map F, some a, cap, by simp, ?_, ?_⟩
    · intro s hs
      obtain ⟨i, hi, rfl⟩ := List.mem_map.1 hs
      exact (hF i (List.mem_range.1 hi)).1
    · rcases Nat.eq_zero_or_pos len with h0 | h0
      · left; rw [h0]; rfl
      · right
        obtain ⟨b, off, spot⟩ := a
        have hs0 : spot = none := by
          have h1 := (hF 0 h0).2 0 hpos
          rw [List.getElem?_eq_getElem (by rw [hlen]; exact hpos)] at h1
          simp only [Nat.zero_mul, Addr.add] at h1
          exact World.cell?_spot h1
        subst hs0
        refine ⟨b, off, rfl, fun j s hj i u hi => ?_⟩
        have hjl : j < len := by
          have := (List.getElem?_eq_some_iff.1 hj).1
          simpa using this
        rw [List.getElem?_map, List.getElem?_range hjl] at hj
        cases hj
        have hik : i < k := by rw [← hlen (F j)]; exact (List.getElem?_eq_some_iff.1 hi).1
        have hc := (hF j hjl).2 i hik
        simp only [Go.WideShapes.add_plain] at hc
        exact hc.trans hi
abbrev cmOk (c : Dw.Cmd) : Prop := c.la < 18446744073709551616 ∧ c.lo < 18446744073709551616
abbrev CmsAt (w : World) (v : Value) (l : List Dw.Cmd) : Prop := RowsAt (fun c => (cmC c).toList) 4 cmOk w v l
section
variable {H : Type} {enc : TypeId × Value → H} {w : World} {base : Nat} {spare : Nat → Bool} {held : Bool} {r : Reach} {b0 : Nat} {v : Value} {d : DataW H} {p : List MemPlace}
theorem open_cms (hv : Value.okWide Tryz.prog w r b0 60 v) (h : DataW.Trod enc Tryz.prog w base spare held 60 v d p) : ∃ l, CmsAt w v l := by
  haveI : Inhabited Dw.Cmd := ⟨⟨0, 0, 0, 0⟩⟩
  exact open_rows (e2 := fun c => (cmC c).toList) (ok := cmOk) Tryz.underlying60 c5cm (by decide) (fun _ => rfl) trod_cm hv h
end
end Go.Proofs.YtjiejbkfaigikaaGreatDoor
namespace Go.Proofs.YtjiejbkfaigikaaGreatDoor
open Go.RowKit Go.Shelf
attribute [local go_sem] Oper.semAt_some
theorem Dw.size_m {n : Nat} (h : n < 12) : Dw.size (1 + (n : Int)) = ((24 * (n + 1) + 24 : Nat) : Int) := by unfold Dw.size; rw [if_pos (by omega)]; omega
theorem new20_any (n l : Nat) (hn : n < 12) (hl : l ≤ 1000) (w : World) :
    Calls Tryz.prog 31 #[.int .i64 ((24 * (n + 1) + 24 : Nat) : Int), .int .i64 l] w fun e w' => e = .returned (flV (Dw.fNew (n + 1) l)) ∧ Below w.heap.size w w' :=
  new_any (24 * (n + 1) + 24) l (by omega) hl w
theorem CmsAt.get {w : World} {sa : Option Addr} {len cap k : Nat} {l : List Dw.Cmd} {c : Dw.Cmd} (h : CmsAt w (.slice sa len cap) l) (hk : l[k]? = some c) :
    cmOk c ∧ ∃ b off, sa = some ⟨b, off, none⟩ ∧ w.cell? ⟨b, off + k * 4, none⟩ = some (.int .i64 c.ki) ∧ w.cell? ⟨b, off + k * 4 + 1, none⟩ = some (.int .i64 c.n) ∧ w.cell? ⟨b, off + k * 4 + 2, none⟩ = some (.float .f64 c.la) ∧ w.cell? ⟨b, off + k * 4 + 3, none⟩ = some (.float .f64 c.lo) := by
  obtain ⟨sa', cap', he, hd, hs⟩ := h
  cases he
  refine ⟨hd c (List.mem_of_getElem? hk), ?_⟩
  rcases hs with rfl | ⟨b, off, h, hc⟩
  · simp at hk
  · exact ⟨b, off, h, hc k c hk 0 _ rfl, hc k c hk 1 _ rfl, hc k c hk 2 _ rfl, hc k c hk 3 _ rfl⟩
theorem crash20_any (n u : Nat) (hn8 : n < 256) (hu8 : u < 256) (l : List Dw.Cmd) (v : Value) (d : Dw.Cmd) (p : Dw.Pw) (hda : d.la < 18446744073709551616) (hdo : d.lo < 18446744073709551616) (w : World) (hv : CmsAt w v l) (hn : NoneAt w) :
    Calls Tryz.prog 5 #[.int .u8 n, .int .u8 u, v, cmV d, pwV p] w fun e w' => e = .returned (.bool true) ∧ Below w.heap.size w w' := by
  have HV0 := Lib.hid hv
  obtain ⟨sa, cap, hvs, -, -⟩ := id hv
  subst hvs
  clear hv
  have hll : (0 : Int) ≤ (l.length : Int) := by omega
  obtain ⟨V, hV⟩ : ∃ V, (w.alloc (.cells (cmC d) 34)).alloc (.cells (pwC p) 36) = V := ⟨_, rfl⟩
  have bC : V.heap[w.heap.size]? = some (.cells (cmC d) 34) := by rw [← hV]; exact heap_alloc2_old _ _ _
  have bP : V.heap[w.heap.size + 1]? = some (.cells (pwC p) 36) := by rw [← hV]; exact heap_alloc2_new _ _ _
  have hB : Below w.heap.size w V := by rw [← hV]; exact ((Below.refl _ w).alloc (Nat.le_refl _) _).alloc (by simp) _
  obtain ⟨p0, p1⟩ := cells2 bP
  by_cases hlen : (40 : Int) < (l.length : Int)
  · go_enter Tryz.func5, Tryz.ntmps5
    go_wp2_with fail
    try rw [hV]
    clear hV
    refine cb (shown20_any _ (hn.next hB)) fun wy hb => ?_
    replace hB := tr hB hb
    clear hb
    go_wp2_with fail
    go_ret
    exact ⟨rfl, hB⟩
  by_cases hm : (500 : Int) < (p.mask.length : Int)
  · go_enter Tryz.func5, Tryz.ntmps5
    go_wp2_with fail
    try rw [hV]
    clear hV
    refine cb (shown20_any _ (hn.next hB)) fun wy hb => ?_
    replace hB := tr hB hb
    clear hb
    go_wp2_with fail
    go_ret
    exact ⟨rfl, hB⟩
  have a1 : IntKind.i64.wrap (n : Int) = (n : Int) := IntWalk.i64_in _ (by omega)
  have a2 : Int.tmod (n : Int) 12 = ((n % 12 : Nat) : Int) := rfl
  have ha : n % 12 < 12 := Nat.mod_lt _ (by decide)
  have a3 : IntKind.i64.wrap (1 + ((n % 12 : Nat) : Int)) = 1 + ((n % 12 : Nat) : Int) := IntWalk.i64_in _ (by omega)
  have c1 : IntKind.i64.wrap (u : Int) = (u : Int) := IntWalk.i64_in _ (by omega)
  have c2 : Int.tmod (u : Int) 20 = ((u % 20 : Nat) : Int) := rfl
  have hc : u % 20 < 20 := Nat.mod_lt _ (by decide)
  have c3 : IntKind.i64.wrap (3 + ((u % 20 : Nat) : Int)) = 3 + ((u % 20 : Nat) : Int) := IntWalk.i64_in _ (by omega)
  have HLL := Lib.hid hlen
  go_enter Tryz.func5, Tryz.ntmps5
  go_wp2_with fail
  try rw [hV]
  clear hV
  refine cb (shown20_any _ (hn.next hB)) fun w0 hb => ?_
  replace bC := kp hb bC
  replace bP := kp hb bP
  replace hB := tr hB hb
  clear hb p0 p1 hm hlen
  go_wp2_with fail
  obtain ⟨m, hm1⟩ : ∃ m, m = n % 12 := ⟨_, rfl⟩
  rw [← hm1] at ha
  rw [show (1 + (n : Int) % 12) = 1 + (m : Int) from by omega]
  clear a1 a2 a3 hm1 hn8
  refine cb (rsize_any _ _) fun w1 hb => ?_
  replace bC := kp hb bC
  replace bP := kp hb bP
  replace hB := tr hB hb
  clear hb
  rw [Dw.size_m ha]
  go_wp2_with fail
  obtain ⟨q, hq1⟩ : ∃ q, q = 3 + u % 20 := ⟨_, rfl⟩
  rw [show (3 + (u : Int) % 20) = ((q : Nat) : Int) from by omega]
  have hq : 3 ≤ q ∧ q ≤ 22 := by omega
  clear c1 c2 c3 hc hq1 hu8
  refine cb (new20_any m q ha (by omega) _) fun w2 hb => ?_
  replace bC := kp hb bC
  replace bP := kp hb bP
  replace hB := tr hB hb
  clear hb
  obtain ⟨hg0, hp0, hs0⟩ := Dw.goes_stood (n := m + 1) (li := (q : Int)) (by omega) (by omega) (by omega) (by omega)
  have hO := Dw.new_ok (n := m + 1) (by omega) (li := (q : Int)) (by omega)
  have HST := Lib.hid (fun w hn => stood20_any (Dw.fNew (m + 1) (q : Int)) hO w hn)
  rw [show Dw.seen3 (Dw.boot (Dw.fNew (m + 1) (q : Int))) 1 = Dw.stood (Dw.fNew (m + 1) (q : Int)) from rfl] at HST
  generalize Dw.stood (Dw.fNew (m + 1) (q : Int)) = X0 at *
  generalize Dw.fNew (m + 1) (q : Int) = F at *
  clear hO ha
  have HG0 := Lib.hid hg0; have HP0 := Lib.hid hp0; have HS0 := Lib.hid hs0
  clear hg0 hp0 hs0
  go_wp2_with fail
  refine cb (HST.out _ (hn.next hB)) fun w3 hb => ?_
  replace bC := kp hb bC
  replace bP := kp hb bP
  replace hB := tr hB hb
  clear hb HST
  have bX := han w3 (.cells (suC X0) 31)
  have lbC := block_lt bC
  have lbP := block_lt bP
  replace bC := hao w3 (.cells (suC X0) 31) bC
  replace bP := hao w3 (.cells (suC X0) 31) bP
  have lzbX := hB.size
  replace hB := hB.alloc hB.size (.cells (suC X0) 31)
  obtain ⟨gX, hgX⟩ : ∃ g, w3.heap.size = g := ⟨_, rfl⟩
  obtain ⟨W1, hW1⟩ : ∃ W, w3.alloc (.cells (suC X0) 31) = W := ⟨_, rfl⟩
  rw [hW1] at bX bC bP hB
  rw [hgX] at bX lbC lbP lzbX
  have HW1 := Lib.hid hW1
  clear hW1
  go_wp2_with (first | (refine nb rfl rfl rfl rfl (by go_simp; first | done | with_reducible rfl | exact rfl) rfl rfl (by kernel_rfl) ?_; rw [HW1.out, hgX]))
  clear HW1 hgX
  go_loopw [12] (fun i wr => ∃ (k : Nat) (x : Dw.Su), k ≤ l.length ∧ i = .int .i64 k ∧ Dw.Goes (m + 1) k (q : Int) x ∧ wr.heap[gX]? = some (.cells (suC x) 31 (0, 0)) ∧ wr.heap[w.heap.size]? = some (.cells (cmC d) 34 (0, 0)) ∧ wr.heap[w.heap.size + 1]? = some (.cells (pwC p) 36 (0, 0)) ∧ Below w.heap.size w wr) (fun i _ => l.length - (intOf i).toNat)
  case atStart => exact ⟨0, X0, Nat.zero_le _, rfl, HG0.out, bX, bC, bP, hB⟩
  case round =>
    clear bX bC bP hB HG0 HP0 HS0
    obtain ⟨k, x, hk, rfl, hg, bX, bC, bP, hB⟩ := hrel
    by_cases hlt : k < l.length
    · have hlt' : (k : Int) < (l.length : Int) := by omega
      obtain ⟨c, hce⟩ : ∃ c, l[k]? = some c := ⟨l[k], List.getElem?_eq_getElem hlt⟩
      have hv := HV0.out.next hB
      obtain ⟨⟨hla, hlo⟩, bb, off, hsa, k0, k1, k2, k3⟩ := CmsAt.get hv hce
      subst hsa
      clear hv
      have hk40 : k + 1 ≤ 40 := by have := HLL.out; omega
      have hg' := Dw.goes_next hg (by omega) c
      have HC := Lib.hid (fun w hn => scommand_any x c Dw.whole hg.ok hg.leg hla hlo w hn)
      have HW := Lib.hid (fun w => whole20_any w)
      generalize Dw.commandX x c Dw.whole = Y at *
      generalize Dw.commandE x c Dw.whole = E at *
      have HG := Lib.hid hg'
      clear hce hla hlo hg hg'
      obtain ⟨⟨x0, x1, x2, x3, x4⟩, ⟨x5, x6, x7, x8, x9, x10⟩, x11, x12, x13⟩ := cells14 bX
      have HbC := Lib.hid bC
      have HbP := Lib.hid bP
      have HX := Lib.hid bX; have HB := Lib.hid hB; have HN := Lib.hid (hn.next hB)
      clear bX hB bC bP
      go_wp2_with fail
      refine RT.wp_letter (fun k => k = gX) (fun k => decide (9 ≤ k)) [0,1,2,3,4,5,6,7,8,9] 10 11 (RT.Stored wr gX (suC Y) 31) rfl (by kernel_rfl) (by kernel_rfl) rfl (fun A B h hk => h.keep hk) ?_
      (apply RT.rat; (focus (intro w' w'' hk hk2; obtain ⟨i0,i1,i2,i3,i4,i5,i6,i7⟩ := look8 hk x0 x1 x2 x3 x4 x5 x6 x7; obtain ⟨i8,i9,i10,i11,i12,i13,j0,j1⟩ := look8 hk x8 x9 x10 x11 x12 x13 k0 k1; obtain ⟨j2,j3⟩ := look2 hk k2 k3; repeat' (first | exact RT.rn | ((first | refine' RT.rv ?_ rfl rfl rfl (by go_simp; first | done | with_reducible rfl | exact rfl) | refine' RT.rc ?_ (by exact rfl) (by exact rfl) (by exact rfl) (by go_simp; first | done | (constructor <;> with_reducible rfl) | with_reducible rfl) (by first | exact HW.out w' | exact HC.out w' (HN.out.keep hk)) | refine' RT.rl ?_ rfl rfl rfl (by go_simp; first | done | with_reducible rfl | exact rfl) | refine' RT.rs ?_ rfl rfl); try simp only [Act.put, List.setIfInBounds_toArray, List.set_cons_zero, List.set_cons_succ])))))
      refine RT.pl_nil ⟨rfl, RT.stb HX.out rfl rfl rfl (by kernel_rfl), ?_⟩
      rintro W5 ⟨hk5, bX⟩
      have bC := (hk5.block _ (block_lt HbC.out) (by omega)).trans HbC.out
      have bP := (hk5.block _ (block_lt HbP.out) (by omega)).trans HbP.out
      have hB := HB.out.trans (hk5.below HB.out.size (fun k hk => by omega))
      simp only [List.drop_succ_cons, List.drop_zero]
      clear hk5 HX HB HN k0 k1 k2 k3 x0 x1 x2 x3 x4 x5 x6 x7 x8 x9 x10 x11 x12 x13 HbC HbP
      go_wp2_with fail
      go_roundw
      case rel => exact ⟨k + 1, Y, hlt, by go_num, HG.out, bX, bC, bP, hB⟩
      case measure => first | done | (simp [intOf]; done) | (simp [intOf]; omega)
    · have hge : ¬ (k : Int) < (l.length : Int) := by omega
      have hk40 : k ≤ 40 := by have := HLL.out; omega
      have hok := Dw.command_ok hg d p
      have hiso := Dw.legal_iso hg.leg
      have HC := Lib.hid (fun w hn => scommand_any x d p hg.ok hg.leg hda hdo w hn)
      have HBt := Lib.hid (fun w hn => boot_any (Dw.commandX x d p).f hok w hn)
      have HD := Lib.hid (fun w => rdelta_any x.s (by omega) d w)
      have HNO := Lib.hid (fun h => Dw.crash_no hg d p h)
      have HYE := Lib.hid (fun h h' => Dw.crash_yes hg (by omega) d p h h')
      have hph := hg.ph
      obtain ⟨bs, hbs⟩ : ∃ t, Dw.boot (Dw.commandX x d p).f = ⟨(Dw.commandX x d p).f, t, 0, 0, 0⟩ := ⟨_, rfl⟩
      have hbx := hg.boot
      rw [hbs] at HBt
      generalize Dw.deltaS x.s d = D at *
      generalize Dw.deltaE x.s d = E2 at *
      rw [hbs] at HYE
      obtain ⟨Y, hY⟩ : ∃ Y, Dw.commandX x d p = Y := ⟨_, rfl⟩
      rw [hY] at HC HBt HNO hbs
      generalize Dw.commandE x d p = E at *
      have HBS := Lib.hid hbs; have HPH := Lib.hid hph; have HNC := Lib.hid HNO; have HYC := Lib.hid HYE
      clear hY hg hok hiso hbs hph hbx HNO HYE hk hk40
      go_wp2_with (first | (refine lb bX rfl rfl rfl (by kernel_rfl) ?_) | (refine lb bC rfl rfl rfl (by kernel_rfl) ?_) | (refine lb bP rfl rfl rfl (by kernel_rfl) ?_))
      refine cb (HC.out _ (hn.next hB)) fun w5 hb => ?_
      replace bX := kp hb bX
      replace bC := kp hb bC
      replace hB := tr hB hb
      clear hb HC bP hge hlt
      have bY := han w5 (.cells (suC Y) 31)
      have lbX := block_lt bX
      have lbC := block_lt bC
      replace bX := hao w5 (.cells (suC Y) 31) bX
      replace bC := hao w5 (.cells (suC Y) 31) bC
      have lzbY := hB.size
      replace hB := hB.alloc hB.size (.cells (suC Y) 31)
      obtain ⟨gY, hgY⟩ : ∃ g, w5.heap.size = g := ⟨_, rfl⟩
      obtain ⟨W2, hW2⟩ : ∃ W, w5.alloc (.cells (suC Y) 31) = W := ⟨_, rfl⟩
      rw [hW2] at bY bX bC hB
      rw [hgY] at bY lbX lbC lzbY
      have HW2 := Lib.hid hW2
      clear hW2 lbX lbC lzbY
      go_wp2_with (first | (refine nb rfl rfl rfl rfl (by go_simp; first | done | with_reducible rfl | exact rfl) rfl rfl (by kernel_rfl) ?_; rw [HW2.out, hgY]) | (refine lp 25 0 (flC Y.f) bY rfl rfl rfl (by kernel_rfl) (by rfl) ?_))
      clear HW2 hgY
      refine cb (HBt.out _ (hn.next hB)) fun w6 hb => ?_
      replace bX := kp hb bX
      replace bC := kp hb bC
      replace bY := kp hb bY
      replace hB := tr hB hb
      clear hb
      have bB := han w6 (.cells (suC ⟨Y.f, bs, 0, 0, 0⟩) 31)
      have lbX := block_lt bX
      have lbC := block_lt bC
      have lbY := block_lt bY
      replace bX := hao w6 (.cells (suC ⟨Y.f, bs, 0, 0, 0⟩) 31) bX
      replace bC := hao w6 (.cells (suC ⟨Y.f, bs, 0, 0, 0⟩) 31) bC
      replace bY := hao w6 (.cells (suC ⟨Y.f, bs, 0, 0, 0⟩) 31) bY
      have lzbB := hB.size
      replace hB := hB.alloc hB.size (.cells (suC ⟨Y.f, bs, 0, 0, 0⟩) 31)
      obtain ⟨gB, hgB⟩ : ∃ g, w6.heap.size = g := ⟨_, rfl⟩
      obtain ⟨W3, hW3⟩ : ∃ W, w6.alloc (.cells (suC ⟨Y.f, bs, 0, 0, 0⟩) 31) = W := ⟨_, rfl⟩
      rw [hW3] at bB bX bC bY hB
      rw [hgB] at bB lbX lbC lbY lzbB
      have HW3 := Lib.hid hW3
      clear hW3 lbX lbC lbY lzbB
      go_wp2_with (first | (refine nb rfl rfl rfl rfl (by go_simp; first | done | with_reducible rfl | exact rfl) rfl rfl (by kernel_rfl) ?_; rw [HW3.out, hgB]) | (refine lp 27 5 (stC x.s) bX rfl rfl rfl (by kernel_rfl) (by rfl) ?_) | (refine lb bC rfl rfl rfl (by kernel_rfl) ?_))
      clear HW3 hgB
      refine cb (HD.out _) fun w7 hb => ?_
      replace bX := kp hb bX
      replace bY := kp hb bY
      replace bB := kp hb bB
      replace hB := tr hB hb
      clear hb HD bC
      have bD := han w7 (.cells (stC D) 42)
      have lbX := block_lt bX
      have lbY := block_lt bY
      have lbB := block_lt bB
      replace bX := hao w7 (.cells (stC D) 42) bX
      replace bY := hao w7 (.cells (stC D) 42) bY
      replace bB := hao w7 (.cells (stC D) 42) bB
      have lzbD := hB.size
      replace hB := hB.alloc hB.size (.cells (stC D) 42)
      obtain ⟨gD, hgD⟩ : ∃ g, w7.heap.size = g := ⟨_, rfl⟩
      obtain ⟨W4, hW4⟩ : ∃ W, w7.alloc (.cells (stC D) 42) = W := ⟨_, rfl⟩
      rw [hW4] at bD bX bY bB hB
      rw [hgD] at bD lbX lbY lbB lzbD
      have HW4 := Lib.hid hW4
      clear hW4 lbX lbY lbB lzbD
      obtain ⟨-, -, x11, -, -⟩ := cells14 bX
      by_cases hno : E2 ≠ 0 ∨ x.ph ≠ 1
      · obtain ⟨e1, e2, e3⟩ := HNC.out.out hno
        have hbs := HBS.out
        clear HBS HNC HYC HPH
        subst e1
        obtain rfl : bs = Y.s := by rw [hbs] at e2; exact e2
        clear e2 hbs
        have hce : (E != 0) = true := by simpa using e3
        have HST := Lib.hid (fun u v w => st_self Y.s u v w); have HSS := Lib.hid (fun u v w => su_self Y u v w)
        clear e3 HBt
        by_cases q : E2 = 0
        · have q1 : (Y.ph != 1) = true := by simpa using hno.resolve_left (fun h => h q)
          subst q
          clear hno
          go_wp2_with (first | (refine nb rfl rfl rfl rfl (by go_simp; first | done | with_reducible rfl | exact rfl) rfl rfl (by kernel_rfl) ?_; rw [HW4.out, hgD]) | (refine lbo bY rfl rfl rfl (by kernel_rfl) ?_) | (refine lbo bX rfl rfl rfl (by kernel_rfl) ?_) | (refine lpo 27 5 (stC Y.s) bB rfl rfl rfl (by kernel_rfl) (by rfl) ?_) | (refine lpo 27 5 (stC Y.s) bX rfl rfl rfl (by kernel_rfl) (by rfl) ?_) | (refine bno (HSS.out _ _ _) rfl rfl rfl rfl ?_) | (refine bno (HST.out _ _ _) rfl rfl rfl rfl ?_))
          go_ret
          exact ⟨by first | rfl | simp, hB⟩
        · have q1 : (E2 != 0) = true := by simpa using q
          clear hno q
          go_wp2_with (first | (refine nb rfl rfl rfl rfl (by go_simp; first | done | with_reducible rfl | exact rfl) rfl rfl (by kernel_rfl) ?_; rw [HW4.out, hgD]) | (refine lbo bY rfl rfl rfl (by kernel_rfl) ?_) | (refine lbo bX rfl rfl rfl (by kernel_rfl) ?_) | (refine lpo 27 5 (stC Y.s) bB rfl rfl rfl (by kernel_rfl) (by rfl) ?_) | (refine lpo 27 5 (stC Y.s) bX rfl rfl rfl (by kernel_rfl) (by rfl) ?_) | (refine bno (HSS.out _ _ _) rfl rfl rfl rfl ?_) | (refine bno (HST.out _ _ _) rfl rfl rfl rfl ?_))
          go_ret
          exact ⟨by first | rfl | simp, hB⟩
      · obtain ⟨q1, q2⟩ : E2 = 0 ∧ x.ph = 1 := by constructor; exact Decidable.byContradiction (fun h => hno (.inl h)); exact Decidable.byContradiction (fun h => hno (.inr h))
        obtain ⟨y1, y2⟩ := HYC.out.out q1 q2
        clear HBS HNC HYC HPH hno
        subst q1
        rw [q2] at x11
        clear q2
        obtain ⟨a, ha⟩ : ∃ a, decide (bs = x.s) = a := ⟨_, rfl⟩
        obtain ⟨b, hb⟩ : ∃ b, decide (bs = D) = b := ⟨_, rfl⟩
        obtain ⟨c, hc⟩ : ∃ c, (E != 0) = c := ⟨_, rfl⟩
        have HA := Lib.hid (fun u v w => st_eq u v bs x.s w); have HQ := Lib.hid (fun u v w => rst_eq u v bs D w); have HSS := Lib.hid (fun u v w => su_self ⟨Y.f, bs, 0, 0, 0⟩ u v w)
        rw [ha] at HA
        rw [hb] at HQ
        have hcomb : (a = true ∨ b = true) ∧ (c = true ∨ b = true) := by rw [← ha, ← hb, ← hc]; simpa using And.intro y1 y2
        clear ha hb y1 y2
        have hcs : (a = true ∧ b = true ∧ c = true) ∨ (a = true ∧ b = true ∧ c = false) ∨ (a = false ∧ b = true ∧ c = true) ∨ (a = false ∧ b = true ∧ c = false) ∨ (a = true ∧ b = false ∧ c = true) := by revert hcomb; cases a <;> cases b <;> cases c <;> simp
        clear hcomb
        rcases hcs with ⟨rfl, rfl, rfl⟩ | ⟨rfl, rfl, rfl⟩ | ⟨rfl, rfl, rfl⟩ | ⟨rfl, rfl, rfl⟩ | ⟨rfl, rfl, rfl⟩
        · go_wp2_with (first | (refine nb rfl rfl rfl rfl (by go_simp; first | done | with_reducible rfl | exact rfl) rfl rfl (by kernel_rfl) ?_; rw [HW4.out, hgD]))
          obtain ⟨-, ⟨x5, x6, x7, x8, x9, x10⟩, -, -, -⟩ := cells14 bX
          obtain ⟨⟨y0, y1, y2, y3, y4⟩, ⟨y5, y6, y7, y8, y9, y10⟩, y11, y12, y13⟩ := cells14 bB
          obtain ⟨d0, d1, d2, d3, d4, d5⟩ := cells6 bD
          have HN := Lib.hid (hn.next hB); have HB := Lib.hid hB
          clear bX bB bD bY hB HW4 hgD x11
          refine wp_pure [0,1,2,3,4,5,6,7,8,9,10,11,12,13,14,15,16,17,18,19,20,21,22,23,24,25,26,27] 28 (by kernel_rfl) (by kernel_rfl) rfl ?_
          (apply rat; (focus (intro w' hk; have hn' := HN.out.keep hk; obtain ⟨i5,i6,i7,i8,i9,i10,j0,j1⟩ := look8 hk x5 x6 x7 x8 x9 x10 y0 y1; obtain ⟨j2,j3,j4,j5,j6,j7,j8,j9⟩ := look8 hk y2 y3 y4 y5 y6 y7 y8 y9; obtain ⟨j10,j11,j12,j13,m0,m1,m2,m3⟩ := look8 hk y10 y11 y12 y13 d0 d1 d2 d3; obtain ⟨m4,m5⟩ := look2 hk d4 d5; (iterate 4 (refine' rv ?_ rfl rfl (by go_simp; first | done | with_reducible rfl | exact rfl); try simp only [Act.put, List.setIfInBounds_toArray, List.set_cons_zero, List.set_cons_succ])); (refine' rv ?_ rfl rfl (by exact exec_bin rfl rfl rfl (HA.out _ _ w')); try simp only [Act.put, List.setIfInBounds_toArray, List.set_cons_zero, List.set_cons_succ]); (refine' rv ?_ rfl rfl (by go_simp; first | done | with_reducible rfl | exact rfl); try simp only [Act.put, List.setIfInBounds_toArray, List.set_cons_zero, List.set_cons_succ]); (iterate 4 (refine' rs ?_ rfl rfl; try simp only [Act.put, List.setIfInBounds_toArray, List.set_cons_zero, List.set_cons_succ])); (iterate 5 (refine' rv ?_ rfl rfl (by go_simp; first | done | with_reducible rfl | exact rfl); try simp only [Act.put, List.setIfInBounds_toArray, List.set_cons_zero, List.set_cons_succ])); (iterate 4 (refine' rs ?_ rfl rfl; try simp only [Act.put, List.setIfInBounds_toArray, List.set_cons_zero, List.set_cons_succ])); (iterate 5 (refine' rv ?_ rfl rfl (by go_simp; first | done | with_reducible rfl | exact rfl); try simp only [Act.put, List.setIfInBounds_toArray, List.set_cons_zero, List.set_cons_succ])); (refine' rc ?_ (by exact rfl) (by exact rfl) (by go_simp; first | done | (constructor <;> with_reducible rfl) | with_reducible rfl) (by exact HBt.out w' hn'); try simp only [Act.put, List.setIfInBounds_toArray, List.set_cons_zero, List.set_cons_succ]); (refine' rv ?_ rfl rfl (by go_simp; first | done | with_reducible rfl | exact rfl); try simp only [Act.put, List.setIfInBounds_toArray, List.set_cons_zero, List.set_cons_succ]); (refine' rv ?_ rfl rfl (by exact exec_bin rfl rfl rfl (HSS.out _ _ w')); try simp only [Act.put, List.setIfInBounds_toArray, List.set_cons_zero, List.set_cons_succ]); (refine' rv ?_ rfl rfl (by go_simp; first | done | with_reducible rfl | exact rfl); try simp only [Act.put, List.setIfInBounds_toArray, List.set_cons_zero, List.set_cons_succ]); (exact rn))))
          intro w8 hk8
          simp only [List.drop_succ_cons, List.drop_zero]
          have hB := HB.out.trans (hk8.whole.mono HB.out.size)
          clear hk8 HB HN x5 x6 x7 x8 x9 x10 y0 y1 y2 y3 y4 y5 y6 y7 y8 y9 y10 y11 y12 y13 d0 d1 d2 d3 d4 d5
          go_wp2_with fail
          go_ret
          exact ⟨by first | rfl | simp, hB⟩
        · go_wp2_with (first | (refine nb rfl rfl rfl rfl (by go_simp; first | done | with_reducible rfl | exact rfl) rfl rfl (by kernel_rfl) ?_; rw [HW4.out, hgD]))
          obtain ⟨-, ⟨x5, x6, x7, x8, x9, x10⟩, -, -, -⟩ := cells14 bX
          obtain ⟨⟨y0, y1, y2, y3, y4⟩, ⟨y5, y6, y7, y8, y9, y10⟩, y11, y12, y13⟩ := cells14 bB
          obtain ⟨d0, d1, d2, d3, d4, d5⟩ := cells6 bD
          have HN := Lib.hid (hn.next hB); have HB := Lib.hid hB
          clear bX bB bD bY hB HW4 hgD x11
          refine wp_pure [0,1,2,3,4,5,6,7,8,9,10,11,12,13,14,15,16,17,18,19,20,21,22,23,24,25,26,27] 28 (by kernel_rfl) (by kernel_rfl) rfl ?_
          (apply rat; (focus (intro w' hk; have hn' := HN.out.keep hk; obtain ⟨i5,i6,i7,i8,i9,i10,j0,j1⟩ := look8 hk x5 x6 x7 x8 x9 x10 y0 y1; obtain ⟨j2,j3,j4,j5,j6,j7,j8,j9⟩ := look8 hk y2 y3 y4 y5 y6 y7 y8 y9; obtain ⟨j10,j11,j12,j13,m0,m1,m2,m3⟩ := look8 hk y10 y11 y12 y13 d0 d1 d2 d3; obtain ⟨m4,m5⟩ := look2 hk d4 d5; (iterate 4 (refine' rv ?_ rfl rfl (by go_simp; first | done | with_reducible rfl | exact rfl); try simp only [Act.put, List.setIfInBounds_toArray, List.set_cons_zero, List.set_cons_succ])); (refine' rv ?_ rfl rfl (by exact exec_bin rfl rfl rfl (HA.out _ _ w')); try simp only [Act.put, List.setIfInBounds_toArray, List.set_cons_zero, List.set_cons_succ]); (refine' rv ?_ rfl rfl (by go_simp; first | done | with_reducible rfl | exact rfl); try simp only [Act.put, List.setIfInBounds_toArray, List.set_cons_zero, List.set_cons_succ]); (iterate 4 (refine' rs ?_ rfl rfl; try simp only [Act.put, List.setIfInBounds_toArray, List.set_cons_zero, List.set_cons_succ])); (iterate 8 (refine' rv ?_ rfl rfl (by go_simp; first | done | with_reducible rfl | exact rfl); try simp only [Act.put, List.setIfInBounds_toArray, List.set_cons_zero, List.set_cons_succ])); (refine' rv ?_ rfl rfl (by exact exec_bin rfl rfl rfl (HQ.out _ _ w')); try simp only [Act.put, List.setIfInBounds_toArray, List.set_cons_zero, List.set_cons_succ]); (iterate 5 (refine' rv ?_ rfl rfl (by go_simp; first | done | with_reducible rfl | exact rfl); try simp only [Act.put, List.setIfInBounds_toArray, List.set_cons_zero, List.set_cons_succ])); (refine' rc ?_ (by exact rfl) (by exact rfl) (by go_simp; first | done | (constructor <;> with_reducible rfl) | with_reducible rfl) (by exact HBt.out w' hn'); try simp only [Act.put, List.setIfInBounds_toArray, List.set_cons_zero, List.set_cons_succ]); (refine' rv ?_ rfl rfl (by go_simp; first | done | with_reducible rfl | exact rfl); try simp only [Act.put, List.setIfInBounds_toArray, List.set_cons_zero, List.set_cons_succ]); (refine' rv ?_ rfl rfl (by exact exec_bin rfl rfl rfl (HSS.out _ _ w')); try simp only [Act.put, List.setIfInBounds_toArray, List.set_cons_zero, List.set_cons_succ]); (refine' rv ?_ rfl rfl (by go_simp; first | done | with_reducible rfl | exact rfl); try simp only [Act.put, List.setIfInBounds_toArray, List.set_cons_zero, List.set_cons_succ]); (exact rn))))
          intro w8 hk8
          simp only [List.drop_succ_cons, List.drop_zero]
          have hB := HB.out.trans (hk8.whole.mono HB.out.size)
          clear hk8 HB HN x5 x6 x7 x8 x9 x10 y0 y1 y2 y3 y4 y5 y6 y7 y8 y9 y10 y11 y12 y13 d0 d1 d2 d3 d4 d5
          go_wp2_with fail
          go_ret
          exact ⟨by first | rfl | simp, hB⟩
        · go_wp2_with (first | (refine nb rfl rfl rfl rfl (by go_simp; first | done | with_reducible rfl | exact rfl) rfl rfl (by kernel_rfl) ?_; rw [HW4.out, hgD]))
          obtain ⟨-, ⟨x5, x6, x7, x8, x9, x10⟩, -, -, -⟩ := cells14 bX
          obtain ⟨⟨y0, y1, y2, y3, y4⟩, ⟨y5, y6, y7, y8, y9, y10⟩, y11, y12, y13⟩ := cells14 bB
          obtain ⟨d0, d1, d2, d3, d4, d5⟩ := cells6 bD
          have HN := Lib.hid (hn.next hB); have HB := Lib.hid hB
          clear bX bB bD bY hB HW4 hgD x11
          refine wp_pure [0,1,2,3,4,5,6,7,8,9,10,11,12,13,14,15,16,17,18,19,20,21,22,23,24,25,26,27] 28 (by kernel_rfl) (by kernel_rfl) rfl ?_
          (apply rat; (focus (intro w' hk; have hn' := HN.out.keep hk; obtain ⟨i5,i6,i7,i8,i9,i10,j0,j1⟩ := look8 hk x5 x6 x7 x8 x9 x10 y0 y1; obtain ⟨j2,j3,j4,j5,j6,j7,j8,j9⟩ := look8 hk y2 y3 y4 y5 y6 y7 y8 y9; obtain ⟨j10,j11,j12,j13,m0,m1,m2,m3⟩ := look8 hk y10 y11 y12 y13 d0 d1 d2 d3; obtain ⟨m4,m5⟩ := look2 hk d4 d5; (iterate 4 (refine' rv ?_ rfl rfl (by go_simp; first | done | with_reducible rfl | exact rfl); try simp only [Act.put, List.setIfInBounds_toArray, List.set_cons_zero, List.set_cons_succ])); (refine' rv ?_ rfl rfl (by exact exec_bin rfl rfl rfl (HA.out _ _ w')); try simp only [Act.put, List.setIfInBounds_toArray, List.set_cons_zero, List.set_cons_succ]); (iterate 4 (refine' rv ?_ rfl rfl (by go_simp; first | done | with_reducible rfl | exact rfl); try simp only [Act.put, List.setIfInBounds_toArray, List.set_cons_zero, List.set_cons_succ])); (refine' rv ?_ rfl rfl (by exact exec_bin rfl rfl rfl (HQ.out _ _ w')); try simp only [Act.put, List.setIfInBounds_toArray, List.set_cons_zero, List.set_cons_succ]); (iterate 5 (refine' rv ?_ rfl rfl (by go_simp; first | done | with_reducible rfl | exact rfl); try simp only [Act.put, List.setIfInBounds_toArray, List.set_cons_zero, List.set_cons_succ])); (iterate 4 (refine' rs ?_ rfl rfl; try simp only [Act.put, List.setIfInBounds_toArray, List.set_cons_zero, List.set_cons_succ])); (iterate 5 (refine' rv ?_ rfl rfl (by go_simp; first | done | with_reducible rfl | exact rfl); try simp only [Act.put, List.setIfInBounds_toArray, List.set_cons_zero, List.set_cons_succ])); (refine' rc ?_ (by exact rfl) (by exact rfl) (by go_simp; first | done | (constructor <;> with_reducible rfl) | with_reducible rfl) (by exact HBt.out w' hn'); try simp only [Act.put, List.setIfInBounds_toArray, List.set_cons_zero, List.set_cons_succ]); (refine' rv ?_ rfl rfl (by go_simp; first | done | with_reducible rfl | exact rfl); try simp only [Act.put, List.setIfInBounds_toArray, List.set_cons_zero, List.set_cons_succ]); (refine' rv ?_ rfl rfl (by exact exec_bin rfl rfl rfl (HSS.out _ _ w')); try simp only [Act.put, List.setIfInBounds_toArray, List.set_cons_zero, List.set_cons_succ]); (refine' rv ?_ rfl rfl (by go_simp; first | done | with_reducible rfl | exact rfl); try simp only [Act.put, List.setIfInBounds_toArray, List.set_cons_zero, List.set_cons_succ]); (exact rn))))
          intro w8 hk8
          simp only [List.drop_succ_cons, List.drop_zero]
          have hB := HB.out.trans (hk8.whole.mono HB.out.size)
          clear hk8 HB HN x5 x6 x7 x8 x9 x10 y0 y1 y2 y3 y4 y5 y6 y7 y8 y9 y10 y11 y12 y13 d0 d1 d2 d3 d4 d5
          go_wp2_with fail
          go_ret
          exact ⟨by first | rfl | simp, hB⟩
        · go_wp2_with (first | (refine nb rfl rfl rfl rfl (by go_simp; first | done | with_reducible rfl | exact rfl) rfl rfl (by kernel_rfl) ?_; rw [HW4.out, hgD]))
          obtain ⟨-, ⟨x5, x6, x7, x8, x9, x10⟩, -, -, -⟩ := cells14 bX
          obtain ⟨⟨y0, y1, y2, y3, y4⟩, ⟨y5, y6, y7, y8, y9, y10⟩, y11, y12, y13⟩ := cells14 bB
          obtain ⟨d0, d1, d2, d3, d4, d5⟩ := cells6 bD
          have HN := Lib.hid (hn.next hB); have HB := Lib.hid hB
          clear bX bB bD bY hB HW4 hgD x11
          refine wp_pure [0,1,2,3,4,5,6,7,8,9,10,11,12,13,14,15,16,17,18,19,20,21,22,23,24,25,26,27] 28 (by kernel_rfl) (by kernel_rfl) rfl ?_
          (apply rat; (focus (intro w' hk; have hn' := HN.out.keep hk; obtain ⟨i5,i6,i7,i8,i9,i10,j0,j1⟩ := look8 hk x5 x6 x7 x8 x9 x10 y0 y1; obtain ⟨j2,j3,j4,j5,j6,j7,j8,j9⟩ := look8 hk y2 y3 y4 y5 y6 y7 y8 y9; obtain ⟨j10,j11,j12,j13,m0,m1,m2,m3⟩ := look8 hk y10 y11 y12 y13 d0 d1 d2 d3; obtain ⟨m4,m5⟩ := look2 hk d4 d5; (iterate 4 (refine' rv ?_ rfl rfl (by go_simp; first | done | with_reducible rfl | exact rfl); try simp only [Act.put, List.setIfInBounds_toArray, List.set_cons_zero, List.set_cons_succ])); (refine' rv ?_ rfl rfl (by exact exec_bin rfl rfl rfl (HA.out _ _ w')); try simp only [Act.put, List.setIfInBounds_toArray, List.set_cons_zero, List.set_cons_succ]); (iterate 4 (refine' rv ?_ rfl rfl (by go_simp; first | done | with_reducible rfl | exact rfl); try simp only [Act.put, List.setIfInBounds_toArray, List.set_cons_zero, List.set_cons_succ])); (refine' rv ?_ rfl rfl (by exact exec_bin rfl rfl rfl (HQ.out _ _ w')); try simp only [Act.put, List.setIfInBounds_toArray, List.set_cons_zero, List.set_cons_succ]); (iterate 8 (refine' rv ?_ rfl rfl (by go_simp; first | done | with_reducible rfl | exact rfl); try simp only [Act.put, List.setIfInBounds_toArray, List.set_cons_zero, List.set_cons_succ])); (refine' rv ?_ rfl rfl (by exact exec_bin rfl rfl rfl (HQ.out _ _ w')); try simp only [Act.put, List.setIfInBounds_toArray, List.set_cons_zero, List.set_cons_succ]); (iterate 5 (refine' rv ?_ rfl rfl (by go_simp; first | done | with_reducible rfl | exact rfl); try simp only [Act.put, List.setIfInBounds_toArray, List.set_cons_zero, List.set_cons_succ])); (refine' rc ?_ (by exact rfl) (by exact rfl) (by go_simp; first | done | (constructor <;> with_reducible rfl) | with_reducible rfl) (by exact HBt.out w' hn'); try simp only [Act.put, List.setIfInBounds_toArray, List.set_cons_zero, List.set_cons_succ]); (refine' rv ?_ rfl rfl (by go_simp; first | done | with_reducible rfl | exact rfl); try simp only [Act.put, List.setIfInBounds_toArray, List.set_cons_zero, List.set_cons_succ]); (refine' rv ?_ rfl rfl (by exact exec_bin rfl rfl rfl (HSS.out _ _ w')); try simp only [Act.put, List.setIfInBounds_toArray, List.set_cons_zero, List.set_cons_succ]); (refine' rv ?_ rfl rfl (by go_simp; first | done | with_reducible rfl | exact rfl); try simp only [Act.put, List.setIfInBounds_toArray, List.set_cons_zero, List.set_cons_succ]); (exact rn))))
          intro w8 hk8
          simp only [List.drop_succ_cons, List.drop_zero]
          have hB := HB.out.trans (hk8.whole.mono HB.out.size)
          clear hk8 HB HN x5 x6 x7 x8 x9 x10 y0 y1 y2 y3 y4 y5 y6 y7 y8 y9 y10 y11 y12 y13 d0 d1 d2 d3 d4 d5
          go_wp2_with fail
          go_ret
          exact ⟨by first | rfl | simp, hB⟩
        · go_wp2_with (first | (refine nb rfl rfl rfl rfl (by go_simp; first | done | with_reducible rfl | exact rfl) rfl rfl (by kernel_rfl) ?_; rw [HW4.out, hgD]))
          obtain ⟨-, ⟨x5, x6, x7, x8, x9, x10⟩, -, -, -⟩ := cells14 bX
          obtain ⟨⟨y0, y1, y2, y3, y4⟩, ⟨y5, y6, y7, y8, y9, y10⟩, y11, y12, y13⟩ := cells14 bB
          obtain ⟨d0, d1, d2, d3, d4, d5⟩ := cells6 bD
          have HN := Lib.hid (hn.next hB); have HB := Lib.hid hB
          clear bX bB bD bY hB HW4 hgD x11
          refine wp_pure [0,1,2,3,4,5,6,7,8,9,10,11,12,13,14,15,16,17,18,19,20,21,22,23,24,25,26,27] 28 (by kernel_rfl) (by kernel_rfl) rfl ?_
          (apply rat; (focus (intro w' hk; have hn' := HN.out.keep hk; obtain ⟨i5,i6,i7,i8,i9,i10,j0,j1⟩ := look8 hk x5 x6 x7 x8 x9 x10 y0 y1; obtain ⟨j2,j3,j4,j5,j6,j7,j8,j9⟩ := look8 hk y2 y3 y4 y5 y6 y7 y8 y9; obtain ⟨j10,j11,j12,j13,m0,m1,m2,m3⟩ := look8 hk y10 y11 y12 y13 d0 d1 d2 d3; obtain ⟨m4,m5⟩ := look2 hk d4 d5; (iterate 4 (refine' rv ?_ rfl rfl (by go_simp; first | done | with_reducible rfl | exact rfl); try simp only [Act.put, List.setIfInBounds_toArray, List.set_cons_zero, List.set_cons_succ])); (refine' rv ?_ rfl rfl (by exact exec_bin rfl rfl rfl (HA.out _ _ w')); try simp only [Act.put, List.setIfInBounds_toArray, List.set_cons_zero, List.set_cons_succ]); (refine' rv ?_ rfl rfl (by go_simp; first | done | with_reducible rfl | exact rfl); try simp only [Act.put, List.setIfInBounds_toArray, List.set_cons_zero, List.set_cons_succ]); (iterate 4 (refine' rs ?_ rfl rfl; try simp only [Act.put, List.setIfInBounds_toArray, List.set_cons_zero, List.set_cons_succ])); (iterate 5 (refine' rv ?_ rfl rfl (by go_simp; first | done | with_reducible rfl | exact rfl); try simp only [Act.put, List.setIfInBounds_toArray, List.set_cons_zero, List.set_cons_succ])); (iterate 4 (refine' rs ?_ rfl rfl; try simp only [Act.put, List.setIfInBounds_toArray, List.set_cons_zero, List.set_cons_succ])); (iterate 5 (refine' rv ?_ rfl rfl (by go_simp; first | done | with_reducible rfl | exact rfl); try simp only [Act.put, List.setIfInBounds_toArray, List.set_cons_zero, List.set_cons_succ])); (refine' rc ?_ (by exact rfl) (by exact rfl) (by go_simp; first | done | (constructor <;> with_reducible rfl) | with_reducible rfl) (by exact HBt.out w' hn'); try simp only [Act.put, List.setIfInBounds_toArray, List.set_cons_zero, List.set_cons_succ]); (refine' rv ?_ rfl rfl (by go_simp; first | done | with_reducible rfl | exact rfl); try simp only [Act.put, List.setIfInBounds_toArray, List.set_cons_zero, List.set_cons_succ]); (refine' rv ?_ rfl rfl (by exact exec_bin rfl rfl rfl (HSS.out _ _ w')); try simp only [Act.put, List.setIfInBounds_toArray, List.set_cons_zero, List.set_cons_succ]); (refine' rv ?_ rfl rfl (by go_simp; first | done | with_reducible rfl | exact rfl); try simp only [Act.put, List.setIfInBounds_toArray, List.set_cons_zero, List.set_cons_succ]); (exact rn))))
          intro w8 hk8
          simp only [List.drop_succ_cons, List.drop_zero]
          have hB := HB.out.trans (hk8.whole.mono HB.out.size)
          clear hk8 HB HN x5 x6 x7 x8 x9 x10 y0 y1 y2 y3 y4 y5 y6 y7 y8 y9 y10 y11 y12 y13 d0 d1 d2 d3 d4 d5
          go_wp2_with fail
          go_ret
          exact ⟨by first | rfl | simp, hB⟩
theorem fails20_any (n : Nat) (hn8 : n < 256) (l r : List Dw.Cmd) (v v2 : Value) (w : World) (hv : CmsAt w v l) (hr : CmsAt w v2 r) (hn : NoneAt w) :
    Calls Tryz.prog 6 #[.int .u8 n, v, v2] w fun e w' => e = .returned (.bool true) ∧ Below w.heap.size w w' := by
  have hB := Below.refl w.heap.size w
  have HV0 := Lib.hid hv; have HV1 := Lib.hid hr
  obtain ⟨sa, cap, hvs, -, -⟩ := id hv
  obtain ⟨sa2, cap2, hvs2, -, -⟩ := id hr
  subst hvs hvs2
  clear hv hr
  have hll : (0 : Int) ≤ (l.length : Int) := by omega
  have hrr : (0 : Int) ≤ (r.length : Int) := by omega
  by_cases hlen : (60 : Int) < (l.length : Int)
  · go_enter Tryz.func6, Tryz.ntmps6
    go_wp2_with fail
    refine cb (shown20_any _ (hn.next hB)) fun wy hb => ?_
    replace hB := tr hB hb
    clear hb
    go_wp2_with fail
    go_ret
    exact ⟨rfl, hB⟩
  by_cases hm : (20 : Int) < (r.length : Int)
  · go_enter Tryz.func6, Tryz.ntmps6
    go_wp2_with fail
    refine cb (shown20_any _ (hn.next hB)) fun wy hb => ?_
    replace hB := tr hB hb
    clear hb
    go_wp2_with fail
    go_ret
    exact ⟨rfl, hB⟩
  have a1 : IntKind.i64.wrap (n : Int) = (n : Int) := IntWalk.i64_in _ (by omega)
  have a2 : Int.tmod (n : Int) 2 = ((n % 2 : Nat) : Int) := rfl
  have ha : n % 2 < 2 := Nat.mod_lt _ (by decide)
  have a3 : IntKind.i64.wrap (1 + ((n % 2 : Nat) : Int)) = 1 + ((n % 2 : Nat) : Int) := IntWalk.i64_in _ (by omega)
  have HLL := Lib.hid hlen; have HLM := Lib.hid hm
  go_enter Tryz.func6, Tryz.ntmps6
  go_wp2_with fail
  refine cb (shown20_any _ (hn.next hB)) fun w0 hb => ?_
  replace hB := tr hB hb
  clear hb hm hlen
  go_wp2_with fail
  obtain ⟨m, hm1⟩ : ∃ m, m = n % 2 := ⟨_, rfl⟩
  replace ha : m < 12 := by omega
  rw [show (1 + (n : Int) % 2) = 1 + (m : Int) from by omega]
  clear a1 a2 a3 hm1 hn8
  refine cb (rsize_any _ _) fun w1 hb => ?_
  replace hB := tr hB hb
  clear hb
  rw [Dw.size_m ha]
  go_wp2_with fail
  refine cb (new20_any m 1 ha (by decide) _) fun w2 hb => ?_
  replace hB := tr hB hb
  clear hb
  rw [show ((1 : Nat) : Int) = 1 from rfl]
  obtain ⟨hg0, hp0, hs0⟩ := Dw.goes_stood (n := m + 1) (li := 1) (by omega) (by omega) (by decide) (by decide)
  have hO := Dw.new_ok (n := m + 1) (by omega) (li := 1) (by decide)
  have HST := Lib.hid (fun w hn => stood20_any (Dw.fNew (m + 1) 1) hO w hn)
  rw [show Dw.seen3 (Dw.boot (Dw.fNew (m + 1) 1)) 1 = Dw.stood (Dw.fNew (m + 1) 1) from rfl] at HST
  generalize Dw.stood (Dw.fNew (m + 1) 1) = X0 at *
  generalize Dw.fNew (m + 1) 1 = F at *
  clear hO ha
  have HG0 := Lib.hid hg0; have HP0 := Lib.hid hp0; have HS0 := Lib.hid hs0
  clear hg0 hp0 hs0
  go_wp2_with fail
  refine cb (HST.out _ (hn.next hB)) fun w3 hb => ?_
  replace hB := tr hB hb
  clear hb HST
  have bX := han w3 (.cells (suC X0) 31)
  have lzbX := hB.size
  replace hB := hB.alloc hB.size (.cells (suC X0) 31)
  obtain ⟨gX, hgX⟩ : ∃ g, w3.heap.size = g := ⟨_, rfl⟩
  obtain ⟨W1, hW1⟩ : ∃ W, w3.alloc (.cells (suC X0) 31) = W := ⟨_, rfl⟩
  rw [hW1] at bX hB
  rw [hgX] at bX lzbX
  have HW1 := Lib.hid hW1
  clear hW1
  go_wp2_with (first | (refine nb rfl rfl rfl rfl (by go_simp; first | done | with_reducible rfl | exact rfl) rfl rfl (by kernel_rfl) ?_; rw [HW1.out, hgX]))
  clear HW1 hgX
  go_loopw [8] (fun i wr => ∃ (k : Nat) (x : Dw.Su), k ≤ l.length ∧ i = .int .i64 k ∧ Dw.Goes (m + 1) k 1 x ∧ wr.heap[gX]? = some (.cells (suC x) 31 (0, 0)) ∧ Below w.heap.size w wr) (fun i _ => l.length - (intOf i).toNat)
  case atStart => exact ⟨0, X0, Nat.zero_le _, rfl, HG0.out, bX, hB⟩
  case round =>
    clear bX hB HG0 HP0 HS0
    obtain ⟨k, x, hk, rfl, hg, bX, hB⟩ := hrel
    by_cases hlt : k < l.length
    · have hlt' : (k : Int) < (l.length : Int) := by omega
      obtain ⟨c, hce⟩ : ∃ c, l[k]? = some c := ⟨l[k], List.getElem?_eq_getElem hlt⟩
      have hv := HV0.out.next hB
      obtain ⟨⟨hla, hlo⟩, bb, off, hsa, k0, k1, k2, k3⟩ := CmsAt.get hv hce
      subst hsa
      clear hv
      have hk40 : k + 1 ≤ 60 := by have := HLL.out; omega
      have hg' := Dw.goes_next hg (by omega) c
      have HC := Lib.hid (fun w hn => scommand_any x c Dw.whole hg.ok hg.leg hla hlo w hn)
      have HW := Lib.hid (fun w => whole20_any w)
      generalize Dw.commandX x c Dw.whole = Y at *
      generalize Dw.commandE x c Dw.whole = E at *
      have HG := Lib.hid hg'
      clear hce hla hlo hg hg'
      obtain ⟨⟨x0, x1, x2, x3, x4⟩, ⟨x5, x6, x7, x8, x9, x10⟩, x11, x12, x13⟩ := cells14 bX
      have HX := Lib.hid bX; have HB := Lib.hid hB; have HN := Lib.hid (hn.next hB)
      clear bX hB
      go_wp2_with fail
      refine RT.wp_letter (fun k => k = gX) (fun k => decide (9 ≤ k)) [0,1,2,3,4,5,6,7,8,9] 10 11 (RT.Stored wr gX (suC Y) 31) rfl (by kernel_rfl) (by kernel_rfl) rfl (fun A B h hk => h.keep hk) ?_
      (apply RT.rat; (focus (intro w' w'' hk hk2; obtain ⟨i0,i1,i2,i3,i4,i5,i6,i7⟩ := look8 hk x0 x1 x2 x3 x4 x5 x6 x7; obtain ⟨i8,i9,i10,i11,i12,i13,j0,j1⟩ := look8 hk x8 x9 x10 x11 x12 x13 k0 k1; obtain ⟨j2,j3⟩ := look2 hk k2 k3; repeat' (first | exact RT.rn | ((first | refine' RT.rv ?_ rfl rfl rfl (by go_simp; first | done | with_reducible rfl | exact rfl) | refine' RT.rc ?_ (by exact rfl) (by exact rfl) (by exact rfl) (by go_simp; first | done | (constructor <;> with_reducible rfl) | with_reducible rfl) (by first | exact HW.out w' | exact HC.out w' (HN.out.keep hk)) | refine' RT.rl ?_ rfl rfl rfl (by go_simp; first | done | with_reducible rfl | exact rfl) | refine' RT.rs ?_ rfl rfl); try simp only [Act.put, List.setIfInBounds_toArray, List.set_cons_zero, List.set_cons_succ])))))
      refine RT.pl_nil ⟨rfl, RT.stb HX.out rfl rfl rfl (by kernel_rfl), ?_⟩
      rintro W5 ⟨hk5, bX⟩
      have hB := HB.out.trans (hk5.below HB.out.size (fun k hk => by omega))
      simp only [List.drop_succ_cons, List.drop_zero]
      clear hk5 HX HB HN k0 k1 k2 k3 x0 x1 x2 x3 x4 x5 x6 x7 x8 x9 x10 x11 x12 x13
      go_wp2_with fail
      go_roundw
      case rel => exact ⟨k + 1, Y, hlt, by go_num, HG.out, bX, hB⟩
      case measure => first | done | (simp [intOf]; done) | (simp [intOf]; omega)
    · have hge : ¬ (k : Int) < (l.length : Int) := by omega
      have HK := Lib.hid (fun w hn => skept_any x hg.ok hg.leg w hn)
      rw [hg.kept] at HK
      have HBt := Lib.hid (fun w hn => boot_any x.f hg.ok w hn)
      rw [hg.boot] at HBt
      have HPK := Lib.hid (fun w => pack_any x.s hg.leg w)
      have HIt := Lib.hid (fun w => its20_any x.f w)
      have HRd := Lib.hid (fun w => rread_any x.f hg.ok.a hg.ok.b w)
      have hph := hg.ph
      have hrd := Dw.goes_read hg
      have HGF := Lib.hid (fun h c => Dw.goes_failed hg h c)
      have hok := hg.ok
      have hleg := hg.leg
      obtain ⟨-, -, x11, -, -⟩ := cells14 bX
      obtain ⟨⟨pb, pg, pq, pd⟩, hS⟩ : ∃ p, Dw.readS x.f.a x.f.b = p := ⟨_, rfl⟩
      rw [hS] at HRd hrd
      obtain ⟨hda, hre⟩ := hrd
      rw [hre] at HRd
      have hda : pd = Dw.pack x.s := hda
      subst hda
      generalize Dw.pack x.s = pk at *
      clear hS hre hg hlt hk
      by_cases hp : x.ph = 2
      · have HF := Lib.hid (fun c => HGF.out hp c)
        rw [hp] at x11
        have HOK := Lib.hid hok; have HLE := Lib.hid hleg
        clear hp hph HGF HK hok hleg
        go_wp2_with fail
        clear hge x11
        go_loopw [9] (fun i wr => ∃ k : Nat, k ≤ r.length ∧ i = .int .i64 k ∧ wr.heap[gX]? = some (.cells (suC x) 31 (0, 0)) ∧ Below w.heap.size w wr) (fun i _ => r.length - (intOf i).toNat)
        case atStart => exact ⟨0, Nat.zero_le _, rfl, bX, hB⟩
        case round =>
          clear bX hB
          obtain ⟨k, hk, rfl, bX, hB⟩ := hrel
          by_cases hlt : k < r.length
          · have hlt' : (k : Int) < (r.length : Int) := by omega
            obtain ⟨c, hce⟩ : ∃ c, r[k]? = some c := ⟨r[k], List.getElem?_eq_getElem hlt⟩
            have hv := HV1.out.next hB
            obtain ⟨⟨hla, hlo⟩, bb, off, hsa, k0, k1, k2, k3⟩ := CmsAt.get hv hce
            subst hsa
            clear hv
            have hk20 : k + 1 ≤ 20 := by have := HLM.out; omega
            obtain ⟨e1, e2⟩ := HF.out c
            have HC := Lib.hid (fun w hn => scommand_any x c Dw.whole HOK.out HLE.out hla hlo w hn)
            rw [e1, e2] at HC
            have HW := Lib.hid (fun w => whole20_any w)
            have HSN := Lib.hid (fun u v w => su_noself x u v w)
            clear hce hla hlo e1 e2
            obtain ⟨⟨x0, x1, x2, x3, x4⟩, ⟨x5, x6, x7, x8, x9, x10⟩, x11, x12, x13⟩ := cells14 bX
            have HX := Lib.hid bX; have HB := Lib.hid hB; have HN := Lib.hid (hn.next hB)
            clear bX hB
            go_wp2_with fail
            refine wp_new (fun k => decide (9 ≤ k)) [0,1,2,3,4,5,6,7,8,9] 10 11 12 10 (suC x) Z14 31 rfl rfl rfl rfl rfl (by kernel_rfl) (by kernel_rfl) (by kernel_rfl) (by kernel_rfl) rfl ?_
            (apply RT.rat; (focus (intro w' w'' hk hk2; obtain ⟨i0,i1,i2,i3,i4,i5,i6,i7⟩ := look8 hk x0 x1 x2 x3 x4 x5 x6 x7; obtain ⟨i8,i9,i10,i11,i12,i13,j0,j1⟩ := look8 hk x8 x9 x10 x11 x12 x13 k0 k1; obtain ⟨j2,j3⟩ := look2 hk k2 k3; repeat' (first | exact RT.rn | ((first | refine' RT.rv ?_ rfl rfl rfl (by go_simp; first | done | with_reducible rfl | exact rfl) | refine' RT.rc ?_ (by exact rfl) (by exact rfl) (by exact rfl) (by go_simp; first | done | (constructor <;> with_reducible rfl) | with_reducible rfl) (by first | exact HW.out w' | exact HC.out w' (HN.out.keep hk)) | refine' RT.rl ?_ rfl rfl rfl (by go_simp; first | done | with_reducible rfl | exact rfl) | refine' RT.rs ?_ rfl rfl); try simp only [Act.put, List.setIfInBounds_toArray, List.set_cons_zero, List.set_cons_succ])))))
            refine RT.pl_nil ⟨rfl, fun w' _ => (by go_simp), fun gT => ⟨⟨rfl, rfl, rfl⟩, ?_⟩⟩
            intro W3 hk3 hgT bT
            simp only [List.drop_succ_cons, List.drop_zero, List.setIfInBounds_toArray, List.set_cons_zero, List.set_cons_succ]
            have bX := kpi hk3 HX.out
            have hB := HB.out.trans (hk3.whole.mono HB.out.size)
            clear hk3 HX HB HN HC HW hgT k0 k1 k2 k3 x0 x1 x2 x3 x4 x5 x6 x7 x8 x9 x10 x11 x12 x13
            go_wp2_with (first | (refine lbo bT rfl rfl rfl (by kernel_rfl) ?_) | (refine lbo bX rfl rfl rfl (by kernel_rfl) ?_) | (refine bno (HSN.out _ _ _) rfl rfl rfl rfl ?_))
            go_roundw
            case rel => exact ⟨k + 1, hlt, by go_num, bX, hB⟩
            case measure => first | done | (simp [intOf]; done) | (simp [intOf]; omega)
          · have hge : ¬ (k : Int) < (r.length : Int) := by omega
            have HST := Lib.hid (fun u v w => st_self x.s u v w)
            go_wp2_with (first | (refine lp 25 0 (flC x.f) bX rfl rfl rfl (by kernel_rfl) (by rfl) ?_))
            refine cb (HIt.out _) fun w5 hb => ?_
            replace bX := kp hb bX
            replace hB := tr hB hb
            clear hb HIt hge
            go_wp2_with fail
            refine cb (HRd.out _) fun w6 hb => ?_
            replace bX := kp hb bX
            replace hB := tr hB hb
            clear hb HRd
            have bT := han w6 (.cells (#[.int .i64 pb, .int .u64 pg, .int .u64 pq, .int .u64 pk]) 66)
            have lbX := block_lt bX
            replace bX := hao w6 (.cells (#[.int .i64 pb, .int .u64 pg, .int .u64 pq, .int .u64 pk]) 66) bX
            have lzbT := hB.size
            replace hB := hB.alloc hB.size (.cells (#[.int .i64 pb, .int .u64 pg, .int .u64 pq, .int .u64 pk]) 66)
            obtain ⟨gT, hgT⟩ : ∃ g, w6.heap.size = g := ⟨_, rfl⟩
            obtain ⟨W2, hW2⟩ : ∃ W, w6.alloc (.cells (#[.int .i64 pb, .int .u64 pg, .int .u64 pq, .int .u64 pk]) 66) = W := ⟨_, rfl⟩
            rw [hW2] at bT bX hB
            rw [hgT] at bT lbX lzbT
            have HW2 := Lib.hid hW2
            clear hW2 lbX lzbT
            go_wp2_with (first | (refine nb rfl rfl rfl rfl (by go_simp; first | done | with_reducible rfl | exact rfl) rfl rfl (by kernel_rfl) ?_; rw [HW2.out, hgT]))
            clear HW2 hgT
            obtain ⟨⟨x0, x1, x2, x3, x4⟩, ⟨x5, x6, x7, x8, x9, x10⟩, x11, x12, x13⟩ := cells14 bX
            obtain ⟨q0, q1, q2, q3⟩ := cells4 bT
            have HN := Lib.hid (hn.next hB); have HB := Lib.hid hB
            clear bX bT hB
            refine wp_pure [0,1,2,3,4,5,6,7,8,9,10,11,12,13,14,15,16,17,18] 19 (by kernel_rfl) (by kernel_rfl) rfl ?_
            (apply rat; (focus (intro w' hk; have hn' := HN.out.keep hk; obtain ⟨i0,i1,i2,i3,i4,i5,i6,i7⟩ := look8 hk x0 x1 x2 x3 x4 x5 x6 x7; obtain ⟨i8,i9,i10,i11,i12,i13,j0,j1⟩ := look8 hk x8 x9 x10 x11 x12 x13 q0 q1; obtain ⟨j2,j3⟩ := look2 hk q2 q3; (iterate 2 (refine' rv ?_ rfl rfl (by go_simp; first | done | with_reducible rfl | exact rfl); try simp only [Act.put, List.setIfInBounds_toArray, List.set_cons_zero, List.set_cons_succ])); (refine' rc ?_ (by exact rfl) (by exact rfl) (by go_simp; first | done | (constructor <;> with_reducible rfl) | with_reducible rfl) (by exact HBt.out w' hn'); try simp only [Act.put, List.setIfInBounds_toArray, List.set_cons_zero, List.set_cons_succ]); (iterate 3 (refine' rv ?_ rfl rfl (by go_simp; first | done | with_reducible rfl | exact rfl); try simp only [Act.put, List.setIfInBounds_toArray, List.set_cons_zero, List.set_cons_succ])); (refine' rv ?_ rfl rfl (by exact exec_bin rfl rfl rfl (HST.out _ _ w')); try simp only [Act.put, List.setIfInBounds_toArray, List.set_cons_zero, List.set_cons_succ]); (iterate 9 (refine' rv ?_ rfl rfl (by go_simp; first | done | with_reducible rfl | exact rfl); try simp only [Act.put, List.setIfInBounds_toArray, List.set_cons_zero, List.set_cons_succ])); (refine' rc ?_ (by exact rfl) (by exact rfl) (by go_simp; first | done | (constructor <;> with_reducible rfl) | with_reducible rfl) (by exact HPK.out w'); try simp only [Act.put, List.setIfInBounds_toArray, List.set_cons_zero, List.set_cons_succ]); (iterate 2 (refine' rv ?_ rfl rfl (by go_simp; first | done | with_reducible rfl | exact rfl); try simp only [Act.put, List.setIfInBounds_toArray, List.set_cons_zero, List.set_cons_succ])); (exact rn))))
            intro w8 hk8
            simp only [List.drop_succ_cons, List.drop_zero]
            have hB := HB.out.trans (hk8.whole.mono HB.out.size)
            clear hk8 HB HN q0 q1 q2 q3 x0 x1 x2 x3 x4 x5 x6 x7 x8 x9 x10 x11 x12 x13
            go_wp2_with fail
            go_ret
            exact ⟨by first | rfl | simp, hB⟩
      · obtain hp1 : x.ph = 1 := by omega
        rw [hp1] at x11
        clear hp hp1 hph
        go_wp2_with (first | (refine lbo bX rfl rfl rfl (by kernel_rfl) ?_))
        refine cb (HK.out _ (hn.next hB)) fun w9 hb => ?_
        replace hB := tr hB hb
        clear hb
        go_wp2_with fail
        go_ret
        exact ⟨by first | rfl | simp, hB⟩
end Go.Proofs.YtjiejbkfaigikaaGreatDoor
