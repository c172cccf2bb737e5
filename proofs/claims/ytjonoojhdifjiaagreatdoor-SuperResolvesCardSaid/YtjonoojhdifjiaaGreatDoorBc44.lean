/- What the statement's proof stands on, part 44: Card20, Rows20, Model20. -/
import Derived.Test.YtjonoojhdifjiaaGreatDoorBc41
import Derived.Test.YtjonoojhdifjiaaGreatDoorBc39
import Derived.Deep.Slices
import Derived.Deep.Strs
import Derived.Test.YtjonoojhdifjiaaGreatDoorBc32
import Derived.Test.YtjonoojhdifjiaaGreatDoorBc43
import Derived.Test.YtjonoojhdifjiaaGreatDoorBc19
set_option linter.unusedSimpArgs false
set_option linter.unusedVariables false
set_option maxRecDepth 100000
set_option maxHeartbeats 4000000
namespace Go.Proofs.YtjonoojhdifjiaaGreatDoor
open Go.ChangeShapes Go.WideShapes Go.ChangeAt Go.RowKit Go.Joins Go.WideElems
open Go.ChangeMaps (open_string shut_string)
theorem i64_wf {x : Int} (h : (Lit.int .i64 x).wf = true) : -9223372036854775808 ≤ x ∧ x ≤ 9223372036854775807 := by
  have h0 : IntKind.i64.min = -9223372036854775808 := by decide
  have h1 : IntKind.i64.max = 9223372036854775807 := by decide
  simp [Lit.wf, h0, h1] at h
  omega
theorem f64_wf {b : Nat} (h : (Lit.float .f64 b).wf = true) : b < 18446744073709551616 := by
  simp [Lit.wf] at h
  omega
theorem trod_f64 {H : Type} {enc : TypeId × Value → H} {P : Program} {w : World} {base : Nat} {spare : Nat → Bool} {held : Bool} {fuel : Nat} {t : TypeId} {cs : List Value} {x : DataW H × List MemPlace} (ht : P.underlying t = some (.float .f64))
    (h : DataW.trod enc P w base spare held fuel t cs = some x) : ∃ n, cs = [.float .f64 n] ∧ n < 18446744073709551616 := by
  cases fuel with
  | zero => simp [DataW.trod] at h
  | succ n =>
    unfold DataW.trod at h
    rw [ht] at h
    split at h <;> simp_all
    exact f64_wf (by simp_all)
theorem c5cm : Tryz.prog.cellsOf 65 = 4 := by kernel_rfl
section
variable {H : Type} {enc : TypeId × Value → H} {w : World} {base : Nat} {spare : Nat → Bool} {held : Bool} {fuel : Nat} {cs : List Value} {x : DataW H × List MemPlace}
theorem trod_fl (h : DataW.trod enc Tryz.prog w base spare held fuel 25 cs = some x) : ∃ f : Dw.Fl, cs = (flC f).toList ∧ Dw.FlR f := by
  obtain ⟨xs, n, _, hx, hl, hlen, hfs⟩ := DataW.trod_struct Tryz.underlying25 h
  rw [c5f] at hl
  obtain ⟨y0, y1, y2, rfl⟩ : ∃ y0 y1 y2, xs = [y0, y1, y2] := by
    match xs, hlen with
    | [y0, y1, y2], _ => exact ⟨y0, y1, y2, rfl⟩
  have h0 := hfs 0 _ rfl
  have h1 := hfs 1 _ rfl
  have h2 := hfs 2 _ rfl
  match cs, hl with
  | [x0, x1, x2, x3, x4], _ =>
    simp only [List.getElem?_cons_zero, List.getElem?_cons_succ] at h0 h1 h2
    obtain ⟨ws0, m0, _, _, _, hw0, k0⟩ := DataW.trod_array Tryz.underlying22 h0
    obtain ⟨ws1, m1, _, _, _, hw1, k1⟩ := DataW.trod_array Tryz.underlying23 h1
    obtain ⟨z0, hz0⟩ := some_of_get (k0 0 (by decide)) (by omega)
    obtain ⟨z1, hz1⟩ := some_of_get (k0 1 (by decide)) (by omega)
    obtain ⟨z2, hz2⟩ := some_of_get (k1 0 (by decide)) (by omega)
    obtain ⟨z3, hz3⟩ := some_of_get (k1 1 (by decide)) (by omega)
    simp only [c5s, c5i, Nat.zero_mul, Nat.one_mul, List.drop_zero] at hz0 hz1 hz2 hz3
    obtain ⟨a, b0, _⟩ := DataW.trod_string Tryz.underlying9 hz0
    obtain ⟨b, b1, _⟩ := DataW.trod_string Tryz.underlying9 hz1
    obtain ⟨e0, b2, _, w0⟩ := DataW.trod_int Tryz.underlying3 hz2
    obtain ⟨e1, b3, _, w1⟩ := DataW.trod_int Tryz.underlying3 hz3
    obtain ⟨li, b4, _, w2⟩ := DataW.trod_int Tryz.underlying3 h2
    cases b0; cases b1; cases b2; cases b3; cases b4
    exact ⟨⟨a.data.toList, b.data.toList, e0, e1, li⟩, rfl, ⟨(i64_wf w2).2, (i64_wf w0).1, (i64_wf w1).1⟩⟩
end
section
variable {H : Type} {enc : TypeId × Value → H} {w : World} {base : Nat} {spare : Nat → Bool} {held : Bool} {r : Reach} {b0 : Nat} {v : Value} {d : DataW H} {p : List MemPlace}
theorem open_fl20 (hv : Value.okWide Tryz.prog w r b0 25 v) (h : DataW.Trod enc Tryz.prog w base spare held 25 v d p) : ∃ f : Dw.Fl, v = flV f ∧ Dw.FlR f := by
  obtain ⟨cs, rfl, _⟩ := okWide_struct Tryz.underlying25 hv
  obtain ⟨fuel, hf⟩ := h
  obtain ⟨f, hc, hr⟩ := trod_fl hf
  obtain ⟨cs⟩ := cs
  simp only [Value.cells] at hc
  subst hc
  exact ⟨f, rfl, hr⟩
theorem trod_cm {fuel : Nat} {cs : List Value} {x : DataW H × List MemPlace} (h : DataW.trod enc Tryz.prog w base spare held fuel 65 cs = some x) : ∃ c : Dw.Cmd, cs = (cmC c).toList ∧ c.la < 18446744073709551616 ∧ c.lo < 18446744073709551616 := by
  obtain ⟨xs, n, _, hx, hl, hlen, hfs⟩ := DataW.trod_struct Tryz.underlying65 h
  rw [c5cm] at hl
  obtain ⟨y0, y1, y2, y3, rfl⟩ : ∃ y0 y1 y2 y3, xs = [y0, y1, y2, y3] := by
    match xs, hlen with
    | [y0, y1, y2, y3], _ => exact ⟨y0, y1, y2, y3, rfl⟩
  have h0 := hfs 0 _ rfl
  have h1 := hfs 1 _ rfl
  have h2 := hfs 2 _ rfl
  have h3 := hfs 3 _ rfl
  match cs, hl with
  | [x0, x1, x2, x3], _ =>
    simp only [List.getElem?_cons_zero, List.getElem?_cons_succ] at h0 h1 h2 h3
    obtain ⟨a0, b0, _⟩ := DataW.trod_int Tryz.underlying3 h0
    obtain ⟨a1, b1, _⟩ := DataW.trod_int Tryz.underlying3 h1
    obtain ⟨a2, b2, l2⟩ := trod_f64 Tryz.underlying57 h2
    obtain ⟨a3, b3, l3⟩ := trod_f64 Tryz.underlying57 h3
    cases b0; cases b1; cases b2; cases b3
    exact ⟨⟨a0, a1, a2, a3⟩, rfl, l2, l3⟩
end
theorem u8_wf {x : Int} (h : (Lit.int .u8 x).wf = true) : ∃ n : Nat, x = (n : Int) ∧ n < 256 := by
  have h0 : IntKind.u8.min = 0 := by decide
  have h1 : IntKind.u8.max = 255 := by decide
  simp [Lit.wf, h0, h1] at h
  exact ⟨x.toNat, by omega, by omega⟩
def RowsAt {α : Type} (enc : α → List Value) (k : Nat) (ok : α → Prop) (w : World) (v : Value) (l : List α) : Prop :=
  ∃ sa cap, v = .slice sa l.length cap ∧ (∀ x ∈ l, ok x) ∧ (l = [] ∨ ∃ b off, sa = some ⟨b, off, none⟩ ∧ ∀ j x, l[j]? = some x → ∀ i u, (enc x)[i]? = some u → w.cell? ⟨b, off + j * k + i, none⟩ = some u)
theorem RowsAt.next {α : Type} {enc : α → List Value} {k : Nat} {ok : α → Prop} {w w' : World} {v : Value} {l : List α} (h : RowsAt enc k ok w v l) (hb : Below w.heap.size w w') : RowsAt enc k ok w' v l := by
  obtain ⟨sa, cap, rfl, hd, h⟩ := h
  refine ⟨sa, cap, rfl, hd, ?_⟩
  rcases h with h | ⟨b, off, rfl, hc⟩
  · exact .inl h
  · refine .inr ⟨b, off, rfl, fun j x hj i u hi => ?_⟩
    have q := hc j x hj i u hi
    exact (hb.cell (lt_of_cell q)).trans q
theorem open_rows {α : Type} [Inhabited α] {e2 : α → List Value} {k : Nat} {ok : α → Prop} {te ts : TypeId} (hu : Tryz.prog.underlying ts = some (.slice te)) (hk : Tryz.prog.cellsOf te = k) (hpos : 0 < k) (hlen : ∀ a, (e2 a).length = k)
    {H : Type} {enc : TypeId × Value → H} {w : World} {base : Nat} {spare : Nat → Bool} {held : Bool} (hel' : ∀ {fuel : Nat} {cs : List Value} {x : DataW H × List MemPlace}, DataW.trod enc Tryz.prog w base spare held fuel te cs = some x → ∃ a, cs = e2 a ∧ ok a)
    {r : Reach} {b0 : Nat} {v : Value} {d : DataW H} {p : List MemPlace} (hv : Value.okWide Tryz.prog w r b0 ts v) (h : DataW.Trod enc Tryz.prog w base spare held ts v d p) : ∃ l, RowsAt e2 k ok w v l := by
  obtain ⟨sa, len, cap, rfl⟩ := okWide_slice hu hv
  obtain ⟨fuel, hf⟩ := h
  rcases Go.Deep.open_slice hu hf with ⟨hcs, _⟩ | ⟨a, l, c, m, n, D, Pl, hcs, _, hl, _, hm, _, hel⟩
  · simp [Value.cells] at hcs
    obtain ⟨rfl, rfl, rfl⟩ := hcs
    exact ⟨[], none, 0, rfl, by simp, .inl rfl⟩
  · simp [Value.cells] at hcs
    obtain ⟨rfl, rfl, rfl⟩ := hcs
    have hlm : len ≤ m := by rw [hm]; split <;> omega
    obtain ⟨F, hF⟩ := Go.Deep.choose_lt (n := len) (p := fun i (s : α) => ok s ∧ ∀ j, j < k → w.cell? ((a.add (i * k)).add j) = (e2 s)[j]?) (fun i hi => by
      obtain ⟨cs', h1, h2⟩ := hel i (by omega)
      obtain ⟨s, rfl, hd⟩ := hel' h2
      rw [hk] at h1
      obtain ⟨_, _, hc⟩ := World.cells?_some h1
      exact ⟨s, hd, fun j hj => hc j hj⟩)
    refine ⟨(List.range len).map F, some a, cap, by simp, ?_, ?_⟩
    · intro s hs
      obtain ⟨i, hi, rfl⟩ := List.mem_map.1 hs
      exact (hF i (List.mem_range.1 hi)).1
    · rcases Nat.eq_zero_or_pos len with h0 | h0
      · left; rw [h0]; rfl
      · right
        obtain ⟨b, off, spot⟩ := a
        have hs0 : spot = none := by
          have h1 := (hF 0 h0).2 0 hpos
          rw [List.getElem?_eq_getElem (by rw [hlen]; exact hpos)] at h1
          simp only [Nat.zero_mul, Addr.add] at h1
          exact World.cell?_spot h1
        subst hs0
        refine ⟨b, off, rfl, fun j s hj i u hi => ?_⟩
        have hjl : j < len := by
          have := (List.getElem?_eq_some_iff.1 hj).1
          simpa using this
        rw [List.getElem?_map, List.getElem?_range hjl] at hj
        cases hj
        have hik : i < k := by rw [← hlen (F j)]; exact (List.getElem?_eq_some_iff.1 hi).1
        have hc := (hF j hjl).2 i hik
        simp only [Go.WideShapes.add_plain] at hc
        exact hc.trans hi
abbrev cmOk (c : Dw.Cmd) : Prop := c.la < 18446744073709551616 ∧ c.lo < 18446744073709551616
abbrev CmsAt (w : World) (v : Value) (l : List Dw.Cmd) : Prop := RowsAt (fun c => (cmC c).toList) 4 cmOk w v l
section
variable {H : Type} {enc : TypeId × Value → H} {w : World} {base : Nat} {spare : Nat → Bool} {held : Bool} {r : Reach} {b0 : Nat} {v : Value} {d : DataW H} {p : List MemPlace}
theorem open_cms (hv : Value.okWide Tryz.prog w r b0 80 v) (h : DataW.Trod enc Tryz.prog w base spare held 80 v d p) : ∃ l, CmsAt w v l := by
  haveI : Inhabited Dw.Cmd := ⟨⟨0, 0, 0, 0⟩⟩
  exact open_rows (e2 := fun c => (cmC c).toList) (ok := cmOk) Tryz.underlying80 c5cm (by decide) (fun _ => rfl) trod_cm hv h
end
end Go.Proofs.YtjonoojhdifjiaaGreatDoor
namespace Go.Proofs.YtjonoojhdifjiaaGreatDoor
open Go.RowKit Go.Shelf
attribute [local go_sem] Oper.semAt_some
theorem Dw.size_m {n : Nat} (h : n < 12) : Dw.size (1 + (n : Int)) = ((24 * (n + 1) + 24 : Nat) : Int) := by unfold Dw.size; rw [if_pos (by omega)]; omega
theorem new20_any (n l : Nat) (hn : n < 12) (hl : l ≤ 1000) (w : World) :
    Calls Tryz.prog 37 #[.int .i64 ((24 * (n + 1) + 24 : Nat) : Int), .int .i64 l] w fun e w' => e = .returned (flV (Dw.fNew (n + 1) l)) ∧ Below w.heap.size w w' :=
  new_any (24 * (n + 1) + 24) l (by omega) hl w
theorem CmsAt.get {w : World} {sa : Option Addr} {len cap k : Nat} {l : List Dw.Cmd} {c : Dw.Cmd} (h : CmsAt w (.slice sa len cap) l) (hk : l[k]? = some c) :
    cmOk c ∧ ∃ b off, sa = some ⟨b, off, none⟩ ∧ w.cell? ⟨b, off + k * 4, none⟩ = some (.int .i64 c.ki) ∧ w.cell? ⟨b, off + k * 4 + 1, none⟩ = some (.int .i64 c.n) ∧ w.cell? ⟨b, off + k * 4 + 2, none⟩ = some (.float .f64 c.la) ∧ w.cell? ⟨b, off + k * 4 + 3, none⟩ = some (.float .f64 c.lo) := by
  obtain ⟨sa', cap', he, hd, hs⟩ := h
  cases he
  refine ⟨hd c (List.mem_of_getElem? hk), ?_⟩
  rcases hs with rfl | ⟨b, off, h, hc⟩
  · simp at hk
  · exact ⟨b, off, h, hc k c hk 0 _ rfl, hc k c hk 1 _ rfl, hc k c hk 2 _ rfl, hc k c hk 3 _ rfl⟩
theorem model20_any (n : Nat) (hn8 : n < 256) (l : List Dw.Cmd) (v : Value) (w : World) (hv : CmsAt w v l) (hn : NoneAt w) :
    Calls Tryz.prog 10 #[.int .u8 n, v] w fun e w' => e = .returned (.bool true) ∧ Below w.heap.size w w' := by
  have hB := Below.refl w.heap.size w
  have HN0 := Lib.hid hn; have HV0 := Lib.hid hv
  obtain ⟨sa, cap, hvs, -, -⟩ := id hv
  subst hvs
  clear hv
  have hll : (0 : Int) ≤ (l.length : Int) := by omega
  by_cases hlen : (40 : Int) < (l.length : Int)
  · go_enter Tryz.func10, Tryz.ntmps10
    go_wp2_with fail
    refine cb (shown20_any _ hn) fun w1 hb => ?_
    replace hB := tr hB hb
    clear hb
    go_wp2_with fail
    go_ret
    exact ⟨rfl, hB⟩
  · have a1 : IntKind.i64.wrap (n : Int) = (n : Int) := IntWalk.i64_in _ (by omega)
    have a2 : Int.tmod (n : Int) 12 = ((n % 12 : Nat) : Int) := rfl
    have hm : n % 12 < 12 := Nat.mod_lt _ (by decide)
    have a3 : IntKind.i64.wrap (1 + ((n % 12 : Nat) : Int)) = 1 + ((n % 12 : Nat) : Int) := IntWalk.i64_in _ (by omega)
    have HLL := Lib.hid hlen
    go_enter Tryz.func10, Tryz.ntmps10
    go_wp2_with fail
    refine cb (shown20_any _ hn) fun w0 hb => ?_
    replace hB := tr hB hb
    clear hb
    go_wp2_with fail
    obtain ⟨m, hm1⟩ : ∃ m, m = n % 12 := ⟨_, rfl⟩
    rw [← hm1] at hm
    rw [show (1 + (n : Int) % 12) = 1 + (m : Int) from by omega]
    clear a1 a2 a3 hm1 hn8
    refine cb (rsize_any _ _) fun w1 hb => ?_
    replace hB := tr hB hb
    clear hb
    rw [Dw.size_m hm]
    go_wp2_with fail
    refine cb (new20_any m 100 hm (by decide) _) fun w2 hb => ?_
    replace hB := tr hB hb
    clear hb
    obtain ⟨hg0, hp0, hs0⟩ := Dw.goes_stood (n := m + 1) (li := 100) (by omega) (by omega) (by decide) (by decide)
    have hO := Dw.new_ok (n := m + 1) (by omega) (li := 100) (by decide)
    have HST := Lib.hid (fun w hn => stood20_any (Dw.fNew (m + 1) 100) hO w hn)
    rw [show Dw.seen3 (Dw.boot (Dw.fNew (m + 1) 100)) 1 = Dw.stood (Dw.fNew (m + 1) 100) from rfl] at HST
    rw [show ((100 : Nat) : Int) = 100 from rfl]
    generalize Dw.stood (Dw.fNew (m + 1) 100) = X0 at *
    generalize Dw.fNew (m + 1) 100 = F at *
    clear hO hm
    have HG0 := Lib.hid hg0; have HP0 := Lib.hid hp0; have HS0 := Lib.hid hs0
    clear hg0 hp0 hs0
    go_wp2_with fail
    refine cb (HST.out _ (HN0.out.next hB)) fun w3 hb => ?_
    replace hB := tr hB hb
    clear hb HST
    have lX0 := hB.size
    have bX := han w3 (.cells (suC X0) 35)
    replace hB := hB.alloc hB.size (.cells (suC X0) 35)
    obtain ⟨gX, hgX⟩ : ∃ g, w3.heap.size = g := ⟨_, rfl⟩
    obtain ⟨W1, hW1⟩ : ∃ W, w3.alloc (.cells (suC X0) 35) = W := ⟨_, rfl⟩
    rw [hW1] at bX hB
    rw [hgX] at bX lX0
    have bS := han W1 (.cells (stC ⟨0, false, false, 0, 0, 0⟩) 30)
    have lX := block_lt bX
    replace bX := hao W1 (.cells (stC ⟨0, false, false, 0, 0, 0⟩) 30) bX
    have lB := hB.size
    replace hB := hB.alloc hB.size (.cells (stC ⟨0, false, false, 0, 0, 0⟩) 30)
    obtain ⟨gS, hgS⟩ : ∃ g, W1.heap.size = g := ⟨_, rfl⟩
    obtain ⟨W2, hW2⟩ : ∃ W, W1.alloc (.cells (stC ⟨0, false, false, 0, 0, 0⟩) 30) = W := ⟨_, rfl⟩
    rw [hW2] at bX bS hB
    rw [hgS] at bS lX lB
    have HX := Lib.hid bX; have HS := Lib.hid bS
    clear bX bS
    have HW1 := Lib.hid hW1; have HW2 := Lib.hid hW2
    clear hW1 hW2
    go_wp2_with (first | (refine nb rfl rfl rfl rfl (by go_simp; first | done | with_reducible rfl | exact rfl) rfl rfl (by kernel_rfl) ?_; first | rw [HW1.out, hgX] | rw [HW2.out, hgS]))
    clear HW1 HW2 hgX hgS
    go_loopw [7] (fun i wr => ∃ (k : Nat) (x : Dw.Su), k ≤ l.length ∧ i = .int .i64 k ∧ Dw.Goes (m + 1) k 100 x ∧ x.ph = 1 ∧ wr.heap[gX]? = some (.cells (suC x) 35 (0, 0)) ∧ wr.heap[gS]? = some (.cells (stC x.s) 30 (0, 0)) ∧ Below w.heap.size w wr) (fun i _ => l.length - (intOf i).toNat)
    case atStart => exact ⟨0, X0, Nat.zero_le _, rfl, HG0.out, HP0.out, HX.out, by rw [HS0.out]; exact HS.out, hB⟩
    case round =>
      clear HX HS hB HG0 HP0 HS0
      obtain ⟨k, x, hk, rfl, hg, hp, bX, bS, hB⟩ := hrel
      by_cases hlt : k < l.length
      · have hlt' : (k : Int) < (l.length : Int) := by omega
        obtain ⟨c, hce⟩ : ∃ c, l[k]? = some c := ⟨l[k], List.getElem?_eq_getElem hlt⟩
        have hv := HV0.out.next hB
        obtain ⟨⟨hla, hlo⟩, bb, off, rfl, k0, k1, k2, k3⟩ := CmsAt.get hv hce
        clear hv
        have hk40 : k + 1 ≤ 40 := by have := HLL.out; omega
        obtain ⟨r1, r2, r3⟩ := Dw.goes_run hg hp (by omega) (by omega) c
        have hg' := Dw.goes_next hg (by omega) c
        have hkp := hg'.kept
        have hiso := Dw.legal_iso hg.leg
        have HD := Lib.hid (fun w => rdelta_any x.s (by omega) c w)
        have HC := Lib.hid (fun w hn => scommand_any x c Dw.whole hg.ok hg.leg hla hlo w hn)
        have HW := Lib.hid (fun w => whole20_any w)
        have HK := Lib.hid (fun w hn => skept_any (Dw.commandX x c Dw.whole) hg'.ok hg'.leg w hn)
        rw [hkp] at HK
        rw [r3] at HC
        rw [← r2] at HD
        generalize Dw.commandX x c Dw.whole = Y at *
        generalize Dw.deltaE x.s c = E at *
        have HR := Lib.hid r1; have HG := Lib.hid hg'
        have HEQ := Lib.hid (fun u v w => rst_noself Y.s u v w)
        clear hce hla hlo r1 r2 r3 hg hp hg' hkp hiso
        obtain ⟨s0, s1, s2, s3, s4, s5⟩ := cells6 bS
        have HX := Lib.hid bX; have HS := Lib.hid bS; have HB := Lib.hid hB
        clear bX bS hB
        go_wp2_with fail
        refine wp_new (fun k => decide (8 ≤ k)) [0,1,2,3,4,5,6,7,8] 9 10 11 8 (stC Y.s) Z6 30 rfl rfl rfl rfl rfl (by kernel_rfl) (by kernel_rfl) (by kernel_rfl) (by kernel_rfl) rfl ?_
        (apply RT.rat; (focus (intro w' w'' hk hk2; obtain ⟨i0,i1,i2,i3,i4,i5,j0,j1⟩ := look8 hk s0 s1 s2 s3 s4 s5 k0 k1; obtain ⟨j2,j3⟩ := look2 hk k2 k3; repeat' (first | exact RT.rn | ((first | refine' RT.rv ?_ rfl rfl rfl (by go_simp; first | done | with_reducible rfl | exact rfl) | refine' RT.rc ?_ (by exact rfl) (by exact rfl) (by exact rfl) (by go_simp; first | done | (constructor <;> with_reducible rfl) | with_reducible rfl) (by exact HD.out w') | refine' RT.rl ?_ rfl rfl rfl (by go_simp; first | done | with_reducible rfl | exact rfl) | refine' RT.rs ?_ rfl rfl); try simp only [Act.put, List.setIfInBounds_toArray, List.set_cons_zero, List.set_cons_succ])))))
        refine RT.pl_nil ⟨rfl, fun w' _ => (by go_simp), fun gT => ⟨⟨rfl, rfl, rfl⟩, ?_⟩⟩
        intro W3 hk3 hgT bT
        simp only [List.drop_succ_cons, List.drop_zero, List.setIfInBounds_toArray, List.set_cons_zero, List.set_cons_succ]
        have lS := block_lt HS.out
        have bX := kpi hk3 HX.out
        have bS := kpi hk3 HS.out
        have hB := HB.out.trans (hk3.whole.mono HB.out.size)
        replace k0 := look hk3 k0; replace k1 := look hk3 k1; replace k2 := look hk3 k2; replace k3 := look hk3 k3
        have hlS : gS < gT := Nat.lt_of_lt_of_le lS hgT
        clear hk3 hgT lS HX HS HB HD s0 s1 s2 s3 s4 s5
        obtain ⟨⟨x0, x1, x2, x3, x4⟩, ⟨x5, x6, x7, x8, x9, x10⟩, x11, x12, x13⟩ := cells14 bX
        have HX := Lib.hid bX; have HS := Lib.hid bS; have HT := Lib.hid bT; have HB := Lib.hid hB; have HN := Lib.hid (HN0.out.next hB)
        clear bX bS bT hB
        go_wp2_with fail
        refine wp_new (fun k => decide (9 ≤ k)) [0,1,2,3,4,5,6,7,8,9] 10 11 12 10 (suC Y) Z14 35 rfl rfl rfl rfl rfl (by kernel_rfl) (by kernel_rfl) (by kernel_rfl) (by kernel_rfl) rfl ?_
        (apply RT.rat; (focus (intro w' w'' hk hk2; obtain ⟨i0,i1,i2,i3,i4,i5,i6,i7⟩ := look8 hk x0 x1 x2 x3 x4 x5 x6 x7; obtain ⟨i8,i9,i10,i11,i12,i13,j0,j1⟩ := look8 hk x8 x9 x10 x11 x12 x13 k0 k1; obtain ⟨j2,j3⟩ := look2 hk k2 k3; repeat' (first | exact RT.rn | ((first | refine' RT.rv ?_ rfl rfl rfl (by go_simp; first | done | with_reducible rfl | exact rfl) | refine' RT.rc ?_ (by exact rfl) (by exact rfl) (by exact rfl) (by go_simp; first | done | (constructor <;> with_reducible rfl) | with_reducible rfl) (by first | exact HW.out w' | exact HC.out w' (HN.out.keep hk)) | refine' RT.rl ?_ rfl rfl rfl (by go_simp; first | done | with_reducible rfl | exact rfl) | refine' RT.rs ?_ rfl rfl); try simp only [Act.put, List.setIfInBounds_toArray, List.set_cons_zero, List.set_cons_succ])))))
        refine RT.pl_nil ⟨rfl, fun w' _ => (by go_simp), fun gY => ⟨⟨rfl, rfl, rfl⟩, ?_⟩⟩
        intro W4 hk4 hgY bY
        simp only [List.drop_succ_cons, List.drop_zero, List.setIfInBounds_toArray, List.set_cons_zero, List.set_cons_succ]
        have lT := block_lt HT.out
        have bX := kpi hk4 HX.out
        have bS := kpi hk4 HS.out
        have bT := kpi hk4 HT.out
        have hB := HB.out.trans (hk4.whole.mono HB.out.size)
        have hlT : gT < gY := Nat.lt_of_lt_of_le lT hgY
        clear hk4 hgY lT HX HS HT HB HC HW HN k0 k1 k2 k3 x0 x1 x2 x3 x4 x5 x6 x7 x8 x9 x10 x11 x12 x13
        obtain ⟨-, -, y11, -, -⟩ := cells14 bY
        rw [HR.out] at y11
        go_wp2_with (first | (refine lpo 27 5 (stC Y.s) bY rfl rfl rfl (by kernel_rfl) (by rfl) ?_) | (refine lbo bT rfl rfl rfl (by kernel_rfl) ?_) | (refine bno (HEQ.out _ _ _) rfl rfl rfl rfl ?_) | (refine lbo bY rfl rfl rfl (by kernel_rfl) ?_))
        refine cb (HK.out _ (HN0.out.next hB)) fun w6 hb => ?_
        replace bX := kp hb bX
        replace bS := kp hb bS
        replace bT := kp hb bT
        replace bY := kp hb bY
        replace hB := tr hB hb
        clear hb HK HEQ y11
        have bX1 := (setRow_other w6 gS gX (stC Y.s) (by omega)).trans bX
        have bY1 := (setRow_other w6 gS gY (stC Y.s) (by omega)).trans bY
        have bS1 := setRow_heap w6 gS _ (stC Y.s) _ _ bS
        have bX2 := setRow_heap _ gX _ (suC Y) _ _ bX1
        have bS2 := (setRow_other _ gX gS (suC Y) (by omega)).trans bS1
        have hB2 := below_setRow (below_setRow hB (show w.heap.size ≤ gS by omega) (stC Y.s)) lX0 (suC Y)
        clear bX hB bS1
        go_wp2_with (first | (refine lb bT rfl rfl rfl (by kernel_rfl) ?_) | (refine sb bT rfl rfl rfl rfl (by kernel_rfl) ?_) | (refine lb bS rfl rfl rfl (by kernel_rfl) ?_) | (refine sb bS rfl rfl rfl rfl (by kernel_rfl) ?_) | (refine lb bY1 rfl rfl rfl (by kernel_rfl) ?_) | (refine sb bY1 rfl rfl rfl rfl (by kernel_rfl) ?_) | (refine lb bX1 rfl rfl rfl (by kernel_rfl) ?_) | (refine sb bX1 rfl rfl rfl rfl (by kernel_rfl) ?_))
        go_roundw
        case rel => exact ⟨k + 1, Y, hlt, by go_num, HG.out, HR.out, bX2, bS2, hB2⟩
        case measure => first | done | (simp [intOf]; done) | (simp [intOf]; omega)
      · have hge : ¬ (k : Int) < (l.length : Int) := by omega
        go_wp2_with fail
        go_ret
        exact ⟨rfl, hB⟩
end Go.Proofs.YtjonoojhdifjiaaGreatDoor
