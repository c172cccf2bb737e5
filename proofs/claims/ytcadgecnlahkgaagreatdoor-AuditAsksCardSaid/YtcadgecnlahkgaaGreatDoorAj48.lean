/- What the statement's proof stands on, part 48: Rows22, AFlips22, AAcks22. -/
import Derived.Test.YtcadgecnlahkgaaGreatDoorAj36
import Derived.Test.YtcadgecnlahkgaaGreatDoorAj43
import Derived.Test.YtcadgecnlahkgaaGreatDoorAj45
import Derived.Test.YtcadgecnlahkgaaGreatDoorAj47
set_option linter.unusedSimpArgs false
set_option linter.unusedVariables false
set_option maxRecDepth 100000
set_option maxHeartbeats 4000000
namespace Go.Proofs.YtcadgecnlahkgaaGreatDoor
open Go.ChangeShapes Go.WideShapes Go.ChangeAt Go.RowKit Go.Joins Go.WideElems
open Go.ChangeMaps (open_string shut_string)
section
variable {H : Type} {enc : TypeId × Value → H} {w : World} {base : Nat} {spare : Nat → Bool} {held : Bool} {r : Reach} {b0 : Nat} {v : Value} {d : DataW H} {p : List MemPlace}
theorem u16_wf {x : Int} (h : (Lit.int .u16 x).wf = true) : 0 ≤ x ∧ x ≤ 65535 := by
  have h0 : IntKind.u16.min = 0 := by decide
  have h1 : IntKind.u16.max = 65535 := by decide
  simp [Lit.wf, h0, h1] at h
  omega
end
theorem open_rowsT {α : Type} [Inhabited α] {e2 : α → List Value} {k : Nat} {ok : α → Prop} {te ts : TypeId} (hu : Tryz.prog.underlying ts = some (.slice te)) (hk : Tryz.prog.cellsOf te = k) (hpos : 0 < k) (hlen : ∀ a, (e2 a).length = k)
    {H : Type} {enc : TypeId × Value → H} {w : World} {base : Nat} {spare : Nat → Bool} {held : Bool} (hel' : ∀ {fuel : Nat} {cs : List Value} {x : DataW H × List MemPlace}, DataW.trod enc Tryz.prog w base spare held fuel te cs = some x → ∃ a, cs = e2 a ∧ ok a)
    {v : Value} {fuel : Nat} {x : DataW H × List MemPlace} (hf : DataW.trod enc Tryz.prog w base spare held fuel ts [v] = some x) : ∃ l, RowsAt e2 k ok w v l := by
  rcases Go.Deep.open_slice hu hf with ⟨hcs, _⟩ | ⟨a, len, cap, m, n, D, Pl, hcs, _, hl, _, hm, _, hel⟩
  · simp at hcs
    subst hcs
    exact ⟨[], none, 0, rfl, by simp, .inl rfl⟩
  · simp at hcs
    subst hcs
    have hlm : len ≤ m := by rw [hm]; split <;> omega
    obtain ⟨F, hF⟩ := Go.Deep.choose_lt (n := len) (p := fun i (s : α) => ok s ∧ ∀ j, j < k → w.cell? ((a.add (i * k)).add j) = (e2 s)[j]?) (fun i hi => by
      obtain ⟨cs', h1, h2⟩ := hel i (by omega)
      obtain ⟨s, rfl, hd⟩ := hel' h2
      rw [hk] at h1
      obtain ⟨_, _, hc⟩ := World.cells?_some h1
      exact ⟨s, hd, fun j hj => hc j hj⟩)
    refine ⟨(List.range len).map F, some a, cap, by simp, ?_, ?_⟩
    · intro s hs
      obtain ⟨i, hi, rfl⟩ := List.mem_map.1 hs
      exact (hF i (List.mem_range.1 hi)).1
    · rcases Nat.eq_zero_or_pos len with h0 | h0
      · left; rw [h0]; rfl
      · right
        obtain ⟨b, off, spot⟩ := a
        have hs0 : spot = none := by
          have h1 := (hF 0 h0).2 0 hpos
          rw [List.getElem?_eq_getElem (by rw [hlen]; exact hpos)] at h1
          simp only [Nat.zero_mul, Addr.add] at h1
          exact World.cell?_spot h1
        subst hs0
        refine ⟨b, off, rfl, fun j s hj i u hi => ?_⟩
        have hjl : j < len := by
          have := (List.getElem?_eq_some_iff.1 hj).1
          simpa using this
        rw [List.getElem?_map, List.getElem?_range hjl] at hj
        cases hj
        have hik : i < k := by rw [← hlen (F j)]; exact (List.getElem?_eq_some_iff.1 hi).1
        have hc := (hF j hjl).2 i hik
        simp only [Go.WideShapes.add_plain] at hc
        exact hc.trans hi
theorem c5aud : Tryz.prog.cellsOf 66 = 14 := by kernel_rfl
section
variable {H : Type} {enc : TypeId × Value → H} {w : World} {base : Nat} {spare : Nat → Bool} {held : Bool} {r : Reach} {b0 : Nat} {v : Value} {d : DataW H} {p : List MemPlace}
theorem trod_sts {fuel : Nat} {u : Value} {x : DataW H × List MemPlace} (hf : DataW.trod enc Tryz.prog w base spare held fuel 64 [u] = some x) : ∃ l, StsAt w u l := by
  haveI : Inhabited Dw.St := ⟨Dw.st0⟩
  exact open_rowsT (e2 := fun s : Dw.St => (stC s).toList) (ok := fun _ => True) Tryz.underlying64 c5st (by decide) (fun _ => rfl) (fun h => by obtain ⟨s, hs⟩ := trod_st h; exact ⟨s, hs, trivial⟩) hf
theorem trod_aud {fuel : Nat} {cs : List Value} {x : DataW H × List MemPlace} (h : DataW.trod enc Tryz.prog w base spare held fuel 66 cs = some x) : ∃ (a : Dw.Aud) (now : Dw.St) (va : Value), cs = (audC a now va).toList ∧ StsAt w va a.ack := by
  obtain ⟨xs, n, _, hx, hl, hlen, hfs⟩ := DataW.trod_struct Tryz.underlying66 h
  rw [c5aud] at hl
  obtain ⟨y0, y1, y2, y3, rfl⟩ : ∃ y0 y1 y2 y3, xs = [y0, y1, y2, y3] := by
    match xs, hlen with
    | [y0, y1, y2, y3], _ => exact ⟨y0, y1, y2, y3, rfl⟩
  have h0 := hfs 0 _ rfl
  have h1 := hfs 1 _ rfl
  have h2 := hfs 2 _ rfl
  have h3 := hfs 3 _ rfl
  match cs, hl with
  | [x0, x1, x2, x3, x4, x5, x6, x7, x8, x9, x10, x11, x12, x13], _ =>
    simp only [List.getElem?_cons_zero, List.getElem?_cons_succ] at h0 h1 h2 h3
    obtain ⟨l, hl⟩ := trod_sts h0
    obtain ⟨a1, b1, _⟩ := DataW.trod_bool Tryz.underlying4 h1
    obtain ⟨s2, b2⟩ := trod_st h2
    obtain ⟨s3, b3⟩ := trod_st h3
    cases b1; cases b2; cases b3
    exact ⟨⟨l, a1, s2⟩, s3, x0, rfl, hl⟩
theorem open_aud (hv : Value.okWide Tryz.prog w r b0 66 v) (h : DataW.Trod enc Tryz.prog w base spare held 66 v d p) : ∃ (a : Dw.Aud) (now : Dw.St) (va : Value), v = audV a now va ∧ StsAt w va a.ack := by
  obtain ⟨cs, rfl, _⟩ := okWide_struct Tryz.underlying66 hv
  obtain ⟨fuel, hf⟩ := h
  obtain ⟨a, now, va, hc, hr⟩ := trod_aud hf
  obtain ⟨cs⟩ := cs
  simp only [Value.cells] at hc
  subst hc
  exact ⟨a, now, va, rfl, hr⟩
end
end Go.Proofs.YtcadgecnlahkgaaGreatDoor
namespace Go.Proofs.YtcadgecnlahkgaaGreatDoor
open Go.RowKit Go.Shelf
attribute [local go_sem] Oper.semAt_some
theorem af_r13 {t0 t1 t2 t3 t4 t5 t6 t7 t8 t9 t10 t11 t13 t15 t16 t17 t18 t19 t20 t21 t22 t23 t24 t25 t26 t27 t28 t29 t30 t31 t32 t33 t34 t35 t36 t37 t38 t39 t40 t41 t42 t43 t44 t45 t46 t47 t48 t49 t50 t51 t52 t53 t54 t55 t56 t57 t58 t59 t60 t61 t62 t63 t64 t65 t66 t67 t68 t69 t70 t71 t72 t73 : Value} {R : Exit → Act → World → Prop} {w : World} {g4 g6 na q : Nat} {p : Option Addr} {A : Dw.Aud} {nA s : Dw.St} {xf : Dw.Fl} {xv xn : Int} {vr : Value} (b4 : w.heap[g4]? = some (.cells (audC A nA (.slice p na q)) 66)) (b6 : w.heap[g6]? = some (.cells (fliC ⟨xf, s, 0, xv, xn⟩ vr) 36)) (HSA : Hid (StsAt w (.slice p na q) A.ack))
    (HKA : Hid (∀ w, StsAt w (.slice p na q) A.ack → Calls Tryz.prog 26 #[audV A nA (.slice p na q), stV s] w fun e w' => e = .returned (.bool true) ∧ Below w.heap.size w w'))
    (hR : ∀ (v63 v64 v65 v66 v67 v68 v69 v70 v71 v72 v73 : Value) (w' : World), Below w.heap.size w w' → wpList Tryz.prog (opsR 13 Tryz.f7) R [] { tmps := #[t0, t1, t2, t3, t4, t5, t6, t7, .bool true, t9, t10, t11, .pointer (some ⟨g4, 0, none⟩), t13, .pointer (some ⟨g6, 0, none⟩), t15, t16, t17, t18, t19, t20, t21, t22, t23, t24, t25, t26, t27, t28, t29, t30, t31, t32, t33, t34, t35, t36, t37, t38, t39, t40, t41, t42, t43, t44, t45, t46, t47, t48, t49, t50, t51, t52, t53, t54, t55, t56, t57, t58, t59, t60, t61, t62, v63, v64, v65, v66, v67, v68, v69, v70, v71, v72, v73], defers := [] } w') :
    wpList Tryz.prog (opsR 13 Tryz.f7) R (opsR 13 Tryz.f7).toList { tmps := #[t0, t1, t2, t3, t4, t5, t6, t7, t8, t9, t10, t11, .pointer (some ⟨g4, 0, none⟩), t13, .pointer (some ⟨g6, 0, none⟩), t15, t16, t17, t18, t19, t20, t21, t22, t23, t24, t25, t26, t27, t28, t29, t30, t31, t32, t33, t34, t35, t36, t37, t38, t39, t40, t41, t42, t43, t44, t45, t46, t47, t48, t49, t50, t51, t52, t53, t54, t55, t56, t57, t58, t59, t60, t61, t62, t63, t64, t65, t66, t67, t68, t69, t70, t71, t72, t73], defers := [] } w := by
  have e : findR 13 Tryz.f7.body.get! = findR 13 Tryz.f7.body.get! := rfl
  conv at e => rhs; whnf
  unfold opsR
  rw [e, Option.getD_some]
  simp only [List.toList_toArray]
  clear e
  have HR := Lib.hid hR
  clear hR
  have hB := Below.refl w.heap.size w
  go_wp2_with (first | (refine lb b4 rfl rfl rfl (by kernel_rfl) ?_) | (refine lp 29 5 (stC s) b6 rfl rfl rfl (by kernel_rfl) (by rfl) ?_))
  refine cb (HKA.out _ HSA.out) fun w1 hb => ?_
  replace b6 := kp hb b6
  replace hB := tr hB hb
  have x11 : w1.cell? ⟨g6, 11, none⟩ = some (.int .i64 0) := by rw [cell_of_row _ _ 11 _ _ _ b6]; rfl
  clear hb b4
  go_wp2_with fail
  exact HR.out _ _ _ _ _ _ _ _ _ _ _ _ hB
theorem aflips_any (n li : Nat) (hn8 : n < 256) (hl8 : li < 256) (l : List Dw.En) (at_ : Int) (hat : 0 ≤ at_ ∧ at_ ≤ 65535) (v : Value) (w : World) (hv : EnsAt w v l) (hn : NoneAt w) :
    Calls Tryz.prog 7 #[.int .u8 n, .int .u8 li, v, .int .u16 at_] w fun e w' => e = .returned (.bool true) ∧ Below w.heap.size w w' := by
  have hB := Below.refl w.heap.size w
  have HV := Lib.hid hv
  obtain ⟨sa, cap, rfl, -, -⟩ := id hv
  clear hv
  obtain ⟨m13, hm13⟩ : ∃ m, n % 13 = m := ⟨_, rfl⟩
  have A1 := Lib.hid (show IntKind.i64.wrap (n : Int) = (n : Int) from IntWalk.i64_in _ (by omega))
  have A2 := Lib.hid (show Int.tmod (n : Int) 13 = (m13 : Int) by rw [← hm13]; rfl)
  have A3 := Lib.hid (show IntKind.i64.wrap (m13 : Int) = (m13 : Int) from IntWalk.i64_in _ (by omega))
  have A4 := Lib.hid (show IntKind.i64.wrap (li : Int) = (li : Int) from IntWalk.i64_in _ (by omega))
  have A5 := Lib.hid (show IntKind.i64.wrap at_ = at_ from IntWalk.i64_in _ (by omega))
  clear hm13 hn8 hl8
  go_enter Tryz.func7, Tryz.ntmps7
  go_wp2_with fail
  refine (long22_any l _ _ HV.out).mono ?_
  rintro en w1 ⟨⟨b, rfl, hlb⟩, hb⟩
  replace hB := tr hB hb
  clear hb
  cases b with
  | true =>
    go_wp2_with fail
    refine (shown22_any _ (hn.next hB)).mono ?_
    rintro en wy ⟨rfl, hb⟩
    replace hB := tr hB hb
    clear hb
    go_wp2_with fail
    go_ret
    exact ⟨rfl, hB⟩
  | false =>
  have HL := Lib.hid (hlb rfl)
  clear hlb
  go_wp2_with fail
  refine (turned22_any l (by have := HL.out; omega) _ _ (HV.out.next hB)).mono ?_
  rintro en w2 ⟨⟨b, rfl, htb⟩, hb⟩
  replace hB := tr hB hb
  clear hb
  cases b with
  | true =>
    go_wp2_with fail
    refine (shown22_any _ (hn.next hB)).mono ?_
    rintro en wy ⟨rfl, hb⟩
    replace hB := tr hB hb
    clear hb
    go_wp2_with fail
    go_ret
    exact ⟨rfl, hB⟩
  | false =>
  have HT := Lib.hid (htb rfl)
  clear htb
  go_wp2_with fail
  refine (shown22_any _ (hn.next hB)).mono ?_
  rintro en w3 ⟨rfl, hb⟩
  replace hB := tr hB hb
  clear hb
  go_wp2_with fail
  obtain ⟨V0, hV0⟩ : ∃ V, w3.alloc (.cells #[] 48) = V := ⟨_, rfl⟩
  have bO : V0.heap[w3.heap.size]? = some (.cells #[] 48) := by rw [← hV0]; exact han _ _
  have hown0 : V0.ownsRow w3.heap.size 48 11 (.slice (some ⟨w3.heap.size, 0, none⟩) 0 0) 0 (enCells []) := ⟨rfl, .inr ⟨_, 0, #[], rfl, Nat.le_refl _, bO, Nat.le_refl _, Nat.zero_le _, rfl, rfl⟩⟩
  have hb : Below w3.heap.size w3 V0 := by rw [← hV0]; exact (Below.refl _ w3).alloc (Nat.le_refl _) _
  have hB0 := tr hB hb
  have z3 : w.heap.size ≤ w3.heap.size := hB.size
  have z0 : w3.heap.size < V0.heap.size := block_lt bO
  have h0l : (0 : Int) ≤ (l.length : Int) := by omega
  clear bO hb
  try rw [hV0]
  clear hV0 hB
  go_loopw [9, 10] (fun s i wr => ∃ (k : Nat) (vo : Value), k ≤ l.length ∧ i = .int .i64 k ∧ s = vo ∧ wr.ownsRow w3.heap.size 48 11 vo k (enCells ((l.take k).map Dw.unc)) ∧ Below w.heap.size w wr ∧ w3.heap.size ≤ wr.heap.size) (fun _ i _ => l.length - (intOf i).toNat)
  case atStart => exact ⟨0, _, Nat.zero_le _, rfl, rfl, hown0, hB0, by omega⟩
  case round =>
    clear hown0 hB0 z0
    obtain ⟨k, vo, hk, rfl, rfl, hown, hB, zw⟩ := hrel
    by_cases hlt : k < l.length
    · have hlt' : (k : Int) < (l.length : Int) := by omega
      obtain ⟨e, hce⟩ : ∃ e, l[k]? = some e := ⟨l[k], List.getElem?_eq_getElem hlt⟩
      obtain ⟨he, bb, off, hsa, kc⟩ := EnsAt.get (HV.out.next hB) hce
      subst hsa
      have HTK := Lib.hid (show enCells ((l.take (k + 1)).map Dw.unc) = enCells ((l.take k).map Dw.unc) ++ (enC (Dw.unc e)).toList by rw [Dw.take_snoc hce, List.map_append]; exact enCells_snoc _ _)
      have ll := HL.out
      obtain ⟨V4, hV4⟩ : ∃ V, wr.alloc (.cells (enC e) 48) = V := ⟨_, rfl⟩
      have hb4 : Below wr.heap.size wr V4 := by rw [← hV4]; exact (Below.refl _ wr).alloc (Nat.le_refl _) _
      have bE : V4.heap[wr.heap.size]? = some (.cells (enC e) 48) := by rw [← hV4]; exact han _ _
      have k8 : V4.cell? ⟨wr.heap.size, 8, none⟩ = some (.int .i64 e.p.cut) := by rw [cell_of_row _ _ 8 _ _ _ bE]; rfl
      have f8 := frozen0 bE 8
      have b5 : (V4.setCell ⟨wr.heap.size, 8, none⟩ (.int .i64 (-1))).heap[wr.heap.size]? = some (.cells (enC (Dw.unc e)) 48 (0, 0)) := heap_setCell_same V4 wr.heap.size 8 _ _ (.int .i64 (-1)) bE
      have hb5 : Below wr.heap.size V4 (V4.setCell ⟨wr.heap.size, 8, none⟩ (.int .i64 (-1))) := ((KeepBut.refl (fun j => j = wr.heap.size) V4).setCell (p := ⟨wr.heap.size, 8, none⟩) rfl (.int .i64 (-1))).below hb4.size (fun j hj => by omega)
      have zE := block_lt bE
      obtain ⟨V6, hV6⟩ : ∃ V, (V4.setCell ⟨wr.heap.size, 8, none⟩ (.int .i64 (-1))).alloc (.cells (enC (Dw.unc e)) 48) = V := ⟨_, rfl⟩
      have hb6 : Below (V4.setCell ⟨wr.heap.size, 8, none⟩ (.int .i64 (-1))).heap.size (V4.setCell ⟨wr.heap.size, 8, none⟩ (.int .i64 (-1))) V6 := by rw [← hV6]; exact (Below.refl _ _).alloc (Nat.le_refl _) _
      have hsz : (V4.setCell ⟨wr.heap.size, 8, none⟩ (.int .i64 (-1))).heap.size = V4.heap.size := by simp
      have b6 : V6.heap[V4.heap.size]? = some (.cells (enC (Dw.unc e)) 48) := by rw [← hsz, ← hV6]; exact han _ _
      have hBw : Below wr.heap.size wr V6 := (hb4.trans hb5).trans (hb6.mono (hb4.trans hb5).size)
      have how6 := own_next hown hBw
      have hB6 := tr hB hBw
      have z6 : w3.heap.size ≤ V6.heap.size := by have := hBw.size; omega
      have HB6 := Lib.hid hB6; have HV4 := Lib.hid hV4; have HV6 := Lib.hid hV6
      clear hce he hb4 hb5 hb6 hBw hB hown hB6 hV4 hV6 hsz
      go_wp2_with (first | (refine lr (enC e).toList.toArray kc rfl rfl rfl (by kernel_rfl) ?_) | (refine nb rfl rfl rfl rfl (by go_simp; first | done | with_reducible rfl | exact rfl) rfl rfl (by kernel_rfl) ?_; rw [HV4.out]) | (refine lb b5 rfl rfl rfl (by kernel_rfl) ?_) | (at_builtin; (try rw [HV6.out]); refine append_own22 (by rfl) (by rfl) Tryz.underlying22 infoEn rfl (by decide) (by decide) how6 (by omega) z6 rfl b6 rfl rfl (enC_one _) ?_; intro v1 w5 how5 hk5))
      have HB5 := Lib.hid (HB6.out.trans (hk5.below (by have := HB6.out.size; omega) (fun j hj => by have := (own_blk how6 hj).1; omega)))
      have HO5 := Lib.hid how5
      have zz : w3.heap.size ≤ w5.heap.size := by have := hk5.size; omega
      clear hk5 how5 how6 b6 b5 bE k8 f8 kc HB6 HV4 HV6
      go_wp2_with fail
      go_roundw
      case rel => exact ⟨k + 1, _, hlt, by go_num, rfl, by rw [HTK.out]; exact HO5.out, HB5.out, zz⟩
      case measure => first | done | (simp [intOf]; done) | (simp [intOf]; omega)
    · skip
      have hge : ¬ (k : Int) < (l.length : Int) := by omega
      obtain rfl : k = l.length := by omega
      rw [List.take_length] at hown
      have HM := Lib.hid (ens_own hown (by simp) (Dw.unc_ok HV.out.oks))
      have hml : (l.map Dw.unc).length ≤ 100 := by rw [List.length_map]; have := HL.out; omega
      have hmk := Dw.unc_ki HT.out
      have hmc := Dw.unc_cut l
      clear hown
      generalize l.map Dw.unc = m at *
      have hFA := fun w v hn hv => follow_any (m13 : Int) (li : Int) m hml v w hn hv
      have hBG := fun w hn => begin_any (m13 : Int) (li : Int) w hn
      have hRN := fun w v2 hn hv => frun_any (Dw.beginF (m13 : Int) (li : Int)) m (Dw.newF_ok _ _) (Dw.boot_legal _) (by omega) (Nat.zero_le _) (.slice none 0 0) v2 w hn (World.ownsRow_nil _ _ _ _) hv
      have hkn := Dw.kp_flip (Dw.kp_run m 0 (Dw.beginF (m13 : Int) (li : Int)) Dw.aud0 (Dw.fly_begin _ _) (Dw.kp_begin _ _) (by omega) hmk hmc (by show (0 : Int) ≠ 3; decide) rfl) at_
      have hok := Dw.runF_ok m (Dw.beginF (m13 : Int) (li : Int)) (Dw.newF_ok _ _)
      have hleg := Dw.runF_legal m (Dw.beginF (m13 : Int) (li : Int)) (Dw.boot_legal _)
      have hol := Dw.out_le m (Dw.beginF (m13 : Int) (li : Int))
      have hlA := Dw.audF_len m (Dw.beginF (m13 : Int) (li : Int)) Dw.aud0
      have h00 : Dw.aud0.ack.length = 0 := rfl
      have h01 : (Dw.beginF (m13 : Int) (li : Int)).out.length = 0 := rfl
      generalize Dw.audF (Dw.beginF (m13 : Int) (li : Int)) Dw.aud0 m = A at *
      generalize Dw.runF (Dw.beginF (m13 : Int) (li : Int)) m = G at *
      have hlA2 : A.ack.length ≤ 1000 := by omega
      have hST := fun v w hn hv => (show Calls Tryz.prog 18 #[fliV G.x v, enV ⟨4, ⟨0, 0, 0, 0⟩, 0, 0, 0, ⟨0, []⟩, at_⟩] w (fun en w' => (∃ v', en = .returned (fliV (Dw.boot (Dw.flip G.x.f at_)) v') ∧ RepsAt w' v' (G.out ++ [Dw.repOf G.x ⟨4, ⟨0, 0, 0, 0⟩, 0, 0, 0, ⟨0, []⟩, at_⟩])) ∧ Below w.heap.size w w') from fstep_any G ⟨4, ⟨0, 0, 0, 0⟩, 0, 0, 0, ⟨0, []⟩, at_⟩ hok hleg ⟨⟨(by decide : 0 < 18446744073709551616), (by decide : 0 < 18446744073709551616), (by decide : 0 < 18446744073709551616)⟩, by show -9223372036854775808 ≤ at_ ∧ at_ ≤ 9223372036854775807; omega⟩ (by omega) v w hn hv)
      obtain ⟨X, go⟩ := G
      dsimp only at *
      have hKA := fun now va w h => known_is (a := A) (now := now) hkn hlA2 va w h
      rw [show Dw.boot (Dw.flip X.f at_) = ⟨Dw.flip X.f at_, Dw.bootT (Dw.flip X.f at_), 0, 0, 0⟩ from rfl] at hST
      generalize Dw.bootT (Dw.flip X.f at_) = s at *
      generalize Dw.bootT X.f = nA at *
      generalize Dw.flip X.f at_ = xf at *
      have HFA := Lib.hid hFA; have HBG := Lib.hid hBG; have HRN := Lib.hid hRN; have HKA := Lib.hid hKA; have HST := Lib.hid hST; have HB := Lib.hid hB
      clear hFA hBG hRN hkn hlA h00 h01 hlA2 hKA hST hB hmk hmc hml hok hleg hol hat
      have a1 := A1.out; have a2 := A2.out; have a3 := A3.out; have a4 := A4.out
      go_wp2_with fail
      refine (HFA.out _ _ (hn.next HB.out) HM.out).mono ?_
      rintro en w5 ⟨⟨va, rfl, how⟩, hb⟩
      have hB := tr HB.out hb
      have hM := HM.out.next hb
      obtain ⟨p, q, rfl⟩ := own_shape22 how
      have hSA := sts_own how rfl
      dsimp only at hSA ⊢
      clear hb HB HM HFA how
      obtain ⟨V4, hV4⟩ : ∃ V, w5.alloc (.cells (audC A nA (.slice p A.ack.length q)) 66) = V := ⟨_, rfl⟩
      have b4 : V4.heap[w5.heap.size]? = some (.cells (audC A nA (.slice p A.ack.length q)) 66) := by rw [← hV4]; exact han _ _
      have hb : Below w5.heap.size w5 V4 := by rw [← hV4]; exact (Below.refl _ w5).alloc (Nat.le_refl _) _
      have HSA := Lib.hid (hSA.next hb); have HB := Lib.hid (tr hB hb); have HM := Lib.hid (hM.next hb); have HV4 := Lib.hid hV4; have H4 := Lib.hid b4
      clear hb hV4 hSA hB hM b4
      go_wp2_with (first | (refine nb rfl rfl rfl rfl (by go_simp; first | done | with_reducible rfl | exact rfl) rfl rfl (by kernel_rfl) ?_; rw [HV4.out]))
      clear HV4
      refine (HBG.out _ (hn.next HB.out)).mono ?_
      rintro en w6 ⟨rfl, hb⟩
      have hB := tr HB.out hb
      have hSA := RowsAt.next HSA.out hb
      have hM := HM.out.next hb
      have b4 := kp hb H4.out
      clear hb HB HM HSA H4 HBG
      go_wp2_with fail
      refine (HRN.out _ _ (hn.next hB) hM).mono ?_
      rintro en w7 ⟨⟨vr, rfl, hr⟩, hb⟩
      obtain ⟨pr, qr, rfl⟩ := reps_shape hr
      replace hB := tr hB hb
      replace hSA := RowsAt.next hSA hb
      replace b4 := kp hb b4
      clear hb hM HRN a1 a2 a3 a4
      obtain ⟨V5, hV5⟩ : ∃ V, w7.alloc (.cells (fliC X (.slice pr go.length qr)) 36) = V := ⟨_, rfl⟩
      have b5 : V5.heap[w7.heap.size]? = some (.cells (fliC X (.slice pr go.length qr)) 36) := by rw [← hV5]; exact han _ _
      have hb : Below w7.heap.size w7 V5 := by rw [← hV5]; exact (Below.refl _ w7).alloc (Nat.le_refl _) _
      have hR := reps_next hr hb
      have HSA := Lib.hid (RowsAt.next hSA hb); have HB := Lib.hid (tr hB hb); have HV5 := Lib.hid hV5; have H4 := Lib.hid (kp hb b4); have HR := Lib.hid hR
      have a5 := A5.out
      clear hb hV5 hSA hB b4 hr hR
      go_wp2_with (first | (refine nb rfl rfl rfl rfl (by go_simp; first | done | with_reducible rfl | exact rfl) rfl rfl (by kernel_rfl) ?_; rw [HV5.out]) | (refine lb b5 rfl rfl rfl (by kernel_rfl) ?_))
      clear HV5 b5
      refine (HST.out _ _ (hn.next HB.out) HR.out).mono ?_
      rintro en w8 ⟨⟨vs, rfl, hr⟩, hb⟩
      obtain ⟨ps, qs, rfl⟩ := reps_shape hr
      have hB := tr HB.out hb
      have hSA := RowsAt.next HSA.out hb
      have b4 := kp hb H4.out
      generalize (go ++ [Dw.repOf X ⟨4, ⟨0, 0, 0, 0⟩, 0, 0, 0, ⟨0, []⟩, at_⟩]).length = ns at *
      clear hb HR HSA H4 HST HB hr a5
      obtain ⟨V6, hV6⟩ : ∃ V, w8.alloc (.cells (fliC ⟨xf, s, 0, 0, 0⟩ (.slice ps ns qs)) 36) = V := ⟨_, rfl⟩
      have b6 : V6.heap[w8.heap.size]? = some (.cells (fliC ⟨xf, s, 0, 0, 0⟩ (.slice ps ns qs)) 36) := by rw [← hV6]; exact han _ _
      have hb : Below w8.heap.size w8 V6 := by rw [← hV6]; exact (Below.refl _ w8).alloc (Nat.le_refl _) _
      have HSA := Lib.hid (RowsAt.next hSA hb); have HB := Lib.hid (tr hB hb); have HV6 := Lib.hid hV6; have H4 := Lib.hid (kp hb b4); have H6 := Lib.hid b6
      clear hb hV6 hSA hB b4 b6
      rename_i h0K
      refine h0K _ _ ?_
      clear h0K
      rename_i hK Kop
      have HK := Lib.hid hK
      clear hK
      go_wp2_with (first | (refine nb rfl rfl rfl rfl (by go_simp; first | done | with_reducible rfl | exact rfl) rfl rfl (by kernel_rfl) ?_; rw [HV6.out]))
      clear HV6
      refine HK.out _ _ ?_
      clear HK
      go_step
      go_step
      refine list_swap (ops := opsR 13 Tryz.f7) ?_ (by kernel_rfl) (by kernel_rfl)
      refine af_r13 H4.out H6.out HSA (Lib.hid (fun w h => HKA.out _ _ w h)) ?_
      intro v63 v64 v65 v66 v67 v68 v69 v70 v71 v72 v73 w9 hb9
      have HB9 := Lib.hid (tr HB.out hb9)
      clear H4 H6 HSA HKA HB hb9
      go_wp2_with fail
      go_ret
      exact ⟨rfl, HB9.out⟩
end Go.Proofs.YtcadgecnlahkgaaGreatDoor
namespace Go.Proofs.YtcadgecnlahkgaaGreatDoor
open Go.RowKit Go.Shelf
attribute [local go_sem] Oper.semAt_some
namespace Dw
theorem greedy_cons (r : Rep) (rs : List Rep) (s : St) (l : List St) : greedy (r :: rs) (s :: l) = if r.s = s ∧ r.e = 0 then greedy rs l else greedy rs (s :: l) := rfl
theorem greedy_nil (l : List St) : greedy [] l = l := by unfold greedy; rfl
theorem drop_cons {α : Type} {l : List α} {k : Nat} {x : α} (h : l[k]? = some x) : l.drop k = x :: l.drop (k + 1) := by
  obtain ⟨hk, rfl⟩ := List.getElem?_eq_some_iff.1 h
  exact List.drop_eq_getElem_cons hk
theorem well_len (o : List Rep) (k : Nat) (r : Rep) (h : o[k]? = some r) : (well (o.take (k + 1))).length = (well (o.take k)).length + if r.e = 0 then 1 else 0 := by
  rw [take_snoc h, well_snoc]
  split <;> simp
theorem well_le (o : List Rep) : (well o).length ≤ o.length := by
  unfold well
  rw [List.length_map]
  exact List.length_filter_le _ _
end Dw
theorem aacks_any (n li : Int) (l : List Dw.En) (v : Value) (w : World) (hv : EnsAt w v l) (hn : NoneAt w) :
    Calls Tryz.prog 8 #[.int .i64 n, .int .i64 li, v] w fun e w' => e = .returned (.bool true) ∧ Below w.heap.size w w' := by
  have hB := Below.refl w.heap.size w
  have HV := Lib.hid hv
  obtain ⟨sa, cap, rfl, -, -⟩ := id hv
  clear hv
  go_enter Tryz.func8, Tryz.ntmps8
  go_wp2_with fail
  refine (long22_any l _ _ HV.out).mono ?_
  rintro en w1 ⟨⟨b, rfl, hlb⟩, hb⟩
  replace hB := tr hB hb
  clear hb
  cases b with
  | true =>
    go_wp2_with fail
    refine (shown22_any _ (hn.next hB)).mono ?_
    rintro en wy ⟨rfl, hb⟩
    replace hB := tr hB hb
    clear hb
    go_wp2_with fail
    go_ret
    exact ⟨rfl, hB⟩
  | false =>
  have HL := Lib.hid (hlb rfl)
  clear hlb
  go_wp2_with fail
  refine (shown22_any _ (hn.next hB)).mono ?_
  rintro en w3 ⟨rfl, hb⟩
  replace hB := tr hB hb
  clear hb
  have hll : l.length ≤ 100 := by have := HL.out; omega
  have hFA := fun w v hn hv => follow_any n li l hll v w hn hv
  have hBG := fun w hn => begin_any n li w hn
  have hRN := fun w v2 hn hv => frun_any (Dw.beginF n li) l (Dw.newF_ok n li) (Dw.boot_legal _) (by omega) (Nat.zero_le _) (.slice none 0 0) v2 w hn (World.ownsRow_nil _ _ _ _) hv
  have hsub := Dw.acks_run l (Dw.beginF n li) Dw.aud0 (List.nil_sublist _)
  have hlA := Dw.audF_len l (Dw.beginF n li) Dw.aud0
  have hlo := Dw.out_le l (Dw.beginF n li)
  have h00 : Dw.aud0.ack.length = 0 := rfl
  have h01 : (Dw.beginF n li).out.length = 0 := rfl
  generalize Dw.audF (Dw.beginF n li) Dw.aud0 l = A at *
  generalize Dw.runF (Dw.beginF n li) l = G at *
  obtain ⟨ack, fly, fs⟩ := A
  obtain ⟨X, o⟩ := G
  dsimp only at *
  have hg0 := Dw.greedy_all o ack hsub
  have hwl := hsub.length_le
  have hlA2 : ack.length ≤ 1000 := by omega
  have hlo2 : o.length ≤ 1000 := by omega
  generalize Dw.bootT X.f = nA at *
  have HFA := Lib.hid hFA; have HBG := Lib.hid hBG; have HRN := Lib.hid hRN
  have HG0 := Lib.hid hg0; have HWL := Lib.hid (show (ack.length : Int) ≤ ((Dw.well o).length : Int) by omega)
  clear hFA hBG hRN hsub hlA hlo h00 h01 hg0 hwl hll
  go_wp2_with fail
  refine (HFA.out _ _ (hn.next hB) (HV.out.next hB)).mono ?_
  rintro en w5 ⟨⟨va, rfl, how⟩, hb⟩
  replace hB := tr hB hb
  obtain ⟨p, qa, rfl⟩ := own_shape22 how
  have hSA := sts_own how rfl
  dsimp only at hSA ⊢
  clear hb HFA how
  obtain ⟨V4, hV4⟩ : ∃ V, w5.alloc (.cells (audC ⟨ack, fly, fs⟩ nA (.slice p ack.length qa)) 66) = V := ⟨_, rfl⟩
  have b4 : V4.heap[w5.heap.size]? = some (.cells (audC ⟨ack, fly, fs⟩ nA (.slice p ack.length qa)) 66) := by rw [← hV4]; exact han _ _
  have hb : Below w5.heap.size w5 V4 := by rw [← hV4]; exact (Below.refl _ w5).alloc (Nat.le_refl _) _
  replace hSA := RowsAt.next hSA hb
  replace hB := tr hB hb
  have HV4 := Lib.hid hV4
  clear hb hV4
  go_wp2_with (first | (refine nb rfl rfl rfl rfl (by go_simp; first | done | with_reducible rfl | exact rfl) rfl rfl (by kernel_rfl) ?_; rw [HV4.out]))
  clear HV4
  refine (HBG.out _ (hn.next hB)).mono ?_
  rintro en w6 ⟨rfl, hb⟩
  replace hB := tr hB hb
  replace hSA := RowsAt.next hSA hb
  replace b4 := kp hb b4
  clear hb HBG
  go_wp2_with fail
  refine (HRN.out _ _ (hn.next hB) (HV.out.next hB)).mono ?_
  rintro en w7 ⟨⟨vr, rfl, hr⟩, hb⟩
  obtain ⟨pr, qr, rfl⟩ := reps_shape hr
  replace hB := tr hB hb
  replace hSA := RowsAt.next hSA hb
  replace b4 := kp hb b4
  clear hb HRN
  obtain ⟨V5, hV5⟩ : ∃ V, w7.alloc (.cells (fliC X (.slice pr o.length qr)) 36) = V := ⟨_, rfl⟩
  have b5 : V5.heap[w7.heap.size]? = some (.cells (fliC X (.slice pr o.length qr)) 36) := by rw [← hV5]; exact han _ _
  have hb : Below w7.heap.size w7 V5 := by rw [← hV5]; exact (Below.refl _ w7).alloc (Nat.le_refl _) _
  have HR := Lib.hid (reps_next hr hb)
  have hB5 := tr hB hb
  have HSA := Lib.hid (RowsAt.next hSA hb)
  replace b4 := kp hb b4
  have HV5 := Lib.hid hV5
  have y14 := (cells15 b5).2.2.2.2.2
  have a0 : V5.cell? ⟨w5.heap.size, 0, none⟩ = some (.slice p ack.length qa) := by rw [cell_of_row _ _ 0 _ _ _ b4]; rfl
  have h0l : (0 : Int) ≤ (o.length : Int) := by omega
  have h0a : (0 : Int) ≤ (ack.length : Int) := by omega
  clear hb hV5 hSA hB b4 b5 hr
  go_wp2_with (first | (refine nb rfl rfl rfl rfl (by go_simp; first | done | with_reducible rfl | exact rfl) rfl rfl (by kernel_rfl) ?_; rw [HV5.out]))
  clear HV5
  go_loopw [9, 10] (fun s i wr => ∃ k : Nat, k ≤ o.length ∧ i = .int .i64 k ∧ s = .int .i64 ((Dw.well (o.take k)).length : Nat) ∧ Keep V5 wr) (fun _ i _ => o.length - (intOf i).toNat)
  case atStart => exact ⟨0, Nat.zero_le _, rfl, rfl, KeepBut.refl _ _⟩
  case round =>
    obtain ⟨k, hk, rfl, rfl, hkv⟩ := hrel
    have c14 := look hkv y14
    by_cases hlt : k < o.length
    · have hlt' : (k : Int) < (o.length : Int) := by omega
      obtain ⟨r, hre⟩ : ∃ r, o[k]? = some r := ⟨o[k], List.getElem?_eq_getElem hlt⟩
      obtain ⟨q, hq, hc⟩ := own_get (reps_next HR.out hkv.whole) hre
      subst hq
      have d0 : wr.cell? ⟨q, k * 8, none⟩ = some (.int .i64 r.e) := hc 0 _ rfl
      have hwx := Dw.well_len o k r hre
      have hwy := Dw.well_le (o.take k)
      rw [List.length_take] at hwy
      obtain ⟨x, hx⟩ : ∃ x, (Dw.well (o.take k)).length = x := ⟨_, rfl⟩
      rw [hx] at hwx hwy ⊢
      have hx1 : x ≤ 1000 := by omega
      have HK := Lib.hid hkv; have HWX := Lib.hid hwx
      clear hre hc hkv hwx hwy hx
      by_cases h0 : r.e = 0
      · have q0 : (r.e == 0) = true := by rw [h0]; rfl
        have HW := Lib.hid (show (Dw.well (o.take (k + 1))).length = x + 1 by rw [HWX.out, if_pos h0])
        clear h0
        go_wp2_with fail
        go_roundw
        case rel => exact ⟨k + 1, hlt, by go_num, by rw [HW.out]; go_num, HK.out⟩
        case measure => first | done | (simp [intOf]; done) | (simp [intOf]; omega)
      · have q0 : (r.e == 0) = false := by simp [h0]
        have HW := Lib.hid (show (Dw.well (o.take (k + 1))).length = x by rw [HWX.out, if_neg h0]; rfl)
        clear h0
        go_wp2_with fail
        go_roundw
        case rel => exact ⟨k + 1, hlt, by go_num, by rw [HW.out], HK.out⟩
        case measure => first | done | (simp [intOf]; done) | (simp [intOf]; omega)
    · have hge : ¬ (k : Int) < (o.length : Int) := by omega
      obtain rfl : k = o.length := by omega
      rw [List.take_length]
      have HK0 := Lib.hid hkv
      clear hk hkv
      have hB5' := hB5.trans (HK0.out.whole.mono hB5.size)
      go_wp2_with fail
      go_loopw [11, 12] (fun s i wr => ∃ k j : Nat, k ≤ o.length ∧ j ≤ ack.length ∧ i = .int .i64 k ∧ s = .int .i64 j ∧ Dw.greedy (o.drop k) (ack.drop j) = [] ∧ Keep V5 wr) (fun _ i _ => o.length - (intOf i).toNat)
      case atStart => exact ⟨0, 0, Nat.zero_le _, Nat.zero_le _, rfl, rfl, HG0.out, HK0.out⟩
      case round =>
        clear c14 HK0 hB5' hge hlt
        obtain ⟨k, j, hk, hj, rfl, rfl, hgr, hkv⟩ := hrel
        have c14 := look hkv y14
        have x0 := look hkv a0
        by_cases hlt : k < o.length
        · have hlt' : (k : Int) < (o.length : Int) := by omega
          by_cases hja : j < ack.length
          · have hja' : (j : Int) < (ack.length : Int) := by omega
            obtain ⟨r, hre⟩ : ∃ r, o[k]? = some r := ⟨o[k], List.getElem?_eq_getElem hlt⟩
            obtain ⟨s, hse⟩ : ∃ s, ack[j]? = some s := ⟨ack[j], List.getElem?_eq_getElem hja⟩
            obtain ⟨q, hq, hc⟩ := own_get (reps_next HR.out hkv.whole) hre
            subst hq
            obtain ⟨ab, aoff, hpa, hca⟩ := StsAt.get (RowsAt.next HSA.out hkv.whole) hse
            subst hpa
            have d0 : wr.cell? ⟨q, k * 8, none⟩ = some (.int .i64 r.e) := hc 0 _ rfl
            have hcs : ∀ i u, (stC r.s).toList[i]? = some u → wr.cell? ⟨q, k * 8 + 2 + i, none⟩ = some u := fun i u hi => by
              rw [Nat.add_assoc]
              exact hc (2 + i) u (by rw [Nat.add_comm]; exact hi)
            rw [Dw.drop_cons hre, Dw.drop_cons hse, Dw.greedy_cons] at hgr
            have HDA := Lib.hid (Dw.drop_cons hse)
            have HK := Lib.hid hkv
            clear hre hse hc hkv
            by_cases h1 : r.s = s
            · have HQ := Lib.hid (fun (u v : Operand) (w : World) => show _ = Result.ok (Value.bool true) w from (st_eq u v r.s s w).trans (by rw [decide_eq_true h1]))
              by_cases h0 : r.e = 0
              · have q0 : (r.e == 0) = true := by rw [h0]; rfl
                rw [if_pos ⟨h1, h0⟩] at hgr
                have HGR := Lib.hid hgr
                clear h0 h1 hgr
                go_wp2_with fail
                refine wp_pure [0, 1, 2, 3, 4, 5, 6, 7, 8, 9, 10, 11, 12, 13, 14, 15, 16, 17, 18, 19, 20] 21 (by kernel_rfl) (by kernel_rfl) rfl ?_
                (apply rat; (focus (intro w' hk; obtain ⟨j14,j0,i0⟩ := look3 hk c14 x0 d0; repeat' (first | exact rn | ((first | refine' rv ?_ rfl rfl (by exact exec_cells (b := q) (off := k * 8 + 2) (stC r.s) (fun i u hi => look hk (hcs i u hi)) rfl rfl (by kernel_rfl)) | refine' rv ?_ rfl rfl (by exact exec_cells (b := ab) (off := aoff + j * 6) (stC s) (fun i u hi => look hk (hca i u hi)) rfl rfl (by kernel_rfl)) | refine' rv ?_ rfl rfl (by exact exec_bin rfl rfl rfl (HQ.out _ _ _)) | refine' rv ?_ rfl rfl (by go_simp; first | done | with_reducible rfl | exact rfl) | refine' rs ?_ rfl rfl); try simp only [Act.put, List.setIfInBounds_toArray, List.set_cons_zero, List.set_cons_succ])))))
                intro w9 hk9
                simp only [List.drop_succ_cons, List.drop_zero]
                have HK9 := Lib.hid (HK.out.trans hk9)
                clear hk9 HK hcs hca d0 c14 x0 HQ
                go_wp2_with fail
                go_roundw
                case rel => exact ⟨k + 1, j + 1, hlt, hja, by go_num, by go_num, HGR.out, HK9.out⟩
                case measure => first | done | (simp [intOf]; done) | (simp [intOf]; omega)
              · have q0 : (r.e == 0) = false := by simp [h0]
                rw [if_neg (fun h => h0 h.2)] at hgr
                have HGR := Lib.hid hgr
                clear h0 h1 hgr
                go_wp2_with fail
                refine wp_pure [0, 1, 2, 3, 4, 5, 6, 7, 8, 9, 10, 11, 12, 13, 14, 15, 16, 17, 18, 19, 20] 21 (by kernel_rfl) (by kernel_rfl) rfl ?_
                (apply rat; (focus (intro w' hk; obtain ⟨j14,j0,i0⟩ := look3 hk c14 x0 d0; repeat' (first | exact rn | ((first | refine' rv ?_ rfl rfl (by exact exec_cells (b := q) (off := k * 8 + 2) (stC r.s) (fun i u hi => look hk (hcs i u hi)) rfl rfl (by kernel_rfl)) | refine' rv ?_ rfl rfl (by exact exec_cells (b := ab) (off := aoff + j * 6) (stC s) (fun i u hi => look hk (hca i u hi)) rfl rfl (by kernel_rfl)) | refine' rv ?_ rfl rfl (by exact exec_bin rfl rfl rfl (HQ.out _ _ _)) | refine' rv ?_ rfl rfl (by go_simp; first | done | with_reducible rfl | exact rfl) | refine' rs ?_ rfl rfl); try simp only [Act.put, List.setIfInBounds_toArray, List.set_cons_zero, List.set_cons_succ])))))
                intro w9 hk9
                simp only [List.drop_succ_cons, List.drop_zero]
                have HK9 := Lib.hid (HK.out.trans hk9)
                clear hk9 HK hcs hca d0 c14 x0 HQ
                go_wp2_with fail
                go_roundw
                case rel => exact ⟨k + 1, j, hlt, hj, by go_num, rfl, by rw [HDA.out]; exact HGR.out, HK9.out⟩
                case measure => first | done | (simp [intOf]; done) | (simp [intOf]; omega)
            · have HQ := Lib.hid (fun (u v : Operand) (w : World) => show _ = Result.ok (Value.bool false) w from (st_eq u v r.s s w).trans (by rw [decide_eq_false h1]))
              rw [if_neg (fun h => h1 h.1)] at hgr
              have HGR := Lib.hid hgr
              clear h1 hgr
              go_wp2_with fail
              refine wp_pure [0, 1, 2, 3, 4, 5, 6, 7, 8, 9, 10, 11, 12, 13, 14, 15, 16, 17, 18, 19, 20] 21 (by kernel_rfl) (by kernel_rfl) rfl ?_
              (apply rat; (focus (intro w' hk; obtain ⟨j14,j0,i0⟩ := look3 hk c14 x0 d0; repeat' (first | exact rn | ((first | refine' rv ?_ rfl rfl (by exact exec_cells (b := q) (off := k * 8 + 2) (stC r.s) (fun i u hi => look hk (hcs i u hi)) rfl rfl (by kernel_rfl)) | refine' rv ?_ rfl rfl (by exact exec_cells (b := ab) (off := aoff + j * 6) (stC s) (fun i u hi => look hk (hca i u hi)) rfl rfl (by kernel_rfl)) | refine' rv ?_ rfl rfl (by exact exec_bin rfl rfl rfl (HQ.out _ _ _)) | refine' rv ?_ rfl rfl (by go_simp; first | done | with_reducible rfl | exact rfl) | refine' rs ?_ rfl rfl); try simp only [Act.put, List.setIfInBounds_toArray, List.set_cons_zero, List.set_cons_succ])))))
              intro w9 hk9
              simp only [List.drop_succ_cons, List.drop_zero]
              have HK9 := Lib.hid (HK.out.trans hk9)
              clear hk9 HK hcs hca d0 c14 x0 HQ
              go_wp2_with fail
              go_roundw
              case rel => exact ⟨k + 1, j, hlt, hj, by go_num, rfl, by rw [HDA.out]; exact HGR.out, HK9.out⟩
              case measure => first | done | (simp [intOf]; done) | (simp [intOf]; omega)
          · have hja' : ¬ (j : Int) < (ack.length : Int) := by omega
            have hfin : j = ack.length := by omega
            clear hgr
            have HF1 := Lib.hid hfin
            have HB := Lib.hid (hB5.trans (hkv.whole.mono hB5.size))
            have wle := HWL.out
            have jl : (j : Int) = (ack.length : Int) := by rw [HF1.out]
            clear hkv
            go_wp2_with fail
            go_ret
            exact ⟨rfl, HB.out⟩
        · have hge : ¬ (k : Int) < (o.length : Int) := by omega
          have hfin : j = ack.length := by
            have hko : k = o.length := by omega
            rw [hko, List.drop_length, Dw.greedy_nil, List.drop_eq_nil_iff] at hgr
            omega
          clear hgr
          have HF1 := Lib.hid hfin
          have HB := Lib.hid (hB5.trans (hkv.whole.mono hB5.size))
          have wle := HWL.out
          have jl : (j : Int) = (ack.length : Int) := by rw [HF1.out]
          clear hkv
          go_wp2_with fail
          go_ret
          exact ⟨rfl, HB.out⟩
end Go.Proofs.YtcadgecnlahkgaaGreatDoor
