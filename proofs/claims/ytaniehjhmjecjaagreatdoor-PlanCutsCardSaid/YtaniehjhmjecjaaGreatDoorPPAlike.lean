/- The walk of PlanAlike. -/
import Derived.Test.YtaniehjhmjecjaaGreatDoorPShown11
namespace Go.Proofs.YtaniehjhmjecjaaGreatDoor
open Go.RowKit Go.Shelf
attribute [local go_sem] Oper.semAt_some

namespace Dw
/-- The numbers of a flash that came in. -/
def FlRange (f : Fl) : Prop := f.li ≤ 9223372036854775807 ∧ -9223372036854775808 ≤ f.e0 ∧ -9223372036854775808 ≤ f.e1
theorem ok_of {f : Fl} (h : FlRange f) (hb : big f.a f.b = false) : FlOk f := by
  have := of_decide_eq_false hb
  exact ⟨by omega, by omega, h.1, h.2.1, h.2.2⟩
theorem key_get {l m : List Op} (h : l.map keyOp = m.map keyOp) {k : Nat} {o : Op} (ho : l[k]? = some o) : ∃ p, m[k]? = some p ∧ keyOp o = keyOp p := by
  have e := congrArg (fun z => z[k]?) h
  simp only [List.getElem?_map, ho, Option.map_some] at e
  cases hp : m[k]? with
  | none => rw [hp] at e; cases e
  | some p => rw [hp] at e; exact ⟨p, rfl, Option.some.inj e⟩
end Dw
theorem own_len {B : Nat} {w : World} {v : Value} {l : List Dw.Op} (h : OwnOps B w v l) : ∃ s c, v = .slice s l.length c := by
  rcases h.2 with ⟨h1, h2⟩ | ⟨g, cap, cur, h1, _⟩
  · exact ⟨_, _, by rw [h1, h2]⟩
  · exact ⟨_, _, h1⟩

set_option maxRecDepth 100000 in
set_option maxHeartbeats 4000000 in
theorem palike_any (f : Dw.Fl) (hr : Dw.FlRange f) (a b : Nat) (ha : a < 18446744073709551616) (hb : b < 18446744073709551616) (w : World) (hn : NoneAt w) :
    Calls Tryz.prog 5 #[flV f, .int .u64 a, .int .u64 b] w fun e w' => e = .returned (.bool true) ∧ Below w.heap.size w w' := by
  have hB := (Below.refl w.heap.size w).alloc (Nat.le_refl _) (.cells (flashC f.a f.b f.e0 f.e1 f.li) 25)
  have hF := heap_alloc_new w (.cells (flashC f.a f.b f.e0 f.e1 f.li) 25)
  have HA := Lib.hid ha; have HBB := Lib.hid hb; have HRN := Lib.hid hr
  clear ha hb hr
  obtain ⟨c0, c1, c2, c3, c4⟩ := cells5 hF
  go_enter Tryz.func5, Tryz.ntmps5
  go_wp2_with fail
  refine (big11_any f _).mono ?_
  rintro e w1 ⟨rfl, hb⟩
  replace hF := (hb.block _ (block_lt hF)).trans hF
  replace hB := hB.trans (hb.mono hB.size)
  clear hb
  clear c0 c1 c2 c3 c4
  cases hbig : Dw.big f.a f.b
  · have hok := Dw.ok_of HRN.out hbig
    have HOK := Lib.hid hok
    clear hbig hok
    have HF := Lib.hid hF; have HB := Lib.hid hB
    clear hF hB
    go_wp2_with fail
    refine (shown11_any _ (hn.next HB.out)).mono ?_
    rintro e w2 ⟨rfl, hb⟩
    have hF := (hb.block _ (block_lt HF.out)).trans HF.out
    have hB := HB.out.trans (hb.mono HB.out.size)
    clear hb HF HB
    obtain ⟨c0, c1, c2, c3, c4⟩ := cells5 hF
    have HF := Lib.hid hF; have HB := Lib.hid hB
    clear hF hB
    go_wp2_with fail
    refine (plan_any f HOK.out a HA.out _ (hn.next HB.out)).mono ?_
    rintro e w3 ⟨⟨v1, rfl, own1⟩, hb⟩
    have hF := (hb.block _ (block_lt HF.out)).trans HF.out
    have hz2 := HB.out.size
    have hB := HB.out.trans (hb.mono HB.out.size)
    clear hb HF HB c0 c1 c2 c3 c4
    have own1' := own_weaken own1 (B := w.heap.size) (by omega)
    clear own1
    obtain ⟨sa, ca, rfl⟩ := own_len own1'
    obtain ⟨c0, c1, c2, c3, c4⟩ := cells5 hF
    have HF := Lib.hid hF; have HB := Lib.hid hB; have HO1 := Lib.hid own1'
    clear hF hB own1' hz2
    go_wp2_with fail
    refine (plan_any f HOK.out b HBB.out _ (hn.next HB.out)).mono ?_
    rintro e w4 ⟨⟨v2, rfl, own2⟩, hb⟩
    have hz2 := HB.out.size
    have hB := HB.out.trans (hb.mono HB.out.size)
    have own1 := own_below HO1.out (keepB hb)
    have own2' := own_weaken own2 (B := w.heap.size) (by omega)
    clear own2 hb HF HB c0 c1 c2 c3 c4 HO1 hz2
    obtain ⟨sb, cb, rfl⟩ := own_len own2'
    obtain ⟨he, hkey⟩ := Dw.plan_alike f a b
    have hl6 := Dw.plan_len6 f a
    have hlen : (Dw.plan f b).1.length = (Dw.plan f a).1.length := by have := congrArg List.length hkey; simpa using this.symm
    rw [hlen, ← he]
    rw [hlen] at own2'
    generalize (Dw.plan f a).2 = er at *
    generalize (Dw.plan f a).1 = l at *
    generalize (Dw.plan f b).1 = m at *
    have HB := Lib.hid hB; have HO1 := Lib.hid own1; have HO2 := Lib.hid own2'; have HK := Lib.hid hkey; have HL := Lib.hid hlen
    clear hB own1 own2' hkey he hlen
    have hl6' : ¬ (6 : Int) < (l.length : Int) := by omega
    go_wp2_with fail
    go_loopw [11] (fun i wr => ∃ k : Nat, k ≤ l.length ∧ i = .int .i64 k ∧ Below w4.heap.size w4 wr) (fun i _ => l.length - (intOf i).toNat)
    case atStart => exact ⟨0, Nat.zero_le _, rfl, Below.refl _ _⟩
    case round =>
      obtain ⟨k, hk, rfl, hk4⟩ := hrel
      by_cases hlt : k < l.length
      · obtain ⟨o, hoe⟩ : ∃ o, l[k]? = some o := ⟨l[k], List.getElem?_eq_getElem hlt⟩
        obtain ⟨p, hpe, hkk⟩ := Dw.key_get HK.out hoe
        have at1 := opsAt_keep (own_at HO1.out (by omega)) hk4
        have at2 := opsAt_keep (own_at (v := .slice sb m.length cb) (by have := HO2.out; rw [← HL.out] at this; exact this) (by rw [HL.out]; omega)) hk4
        obtain ⟨b1, cp1, cs1, t1, fr1, he1, hb1, hc1⟩ := at1
        obtain ⟨b2, cp2, cs2, t2, fr2, he2, hb2, hc2⟩ := at2
        cases he1
        cases he2
        obtain ⟨q0, q1, q2, q3⟩ := hc1 k o hoe
        obtain ⟨r0, r1, r2, r3⟩ := hc2 k p hpe
        have k0 := (cell_of_row _ _ (k * 4) _ _ _ hb1).trans q0
        have k1 := (cell_of_row _ _ (k * 4 + 1) _ _ _ hb1).trans q1
        have k2 := (cell_of_row _ _ (k * 4 + 2) _ _ _ hb1).trans q2
        have k3 := (cell_of_row _ _ (k * 4 + 3) _ _ _ hb1).trans q3
        have j0 := (cell_of_row _ _ (k * 4) _ _ _ hb2).trans r0
        have j1 := (cell_of_row _ _ (k * 4 + 1) _ _ _ hb2).trans r1
        have j2 := (cell_of_row _ _ (k * 4 + 2) _ _ _ hb2).trans r2
        have j3 := (cell_of_row _ _ (k * 4 + 3) _ _ _ hb2).trans r3
        clear q0 q1 q2 q3 r0 r1 r2 r3 hc1 hc2 hb1 hb2 hoe hpe
        obtain ⟨k1', b1', a1', d1⟩ := o
        obtain ⟨k2', b2', a2', d2⟩ := p
        unfold Dw.keyOp at hkk
        simp only [Prod.mk.injEq] at hkk
        obtain ⟨e0, e1, e2, e3⟩ := hkk
        subst e0 e1 e2
        dsimp only at k0 k1 k2 k3 j0 j1 j2 j3
        obtain ⟨L, hd1⟩ : ∃ L, d1.length = L := ⟨_, rfl⟩
        have hd2 : d2.length = L := by omega
        clear e3
        have hlt' : (k : Int) < (l.length : Int) := by omega
        have HB4 := Lib.hid hk4
        clear hk4
        go_wp2_with fail
        refine wp_pure (List.range 52) 52 (by kernel_rfl) (by kernel_rfl) rfl ?_
        rw [show List.range 52 = [0, 1, 2, 3, 4, 5, 6, 7, 8, 9, 10, 11, 12, 13, 14, 15, 16, 17, 18, 19, 20, 21, 22, 23, 24, 25, 26, 27, 28, 29, 30, 31, 32, 33, 34, 35, 36, 37, 38, 39, 40, 41, 42, 43, 44, 45, 46, 47, 48, 49, 50, 51] from rfl]
        (refine pl_value (v := ?_) rfl rfl ?_ ?_; rotate_left 1; (focus (intro w' hk; go_simp; (first | done | with_reducible rfl | exact rfl))); (try simp only [Act.put, List.setIfInBounds_toArray, List.set_cons_zero, List.set_cons_succ]))
        (refine pl_value (v := ?_) rfl rfl ?_ ?_; rotate_left 1; (focus (intro w' hk; go_simp; (first | done | with_reducible rfl | exact rfl))); (try simp only [Act.put, List.setIfInBounds_toArray, List.set_cons_zero, List.set_cons_succ]))
        (refine pl_value (v := ?_) rfl rfl ?_ ?_; rotate_left 1; (focus (intro w' hk; go_simp; (first | done | with_reducible rfl | exact rfl))); (try simp only [Act.put, List.setIfInBounds_toArray, List.set_cons_zero, List.set_cons_succ]))
        (refine pl_value (v := ?_) rfl rfl ?_ ?_; rotate_left 1; (focus (intro w' hk; go_simp; (first | done | with_reducible rfl | exact rfl))); (try simp only [Act.put, List.setIfInBounds_toArray, List.set_cons_zero, List.set_cons_succ]))
        (refine pl_value (v := ?_) rfl rfl ?_ ?_; rotate_left 1; (focus (intro w' hk; have y := look hk k0; go_simp; (first | done | with_reducible rfl | exact rfl))); (try simp only [Act.put, List.setIfInBounds_toArray, List.set_cons_zero, List.set_cons_succ]))
        (refine pl_value (v := ?_) rfl rfl ?_ ?_; rotate_left 1; (focus (intro w' hk; go_simp; (first | done | with_reducible rfl | exact rfl))); (try simp only [Act.put, List.setIfInBounds_toArray, List.set_cons_zero, List.set_cons_succ]))
        (refine pl_value (v := ?_) rfl rfl ?_ ?_; rotate_left 1; (focus (intro w' hk; go_simp; (first | done | with_reducible rfl | exact rfl))); (try simp only [Act.put, List.setIfInBounds_toArray, List.set_cons_zero, List.set_cons_succ]))
        (refine pl_value (v := ?_) rfl rfl ?_ ?_; rotate_left 1; (focus (intro w' hk; go_simp; (first | done | with_reducible rfl | exact rfl))); (try simp only [Act.put, List.setIfInBounds_toArray, List.set_cons_zero, List.set_cons_succ]))
        (refine pl_value (v := ?_) rfl rfl ?_ ?_; rotate_left 1; (focus (intro w' hk; go_simp; (first | done | with_reducible rfl | exact rfl))); (try simp only [Act.put, List.setIfInBounds_toArray, List.set_cons_zero, List.set_cons_succ]))
        (refine pl_value (v := ?_) rfl rfl ?_ ?_; rotate_left 1; (focus (intro w' hk; have y := look hk j0; go_simp; (first | done | with_reducible rfl | exact rfl))); (try simp only [Act.put, List.setIfInBounds_toArray, List.set_cons_zero, List.set_cons_succ]))
        (refine pl_value (v := ?_) rfl rfl ?_ ?_; rotate_left 1; (focus (intro w' hk; go_simp; (first | done | with_reducible rfl | exact rfl))); (try simp only [Act.put, List.setIfInBounds_toArray, List.set_cons_zero, List.set_cons_succ]))
        (refine pl_value (v := ?_) rfl rfl ?_ ?_; rotate_left 1; (focus (intro w' hk; go_simp; (first | done | with_reducible rfl | exact rfl))); (try simp only [Act.put, List.setIfInBounds_toArray, List.set_cons_zero, List.set_cons_succ]))
        (refine pl_value (v := ?_) rfl rfl ?_ ?_; rotate_left 1; (focus (intro w' hk; go_simp; (first | done | with_reducible rfl | exact rfl))); (try simp only [Act.put, List.setIfInBounds_toArray, List.set_cons_zero, List.set_cons_succ]))
        (refine pl_value (v := ?_) rfl rfl ?_ ?_; rotate_left 1; (focus (intro w' hk; go_simp; (first | done | with_reducible rfl | exact rfl))); (try simp only [Act.put, List.setIfInBounds_toArray, List.set_cons_zero, List.set_cons_succ]))
        (refine pl_value (v := ?_) rfl rfl ?_ ?_; rotate_left 1; (focus (intro w' hk; go_simp; (first | done | with_reducible rfl | exact rfl))); (try simp only [Act.put, List.setIfInBounds_toArray, List.set_cons_zero, List.set_cons_succ]))
        (refine pl_value (v := ?_) rfl rfl ?_ ?_; rotate_left 1; (focus (intro w' hk; go_simp; (first | done | with_reducible rfl | exact rfl))); (try simp only [Act.put, List.setIfInBounds_toArray, List.set_cons_zero, List.set_cons_succ]))
        (refine pl_value (v := ?_) rfl rfl ?_ ?_; rotate_left 1; (focus (intro w' hk; have y := look hk k1; go_simp; (first | done | with_reducible rfl | exact rfl))); (try simp only [Act.put, List.setIfInBounds_toArray, List.set_cons_zero, List.set_cons_succ]))
        (refine pl_value (v := ?_) rfl rfl ?_ ?_; rotate_left 1; (focus (intro w' hk; go_simp; (first | done | with_reducible rfl | exact rfl))); (try simp only [Act.put, List.setIfInBounds_toArray, List.set_cons_zero, List.set_cons_succ]))
        (refine pl_value (v := ?_) rfl rfl ?_ ?_; rotate_left 1; (focus (intro w' hk; go_simp; (first | done | with_reducible rfl | exact rfl))); (try simp only [Act.put, List.setIfInBounds_toArray, List.set_cons_zero, List.set_cons_succ]))
        (refine pl_value (v := ?_) rfl rfl ?_ ?_; rotate_left 1; (focus (intro w' hk; go_simp; (first | done | with_reducible rfl | exact rfl))); (try simp only [Act.put, List.setIfInBounds_toArray, List.set_cons_zero, List.set_cons_succ]))
        (refine pl_value (v := ?_) rfl rfl ?_ ?_; rotate_left 1; (focus (intro w' hk; go_simp; (first | done | with_reducible rfl | exact rfl))); (try simp only [Act.put, List.setIfInBounds_toArray, List.set_cons_zero, List.set_cons_succ]))
        (refine pl_value (v := ?_) rfl rfl ?_ ?_; rotate_left 1; (focus (intro w' hk; have y := look hk j1; go_simp; (first | done | with_reducible rfl | exact rfl))); (try simp only [Act.put, List.setIfInBounds_toArray, List.set_cons_zero, List.set_cons_succ]))
        (refine pl_value (v := ?_) rfl rfl ?_ ?_; rotate_left 1; (focus (intro w' hk; go_simp; (first | done | with_reducible rfl | exact rfl))); (try simp only [Act.put, List.setIfInBounds_toArray, List.set_cons_zero, List.set_cons_succ]))
        (refine pl_value (v := ?_) rfl rfl ?_ ?_; rotate_left 1; (focus (intro w' hk; go_simp; (first | done | with_reducible rfl | exact rfl))); (try simp only [Act.put, List.setIfInBounds_toArray, List.set_cons_zero, List.set_cons_succ]))
        (refine pl_value (v := ?_) rfl rfl ?_ ?_; rotate_left 1; (focus (intro w' hk; go_simp; (first | done | with_reducible rfl | exact rfl))); (try simp only [Act.put, List.setIfInBounds_toArray, List.set_cons_zero, List.set_cons_succ]))
        (refine pl_value (v := ?_) rfl rfl ?_ ?_; rotate_left 1; (focus (intro w' hk; go_simp; (first | done | with_reducible rfl | exact rfl))); (try simp only [Act.put, List.setIfInBounds_toArray, List.set_cons_zero, List.set_cons_succ]))
        (refine pl_value (v := ?_) rfl rfl ?_ ?_; rotate_left 1; (focus (intro w' hk; go_simp; (first | done | with_reducible rfl | exact rfl))); (try simp only [Act.put, List.setIfInBounds_toArray, List.set_cons_zero, List.set_cons_succ]))
        (refine pl_value (v := ?_) rfl rfl ?_ ?_; rotate_left 1; (focus (intro w' hk; go_simp; (first | done | with_reducible rfl | exact rfl))); (try simp only [Act.put, List.setIfInBounds_toArray, List.set_cons_zero, List.set_cons_succ]))
        (refine pl_value (v := ?_) rfl rfl ?_ ?_; rotate_left 1; (focus (intro w' hk; go_simp; (first | done | with_reducible rfl | exact rfl))); (try simp only [Act.put, List.setIfInBounds_toArray, List.set_cons_zero, List.set_cons_succ]))
        (refine pl_value (v := ?_) rfl rfl ?_ ?_; rotate_left 1; (focus (intro w' hk; have y := look hk k2; go_simp; (first | done | with_reducible rfl | exact rfl))); (try simp only [Act.put, List.setIfInBounds_toArray, List.set_cons_zero, List.set_cons_succ]))
        (refine pl_value (v := ?_) rfl rfl ?_ ?_; rotate_left 1; (focus (intro w' hk; go_simp; (first | done | with_reducible rfl | exact rfl))); (try simp only [Act.put, List.setIfInBounds_toArray, List.set_cons_zero, List.set_cons_succ]))
        (refine pl_value (v := ?_) rfl rfl ?_ ?_; rotate_left 1; (focus (intro w' hk; go_simp; (first | done | with_reducible rfl | exact rfl))); (try simp only [Act.put, List.setIfInBounds_toArray, List.set_cons_zero, List.set_cons_succ]))
        (refine pl_value (v := ?_) rfl rfl ?_ ?_; rotate_left 1; (focus (intro w' hk; go_simp; (first | done | with_reducible rfl | exact rfl))); (try simp only [Act.put, List.setIfInBounds_toArray, List.set_cons_zero, List.set_cons_succ]))
        (refine pl_value (v := ?_) rfl rfl ?_ ?_; rotate_left 1; (focus (intro w' hk; go_simp; (first | done | with_reducible rfl | exact rfl))); (try simp only [Act.put, List.setIfInBounds_toArray, List.set_cons_zero, List.set_cons_succ]))
        (refine pl_value (v := ?_) rfl rfl ?_ ?_; rotate_left 1; (focus (intro w' hk; have y := look hk j2; go_simp; (first | done | with_reducible rfl | exact rfl))); (try simp only [Act.put, List.setIfInBounds_toArray, List.set_cons_zero, List.set_cons_succ]))
        (refine pl_value (v := ?_) rfl rfl ?_ ?_; rotate_left 1; (focus (intro w' hk; go_simp; (first | done | with_reducible rfl | exact rfl))); (try simp only [Act.put, List.setIfInBounds_toArray, List.set_cons_zero, List.set_cons_succ]))
        (refine pl_value (v := ?_) rfl rfl ?_ ?_; rotate_left 1; (focus (intro w' hk; go_simp; (first | done | with_reducible rfl | exact rfl))); (try simp only [Act.put, List.setIfInBounds_toArray, List.set_cons_zero, List.set_cons_succ]))
        (refine pl_value (v := ?_) rfl rfl ?_ ?_; rotate_left 1; (focus (intro w' hk; go_simp; (first | done | with_reducible rfl | exact rfl))); (try simp only [Act.put, List.setIfInBounds_toArray, List.set_cons_zero, List.set_cons_succ]))
        (refine pl_value (v := ?_) rfl rfl ?_ ?_; rotate_left 1; (focus (intro w' hk; go_simp; (first | done | with_reducible rfl | exact rfl))); (try simp only [Act.put, List.setIfInBounds_toArray, List.set_cons_zero, List.set_cons_succ]))
        (refine pl_value (v := ?_) rfl rfl ?_ ?_; rotate_left 1; (focus (intro w' hk; go_simp; (first | done | with_reducible rfl | exact rfl))); (try simp only [Act.put, List.setIfInBounds_toArray, List.set_cons_zero, List.set_cons_succ]))
        (refine pl_value (v := ?_) rfl rfl ?_ ?_; rotate_left 1; (focus (intro w' hk; go_simp; (first | done | with_reducible rfl | exact rfl))); (try simp only [Act.put, List.setIfInBounds_toArray, List.set_cons_zero, List.set_cons_succ]))
        (refine pl_value (v := ?_) rfl rfl ?_ ?_; rotate_left 1; (focus (intro w' hk; go_simp; (first | done | with_reducible rfl | exact rfl))); (try simp only [Act.put, List.setIfInBounds_toArray, List.set_cons_zero, List.set_cons_succ]))
        (refine pl_value (v := ?_) rfl rfl ?_ ?_; rotate_left 1; (focus (intro w' hk; have y := look hk k3; go_simp; (first | done | with_reducible rfl | exact rfl))); (try simp only [Act.put, List.setIfInBounds_toArray, List.set_cons_zero, List.set_cons_succ]))
        (refine pl_value (v := ?_) rfl rfl ?_ ?_; rotate_left 1; (focus (intro w' hk; go_simp; (first | done | with_reducible rfl | exact rfl))); (try simp only [Act.put, List.setIfInBounds_toArray, List.set_cons_zero, List.set_cons_succ]))
        (refine pl_value (v := ?_) rfl rfl ?_ ?_; rotate_left 1; (focus (intro w' hk; go_simp; (first | done | with_reducible rfl | exact rfl))); (try simp only [Act.put, List.setIfInBounds_toArray, List.set_cons_zero, List.set_cons_succ]))
        (refine pl_value (v := ?_) rfl rfl ?_ ?_; rotate_left 1; (focus (intro w' hk; go_simp; (first | done | with_reducible rfl | exact rfl))); (try simp only [Act.put, List.setIfInBounds_toArray, List.set_cons_zero, List.set_cons_succ]))
        (refine pl_value (v := ?_) rfl rfl ?_ ?_; rotate_left 1; (focus (intro w' hk; go_simp; (first | done | with_reducible rfl | exact rfl))); (try simp only [Act.put, List.setIfInBounds_toArray, List.set_cons_zero, List.set_cons_succ]))
        (refine pl_value (v := ?_) rfl rfl ?_ ?_; rotate_left 1; (focus (intro w' hk; go_simp; (first | done | with_reducible rfl | exact rfl))); (try simp only [Act.put, List.setIfInBounds_toArray, List.set_cons_zero, List.set_cons_succ]))
        (refine pl_value (v := ?_) rfl rfl ?_ ?_; rotate_left 1; (focus (intro w' hk; have y := look hk j3; go_simp; (first | done | with_reducible rfl | exact rfl))); (try simp only [Act.put, List.setIfInBounds_toArray, List.set_cons_zero, List.set_cons_succ]))
        (refine pl_value (v := ?_) rfl rfl ?_ ?_; rotate_left 1; (focus (intro w' hk; go_simp; (first | done | with_reducible rfl | exact rfl))); (try simp only [Act.put, List.setIfInBounds_toArray, List.set_cons_zero, List.set_cons_succ]))
        (refine pl_value (v := ?_) rfl rfl ?_ ?_; rotate_left 1; (focus (intro w' hk; go_simp; (first | done | with_reducible rfl | exact rfl))); (try simp only [Act.put, List.setIfInBounds_toArray, List.set_cons_zero, List.set_cons_succ]))
        (refine pl_value (v := ?_) rfl rfl ?_ ?_; rotate_left 1; (focus (intro w' hk; go_simp; (first | done | with_reducible rfl | exact rfl))); (try simp only [Act.put, List.setIfInBounds_toArray, List.set_cons_zero, List.set_cons_succ]))
        refine pl_nil ?_
        intro w5 hk5
        simp only [List.drop_succ_cons, List.drop_zero]
        have hB5 := HB4.out.trans (hk5.whole.mono HB4.out.size)
        clear hk5 HB4 k0 k1 k2 k3 j0 j1 j2 j3
        go_wp2_with fail
        go_roundw
        case rel => exact ⟨k + 1, hlt, by go_num, hB5⟩
        case measure => simp [intOf]; omega
      · have hge : ¬ (k : Int) < (l.length : Int) := by omega
        go_wp2_with fail
        go_ret
        exact ⟨rfl, HB.out.trans (hk4.mono HB.out.size)⟩
  · have HF := Lib.hid hF; have HB := Lib.hid hB
    clear hF hB
    go_wp2_with fail
    refine (shown11_any _ (hn.next HB.out)).mono ?_
    rintro e w2 ⟨rfl, hb⟩
    have hB := HB.out.trans (hb.mono HB.out.size)
    clear hb HF HB
    go_wp2_with fail
    go_ret
    exact ⟨rfl, hB⟩
end Go.Proofs.YtaniehjhmjecjaaGreatDoor
