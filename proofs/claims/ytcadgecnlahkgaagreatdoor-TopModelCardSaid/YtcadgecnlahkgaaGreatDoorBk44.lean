/- What the statement's proof stands on, part 44: TopModel. -/
import Derived.Test.YtcadgecnlahkgaaGreatDoorBk36
import Derived.Test.YtcadgecnlahkgaaGreatDoorBk27
import Derived.Test.YtcadgecnlahkgaaGreatDoorBk37
import Derived.Test.YtcadgecnlahkgaaGreatDoorBk29
import Derived.Test.YtcadgecnlahkgaaGreatDoorBk38
import Derived.Test.YtcadgecnlahkgaaGreatDoorBk23
import Derived.Test.YtcadgecnlahkgaaGreatDoorBk43
set_option linter.unusedSimpArgs false
set_option linter.unusedVariables false
set_option maxRecDepth 100000
set_option maxHeartbeats 4000000
namespace Go.Proofs.YtcadgecnlahkgaaGreatDoor
open Go.RowKit Go.Shelf
attribute [local go_sem] Oper.semAt_some
theorem Dw.mod_hph {n N : Nat} {x : Dw.Su} {s : Dw.St} {vo k : Int} {held : Bool} (h : Dw.Mod n N x s vo k held) : (x.ph == 0) = held := by
  rcases h.ph with ⟨a, b⟩ | ⟨a, b⟩
  · rw [a, b]; rfl
  · rw [a, b]; rfl
theorem own_get2 {w : World} {ao : Option Addr} {m cap K : Nat} {o : List Dw.Rep} {r : Dw.Rep} (h : RepsAt w (.slice ao m cap) (o ++ [r])) (hK : o.length = K) : ∃ q, ao = some ⟨q, 0, none⟩ ∧ ∀ i u, (repC r).toList[i]? = some u → w.cell? ⟨q, K * 8 + i, none⟩ = some u :=
  own_get h (by rw [← hK]; simp)
theorem own_ne {w : World} {q m cap g : Nat} {l : List Dw.Rep} {c0 : Array Value} {fr : Nat × Nat} (h : RepsAt w (.slice (some ⟨q, 0, none⟩) m cap) l) (hg : w.heap[g]? = some (.cells c0 36 fr)) : q ≠ g := by
  obtain ⟨-, ⟨h0, -⟩ | ⟨b, _, _, h0, -, hb, -⟩⟩ := h
  · cases h0
  · injection h0 with h1
    injection h1 with h2
    injection h2 with h3
    subst h3
    rintro rfl
    rw [hg] at hb
    have := Option.some.inj hb
    injection this with _ h2 _
    exact absurd h2 (by decide)
theorem cell_setRow_ne {w : World} {q g : Nat} (h : q ≠ g) (c : Array Value) (j : Nat) : (w.setRow g c).cell? ⟨q, j, none⟩ = w.cell? ⟨q, j, none⟩ := by
  have := setRow_other w g q c h
  simp [World.cell?, this]
theorem reps_rowT {w : World} {v : Value} {l : List Dw.Rep} (h : RepsAt w v l) {g : Nat} {c0 : Array Value} {T : TypeId} {fr : Nat × Nat} (hg : w.heap[g]? = some (.cells c0 T fr)) (hT : T ≠ 61) (c : Array Value) : RepsAt (w.setRow g c) v l := by
  obtain ⟨hl, h | ⟨b, cap, cur, he, h0, hb, hr⟩⟩ := h
  · exact ⟨hl, .inl h⟩
  · have hne : b ≠ g := by
      rintro rfl
      rw [hg] at hb
      have := Option.some.inj hb
      injection this with _ h2 _
      exact hT h2
    exact ⟨hl, .inr ⟨b, cap, cur, he, h0, (setRow_other w g b c hne).trans hb, hr⟩⟩
theorem reps_but {w w' : World} {v : Value} {l : List Dw.Rep} {g : Nat} (h : RepsAt w v l) (hk : KeepBut (fun j => j = g) w w') {c0 : Array Value} {T : TypeId} {fr : Nat × Nat} (hg : w.heap[g]? = some (.cells c0 T fr)) (hT : T ≠ 61) : RepsAt w' v l := by
  obtain ⟨hl, h | ⟨b, cap, cur, he, h0, hb, hr⟩⟩ := h
  · exact ⟨hl, .inl h⟩
  · have hne : b ≠ g := by
      rintro rfl
      rw [hg] at hb
      have := Option.some.inj hb
      injection this with _ h2 _
      exact hT h2
    exact ⟨hl, .inr ⟨b, cap, cur, he, h0, (hk.block b (block_lt hb) hne).trans hb, hr⟩⟩
theorem Dw.begin_mod (m : Nat) (hm : m < 12) : Dw.Mod (m + 1) 0 (Dw.beginF (1 + (m : Int)) 500).x Dw.st0 0 0 true := by
  have e : Dw.newF (1 + (m : Int)) 500 = Dw.fNew (m + 1) 500 := by
    unfold Dw.newF
    rw [if_neg (by decide), if_pos (by omega), show (1 + (m : Int)).toNat = m + 1 by omega]
  show Dw.Mod (m + 1) 0 (Dw.boot (Dw.newF (1 + (m : Int)) 500)) Dw.st0 0 0 true
  rw [e]
  exact Dw.mod_begin (by omega) (by omega)
theorem tmodel_any (n : Nat) (hn8 : n < 256) (l : List Dw.En) (v : Value) (w : World) (hv : EnsAt w v l) (hn : NoneAt w) :
    Calls Tryz.prog 3 #[.int .u8 n, v] w fun e w' => e = .returned (.bool true) ∧ Below w.heap.size w w' := by
  have hB := Below.refl w.heap.size w
  have HV := Lib.hid hv
  obtain ⟨sa, cap, rfl, -, -⟩ := id hv
  have hll : (0 : Int) ≤ (l.length : Int) := by omega
  clear hv
  by_cases hlen : 60 < l.length
  · have hl' : (60 : Int) < (l.length : Int) := by omega
    go_enter Tryz.func3, Tryz.ntmps3
    go_wp2_with fail
    refine (tshown_any _ (hn.next hB)).mono ?_
    rintro en wy ⟨rfl, hb⟩
    replace hB := tr hB hb
    clear hb
    go_wp2_with fail
    go_ret
    exact ⟨rfl, hB⟩
  have hl' : ¬ (60 : Int) < (l.length : Int) := by omega
  obtain ⟨m, hm⟩ : ∃ m, n % 12 = m := ⟨_, rfl⟩
  have hm12 : m < 12 := by omega
  have a1 : IntKind.i64.wrap (n : Int) = (n : Int) := IntWalk.i64_in _ (by omega)
  have a2 : Int.tmod (n : Int) 12 = (m : Int) := by rw [← hm]; rfl
  have a3 : IntKind.i64.wrap (m : Int) = (m : Int) := by clear a1 a2; exact IntWalk.i64_in _ (by omega)
  have a4 : IntKind.i64.wrap (1 + (m : Int)) = 1 + (m : Int) := by clear a1 a2 a3; exact IntWalk.i64_in _ (by omega)
  have a5 : wrap64 (1 + (m : Int)) = 1 + (m : Int) := by clear a1 a2 a3 a4; exact IntWalk.wrap64_in _ (by omega)
  have HM0 := Lib.hid (Dw.begin_mod m hm12)
  have HBG := Lib.hid (fun w hn => begin_any (1 + (m : Int)) 500 w hn)
  have HG0 := Lib.hid (show (Dw.beginF (1 + (m : Int)) 500).out = [] from rfl)
  generalize Dw.beginF (1 + (m : Int)) 500 = G at *
  have HLN := Lib.hid hlen
  have HW := Lib.hid (fun w => twhole_any w)
  clear hm hm12 hlen hn8
  go_enter Tryz.func3, Tryz.ntmps3
  go_wp2_with fail
  refine (tshown_any _ (hn.next hB)).mono ?_
  rintro en wy ⟨rfl, hb⟩
  replace hB := tr hB hb
  clear hb
  go_wp2_with fail
  refine cb (HBG.out _ (hn.next hB)) fun w3 hb => ?_
  replace hB := tr hB hb
  clear hb HBG a1 a2 a3 a4 a5 hl'
  obtain ⟨g5, hg5⟩ : ∃ g, w3.heap.size = g := ⟨_, rfl⟩
  obtain ⟨W1, hW1⟩ : ∃ W, w3.alloc (.cells (fliC G.x (.slice none 0 0)) 36) = W := ⟨_, rfl⟩
  have b5 : W1.heap[g5]? = some (.cells (fliC G.x (.slice none 0 0)) 36) := by rw [← hW1, ← hg5]; exact han _ _
  have hb : Below w3.heap.size w3 W1 := by rw [← hW1]; exact (Below.refl _ w3).alloc (Nat.le_refl _) _
  have hg5w : w.heap.size ≤ g5 := by rw [← hg5]; exact hB.size
  replace hB := tr hB hb
  clear hb
  obtain ⟨g6, hg6⟩ : ∃ g, W1.heap.size = g := ⟨_, rfl⟩
  obtain ⟨W2, hW2⟩ : ∃ W, W1.alloc (.cells #[.int .i64 0, .bool false, .bool false, .int .i64 0, .int .i64 0, .int .i64 0] 38) = W := ⟨_, rfl⟩
  have b6 : W2.heap[g6]? = some (.cells (stC Dw.st0) 38) := by rw [← hW2, ← hg6]; exact han _ _
  have hb : Below W1.heap.size W1 W2 := by rw [← hW2]; exact (Below.refl _ W1).alloc (Nat.le_refl _) _
  have h56 : g5 < g6 := by rw [← hg6]; exact block_lt b5
  replace b5 := kp hb b5; replace hB := tr hB hb
  clear hb
  obtain ⟨g7, hg7⟩ : ∃ g, W2.heap.size = g := ⟨_, rfl⟩
  obtain ⟨W3, hW3⟩ : ∃ W, W2.alloc (.cells #[.int .i64 0, .int .i64 0] 39) = W := ⟨_, rfl⟩
  have b7 : W3.heap[g7]? = some (.cells #[.int .i64 0, .int .i64 0] 39) := by rw [← hW3, ← hg7]; exact han _ _
  have hb : Below W2.heap.size W2 W3 := by rw [← hW3]; exact (Below.refl _ W2).alloc (Nat.le_refl _) _
  have h67 : g6 < g7 := by rw [← hg7]; exact block_lt b6
  replace b5 := kp hb b5; replace b6 := kp hb b6; replace hB := tr hB hb
  have HW1 := Lib.hid hW1; have HW2 := Lib.hid hW2; have HW3 := Lib.hid hW3
  have HG5 := Lib.hid hg5; have HG6 := Lib.hid hg6; have HG7 := Lib.hid hg7
  clear hW1 hW2 hW3 hb hg5 hg6 hg7
  go_wp2_with (first | (refine nb rfl rfl rfl rfl (by go_simp; first | done | with_reducible rfl | exact rfl) rfl rfl (by kernel_rfl) ?_; first | rw [HW1.out, HG5.out] | rw [HW2.out, HG6.out] | rw [HW3.out, HG7.out]))
  clear HW1 HW2 HW3 HG5 HG6 HG7
  go_loopw [8, 9] (fun x y wr => ∃ (k N : Nat) (g : Dw.Fli) (s : Dw.St) (vo c : Int) (held : Bool) (v' : Value), k ≤ l.length ∧ N ≤ k ∧ x = .bool held ∧ y = .int .i64 k ∧ Dw.Mod (m + 1) N g.x s vo c held ∧ g.out.length ≤ k ∧ wr.heap[g5]? = some (.cells (fliC g.x v') 36 (0, 0)) ∧ wr.heap[g6]? = some (.cells (stC s) 38 (0, 0)) ∧ wr.heap[g7]? = some (.cells #[.int .i64 vo, .int .i64 c] 39 (0, 0)) ∧ RepsAt wr v' g.out ∧ Below w.heap.size w wr) (fun _ y _ => l.length - (intOf y).toNat)
  case atStart => exact ⟨0, 0, G, Dw.st0, 0, 0, true, _, Nat.zero_le _, Nat.le_refl _, rfl, rfl, HM0.out, by rw [HG0.out]; exact Nat.le_refl _, b5, b6, b7, by rw [HG0.out]; exact World.ownsRow_nil _ _ _ _, hB⟩
  case round =>
    clear b5 b6 b7 hB HM0 HG0
    obtain ⟨k, N, g, s, vo, c, held, v', hk, hNk, rfl, rfl, hmod, hgk, b5, b6, b7, hR, hB⟩ := hrel
    obtain ⟨p0, q0, rfl⟩ := reps_shape hR
    by_cases hlt : k < l.length
    · have hlt' : (k : Int) < (l.length : Int) := by omega
      obtain ⟨e, hce⟩ : ∃ e, l[k]? = some e := ⟨l[k], List.getElem?_eq_getElem hlt⟩
      obtain ⟨he, bb, off, hsa, kc⟩ := EnsAt.get (HV.out.next hB) hce
      subst hsa
      have hk60 : k + 1 ≤ 60 := by have := HLN.out; omega
      obtain ⟨ki, cm, va, vb, vc, p, at_⟩ := e
      have he2 : enOk ⟨ki, cm, va, vb, vc, Dw.whole, at_⟩ := he
      have HS := Lib.hid (fun w hn hv => fstep_any g ⟨ki, cm, va, vb, vc, Dw.whole, at_⟩ hmod.ok hmod.leg he2 (by omega) (.slice p0 g.out.length q0) w hn hv)
      obtain ⟨gE, hgE⟩ : ∃ x, wr.heap.size = x := ⟨_, rfl⟩
      obtain ⟨V2, hV2⟩ : ∃ V, wr.alloc (.cells (enC ⟨ki, cm, va, vb, vc, p, at_⟩) 48) = V := ⟨_, rfl⟩
      have bE : V2.heap[gE]? = some (.cells (enC ⟨ki, cm, va, vb, vc, p, at_⟩) 48) := by rw [← hV2, ← hgE]; exact han _ _
      have hb : Below wr.heap.size wr V2 := by rw [← hV2]; exact (Below.refl _ wr).alloc (Nat.le_refl _) _
      have h7E : g7 < gE := by rw [← hgE]; exact block_lt b7
      have hR2 := reps_next hR hb
      replace b5 := kp hb b5; replace b6 := kp hb b6; replace b7 := kp hb b7; replace hB := tr hB hb
      have HV2 := Lib.hid hV2; have HGE := Lib.hid hgE; have HMD := Lib.hid hmod
      clear hb hV2 hgE hR he he2 hce hmod
      go_wp2_with (first | (refine lr (enC ⟨ki, cm, va, vb, vc, p, at_⟩).toList.toArray kc rfl rfl rfl (by kernel_rfl) ?_) | (refine nb rfl rfl rfl rfl (by go_simp; first | done | with_reducible rfl | exact rfl) rfl rfl (by kernel_rfl) ?_; rw [HV2.out, HGE.out]))
      clear HV2 HGE kc
      refine cb (HW.out _) fun w2 hb => ?_
      have hR3 := reps_next hR2 hb
      replace bE := kp hb bE
      replace b5 := kp hb b5; replace b6 := kp hb b6; replace b7 := kp hb b7; replace hB := tr hB hb
      clear hb hR2
      have bE0 := bE
      have hR4 := reps_rowT hR3 bE (by decide) (enC ⟨ki, cm, va, vb, vc, Dw.whole, at_⟩)
      replace bE := srh (c' := enC ⟨ki, cm, va, vb, vc, Dw.whole, at_⟩) bE
      replace b5 := (setRow_other w2 gE g5 (enC ⟨ki, cm, va, vb, vc, Dw.whole, at_⟩) (by omega)).trans b5
      replace b6 := (setRow_other w2 gE g6 (enC ⟨ki, cm, va, vb, vc, Dw.whole, at_⟩) (by omega)).trans b6
      replace b7 := (setRow_other w2 gE g7 (enC ⟨ki, cm, va, vb, vc, Dw.whole, at_⟩) (by omega)).trans b7
      replace hB := below_setRow hB (show w.heap.size ≤ gE by omega) (enC ⟨ki, cm, va, vb, vc, Dw.whole, at_⟩)
      obtain ⟨wt, hwt⟩ : ∃ W, w2.setRow gE (enC ⟨ki, cm, va, vb, vc, Dw.whole, at_⟩) = W := ⟨_, rfl⟩
      rw [hwt] at hR4 bE b5 b6 b7 hB
      have HWT := Lib.hid hwt
      have kE : wt.cell? ⟨gE, 0, none⟩ = some (.int .i64 ki) := by rw [cell_of_row _ _ 0 _ _ _ bE]; rfl
      clear hwt hR3
      by_cases k1 : ki = 1
      · skip
        subst k1
        have hiso : 0 ≤ s.iso ∧ s.iso ≤ 15 := by rw [← HMD.out.st]; exact Dw.legal_iso HMD.out.leg
        have HD := Lib.hid (fun w => rdelta_any s hiso cm w)
        clear hiso
        by_cases hcd : held = true ∧ 1 ≤ cm.ki ∧ cm.ki ≤ 3
        · obtain ⟨e1, e2⟩ := Dw.mod_hold HMD.out cm hcd.1 hcd.2
          have HM2 := Lib.hid (Dw.mod_mono HMD.out)
          obtain ⟨hh, u1, u3⟩ := hcd
          subst hh
          have HST := Lib.hid (show Dw.stepF g ⟨1, cm, va, vb, vc, Dw.whole, at_⟩ = ⟨g.x, g.out ++ [⟨25, g.x.ph, g.x.s⟩]⟩ by
            show (⟨Dw.commandX g.x cm Dw.whole, g.out ++ [⟨Dw.commandE g.x cm Dw.whole, (Dw.commandX g.x cm Dw.whole).ph, (Dw.commandX g.x cm Dw.whole).s⟩]⟩ : Dw.Fli) = _
            rw [e1, e2])
          obtain ⟨X2, hX2⟩ : ∃ X, g.x = X := ⟨_, rfl⟩
          rw [hX2] at HST HM2
          have HX2 := Lib.hid hX2
          obtain ⟨S2, hS2⟩ : ∃ S, Dw.deltaS s cm = S := ⟨_, rfl⟩
          rw [hS2] at HD
          generalize Dw.deltaE s cm = ED at *
          clear e1 e2 hX2 hS2 HMD
          go_wp2_with (first | (refine sp 46 8 #[.int .i64 (-1), .string ⟨#[]⟩] (enC ⟨1, cm, va, vb, vc, Dw.whole, at_⟩) bE0 rfl rfl rfl rfl (by kernel_rfl) (by rfl) (by rfl) ?_; rw [HWT.out]) | (refine lb b6 rfl rfl rfl (by kernel_rfl) ?_) | (refine lp 42 1 (cmC cm) bE rfl rfl rfl (by kernel_rfl) (by rfl) ?_))
          clear bE0 HWT kE
          refine cb (HD.out _) fun w6 hb => ?_
          have hR5 := reps_next hR4 hb
          replace b5 := kp hb b5; replace b6 := kp hb b6; replace b7 := kp hb b7; replace bE := kp hb bE; replace hB := tr hB hb
          clear hR4 hb HD
          obtain ⟨g12, hg12⟩ : ∃ x, w6.heap.size = x := ⟨_, rfl⟩
          obtain ⟨V12, hV12⟩ : ∃ V, w6.alloc (.cells (stC S2) 38) = V := ⟨_, rfl⟩
          have b12 : V12.heap[g12]? = some (.cells (stC S2) 38) := by rw [← hV12, ← hg12]; exact han _ _
          have hb : Below w6.heap.size w6 V12 := by rw [← hV12]; exact (Below.refl _ w6).alloc (Nat.le_refl _) _
          have hR4 := reps_next hR5 hb
          replace b5 := kp hb b5; replace b6 := kp hb b6; replace b7 := kp hb b7; replace bE := kp hb bE; replace hB := tr hB hb
          have kc1 : V12.cell? ⟨gE, 1, none⟩ = some (.int .i64 cm.ki) := by rw [cell_of_row _ _ 1 _ _ _ bE]; rfl
          have H5 := Lib.hid b5; have H6 := Lib.hid b6; have H7 := Lib.hid b7; have HE := Lib.hid bE; have HB := Lib.hid hB; have HR := Lib.hid hR4; have H12 := Lib.hid b12
          clear hR5 hb b5 b6 b7 bE hB hR4 b12
          rename_i h0K
          refine h0K _ _ ?_
          clear h0K
          rename_i hK Kop
          have HK := Lib.hid hK
          clear hK
          go_wp2_with fail
          clear hV12 hg12
          refine HK.out _ _ ?_
          clear HK
          go_step
          rename_i hK
          have HK := Lib.hid hK
          clear hK
          go_wp2_with fail
          refine HK.out _ _ ?_
          clear HK
          go_step
          rename_i hK
          have HK := Lib.hid hK
          clear hK
          go_wp2_with fail
          refine HK.out _ _ ?_
          clear HK
          clear kc1
          have b5 := H5.out; have b6 := H6.out; have b7 := H7.out; have bE := HE.out; have hB := HB.out; have hR4 := HR.out; have b12 := H12.out
          clear H5 H6 H7 HE HB HR H12
          go_wp2_with (first | (refine lb b5 rfl rfl rfl (by kernel_rfl) ?_) | (refine lb bE rfl rfl rfl (by kernel_rfl) ?_))
          clear b12
          refine (HS.out _ (hn.next hB) hR4).mono ?_
          rintro en w8 ⟨⟨v8, rfl, hr8⟩, hb⟩
          clear hR4 bE
          obtain ⟨p8, q8, rfl⟩ := reps_shape hr8
          replace b5 := kp hb b5; replace b6 := kp hb b6; replace b7 := kp hb b7; replace hB := tr hB hb
          clear hb
          rw [HST.out] at hr8 ⊢
          obtain ⟨K, hK⟩ : ∃ K, g.out.length = K := ⟨_, rfl⟩
          have hl1 : (g.out ++ [(⟨25, X2.ph, X2.s⟩ : Dw.Rep)]).length = K + 1 := by simp [hK]
          have hKk : K ≤ k := by omega
          obtain ⟨q, hq, hc⟩ := own_get2 hr8 hK
          subst hq
          obtain ⟨nn, hnn⟩ : ∃ x, (g.out ++ [(⟨25, X2.ph, X2.s⟩ : Dw.Rep)]).length = x := ⟨_, rfl⟩
          have hn1 : nn = K + 1 := by rw [← hnn]; exact hl1
          dsimp only at hr8 ⊢
          rw [hnn] at hr8 ⊢
          have HR8 := Lib.hid hr8
          subst hn1
          have b5' := srh (c' := fliC X2 (.slice (some ⟨q, 0, none⟩) (K + 1) q8)) b5
          have b6' := (setRow_other w8 g5 g6 (fliC X2 (.slice (some ⟨q, 0, none⟩) (K + 1) q8)) (by omega)).trans b6
          have b7' := (setRow_other w8 g5 g7 (fliC X2 (.slice (some ⟨q, 0, none⟩) (K + 1) q8)) (by omega)).trans b7
          have hR9 := reps_row HR8.out b5 (fliC X2 (.slice (some ⟨q, 0, none⟩) (K + 1) q8))
          have hB9 := below_setRow hB hg5w (fliC X2 (.slice (some ⟨q, 0, none⟩) (K + 1) q8))
          obtain ⟨W9, hW9⟩ : ∃ W, w8.setRow g5 (fliC X2 (.slice (some ⟨q, 0, none⟩) (K + 1) q8)) = W := ⟨_, rfl⟩
          rw [hW9] at b5' b6' b7' hR9 hB9
          have hq5 : q ≠ g5 := own_ne HR8.out b5
          have hc9 : ∀ i u, (repC ⟨25, X2.ph, X2.s⟩).toList[i]? = some u → W9.cell? ⟨q, K * 8 + i, none⟩ = some u := fun i u hi => by
            rw [← hW9]
            exact (cell_setRow_ne hq5 _ _).trans (hc i u hi)
          have HW9 := Lib.hid hW9
          have hs2 := HM2.out.st
          have d0 : W9.cell? ⟨q, K * 8, none⟩ = some (.int .i64 25) := hc9 0 _ rfl
          have d1 : W9.cell? ⟨q, K * 8 + 1, none⟩ = some (.int .i64 X2.ph) := hc9 1 _ rfl
          have e0 : W9.cell? ⟨q, K * 8 + 2, none⟩ = some (.int .i64 s.mo) := by rw [← hs2]; exact hc9 2 _ rfl
          have e1 : W9.cell? ⟨q, K * 8 + 2 + 1, none⟩ = some (.bool s.ar) := by rw [← hs2]; exact hc9 3 _ rfl
          have e2 : W9.cell? ⟨q, K * 8 + 2 + 2, none⟩ = some (.bool s.ho) := by rw [← hs2]; exact hc9 4 _ rfl
          have e3 : W9.cell? ⟨q, K * 8 + 2 + 3, none⟩ = some (.int .i64 s.la) := by rw [← hs2]; exact hc9 5 _ rfl
          have e4 : W9.cell? ⟨q, K * 8 + 2 + 4, none⟩ = some (.int .i64 s.lo) := by rw [← hs2]; exact hc9 6 _ rfl
          have e5 : W9.cell? ⟨q, K * 8 + 2 + 5, none⟩ = some (.int .i64 s.iso) := by rw [← hs2]; exact hc9 7 _ rfl
          have y14 := (cells15 b5').2.2.2.2.2
          obtain ⟨c0, c1, c2, c3, c4, c5⟩ := cells6 b6'
          have HD := Lib.hid (And.intro d0 (And.intro d1 (And.intro e0 (And.intro e1 (And.intro e2 (And.intro e3 (And.intro e4 e5)))))))
          have HC6 := Lib.hid (And.intro c0 (And.intro c1 (And.intro c2 (And.intro c3 (And.intro c4 c5)))))
          have H5 := Lib.hid b5'; have H6 := Lib.hid b6'; have H7 := Lib.hid b7'; have H9 := Lib.hid hB9; have HR9 := Lib.hid hR9; have HKK := Lib.hid hKk
          clear d0 d1 e0 e1 e2 e3 e4 e5 c0 c1 c2 c3 c4 c5 b5' b6' b7' hB9 hR9 hc hc9 hs2 hq5 hW9 b6 b7 hB hr8 hl1 hnn
          clear HR8 hK
          go_wp2_with (first | (refine sb (c' := fliC X2 (.slice (some ⟨q, 0, none⟩) (K + 1) q8)) b5 rfl rfl rfl rfl (by kernel_rfl) ?_; rw [HW9.out]))
          clear HW9 b5
          refine reg_swap (ops := opsR 31 Tryz.f3) ?_ (by kernel_rfl)
          refine top_r31 (by have := HKK.out; omega) y14 HD.out.1 HD.out.2.1 HD.out.2.2.1 HD.out.2.2.2.1 HD.out.2.2.2.2.1 HD.out.2.2.2.2.2.1 HD.out.2.2.2.2.2.2.1 HD.out.2.2.2.2.2.2.2 HC6.out.1 HC6.out.2.1 HC6.out.2.2.1 HC6.out.2.2.2.1 HC6.out.2.2.2.2.1 HC6.out.2.2.2.2.2 (Dw.mod_hph HM2.out) ?_
          intro v95 v96 v97 v98 v99 v100 v101 v102 v103 v104 v105 v106 v107 v108 v109 v110 v111 v112 v113 v114 v115 v116 v117 v118 v119 v120 v121 v122 v123 v124 v125 v126 v127 v128 v129 v130 w9 hk9
          clear y14 HD HC6
          go_wp2_with fail
          go_roundw
          case rel => exact ⟨k + 1, N + 1, ⟨X2, g.out ++ [⟨25, X2.ph, X2.s⟩]⟩, s, vo, c, true, _, hlt, by omega, rfl, by go_num, HM2.out, by have := HKK.out; simp; omega, kpi hk9 H5.out, kpi hk9 H6.out, kpi hk9 H7.out, reps_next HR9.out hk9.whole, H9.out.trans (hk9.whole.mono H9.out.size)⟩
          case measure => first | done | (simp [intOf]; done) | (simp [intOf]; omega)
        · obtain ⟨e1, hm2⟩ := Dw.mod_ask HMD.out (show N < 400 by omega) cm hcd
          obtain ⟨X2, hX2⟩ : ∃ X, Dw.commandX g.x cm Dw.whole = X := ⟨_, rfl⟩
          have HST := Lib.hid (show Dw.stepF g ⟨1, cm, va, vb, vc, Dw.whole, at_⟩ = ⟨X2, g.out ++ [⟨Dw.deltaE s cm, X2.ph, X2.s⟩]⟩ by
            rw [← hX2, ← e1]
            rfl)
          rw [hX2] at hm2
          have HM2 := Lib.hid hm2
          obtain ⟨S2, hS2⟩ : ∃ S, Dw.deltaS s cm = S := ⟨_, rfl⟩
          rw [hS2] at HD HM2
          have hcs : held = false ∨ (held = true ∧ cm.ki < 1) ∨ (held = true ∧ 1 ≤ cm.ki ∧ 3 < cm.ki) := by
            cases held
            · exact .inl rfl
            · right
              by_cases q : cm.ki < 1
              · exact .inl ⟨rfl, q⟩
              · exact .inr ⟨rfl, by omega, Decidable.byContradiction fun q3 => hcd ⟨rfl, by omega, by omega⟩⟩
          generalize Dw.deltaE s cm = ED at *
          clear e1 hm2 hX2 hS2 HMD hcd
          rcases hcs with rfl | ⟨rfl, u1⟩ | ⟨rfl, u1, u3⟩
          · skip
            go_wp2_with (first | (refine sp 46 8 #[.int .i64 (-1), .string ⟨#[]⟩] (enC ⟨1, cm, va, vb, vc, Dw.whole, at_⟩) bE0 rfl rfl rfl rfl (by kernel_rfl) (by rfl) (by rfl) ?_; rw [HWT.out]) | (refine lb b6 rfl rfl rfl (by kernel_rfl) ?_) | (refine lp 42 1 (cmC cm) bE rfl rfl rfl (by kernel_rfl) (by rfl) ?_))
            clear bE0 HWT kE
            refine cb (HD.out _) fun w6 hb => ?_
            have hR5 := reps_next hR4 hb
            replace b5 := kp hb b5; replace b6 := kp hb b6; replace b7 := kp hb b7; replace bE := kp hb bE; replace hB := tr hB hb
            clear hR4 hb HD
            obtain ⟨g12, hg12⟩ : ∃ x, w6.heap.size = x := ⟨_, rfl⟩
            obtain ⟨V12, hV12⟩ : ∃ V, w6.alloc (.cells (stC S2) 38) = V := ⟨_, rfl⟩
            have b12 : V12.heap[g12]? = some (.cells (stC S2) 38) := by rw [← hV12, ← hg12]; exact han _ _
            have hb : Below w6.heap.size w6 V12 := by rw [← hV12]; exact (Below.refl _ w6).alloc (Nat.le_refl _) _
            have hR4 := reps_next hR5 hb
            replace b5 := kp hb b5; replace b6 := kp hb b6; replace b7 := kp hb b7; replace bE := kp hb bE; replace hB := tr hB hb
            have kc1 : V12.cell? ⟨gE, 1, none⟩ = some (.int .i64 cm.ki) := by rw [cell_of_row _ _ 1 _ _ _ bE]; rfl
            have H5 := Lib.hid b5; have H6 := Lib.hid b6; have H7 := Lib.hid b7; have HE := Lib.hid bE; have HB := Lib.hid hB; have HR := Lib.hid hR4; have H12 := Lib.hid b12
            clear hR5 hb b5 b6 b7 bE hB hR4 b12
            rename_i h0K
            refine h0K _ _ ?_
            clear h0K
            rename_i hK Kop
            have HK := Lib.hid hK
            clear hK
            go_wp2_with fail
            clear hV12 hg12
            refine HK.out _ _ ?_
            clear HK
            go_step
            rename_i hK
            have HK := Lib.hid hK
            clear hK
            go_wp2_with fail
            refine HK.out _ _ ?_
            clear HK
            go_step
            rename_i hK
            have HK := Lib.hid hK
            clear hK
            go_wp2_with fail
            refine HK.out _ _ ?_
            clear HK
            clear kc1
            have b5 := H5.out; have b6 := H6.out; have b7 := H7.out; have bE := HE.out; have hB := HB.out; have hR4 := HR.out; have b12 := H12.out
            clear H5 H6 H7 HE HB HR H12
            have b60 := b6
            have hR5 := reps_rowT hR4 b6 (by decide) (stC S2)
            replace b5 := (setRow_other V12 g6 g5 (stC S2) (by omega)).trans b5
            replace b7 := (setRow_other V12 g6 g7 (stC S2) (by omega)).trans b7
            replace bE := (setRow_other V12 g6 gE (stC S2) (by omega)).trans bE
            replace b6 := srh (c' := stC S2) b6
            replace hB := below_setRow hB (show w.heap.size ≤ g6 by omega) (stC S2)
            obtain ⟨WS, hWS⟩ : ∃ W, V12.setRow g6 (stC S2) = W := ⟨_, rfl⟩
            rw [hWS] at hR5 b5 b6 b7 bE hB
            have HWS := Lib.hid hWS
            clear hWS hR4
            have hR4 := hR5
            clear hR5
            go_wp2_with (first | (refine lb b12 rfl rfl rfl (by kernel_rfl) ?_) | (refine sb (c' := stC S2) b60 rfl rfl rfl rfl (by kernel_rfl) ?_; rw [HWS.out]) | (refine lb b5 rfl rfl rfl (by kernel_rfl) ?_) | (refine lb bE rfl rfl rfl (by kernel_rfl) ?_))
            clear b60 HWS b12
            refine (HS.out _ (hn.next hB) hR4).mono ?_
            rintro en w8 ⟨⟨v8, rfl, hr8⟩, hb⟩
            clear hR4 bE
            obtain ⟨p8, q8, rfl⟩ := reps_shape hr8
            replace b5 := kp hb b5; replace b6 := kp hb b6; replace b7 := kp hb b7; replace hB := tr hB hb
            clear hb
            rw [HST.out] at hr8 ⊢
            obtain ⟨K, hK⟩ : ∃ K, g.out.length = K := ⟨_, rfl⟩
            have hl1 : (g.out ++ [(⟨ED, X2.ph, X2.s⟩ : Dw.Rep)]).length = K + 1 := by simp [hK]
            have hKk : K ≤ k := by omega
            obtain ⟨q, hq, hc⟩ := own_get2 hr8 hK
            subst hq
            obtain ⟨nn, hnn⟩ : ∃ x, (g.out ++ [(⟨ED, X2.ph, X2.s⟩ : Dw.Rep)]).length = x := ⟨_, rfl⟩
            have hn1 : nn = K + 1 := by rw [← hnn]; exact hl1
            dsimp only at hr8 ⊢
            rw [hnn] at hr8 ⊢
            have HR8 := Lib.hid hr8
            subst hn1
            have b5' := srh (c' := fliC X2 (.slice (some ⟨q, 0, none⟩) (K + 1) q8)) b5
            have b6' := (setRow_other w8 g5 g6 (fliC X2 (.slice (some ⟨q, 0, none⟩) (K + 1) q8)) (by omega)).trans b6
            have b7' := (setRow_other w8 g5 g7 (fliC X2 (.slice (some ⟨q, 0, none⟩) (K + 1) q8)) (by omega)).trans b7
            have hR9 := reps_row HR8.out b5 (fliC X2 (.slice (some ⟨q, 0, none⟩) (K + 1) q8))
            have hB9 := below_setRow hB hg5w (fliC X2 (.slice (some ⟨q, 0, none⟩) (K + 1) q8))
            obtain ⟨W9, hW9⟩ : ∃ W, w8.setRow g5 (fliC X2 (.slice (some ⟨q, 0, none⟩) (K + 1) q8)) = W := ⟨_, rfl⟩
            rw [hW9] at b5' b6' b7' hR9 hB9
            have hq5 : q ≠ g5 := own_ne HR8.out b5
            have hc9 : ∀ i u, (repC ⟨ED, X2.ph, X2.s⟩).toList[i]? = some u → W9.cell? ⟨q, K * 8 + i, none⟩ = some u := fun i u hi => by
              rw [← hW9]
              exact (cell_setRow_ne hq5 _ _).trans (hc i u hi)
            have HW9 := Lib.hid hW9
            have hs2 := HM2.out.st
            have d0 : W9.cell? ⟨q, K * 8, none⟩ = some (.int .i64 ED) := hc9 0 _ rfl
            have d1 : W9.cell? ⟨q, K * 8 + 1, none⟩ = some (.int .i64 X2.ph) := hc9 1 _ rfl
            have e0 : W9.cell? ⟨q, K * 8 + 2, none⟩ = some (.int .i64 S2.mo) := by rw [← hs2]; exact hc9 2 _ rfl
            have e1 : W9.cell? ⟨q, K * 8 + 2 + 1, none⟩ = some (.bool S2.ar) := by rw [← hs2]; exact hc9 3 _ rfl
            have e2 : W9.cell? ⟨q, K * 8 + 2 + 2, none⟩ = some (.bool S2.ho) := by rw [← hs2]; exact hc9 4 _ rfl
            have e3 : W9.cell? ⟨q, K * 8 + 2 + 3, none⟩ = some (.int .i64 S2.la) := by rw [← hs2]; exact hc9 5 _ rfl
            have e4 : W9.cell? ⟨q, K * 8 + 2 + 4, none⟩ = some (.int .i64 S2.lo) := by rw [← hs2]; exact hc9 6 _ rfl
            have e5 : W9.cell? ⟨q, K * 8 + 2 + 5, none⟩ = some (.int .i64 S2.iso) := by rw [← hs2]; exact hc9 7 _ rfl
            have y14 := (cells15 b5').2.2.2.2.2
            obtain ⟨c0, c1, c2, c3, c4, c5⟩ := cells6 b6'
            have HD := Lib.hid (And.intro d0 (And.intro d1 (And.intro e0 (And.intro e1 (And.intro e2 (And.intro e3 (And.intro e4 e5)))))))
            have HC6 := Lib.hid (And.intro c0 (And.intro c1 (And.intro c2 (And.intro c3 (And.intro c4 c5)))))
            have H5 := Lib.hid b5'; have H6 := Lib.hid b6'; have H7 := Lib.hid b7'; have H9 := Lib.hid hB9; have HR9 := Lib.hid hR9; have HKK := Lib.hid hKk
            clear d0 d1 e0 e1 e2 e3 e4 e5 c0 c1 c2 c3 c4 c5 b5' b6' b7' hB9 hR9 hc hc9 hs2 hq5 hW9 b6 b7 hB hr8 hl1 hnn
            clear HR8 hK
            go_wp2_with (first | (refine sb (c' := fliC X2 (.slice (some ⟨q, 0, none⟩) (K + 1) q8)) b5 rfl rfl rfl rfl (by kernel_rfl) ?_; rw [HW9.out]))
            clear HW9 b5
            refine reg_swap (ops := opsR 31 Tryz.f3) ?_ (by kernel_rfl)
            refine top_r31 (by have := HKK.out; omega) y14 HD.out.1 HD.out.2.1 HD.out.2.2.1 HD.out.2.2.2.1 HD.out.2.2.2.2.1 HD.out.2.2.2.2.2.1 HD.out.2.2.2.2.2.2.1 HD.out.2.2.2.2.2.2.2 HC6.out.1 HC6.out.2.1 HC6.out.2.2.1 HC6.out.2.2.2.1 HC6.out.2.2.2.2.1 HC6.out.2.2.2.2.2 (Dw.mod_hph HM2.out) ?_
            intro v95 v96 v97 v98 v99 v100 v101 v102 v103 v104 v105 v106 v107 v108 v109 v110 v111 v112 v113 v114 v115 v116 v117 v118 v119 v120 v121 v122 v123 v124 v125 v126 v127 v128 v129 v130 w9 hk9
            clear y14 HD HC6
            go_wp2_with fail
            go_roundw
            case rel => exact ⟨k + 1, N + 1, ⟨X2, g.out ++ [⟨ED, X2.ph, X2.s⟩]⟩, S2, vo, c, false, _, hlt, by omega, rfl, by go_num, HM2.out, by have := HKK.out; simp; omega, kpi hk9 H5.out, kpi hk9 H6.out, kpi hk9 H7.out, reps_next HR9.out hk9.whole, H9.out.trans (hk9.whole.mono H9.out.size)⟩
            case measure => first | done | (simp [intOf]; done) | (simp [intOf]; omega)
          · skip
            go_wp2_with (first | (refine sp 46 8 #[.int .i64 (-1), .string ⟨#[]⟩] (enC ⟨1, cm, va, vb, vc, Dw.whole, at_⟩) bE0 rfl rfl rfl rfl (by kernel_rfl) (by rfl) (by rfl) ?_; rw [HWT.out]) | (refine lb b6 rfl rfl rfl (by kernel_rfl) ?_) | (refine lp 42 1 (cmC cm) bE rfl rfl rfl (by kernel_rfl) (by rfl) ?_))
            clear bE0 HWT kE
            refine cb (HD.out _) fun w6 hb => ?_
            have hR5 := reps_next hR4 hb
            replace b5 := kp hb b5; replace b6 := kp hb b6; replace b7 := kp hb b7; replace bE := kp hb bE; replace hB := tr hB hb
            clear hR4 hb HD
            obtain ⟨g12, hg12⟩ : ∃ x, w6.heap.size = x := ⟨_, rfl⟩
            obtain ⟨V12, hV12⟩ : ∃ V, w6.alloc (.cells (stC S2) 38) = V := ⟨_, rfl⟩
            have b12 : V12.heap[g12]? = some (.cells (stC S2) 38) := by rw [← hV12, ← hg12]; exact han _ _
            have hb : Below w6.heap.size w6 V12 := by rw [← hV12]; exact (Below.refl _ w6).alloc (Nat.le_refl _) _
            have hR4 := reps_next hR5 hb
            replace b5 := kp hb b5; replace b6 := kp hb b6; replace b7 := kp hb b7; replace bE := kp hb bE; replace hB := tr hB hb
            have kc1 : V12.cell? ⟨gE, 1, none⟩ = some (.int .i64 cm.ki) := by rw [cell_of_row _ _ 1 _ _ _ bE]; rfl
            have H5 := Lib.hid b5; have H6 := Lib.hid b6; have H7 := Lib.hid b7; have HE := Lib.hid bE; have HB := Lib.hid hB; have HR := Lib.hid hR4; have H12 := Lib.hid b12
            clear hR5 hb b5 b6 b7 bE hB hR4 b12
            rename_i h0K
            refine h0K _ _ ?_
            clear h0K
            rename_i hK Kop
            have HK := Lib.hid hK
            clear hK
            go_wp2_with fail
            clear hV12 hg12
            refine HK.out _ _ ?_
            clear HK
            go_step
            rename_i hK
            have HK := Lib.hid hK
            clear hK
            go_wp2_with fail
            refine HK.out _ _ ?_
            clear HK
            go_step
            rename_i hK
            have HK := Lib.hid hK
            clear hK
            go_wp2_with fail
            refine HK.out _ _ ?_
            clear HK
            clear kc1
            have b5 := H5.out; have b6 := H6.out; have b7 := H7.out; have bE := HE.out; have hB := HB.out; have hR4 := HR.out; have b12 := H12.out
            clear H5 H6 H7 HE HB HR H12
            have b60 := b6
            have hR5 := reps_rowT hR4 b6 (by decide) (stC S2)
            replace b5 := (setRow_other V12 g6 g5 (stC S2) (by omega)).trans b5
            replace b7 := (setRow_other V12 g6 g7 (stC S2) (by omega)).trans b7
            replace bE := (setRow_other V12 g6 gE (stC S2) (by omega)).trans bE
            replace b6 := srh (c' := stC S2) b6
            replace hB := below_setRow hB (show w.heap.size ≤ g6 by omega) (stC S2)
            obtain ⟨WS, hWS⟩ : ∃ W, V12.setRow g6 (stC S2) = W := ⟨_, rfl⟩
            rw [hWS] at hR5 b5 b6 b7 bE hB
            have HWS := Lib.hid hWS
            clear hWS hR4
            have hR4 := hR5
            clear hR5
            go_wp2_with (first | (refine lb b12 rfl rfl rfl (by kernel_rfl) ?_) | (refine sb (c' := stC S2) b60 rfl rfl rfl rfl (by kernel_rfl) ?_; rw [HWS.out]) | (refine lb b5 rfl rfl rfl (by kernel_rfl) ?_) | (refine lb bE rfl rfl rfl (by kernel_rfl) ?_))
            clear b60 HWS b12
            refine (HS.out _ (hn.next hB) hR4).mono ?_
            rintro en w8 ⟨⟨v8, rfl, hr8⟩, hb⟩
            clear hR4 bE
            obtain ⟨p8, q8, rfl⟩ := reps_shape hr8
            replace b5 := kp hb b5; replace b6 := kp hb b6; replace b7 := kp hb b7; replace hB := tr hB hb
            clear hb
            rw [HST.out] at hr8 ⊢
            obtain ⟨K, hK⟩ : ∃ K, g.out.length = K := ⟨_, rfl⟩
            have hl1 : (g.out ++ [(⟨ED, X2.ph, X2.s⟩ : Dw.Rep)]).length = K + 1 := by simp [hK]
            have hKk : K ≤ k := by omega
            obtain ⟨q, hq, hc⟩ := own_get2 hr8 hK
            subst hq
            obtain ⟨nn, hnn⟩ : ∃ x, (g.out ++ [(⟨ED, X2.ph, X2.s⟩ : Dw.Rep)]).length = x := ⟨_, rfl⟩
            have hn1 : nn = K + 1 := by rw [← hnn]; exact hl1
            dsimp only at hr8 ⊢
            rw [hnn] at hr8 ⊢
            have HR8 := Lib.hid hr8
            subst hn1
            have b5' := srh (c' := fliC X2 (.slice (some ⟨q, 0, none⟩) (K + 1) q8)) b5
            have b6' := (setRow_other w8 g5 g6 (fliC X2 (.slice (some ⟨q, 0, none⟩) (K + 1) q8)) (by omega)).trans b6
            have b7' := (setRow_other w8 g5 g7 (fliC X2 (.slice (some ⟨q, 0, none⟩) (K + 1) q8)) (by omega)).trans b7
            have hR9 := reps_row HR8.out b5 (fliC X2 (.slice (some ⟨q, 0, none⟩) (K + 1) q8))
            have hB9 := below_setRow hB hg5w (fliC X2 (.slice (some ⟨q, 0, none⟩) (K + 1) q8))
            obtain ⟨W9, hW9⟩ : ∃ W, w8.setRow g5 (fliC X2 (.slice (some ⟨q, 0, none⟩) (K + 1) q8)) = W := ⟨_, rfl⟩
            rw [hW9] at b5' b6' b7' hR9 hB9
            have hq5 : q ≠ g5 := own_ne HR8.out b5
            have hc9 : ∀ i u, (repC ⟨ED, X2.ph, X2.s⟩).toList[i]? = some u → W9.cell? ⟨q, K * 8 + i, none⟩ = some u := fun i u hi => by
              rw [← hW9]
              exact (cell_setRow_ne hq5 _ _).trans (hc i u hi)
            have HW9 := Lib.hid hW9
            have hs2 := HM2.out.st
            have d0 : W9.cell? ⟨q, K * 8, none⟩ = some (.int .i64 ED) := hc9 0 _ rfl
            have d1 : W9.cell? ⟨q, K * 8 + 1, none⟩ = some (.int .i64 X2.ph) := hc9 1 _ rfl
            have e0 : W9.cell? ⟨q, K * 8 + 2, none⟩ = some (.int .i64 S2.mo) := by rw [← hs2]; exact hc9 2 _ rfl
            have e1 : W9.cell? ⟨q, K * 8 + 2 + 1, none⟩ = some (.bool S2.ar) := by rw [← hs2]; exact hc9 3 _ rfl
            have e2 : W9.cell? ⟨q, K * 8 + 2 + 2, none⟩ = some (.bool S2.ho) := by rw [← hs2]; exact hc9 4 _ rfl
            have e3 : W9.cell? ⟨q, K * 8 + 2 + 3, none⟩ = some (.int .i64 S2.la) := by rw [← hs2]; exact hc9 5 _ rfl
            have e4 : W9.cell? ⟨q, K * 8 + 2 + 4, none⟩ = some (.int .i64 S2.lo) := by rw [← hs2]; exact hc9 6 _ rfl
            have e5 : W9.cell? ⟨q, K * 8 + 2 + 5, none⟩ = some (.int .i64 S2.iso) := by rw [← hs2]; exact hc9 7 _ rfl
            have y14 := (cells15 b5').2.2.2.2.2
            obtain ⟨c0, c1, c2, c3, c4, c5⟩ := cells6 b6'
            have HD := Lib.hid (And.intro d0 (And.intro d1 (And.intro e0 (And.intro e1 (And.intro e2 (And.intro e3 (And.intro e4 e5)))))))
            have HC6 := Lib.hid (And.intro c0 (And.intro c1 (And.intro c2 (And.intro c3 (And.intro c4 c5)))))
            have H5 := Lib.hid b5'; have H6 := Lib.hid b6'; have H7 := Lib.hid b7'; have H9 := Lib.hid hB9; have HR9 := Lib.hid hR9; have HKK := Lib.hid hKk
            clear d0 d1 e0 e1 e2 e3 e4 e5 c0 c1 c2 c3 c4 c5 b5' b6' b7' hB9 hR9 hc hc9 hs2 hq5 hW9 b6 b7 hB hr8 hl1 hnn
            clear HR8 hK
            go_wp2_with (first | (refine sb (c' := fliC X2 (.slice (some ⟨q, 0, none⟩) (K + 1) q8)) b5 rfl rfl rfl rfl (by kernel_rfl) ?_; rw [HW9.out]))
            clear HW9 b5
            refine reg_swap (ops := opsR 31 Tryz.f3) ?_ (by kernel_rfl)
            refine top_r31 (by have := HKK.out; omega) y14 HD.out.1 HD.out.2.1 HD.out.2.2.1 HD.out.2.2.2.1 HD.out.2.2.2.2.1 HD.out.2.2.2.2.2.1 HD.out.2.2.2.2.2.2.1 HD.out.2.2.2.2.2.2.2 HC6.out.1 HC6.out.2.1 HC6.out.2.2.1 HC6.out.2.2.2.1 HC6.out.2.2.2.2.1 HC6.out.2.2.2.2.2 (Dw.mod_hph HM2.out) ?_
            intro v95 v96 v97 v98 v99 v100 v101 v102 v103 v104 v105 v106 v107 v108 v109 v110 v111 v112 v113 v114 v115 v116 v117 v118 v119 v120 v121 v122 v123 v124 v125 v126 v127 v128 v129 v130 w9 hk9
            clear y14 HD HC6
            go_wp2_with fail
            go_roundw
            case rel => exact ⟨k + 1, N + 1, ⟨X2, g.out ++ [⟨ED, X2.ph, X2.s⟩]⟩, S2, vo, c, true, _, hlt, by omega, rfl, by go_num, HM2.out, by have := HKK.out; simp; omega, kpi hk9 H5.out, kpi hk9 H6.out, kpi hk9 H7.out, reps_next HR9.out hk9.whole, H9.out.trans (hk9.whole.mono H9.out.size)⟩
            case measure => first | done | (simp [intOf]; done) | (simp [intOf]; omega)
          · skip
            have u4 : ¬ cm.ki ≤ 3 := by omega
            go_wp2_with (first | (refine sp 46 8 #[.int .i64 (-1), .string ⟨#[]⟩] (enC ⟨1, cm, va, vb, vc, Dw.whole, at_⟩) bE0 rfl rfl rfl rfl (by kernel_rfl) (by rfl) (by rfl) ?_; rw [HWT.out]) | (refine lb b6 rfl rfl rfl (by kernel_rfl) ?_) | (refine lp 42 1 (cmC cm) bE rfl rfl rfl (by kernel_rfl) (by rfl) ?_))
            clear bE0 HWT kE
            refine cb (HD.out _) fun w6 hb => ?_
            have hR5 := reps_next hR4 hb
            replace b5 := kp hb b5; replace b6 := kp hb b6; replace b7 := kp hb b7; replace bE := kp hb bE; replace hB := tr hB hb
            clear hR4 hb HD
            obtain ⟨g12, hg12⟩ : ∃ x, w6.heap.size = x := ⟨_, rfl⟩
            obtain ⟨V12, hV12⟩ : ∃ V, w6.alloc (.cells (stC S2) 38) = V := ⟨_, rfl⟩
            have b12 : V12.heap[g12]? = some (.cells (stC S2) 38) := by rw [← hV12, ← hg12]; exact han _ _
            have hb : Below w6.heap.size w6 V12 := by rw [← hV12]; exact (Below.refl _ w6).alloc (Nat.le_refl _) _
            have hR4 := reps_next hR5 hb
            replace b5 := kp hb b5; replace b6 := kp hb b6; replace b7 := kp hb b7; replace bE := kp hb bE; replace hB := tr hB hb
            have kc1 : V12.cell? ⟨gE, 1, none⟩ = some (.int .i64 cm.ki) := by rw [cell_of_row _ _ 1 _ _ _ bE]; rfl
            have H5 := Lib.hid b5; have H6 := Lib.hid b6; have H7 := Lib.hid b7; have HE := Lib.hid bE; have HB := Lib.hid hB; have HR := Lib.hid hR4; have H12 := Lib.hid b12
            clear hR5 hb b5 b6 b7 bE hB hR4 b12
            rename_i h0K
            refine h0K _ _ ?_
            clear h0K
            rename_i hK Kop
            have HK := Lib.hid hK
            clear hK
            go_wp2_with fail
            clear hV12 hg12
            refine HK.out _ _ ?_
            clear HK
            go_step
            rename_i hK
            have HK := Lib.hid hK
            clear hK
            go_wp2_with fail
            refine HK.out _ _ ?_
            clear HK
            go_step
            rename_i hK
            have HK := Lib.hid hK
            clear hK
            go_wp2_with fail
            refine HK.out _ _ ?_
            clear HK
            clear kc1
            have b5 := H5.out; have b6 := H6.out; have b7 := H7.out; have bE := HE.out; have hB := HB.out; have hR4 := HR.out; have b12 := H12.out
            clear H5 H6 H7 HE HB HR H12
            have b60 := b6
            have hR5 := reps_rowT hR4 b6 (by decide) (stC S2)
            replace b5 := (setRow_other V12 g6 g5 (stC S2) (by omega)).trans b5
            replace b7 := (setRow_other V12 g6 g7 (stC S2) (by omega)).trans b7
            replace bE := (setRow_other V12 g6 gE (stC S2) (by omega)).trans bE
            replace b6 := srh (c' := stC S2) b6
            replace hB := below_setRow hB (show w.heap.size ≤ g6 by omega) (stC S2)
            obtain ⟨WS, hWS⟩ : ∃ W, V12.setRow g6 (stC S2) = W := ⟨_, rfl⟩
            rw [hWS] at hR5 b5 b6 b7 bE hB
            have HWS := Lib.hid hWS
            clear hWS hR4
            have hR4 := hR5
            clear hR5
            go_wp2_with (first | (refine lb b12 rfl rfl rfl (by kernel_rfl) ?_) | (refine sb (c' := stC S2) b60 rfl rfl rfl rfl (by kernel_rfl) ?_; rw [HWS.out]) | (refine lb b5 rfl rfl rfl (by kernel_rfl) ?_) | (refine lb bE rfl rfl rfl (by kernel_rfl) ?_))
            clear b60 HWS b12
            refine (HS.out _ (hn.next hB) hR4).mono ?_
            rintro en w8 ⟨⟨v8, rfl, hr8⟩, hb⟩
            clear hR4 bE
            obtain ⟨p8, q8, rfl⟩ := reps_shape hr8
            replace b5 := kp hb b5; replace b6 := kp hb b6; replace b7 := kp hb b7; replace hB := tr hB hb
            clear hb
            rw [HST.out] at hr8 ⊢
            obtain ⟨K, hK⟩ : ∃ K, g.out.length = K := ⟨_, rfl⟩
            have hl1 : (g.out ++ [(⟨ED, X2.ph, X2.s⟩ : Dw.Rep)]).length = K + 1 := by simp [hK]
            have hKk : K ≤ k := by omega
            obtain ⟨q, hq, hc⟩ := own_get2 hr8 hK
            subst hq
            obtain ⟨nn, hnn⟩ : ∃ x, (g.out ++ [(⟨ED, X2.ph, X2.s⟩ : Dw.Rep)]).length = x := ⟨_, rfl⟩
            have hn1 : nn = K + 1 := by rw [← hnn]; exact hl1
            dsimp only at hr8 ⊢
            rw [hnn] at hr8 ⊢
            have HR8 := Lib.hid hr8
            subst hn1
            have b5' := srh (c' := fliC X2 (.slice (some ⟨q, 0, none⟩) (K + 1) q8)) b5
            have b6' := (setRow_other w8 g5 g6 (fliC X2 (.slice (some ⟨q, 0, none⟩) (K + 1) q8)) (by omega)).trans b6
            have b7' := (setRow_other w8 g5 g7 (fliC X2 (.slice (some ⟨q, 0, none⟩) (K + 1) q8)) (by omega)).trans b7
            have hR9 := reps_row HR8.out b5 (fliC X2 (.slice (some ⟨q, 0, none⟩) (K + 1) q8))
            have hB9 := below_setRow hB hg5w (fliC X2 (.slice (some ⟨q, 0, none⟩) (K + 1) q8))
            obtain ⟨W9, hW9⟩ : ∃ W, w8.setRow g5 (fliC X2 (.slice (some ⟨q, 0, none⟩) (K + 1) q8)) = W := ⟨_, rfl⟩
            rw [hW9] at b5' b6' b7' hR9 hB9
            have hq5 : q ≠ g5 := own_ne HR8.out b5
            have hc9 : ∀ i u, (repC ⟨ED, X2.ph, X2.s⟩).toList[i]? = some u → W9.cell? ⟨q, K * 8 + i, none⟩ = some u := fun i u hi => by
              rw [← hW9]
              exact (cell_setRow_ne hq5 _ _).trans (hc i u hi)
            have HW9 := Lib.hid hW9
            have hs2 := HM2.out.st
            have d0 : W9.cell? ⟨q, K * 8, none⟩ = some (.int .i64 ED) := hc9 0 _ rfl
            have d1 : W9.cell? ⟨q, K * 8 + 1, none⟩ = some (.int .i64 X2.ph) := hc9 1 _ rfl
            have e0 : W9.cell? ⟨q, K * 8 + 2, none⟩ = some (.int .i64 S2.mo) := by rw [← hs2]; exact hc9 2 _ rfl
            have e1 : W9.cell? ⟨q, K * 8 + 2 + 1, none⟩ = some (.bool S2.ar) := by rw [← hs2]; exact hc9 3 _ rfl
            have e2 : W9.cell? ⟨q, K * 8 + 2 + 2, none⟩ = some (.bool S2.ho) := by rw [← hs2]; exact hc9 4 _ rfl
            have e3 : W9.cell? ⟨q, K * 8 + 2 + 3, none⟩ = some (.int .i64 S2.la) := by rw [← hs2]; exact hc9 5 _ rfl
            have e4 : W9.cell? ⟨q, K * 8 + 2 + 4, none⟩ = some (.int .i64 S2.lo) := by rw [← hs2]; exact hc9 6 _ rfl
            have e5 : W9.cell? ⟨q, K * 8 + 2 + 5, none⟩ = some (.int .i64 S2.iso) := by rw [← hs2]; exact hc9 7 _ rfl
            have y14 := (cells15 b5').2.2.2.2.2
            obtain ⟨c0, c1, c2, c3, c4, c5⟩ := cells6 b6'
            have HD := Lib.hid (And.intro d0 (And.intro d1 (And.intro e0 (And.intro e1 (And.intro e2 (And.intro e3 (And.intro e4 e5)))))))
            have HC6 := Lib.hid (And.intro c0 (And.intro c1 (And.intro c2 (And.intro c3 (And.intro c4 c5)))))
            have H5 := Lib.hid b5'; have H6 := Lib.hid b6'; have H7 := Lib.hid b7'; have H9 := Lib.hid hB9; have HR9 := Lib.hid hR9; have HKK := Lib.hid hKk
            clear d0 d1 e0 e1 e2 e3 e4 e5 c0 c1 c2 c3 c4 c5 b5' b6' b7' hB9 hR9 hc hc9 hs2 hq5 hW9 b6 b7 hB hr8 hl1 hnn
            clear HR8 hK
            go_wp2_with (first | (refine sb (c' := fliC X2 (.slice (some ⟨q, 0, none⟩) (K + 1) q8)) b5 rfl rfl rfl rfl (by kernel_rfl) ?_; rw [HW9.out]))
            clear HW9 b5
            refine reg_swap (ops := opsR 31 Tryz.f3) ?_ (by kernel_rfl)
            refine top_r31 (by have := HKK.out; omega) y14 HD.out.1 HD.out.2.1 HD.out.2.2.1 HD.out.2.2.2.1 HD.out.2.2.2.2.1 HD.out.2.2.2.2.2.1 HD.out.2.2.2.2.2.2.1 HD.out.2.2.2.2.2.2.2 HC6.out.1 HC6.out.2.1 HC6.out.2.2.1 HC6.out.2.2.2.1 HC6.out.2.2.2.2.1 HC6.out.2.2.2.2.2 (Dw.mod_hph HM2.out) ?_
            intro v95 v96 v97 v98 v99 v100 v101 v102 v103 v104 v105 v106 v107 v108 v109 v110 v111 v112 v113 v114 v115 v116 v117 v118 v119 v120 v121 v122 v123 v124 v125 v126 v127 v128 v129 v130 w9 hk9
            clear y14 HD HC6
            go_wp2_with fail
            go_roundw
            case rel => exact ⟨k + 1, N + 1, ⟨X2, g.out ++ [⟨ED, X2.ph, X2.s⟩]⟩, S2, vo, c, true, _, hlt, by omega, rfl, by go_num, HM2.out, by have := HKK.out; simp; omega, kpi hk9 H5.out, kpi hk9 H6.out, kpi hk9 H7.out, reps_next HR9.out hk9.whole, H9.out.trans (hk9.whole.mono H9.out.size)⟩
            case measure => first | done | (simp [intOf]; done) | (simp [intOf]; omega)
      by_cases k2 : ki = 2
      · skip
        subst k2
        clear k1
        obtain ⟨u, hu⟩ : ∃ u, Dw.voteI va vb vc = u := ⟨_, rfl⟩
        have hsee := Dw.mod_see HMD.out (show N < 400 by omega) u
        have HVt := Lib.hid (fun w => rvote_any va vb vc w)
        have HAd := Lib.hid (fun w => radd_any vo c u w)
        have HVd := Lib.hid (fun w => rverd_any (addV vo u) (addN vo c u) w)
        have hiso : 0 ≤ s.iso ∧ s.iso ≤ 15 := by rw [← HMD.out.st]; exact Dw.legal_iso HMD.out.leg
        obtain ⟨X2, hX2⟩ : ∃ X, Dw.sampleX g.x u Dw.whole = X := ⟨_, rfl⟩
        have HST := Lib.hid (show Dw.stepF g ⟨2, cm, va, vb, vc, Dw.whole, at_⟩ = ⟨X2, g.out ++ [⟨0, X2.ph, X2.s⟩]⟩ by
          rw [← hX2, ← hu]
          show (⟨_, g.out ++ [⟨Dw.sampleE g.x (Dw.voteI va vb vc) Dw.whole, _, _⟩]⟩ : Dw.Fli) = _
          rw [hu, hsee.1, ← hu]
          rfl)
        rw [hX2] at hsee
        rw [hu] at HVt
        have HSEE := Lib.hid hsee
        clear hX2 hsee hu HMD
        go_wp2_with (first | (refine sp 46 8 #[.int .i64 (-1), .string ⟨#[]⟩] (enC ⟨2, cm, va, vb, vc, Dw.whole, at_⟩) bE0 rfl rfl rfl rfl (by kernel_rfl) (by rfl) (by rfl) ?_; rw [HWT.out]))
        clear bE0 HWT
        obtain ⟨v0, v1⟩ := cells2 b7
        have s5 : wt.cell? ⟨gE, 5, none⟩ = some (.float .f64 va) := by rw [cell_of_row _ _ 5 _ _ _ bE]; rfl
        have s6 : wt.cell? ⟨gE, 6, none⟩ = some (.float .f64 vb) := by rw [cell_of_row _ _ 6 _ _ _ bE]; rfl
        have s7 : wt.cell? ⟨gE, 7, none⟩ = some (.float .f64 vc) := by rw [cell_of_row _ _ 7 _ _ _ bE]; rfl
        have H5 := Lib.hid b5; have H6 := Lib.hid b6; have H7 := Lib.hid b7; have HE := Lib.hid bE; have HB := Lib.hid hB; have HR := Lib.hid hR4
        clear b5 b6 b7 bE hB hR4
        refine RT.wp_letter (fun k => k = g7) (fun k => decide (99 ≤ k)) [0, 1, 2, 3, 4] 5 6 (RT.Stored wt g7 (#[.int .i64 (addV vo u), .int .i64 (addN vo c u)]) 39) rfl (by kernel_rfl) (by kernel_rfl) rfl (fun A B h hk => h.keep hk) ?_
        (apply RT.rat; (focus (intro w' w'' hk hk2; obtain ⟨m0,m1,m2,m3,m4⟩ := look5 hk v0 v1 s5 s6 s7; repeat' (first | exact RT.rn | ((first | refine' RT.rv ?_ rfl rfl rfl (by go_simp; first | done | with_reducible rfl | exact rfl) | refine' RT.rc ?_ (by exact rfl) (by exact rfl) (by exact rfl) (by go_simp; first | done | (constructor <;> with_reducible rfl) | with_reducible rfl) (by first | exact HVt.out w' | exact HAd.out w') | refine' RT.rl ?_ rfl rfl rfl (by go_simp; first | done | with_reducible rfl | exact rfl) | refine' RT.rs ?_ rfl rfl); try simp only [Act.put, List.setIfInBounds_toArray, List.set_cons_zero, List.set_cons_succ])))))
        refine RT.pl_nil ⟨rfl, RT.stb H7.out rfl rfl rfl (by kernel_rfl), ?_⟩
        rintro WV ⟨hk5, b7⟩
        have b5 := (hk5.block _ (block_lt H5.out) (by omega)).trans H5.out
        have b6 := (hk5.block _ (block_lt H6.out) (by omega)).trans H6.out
        have bE := (hk5.block _ (block_lt HE.out) (by omega)).trans HE.out
        have hB := HB.out.trans (hk5.below HB.out.size (fun k hk => by omega))
        have hR4 := reps_but HR.out hk5 H7.out (by decide)
        simp only [List.drop_succ_cons, List.drop_zero, Act.put, List.setIfInBounds_toArray, List.set_cons_zero, List.set_cons_succ]
        clear hk5 v0 v1 s5 s6 s7 H5 H6 H7 HE HB HR HVt HAd kE
        go_wp2_with (first | (refine lb b7 rfl rfl rfl (by kernel_rfl) ?_))
        refine cb (HVd.out _) fun w6 hb => ?_
        have hR5 := reps_next hR4 hb
        replace b5 := kp hb b5; replace b6 := kp hb b6; replace b7 := kp hb b7; replace bE := kp hb bE; replace hB := tr hB hb
        clear hR4 hb HVd
        have hR4 := hR5
        clear hR5
        by_cases hcond : held = true ∧ verdC (addV vo u) (addN vo c u) ≠ 0
        · have HM2 := Lib.hid (HSEE.out.2.1 hcond)
          obtain ⟨hh, hd⟩ := hcond
          subst hh
          have hd1 : (verdC (addV vo u) (addN vo c u) != 0) = true := by simpa using hd
          have HRs := Lib.hid (fun w => rresolve_any s hiso (verdC (addV vo u) (addN vo c u)) w)
          obtain ⟨S2, hS2⟩ : ∃ S, Dw.resolveS s (verdC (addV vo u) (addN vo c u)) = S := ⟨_, rfl⟩
          rw [hS2] at HM2 HRs
          clear hd HSEE hS2 hiso
          generalize verdC (addV vo u) (addN vo c u) = D at *
          go_wp2_with (first | (refine lb b6 rfl rfl rfl (by kernel_rfl) ?_))
          refine cb (HRs.out _) fun w7 hb => ?_
          have hR5 := reps_next hR4 hb
          replace b5 := kp hb b5; replace b6 := kp hb b6; replace b7 := kp hb b7; replace bE := kp hb bE; replace hB := tr hB hb
          clear hR4 hb HRs
          have b60 := b6
          have hR4 := reps_rowT hR5 b6 (by decide) (stC S2)
          replace b5 := (setRow_other w7 g6 g5 (stC S2) (by omega)).trans b5
          replace b7 := (setRow_other w7 g6 g7 (stC S2) (by omega)).trans b7
          replace bE := (setRow_other w7 g6 gE (stC S2) (by omega)).trans bE
          replace b6 := srh (c' := stC S2) b6
          replace hB := below_setRow hB (show w.heap.size ≤ g6 by omega) (stC S2)
          obtain ⟨WS, hWS⟩ : ∃ W, w7.setRow g6 (stC S2) = W := ⟨_, rfl⟩
          rw [hWS] at hR4 b5 b6 b7 bE hB
          have HWS := Lib.hid hWS
          clear hWS hR5
          go_wp2_with (first | (refine sb (c' := stC S2) b60 rfl rfl rfl rfl (by kernel_rfl) ?_; rw [HWS.out]) | (refine lb b5 rfl rfl rfl (by kernel_rfl) ?_) | (refine lb bE rfl rfl rfl (by kernel_rfl) ?_))
          clear b60 HWS
          refine (HS.out _ (hn.next hB) hR4).mono ?_
          rintro en w8 ⟨⟨v8, rfl, hr8⟩, hb⟩
          clear hR4 bE
          obtain ⟨p8, q8, rfl⟩ := reps_shape hr8
          replace b5 := kp hb b5; replace b6 := kp hb b6; replace b7 := kp hb b7; replace hB := tr hB hb
          clear hb
          rw [HST.out] at hr8 ⊢
          obtain ⟨K, hK⟩ : ∃ K, g.out.length = K := ⟨_, rfl⟩
          have hl1 : (g.out ++ [(⟨0, X2.ph, X2.s⟩ : Dw.Rep)]).length = K + 1 := by simp [hK]
          have hKk : K ≤ k := by omega
          obtain ⟨q, hq, hc⟩ := own_get2 hr8 hK
          subst hq
          obtain ⟨nn, hnn⟩ : ∃ x, (g.out ++ [(⟨0, X2.ph, X2.s⟩ : Dw.Rep)]).length = x := ⟨_, rfl⟩
          have hn1 : nn = K + 1 := by rw [← hnn]; exact hl1
          dsimp only at hr8 ⊢
          rw [hnn] at hr8 ⊢
          have HR8 := Lib.hid hr8
          subst hn1
          have b5' := srh (c' := fliC X2 (.slice (some ⟨q, 0, none⟩) (K + 1) q8)) b5
          have b6' := (setRow_other w8 g5 g6 (fliC X2 (.slice (some ⟨q, 0, none⟩) (K + 1) q8)) (by omega)).trans b6
          have b7' := (setRow_other w8 g5 g7 (fliC X2 (.slice (some ⟨q, 0, none⟩) (K + 1) q8)) (by omega)).trans b7
          have hR9 := reps_row HR8.out b5 (fliC X2 (.slice (some ⟨q, 0, none⟩) (K + 1) q8))
          have hB9 := below_setRow hB hg5w (fliC X2 (.slice (some ⟨q, 0, none⟩) (K + 1) q8))
          obtain ⟨W9, hW9⟩ : ∃ W, w8.setRow g5 (fliC X2 (.slice (some ⟨q, 0, none⟩) (K + 1) q8)) = W := ⟨_, rfl⟩
          rw [hW9] at b5' b6' b7' hR9 hB9
          have hq5 : q ≠ g5 := own_ne HR8.out b5
          have hc9 : ∀ i u, (repC ⟨0, X2.ph, X2.s⟩).toList[i]? = some u → W9.cell? ⟨q, K * 8 + i, none⟩ = some u := fun i u hi => by
            rw [← hW9]
            exact (cell_setRow_ne hq5 _ _).trans (hc i u hi)
          have HW9 := Lib.hid hW9
          have hs2 := HM2.out.st
          have d0 : W9.cell? ⟨q, K * 8, none⟩ = some (.int .i64 0) := hc9 0 _ rfl
          have d1 : W9.cell? ⟨q, K * 8 + 1, none⟩ = some (.int .i64 X2.ph) := hc9 1 _ rfl
          have e0 : W9.cell? ⟨q, K * 8 + 2, none⟩ = some (.int .i64 S2.mo) := by rw [← hs2]; exact hc9 2 _ rfl
          have e1 : W9.cell? ⟨q, K * 8 + 2 + 1, none⟩ = some (.bool S2.ar) := by rw [← hs2]; exact hc9 3 _ rfl
          have e2 : W9.cell? ⟨q, K * 8 + 2 + 2, none⟩ = some (.bool S2.ho) := by rw [← hs2]; exact hc9 4 _ rfl
          have e3 : W9.cell? ⟨q, K * 8 + 2 + 3, none⟩ = some (.int .i64 S2.la) := by rw [← hs2]; exact hc9 5 _ rfl
          have e4 : W9.cell? ⟨q, K * 8 + 2 + 4, none⟩ = some (.int .i64 S2.lo) := by rw [← hs2]; exact hc9 6 _ rfl
          have e5 : W9.cell? ⟨q, K * 8 + 2 + 5, none⟩ = some (.int .i64 S2.iso) := by rw [← hs2]; exact hc9 7 _ rfl
          have y14 := (cells15 b5').2.2.2.2.2
          obtain ⟨c0, c1, c2, c3, c4, c5⟩ := cells6 b6'
          have HD := Lib.hid (And.intro d0 (And.intro d1 (And.intro e0 (And.intro e1 (And.intro e2 (And.intro e3 (And.intro e4 e5)))))))
          have HC6 := Lib.hid (And.intro c0 (And.intro c1 (And.intro c2 (And.intro c3 (And.intro c4 c5)))))
          have H5 := Lib.hid b5'; have H6 := Lib.hid b6'; have H7 := Lib.hid b7'; have H9 := Lib.hid hB9; have HR9 := Lib.hid hR9; have HKK := Lib.hid hKk
          clear d0 d1 e0 e1 e2 e3 e4 e5 c0 c1 c2 c3 c4 c5 b5' b6' b7' hB9 hR9 hc hc9 hs2 hq5 hW9 b6 b7 hB hr8 hl1 hnn
          clear HR8 hK
          go_wp2_with (first | (refine sb (c' := fliC X2 (.slice (some ⟨q, 0, none⟩) (K + 1) q8)) b5 rfl rfl rfl rfl (by kernel_rfl) ?_; rw [HW9.out]))
          clear HW9 b5
          refine reg_swap (ops := opsR 31 Tryz.f3) ?_ (by kernel_rfl)
          refine top_r31 (by have := HKK.out; omega) y14 HD.out.1 HD.out.2.1 HD.out.2.2.1 HD.out.2.2.2.1 HD.out.2.2.2.2.1 HD.out.2.2.2.2.2.1 HD.out.2.2.2.2.2.2.1 HD.out.2.2.2.2.2.2.2 HC6.out.1 HC6.out.2.1 HC6.out.2.2.1 HC6.out.2.2.2.1 HC6.out.2.2.2.2.1 HC6.out.2.2.2.2.2 (Dw.mod_hph HM2.out) ?_
          intro v95 v96 v97 v98 v99 v100 v101 v102 v103 v104 v105 v106 v107 v108 v109 v110 v111 v112 v113 v114 v115 v116 v117 v118 v119 v120 v121 v122 v123 v124 v125 v126 v127 v128 v129 v130 w9 hk9
          clear y14 HD HC6
          go_wp2_with fail
          go_roundw
          case rel => exact ⟨k + 1, N + 1, ⟨X2, g.out ++ [⟨0, X2.ph, X2.s⟩]⟩, S2, (addV vo u), (addN vo c u), false, _, hlt, by omega, rfl, by go_num, HM2.out, by have := HKK.out; simp; omega, kpi hk9 H5.out, kpi hk9 H6.out, kpi hk9 H7.out, reps_next HR9.out hk9.whole, H9.out.trans (hk9.whole.mono H9.out.size)⟩
          case measure => first | done | (simp [intOf]; done) | (simp [intOf]; omega)
        · have HM2 := Lib.hid (HSEE.out.2.2 hcond)
          have hcs : held = false ∨ (held = true ∧ (verdC (addV vo u) (addN vo c u) != 0) = false) := by
            cases held
            · exact .inl rfl
            · refine .inr ⟨rfl, ?_⟩
              have : verdC (addV vo u) (addN vo c u) = 0 := Decidable.byContradiction fun q => hcond ⟨rfl, q⟩
              rw [this]; rfl
          clear hcond HSEE hiso
          generalize verdC (addV vo u) (addN vo c u) = D at *
          rcases hcs with rfl | ⟨rfl, hd0⟩
          · go_wp2_with (first | (refine lb b5 rfl rfl rfl (by kernel_rfl) ?_) | (refine lb bE rfl rfl rfl (by kernel_rfl) ?_))
            refine (HS.out _ (hn.next hB) hR4).mono ?_
            rintro en w8 ⟨⟨v8, rfl, hr8⟩, hb⟩
            clear hR4 bE
            obtain ⟨p8, q8, rfl⟩ := reps_shape hr8
            replace b5 := kp hb b5; replace b6 := kp hb b6; replace b7 := kp hb b7; replace hB := tr hB hb
            clear hb
            rw [HST.out] at hr8 ⊢
            obtain ⟨K, hK⟩ : ∃ K, g.out.length = K := ⟨_, rfl⟩
            have hl1 : (g.out ++ [(⟨0, X2.ph, X2.s⟩ : Dw.Rep)]).length = K + 1 := by simp [hK]
            have hKk : K ≤ k := by omega
            obtain ⟨q, hq, hc⟩ := own_get2 hr8 hK
            subst hq
            obtain ⟨nn, hnn⟩ : ∃ x, (g.out ++ [(⟨0, X2.ph, X2.s⟩ : Dw.Rep)]).length = x := ⟨_, rfl⟩
            have hn1 : nn = K + 1 := by rw [← hnn]; exact hl1
            dsimp only at hr8 ⊢
            rw [hnn] at hr8 ⊢
            have HR8 := Lib.hid hr8
            subst hn1
            have b5' := srh (c' := fliC X2 (.slice (some ⟨q, 0, none⟩) (K + 1) q8)) b5
            have b6' := (setRow_other w8 g5 g6 (fliC X2 (.slice (some ⟨q, 0, none⟩) (K + 1) q8)) (by omega)).trans b6
            have b7' := (setRow_other w8 g5 g7 (fliC X2 (.slice (some ⟨q, 0, none⟩) (K + 1) q8)) (by omega)).trans b7
            have hR9 := reps_row HR8.out b5 (fliC X2 (.slice (some ⟨q, 0, none⟩) (K + 1) q8))
            have hB9 := below_setRow hB hg5w (fliC X2 (.slice (some ⟨q, 0, none⟩) (K + 1) q8))
            obtain ⟨W9, hW9⟩ : ∃ W, w8.setRow g5 (fliC X2 (.slice (some ⟨q, 0, none⟩) (K + 1) q8)) = W := ⟨_, rfl⟩
            rw [hW9] at b5' b6' b7' hR9 hB9
            have hq5 : q ≠ g5 := own_ne HR8.out b5
            have hc9 : ∀ i u, (repC ⟨0, X2.ph, X2.s⟩).toList[i]? = some u → W9.cell? ⟨q, K * 8 + i, none⟩ = some u := fun i u hi => by
              rw [← hW9]
              exact (cell_setRow_ne hq5 _ _).trans (hc i u hi)
            have HW9 := Lib.hid hW9
            have hs2 := HM2.out.st
            have d0 : W9.cell? ⟨q, K * 8, none⟩ = some (.int .i64 0) := hc9 0 _ rfl
            have d1 : W9.cell? ⟨q, K * 8 + 1, none⟩ = some (.int .i64 X2.ph) := hc9 1 _ rfl
            have e0 : W9.cell? ⟨q, K * 8 + 2, none⟩ = some (.int .i64 s.mo) := by rw [← hs2]; exact hc9 2 _ rfl
            have e1 : W9.cell? ⟨q, K * 8 + 2 + 1, none⟩ = some (.bool s.ar) := by rw [← hs2]; exact hc9 3 _ rfl
            have e2 : W9.cell? ⟨q, K * 8 + 2 + 2, none⟩ = some (.bool s.ho) := by rw [← hs2]; exact hc9 4 _ rfl
            have e3 : W9.cell? ⟨q, K * 8 + 2 + 3, none⟩ = some (.int .i64 s.la) := by rw [← hs2]; exact hc9 5 _ rfl
            have e4 : W9.cell? ⟨q, K * 8 + 2 + 4, none⟩ = some (.int .i64 s.lo) := by rw [← hs2]; exact hc9 6 _ rfl
            have e5 : W9.cell? ⟨q, K * 8 + 2 + 5, none⟩ = some (.int .i64 s.iso) := by rw [← hs2]; exact hc9 7 _ rfl
            have y14 := (cells15 b5').2.2.2.2.2
            obtain ⟨c0, c1, c2, c3, c4, c5⟩ := cells6 b6'
            have HD := Lib.hid (And.intro d0 (And.intro d1 (And.intro e0 (And.intro e1 (And.intro e2 (And.intro e3 (And.intro e4 e5)))))))
            have HC6 := Lib.hid (And.intro c0 (And.intro c1 (And.intro c2 (And.intro c3 (And.intro c4 c5)))))
            have H5 := Lib.hid b5'; have H6 := Lib.hid b6'; have H7 := Lib.hid b7'; have H9 := Lib.hid hB9; have HR9 := Lib.hid hR9; have HKK := Lib.hid hKk
            clear d0 d1 e0 e1 e2 e3 e4 e5 c0 c1 c2 c3 c4 c5 b5' b6' b7' hB9 hR9 hc hc9 hs2 hq5 hW9 b6 b7 hB hr8 hl1 hnn
            clear HR8 hK
            go_wp2_with (first | (refine sb (c' := fliC X2 (.slice (some ⟨q, 0, none⟩) (K + 1) q8)) b5 rfl rfl rfl rfl (by kernel_rfl) ?_; rw [HW9.out]))
            clear HW9 b5
            refine reg_swap (ops := opsR 31 Tryz.f3) ?_ (by kernel_rfl)
            refine top_r31 (by have := HKK.out; omega) y14 HD.out.1 HD.out.2.1 HD.out.2.2.1 HD.out.2.2.2.1 HD.out.2.2.2.2.1 HD.out.2.2.2.2.2.1 HD.out.2.2.2.2.2.2.1 HD.out.2.2.2.2.2.2.2 HC6.out.1 HC6.out.2.1 HC6.out.2.2.1 HC6.out.2.2.2.1 HC6.out.2.2.2.2.1 HC6.out.2.2.2.2.2 (Dw.mod_hph HM2.out) ?_
            intro v95 v96 v97 v98 v99 v100 v101 v102 v103 v104 v105 v106 v107 v108 v109 v110 v111 v112 v113 v114 v115 v116 v117 v118 v119 v120 v121 v122 v123 v124 v125 v126 v127 v128 v129 v130 w9 hk9
            clear y14 HD HC6
            go_wp2_with fail
            go_roundw
            case rel => exact ⟨k + 1, N + 1, ⟨X2, g.out ++ [⟨0, X2.ph, X2.s⟩]⟩, s, (addV vo u), (addN vo c u), false, _, hlt, by omega, rfl, by go_num, HM2.out, by have := HKK.out; simp; omega, kpi hk9 H5.out, kpi hk9 H6.out, kpi hk9 H7.out, reps_next HR9.out hk9.whole, H9.out.trans (hk9.whole.mono H9.out.size)⟩
            case measure => first | done | (simp [intOf]; done) | (simp [intOf]; omega)
          · go_wp2_with (first | (refine lb b5 rfl rfl rfl (by kernel_rfl) ?_) | (refine lb bE rfl rfl rfl (by kernel_rfl) ?_))
            refine (HS.out _ (hn.next hB) hR4).mono ?_
            rintro en w8 ⟨⟨v8, rfl, hr8⟩, hb⟩
            clear hR4 bE
            obtain ⟨p8, q8, rfl⟩ := reps_shape hr8
            replace b5 := kp hb b5; replace b6 := kp hb b6; replace b7 := kp hb b7; replace hB := tr hB hb
            clear hb
            rw [HST.out] at hr8 ⊢
            obtain ⟨K, hK⟩ : ∃ K, g.out.length = K := ⟨_, rfl⟩
            have hl1 : (g.out ++ [(⟨0, X2.ph, X2.s⟩ : Dw.Rep)]).length = K + 1 := by simp [hK]
            have hKk : K ≤ k := by omega
            obtain ⟨q, hq, hc⟩ := own_get2 hr8 hK
            subst hq
            obtain ⟨nn, hnn⟩ : ∃ x, (g.out ++ [(⟨0, X2.ph, X2.s⟩ : Dw.Rep)]).length = x := ⟨_, rfl⟩
            have hn1 : nn = K + 1 := by rw [← hnn]; exact hl1
            dsimp only at hr8 ⊢
            rw [hnn] at hr8 ⊢
            have HR8 := Lib.hid hr8
            subst hn1
            have b5' := srh (c' := fliC X2 (.slice (some ⟨q, 0, none⟩) (K + 1) q8)) b5
            have b6' := (setRow_other w8 g5 g6 (fliC X2 (.slice (some ⟨q, 0, none⟩) (K + 1) q8)) (by omega)).trans b6
            have b7' := (setRow_other w8 g5 g7 (fliC X2 (.slice (some ⟨q, 0, none⟩) (K + 1) q8)) (by omega)).trans b7
            have hR9 := reps_row HR8.out b5 (fliC X2 (.slice (some ⟨q, 0, none⟩) (K + 1) q8))
            have hB9 := below_setRow hB hg5w (fliC X2 (.slice (some ⟨q, 0, none⟩) (K + 1) q8))
            obtain ⟨W9, hW9⟩ : ∃ W, w8.setRow g5 (fliC X2 (.slice (some ⟨q, 0, none⟩) (K + 1) q8)) = W := ⟨_, rfl⟩
            rw [hW9] at b5' b6' b7' hR9 hB9
            have hq5 : q ≠ g5 := own_ne HR8.out b5
            have hc9 : ∀ i u, (repC ⟨0, X2.ph, X2.s⟩).toList[i]? = some u → W9.cell? ⟨q, K * 8 + i, none⟩ = some u := fun i u hi => by
              rw [← hW9]
              exact (cell_setRow_ne hq5 _ _).trans (hc i u hi)
            have HW9 := Lib.hid hW9
            have hs2 := HM2.out.st
            have d0 : W9.cell? ⟨q, K * 8, none⟩ = some (.int .i64 0) := hc9 0 _ rfl
            have d1 : W9.cell? ⟨q, K * 8 + 1, none⟩ = some (.int .i64 X2.ph) := hc9 1 _ rfl
            have e0 : W9.cell? ⟨q, K * 8 + 2, none⟩ = some (.int .i64 s.mo) := by rw [← hs2]; exact hc9 2 _ rfl
            have e1 : W9.cell? ⟨q, K * 8 + 2 + 1, none⟩ = some (.bool s.ar) := by rw [← hs2]; exact hc9 3 _ rfl
            have e2 : W9.cell? ⟨q, K * 8 + 2 + 2, none⟩ = some (.bool s.ho) := by rw [← hs2]; exact hc9 4 _ rfl
            have e3 : W9.cell? ⟨q, K * 8 + 2 + 3, none⟩ = some (.int .i64 s.la) := by rw [← hs2]; exact hc9 5 _ rfl
            have e4 : W9.cell? ⟨q, K * 8 + 2 + 4, none⟩ = some (.int .i64 s.lo) := by rw [← hs2]; exact hc9 6 _ rfl
            have e5 : W9.cell? ⟨q, K * 8 + 2 + 5, none⟩ = some (.int .i64 s.iso) := by rw [← hs2]; exact hc9 7 _ rfl
            have y14 := (cells15 b5').2.2.2.2.2
            obtain ⟨c0, c1, c2, c3, c4, c5⟩ := cells6 b6'
            have HD := Lib.hid (And.intro d0 (And.intro d1 (And.intro e0 (And.intro e1 (And.intro e2 (And.intro e3 (And.intro e4 e5)))))))
            have HC6 := Lib.hid (And.intro c0 (And.intro c1 (And.intro c2 (And.intro c3 (And.intro c4 c5)))))
            have H5 := Lib.hid b5'; have H6 := Lib.hid b6'; have H7 := Lib.hid b7'; have H9 := Lib.hid hB9; have HR9 := Lib.hid hR9; have HKK := Lib.hid hKk
            clear d0 d1 e0 e1 e2 e3 e4 e5 c0 c1 c2 c3 c4 c5 b5' b6' b7' hB9 hR9 hc hc9 hs2 hq5 hW9 b6 b7 hB hr8 hl1 hnn
            clear HR8 hK
            go_wp2_with (first | (refine sb (c' := fliC X2 (.slice (some ⟨q, 0, none⟩) (K + 1) q8)) b5 rfl rfl rfl rfl (by kernel_rfl) ?_; rw [HW9.out]))
            clear HW9 b5
            refine reg_swap (ops := opsR 31 Tryz.f3) ?_ (by kernel_rfl)
            refine top_r31 (by have := HKK.out; omega) y14 HD.out.1 HD.out.2.1 HD.out.2.2.1 HD.out.2.2.2.1 HD.out.2.2.2.2.1 HD.out.2.2.2.2.2.1 HD.out.2.2.2.2.2.2.1 HD.out.2.2.2.2.2.2.2 HC6.out.1 HC6.out.2.1 HC6.out.2.2.1 HC6.out.2.2.2.1 HC6.out.2.2.2.2.1 HC6.out.2.2.2.2.2 (Dw.mod_hph HM2.out) ?_
            intro v95 v96 v97 v98 v99 v100 v101 v102 v103 v104 v105 v106 v107 v108 v109 v110 v111 v112 v113 v114 v115 v116 v117 v118 v119 v120 v121 v122 v123 v124 v125 v126 v127 v128 v129 v130 w9 hk9
            clear y14 HD HC6
            go_wp2_with fail
            go_roundw
            case rel => exact ⟨k + 1, N + 1, ⟨X2, g.out ++ [⟨0, X2.ph, X2.s⟩]⟩, s, (addV vo u), (addN vo c u), true, _, hlt, by omega, rfl, by go_num, HM2.out, by have := HKK.out; simp; omega, kpi hk9 H5.out, kpi hk9 H6.out, kpi hk9 H7.out, reps_next HR9.out hk9.whole, H9.out.trans (hk9.whole.mono H9.out.size)⟩
            case measure => first | done | (simp [intOf]; done) | (simp [intOf]; omega)
      by_cases k3 : ki = 3
      · skip
        subst k3
        clear k1 k2
        have HM2 := Lib.hid (Dw.mod_reset HMD.out)
        obtain ⟨X2, hX2⟩ : ∃ X, Dw.boot g.x.f = X := ⟨_, rfl⟩
        have HST := Lib.hid (show Dw.stepF g ⟨3, cm, va, vb, vc, Dw.whole, at_⟩ = ⟨X2, g.out ++ [⟨0, X2.ph, X2.s⟩]⟩ by rw [← hX2]; rfl)
        rw [hX2] at HM2
        clear hX2 HMD
        have hR5 := reps_rowT hR4 b7 (by decide) (#[.int .i64 0, .int .i64 0])
        have b5n := (setRow_other wt g7 g5 (#[.int .i64 0, .int .i64 0]) (by omega)).trans b5
        have b6n := (setRow_other wt g7 g6 (#[.int .i64 0, .int .i64 0]) (by omega)).trans b6
        have bEn := (setRow_other wt g7 gE (#[.int .i64 0, .int .i64 0]) (by omega)).trans bE
        have b7n := srh (c' := #[.int .i64 0, .int .i64 0]) b7
        have hBn := below_setRow hB (show w.heap.size ≤ g7 by omega) (#[.int .i64 0, .int .i64 0])
        obtain ⟨WZ, hWZ⟩ : ∃ W, wt.setRow g7 (#[.int .i64 0, .int .i64 0]) = W := ⟨_, rfl⟩
        rw [hWZ] at hR5 b5n b6n bEn b7n hBn
        have HWZ := Lib.hid hWZ
        have b70 := b7
        clear hWZ b5 b6 bE b7 hB hR4
        have b5 := b5n; have b6 := b6n; have bE := bEn; have b7 := b7n; have hB := hBn; have hR4 := hR5
        clear b5n b6n bEn b7n hBn hR5
        go_wp2_with (first | (refine sp 46 8 #[.int .i64 (-1), .string ⟨#[]⟩] (enC ⟨3, cm, va, vb, vc, Dw.whole, at_⟩) bE0 rfl rfl rfl rfl (by kernel_rfl) (by rfl) (by rfl) ?_; rw [HWT.out]) | (refine sb (c' := #[.int .i64 0, .int .i64 0]) b70 rfl rfl rfl rfl (by kernel_rfl) ?_; rw [HWZ.out]) | (refine lb b5 rfl rfl rfl (by kernel_rfl) ?_) | (refine lb bE rfl rfl rfl (by kernel_rfl) ?_))
        clear b70 HWZ HWT bE0
        refine (HS.out _ (hn.next hB) hR4).mono ?_
        rintro en w8 ⟨⟨v8, rfl, hr8⟩, hb⟩
        clear hR4 bE
        obtain ⟨p8, q8, rfl⟩ := reps_shape hr8
        replace b5 := kp hb b5; replace b6 := kp hb b6; replace b7 := kp hb b7; replace hB := tr hB hb
        clear hb
        rw [HST.out] at hr8 ⊢
        obtain ⟨K, hK⟩ : ∃ K, g.out.length = K := ⟨_, rfl⟩
        have hl1 : (g.out ++ [(⟨0, X2.ph, X2.s⟩ : Dw.Rep)]).length = K + 1 := by simp [hK]
        have hKk : K ≤ k := by omega
        obtain ⟨q, hq, hc⟩ := own_get2 hr8 hK
        subst hq
        obtain ⟨nn, hnn⟩ : ∃ x, (g.out ++ [(⟨0, X2.ph, X2.s⟩ : Dw.Rep)]).length = x := ⟨_, rfl⟩
        have hn1 : nn = K + 1 := by rw [← hnn]; exact hl1
        dsimp only at hr8 ⊢
        rw [hnn] at hr8 ⊢
        have HR8 := Lib.hid hr8
        subst hn1
        have b5' := srh (c' := fliC X2 (.slice (some ⟨q, 0, none⟩) (K + 1) q8)) b5
        have b6' := (setRow_other w8 g5 g6 (fliC X2 (.slice (some ⟨q, 0, none⟩) (K + 1) q8)) (by omega)).trans b6
        have b7' := (setRow_other w8 g5 g7 (fliC X2 (.slice (some ⟨q, 0, none⟩) (K + 1) q8)) (by omega)).trans b7
        have hR9 := reps_row HR8.out b5 (fliC X2 (.slice (some ⟨q, 0, none⟩) (K + 1) q8))
        have hB9 := below_setRow hB hg5w (fliC X2 (.slice (some ⟨q, 0, none⟩) (K + 1) q8))
        obtain ⟨W9, hW9⟩ : ∃ W, w8.setRow g5 (fliC X2 (.slice (some ⟨q, 0, none⟩) (K + 1) q8)) = W := ⟨_, rfl⟩
        rw [hW9] at b5' b6' b7' hR9 hB9
        have hq5 : q ≠ g5 := own_ne HR8.out b5
        have hc9 : ∀ i u, (repC ⟨0, X2.ph, X2.s⟩).toList[i]? = some u → W9.cell? ⟨q, K * 8 + i, none⟩ = some u := fun i u hi => by
          rw [← hW9]
          exact (cell_setRow_ne hq5 _ _).trans (hc i u hi)
        have HW9 := Lib.hid hW9
        have hs2 := HM2.out.st
        have d0 : W9.cell? ⟨q, K * 8, none⟩ = some (.int .i64 0) := hc9 0 _ rfl
        have d1 : W9.cell? ⟨q, K * 8 + 1, none⟩ = some (.int .i64 X2.ph) := hc9 1 _ rfl
        have e0 : W9.cell? ⟨q, K * 8 + 2, none⟩ = some (.int .i64 s.mo) := by rw [← hs2]; exact hc9 2 _ rfl
        have e1 : W9.cell? ⟨q, K * 8 + 2 + 1, none⟩ = some (.bool s.ar) := by rw [← hs2]; exact hc9 3 _ rfl
        have e2 : W9.cell? ⟨q, K * 8 + 2 + 2, none⟩ = some (.bool s.ho) := by rw [← hs2]; exact hc9 4 _ rfl
        have e3 : W9.cell? ⟨q, K * 8 + 2 + 3, none⟩ = some (.int .i64 s.la) := by rw [← hs2]; exact hc9 5 _ rfl
        have e4 : W9.cell? ⟨q, K * 8 + 2 + 4, none⟩ = some (.int .i64 s.lo) := by rw [← hs2]; exact hc9 6 _ rfl
        have e5 : W9.cell? ⟨q, K * 8 + 2 + 5, none⟩ = some (.int .i64 s.iso) := by rw [← hs2]; exact hc9 7 _ rfl
        have y14 := (cells15 b5').2.2.2.2.2
        obtain ⟨c0, c1, c2, c3, c4, c5⟩ := cells6 b6'
        have HD := Lib.hid (And.intro d0 (And.intro d1 (And.intro e0 (And.intro e1 (And.intro e2 (And.intro e3 (And.intro e4 e5)))))))
        have HC6 := Lib.hid (And.intro c0 (And.intro c1 (And.intro c2 (And.intro c3 (And.intro c4 c5)))))
        have H5 := Lib.hid b5'; have H6 := Lib.hid b6'; have H7 := Lib.hid b7'; have H9 := Lib.hid hB9; have HR9 := Lib.hid hR9; have HKK := Lib.hid hKk
        clear d0 d1 e0 e1 e2 e3 e4 e5 c0 c1 c2 c3 c4 c5 b5' b6' b7' hB9 hR9 hc hc9 hs2 hq5 hW9 b6 b7 hB hr8 hl1 hnn
        clear HR8 hK
        go_wp2_with (first | (refine sb (c' := fliC X2 (.slice (some ⟨q, 0, none⟩) (K + 1) q8)) b5 rfl rfl rfl rfl (by kernel_rfl) ?_; rw [HW9.out]))
        clear HW9 b5
        refine reg_swap (ops := opsR 31 Tryz.f3) ?_ (by kernel_rfl)
        refine top_r31 (by have := HKK.out; omega) y14 HD.out.1 HD.out.2.1 HD.out.2.2.1 HD.out.2.2.2.1 HD.out.2.2.2.2.1 HD.out.2.2.2.2.2.1 HD.out.2.2.2.2.2.2.1 HD.out.2.2.2.2.2.2.2 HC6.out.1 HC6.out.2.1 HC6.out.2.2.1 HC6.out.2.2.2.1 HC6.out.2.2.2.2.1 HC6.out.2.2.2.2.2 (Dw.mod_hph HM2.out) ?_
        intro v95 v96 v97 v98 v99 v100 v101 v102 v103 v104 v105 v106 v107 v108 v109 v110 v111 v112 v113 v114 v115 v116 v117 v118 v119 v120 v121 v122 v123 v124 v125 v126 v127 v128 v129 v130 w9 hk9
        clear y14 HD HC6
        go_wp2_with fail
        go_roundw
        case rel => exact ⟨k + 1, N + 1, ⟨X2, g.out ++ [⟨0, X2.ph, X2.s⟩]⟩, s, 0, 0, true, _, hlt, by omega, rfl, by go_num, HM2.out, by have := HKK.out; simp; omega, kpi hk9 H5.out, kpi hk9 H6.out, kpi hk9 H7.out, reps_next HR9.out hk9.whole, H9.out.trans (hk9.whole.mono H9.out.size)⟩
        case measure => first | done | (simp [intOf]; done) | (simp [intOf]; omega)
      · have b1 : (ki == 1) = false := by simpa using k1
        have b2 : (ki == 2) = false := by simpa using k2
        have b3 : (ki == 3) = false := by simpa using k3
        have H5 := Lib.hid b5; have H6 := Lib.hid b6; have H7 := Lib.hid b7; have HB := Lib.hid hB; have HR := Lib.hid hR4
        clear k1 k2 k3 b5 b6 b7 hB hR4 HS
        go_wp2_with (first | (refine sp 46 8 #[.int .i64 (-1), .string ⟨#[]⟩] (enC ⟨ki, cm, va, vb, vc, Dw.whole, at_⟩) bE0 rfl rfl rfl rfl (by kernel_rfl) (by rfl) (by rfl) ?_; rw [HWT.out]))
        go_roundw
        case rel => exact ⟨k + 1, N, g, s, vo, c, held, _, hlt, by omega, rfl, by go_num, HMD.out, by omega, H5.out, H6.out, H7.out, HR.out, HB.out⟩
        case measure => first | done | (simp [intOf]; done) | (simp [intOf]; omega)
    · have hge : ¬ (k : Int) < (l.length : Int) := by omega
      have HB := Lib.hid hB
      clear hB hR hmod b5 b6 b7
      go_wp2_with fail
      go_ret
      exact ⟨rfl, HB.out⟩
end Go.Proofs.YtcadgecnlahkgaaGreatDoor
