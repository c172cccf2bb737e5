/- What the statement's proof stands on, part 44: Follow22, Shown22. -/
import Derived.Test.YtcadgecnlahkgaaGreatDoorAj43
import Derived.Test.YtcadgecnlahkgaaGreatDoorAj2
set_option linter.unusedSimpArgs false
set_option linter.unusedVariables false
set_option maxRecDepth 100000
set_option maxHeartbeats 4000000
namespace Go.Proofs.YtcadgecnlahkgaaGreatDoor
open Go.RowKit Go.Shelf
attribute [local go_sem] Oper.semAt_some
namespace Dw
theorem audS_ackA {x y : Su} {e : En} {a : Aud} (he : e.ki = 1 ∨ e.ki = 2) : audS x y e 0 a = ackA a x y := by
  unfold audS ackA
  rw [if_pos he, if_pos rfl]
theorem audS_cutA {x y : Su} {e : En} {er : Int} {a : Aud} (he : e.ki = 1 ∨ e.ki = 2) (h0 : er ≠ 0) : audS x y e er a = cutA a x y := by
  unfold audS cutA
  rw [if_pos he, if_neg h0]
theorem cutA_ack (a : Aud) (x y : Su) : (cutA a x y).ack = a.ack := by unfold cutA; split <;> rfl
theorem audS_len (x y : Su) (e : En) (er : Int) (a : Aud) : (audS x y e er a).ack.length ≤ a.ack.length + 1 := by
  unfold audS
  (repeat' split) <;> simp
theorem audF_len : ∀ (l : List En) (f : Fli) (a : Aud), (audF f a l).ack.length ≤ a.ack.length + l.length
  | [], _, _ => Nat.le_refl _
  | e :: l, f, a => by
    have h1 := audF_len l (stepF f e) (audS f.x (stepF f e).x e (stepE f.x e) a)
    have h2 := audS_len f.x (stepF f e).x e (stepE f.x e) a
    show (audF _ _ l).ack.length ≤ _
    simp only [List.length_cons]
    omega
end Dw
theorem own_rowT {w : World} {B n k : Nat} {e T : TypeId} {v : Value} {xs : List Value} (h : w.ownsRow B e k v n xs) {g : Nat} {c0 : Array Value} {fr : Nat × Nat} (hg : w.heap[g]? = some (.cells c0 T fr)) (hT : T ≠ e) (c : Array Value) : (w.setRow g c).ownsRow B e k v n xs :=
  own_but h ((KeepBut.refl _ w).setRow (g := g) (X := fun k => k = g) rfl c) fun j hj => by subst hj; exact ⟨_, _, _, hg, hT⟩
theorem own_low {w : World} {B n k : Nat} {e : TypeId} {v : Value} {xs : List Value} (h : w.ownsRow B e k v n xs) : w.ownsRow 0 e k v n xs := by
  obtain ⟨hl, h | ⟨g, cap, cur, he, h0, hg, hr⟩⟩ := h
  · exact ⟨hl, .inl h⟩
  · exact ⟨hl, .inr ⟨g, cap, cur, he, Nat.zero_le _, hg, hr⟩⟩
abbrev ZA : Array Value := #[.slice none 0 0, .bool false, .int .i64 0, .bool false, .bool false, .int .i64 0, .int .i64 0, .int .i64 0, .int .i64 0, .bool false, .bool false, .int .i64 0, .int .i64 0, .int .i64 0]
theorem follow_any (n li : Int) (l : List Dw.En) (hlen : l.length ≤ 100) (v : Value) (w : World) (hn : NoneAt w) (hv : EnsAt w v l) :
    Calls Tryz.prog 30 #[.int .i64 n, .int .i64 li, v] w fun en w' => (∃ va, en = .returned (audV (Dw.audF (Dw.beginF n li) Dw.aud0 l) (Dw.bootT (Dw.runF (Dw.beginF n li) l).x.f) va) ∧ w'.ownsRow 0 29 6 va (Dw.audF (Dw.beginF n li) Dw.aud0 l).ack.length (stCells (Dw.audF (Dw.beginF n li) Dw.aud0 l).ack)) ∧ Below w.heap.size w w' := by
  have HV := Lib.hid hv
  obtain ⟨sa, cap, rfl, -, -⟩ := id hv
  clear hv
  have HBG := Lib.hid (fun w hn => begin_any n li w hn)
  have hok0 : Dw.FlOk (Dw.beginF n li).x.f := Dw.newF_ok n li
  have hleg0 : Dw.legal (Dw.beginF n li).x.s = true := Dw.boot_legal _
  have hout0 : (Dw.beginF n li).out = [] := rfl
  generalize Dw.beginF n li = F0 at *
  have hmf : ∀ (fn : Fn) (first cap : Array Value) (w : World), (Instr.makeFunc fn first cap).run Tryz.prog w = .ok (.func fn first cap) w := fun _ _ _ _ => rfl
  obtain ⟨V, hV⟩ : ∃ V, w.alloc (.cells ZA 66) = V := ⟨_, rfl⟩
  have bA0 : V.heap[w.heap.size]? = some (.cells (audC Dw.aud0 Dw.st0 (.slice none 0 0)) 66) := by rw [← hV]; exact han _ _
  have hB : Below w.heap.size w V := by rw [← hV]; exact (Below.refl _ w).alloc (Nat.le_refl _) _
  have h0l : (0 : Int) ≤ (l.length : Int) := by omega
  go_enter Tryz.func30, Tryz.ntmps30
  go_wp2_with fail
  try rw [hV]
  clear hV
  refine cb (HBG.out _ (hn.next hB)) fun w1 hb => ?_
  replace bA0 := kp hb bA0; replace hB := tr hB hb
  clear hb HBG
  have zA := block_lt bA0
  obtain ⟨V2, hV2⟩ : ∃ V, w1.alloc (.cells (fliC F0.x (.slice none 0 0)) 36) = V := ⟨_, rfl⟩
  have bF0 : V2.heap[w1.heap.size]? = some (.cells (fliC F0.x (.slice none 0 0)) 36) := by rw [← hV2]; exact han _ _
  have hb : Below w1.heap.size w1 V2 := by rw [← hV2]; exact (Below.refl _ w1).alloc (Nat.le_refl _) _
  replace bA0 := kp hb bA0; replace hB := tr hB hb
  clear hb
  have HA0 := Lib.hid bA0; have HF0 := Lib.hid bF0; have HB0 := Lib.hid hB
  clear bA0 bF0 hB
  have HV2 := Lib.hid hV2
  clear hV2
  go_wp2_with (first | (refine nb rfl rfl rfl rfl (by go_simp; first | done | with_reducible rfl | exact rfl) rfl rfl (by kernel_rfl) ?_; rw [HV2.out]))
  clear HV2
  go_loopw [20] (fun i wr => ∃ (k : Nat) (g : Dw.Fli) (v' : Value) (a : Dw.Aud) (va : Value), k ≤ l.length ∧ i = .int .i64 k ∧ g = Dw.runF F0 (l.take k) ∧ a = Dw.audF F0 Dw.aud0 (l.take k) ∧ wr.heap[w.heap.size]? = some (.cells (audC a Dw.st0 va) 66 (0, 0)) ∧ wr.heap[w1.heap.size]? = some (.cells (fliC g.x v') 36 (0, 0)) ∧ RepsAt wr v' g.out ∧ wr.ownsRow (w.heap.size + 1) 29 6 va a.ack.length (stCells a.ack) ∧ Below w.heap.size w wr) (fun i _ => l.length - (intOf i).toNat)
  case atStart => exact ⟨0, F0, _, Dw.aud0, _, Nat.zero_le _, rfl, rfl, rfl, HA0.out, HF0.out, by rw [hout0]; exact World.ownsRow_nil _ _ _ _, World.ownsRow_nil _ _ _ _, HB0.out⟩
  case round =>
    clear HA0 HF0 HB0
    obtain ⟨k, g, v', a, va, hk, rfl, hg, ha, bA, bF, hR, how, hB⟩ := hrel
    obtain ⟨p0, q0, rfl⟩ := reps_shape hR
    by_cases hlt : k < l.length
    · have hlt' : (k : Int) < (l.length : Int) := by omega
      obtain ⟨e, hce⟩ : ∃ e, l[k]? = some e := ⟨l[k], List.getElem?_eq_getElem hlt⟩
      obtain ⟨he, bb, off, hsa, kc⟩ := EnsAt.get (HV.out.next hB) hce
      subst hsa
      have hgo : Dw.FlOk g.x.f := by rw [hg]; exact Dw.runF_ok _ _ hok0
      have hgo2 : Dw.FlOk (Dw.stepF g e).x.f := Dw.stepF_ok hgo e
      have hgl : Dw.legal g.x.s = true := by rw [hg]; exact Dw.runF_legal _ _ hleg0
      have hgn : g.out.length ≤ 1000000 := by
        rw [hg]
        have h1 := Dw.out_le (l.take k) F0
        have h2 := List.length_take_le k l
        rw [hout0] at h1
        simp at h1
        omega
      have hal : a.ack.length ≤ 1000 := by
        rw [ha]
        have h1 := Dw.audF_len (l.take k) F0 Dw.aud0
        have h2 := List.length_take_le k l
        have h3 : Dw.aud0.ack.length = 0 := rfl
        omega
      have HG := Lib.hid (show Dw.stepF g e = Dw.runF F0 (l.take (k + 1)) by rw [hg]; exact (Dw.run_take hce).symm)
      have HAUD := Lib.hid (show Dw.audS g.x (Dw.stepF g e).x e (Dw.stepE g.x e) a = Dw.audF F0 Dw.aud0 (l.take (k + 1)) by rw [hg, ha]; exact (Dw.aud_take hce).symm)
      obtain ⟨V4, hV4⟩ : ∃ V, wr.alloc (.cells (enC e) 48) = V := ⟨_, rfl⟩
      have hb : Below wr.heap.size wr V4 := by rw [← hV4]; exact (Below.refl _ wr).alloc (Nat.le_refl _) _
      have bE : V4.heap[wr.heap.size]? = some (.cells (enC e) 48) := by rw [← hV4]; exact han _ _
      have HR4 := reps_next hR hb
      have how4 := own_next how hb
      have bF4 := kp hb bF
      have HV4 := Lib.hid hV4
      replace bA := kp hb bA; replace hB := tr hB hb
      have zF := block_lt bF
      have zE := block_lt bE
      have HGN := Lib.hid hgn
      clear hb hV4 hg ha hR how hce bF
      obtain ⟨V5, hV5⟩ : ∃ V, V4.alloc (.cells (suC g.x) 33) = V := ⟨_, rfl⟩
      have hb : Below V4.heap.size V4 V5 := by rw [← hV5]; exact (Below.refl _ V4).alloc (Nat.le_refl _) _
      have bS : V5.heap[V4.heap.size]? = some (.cells (suC g.x) 33) := by rw [← hV5]; exact han _ _
      have HR5 := reps_next HR4 hb
      have how5 := own_next how4 hb
      have bF := kp hb bF4
      have HV5 := Lib.hid hV5
      replace bA := kp hb bA; replace hB := tr hB hb; replace bE := kp hb bE
      have HS := Lib.hid (fun w hn hv => fstep_any g e hgo hgl he hgn (.slice p0 g.out.length q0) w hn hv)
      clear hb hV5 HR4 how4 he hgl hgn
      have HR := Lib.hid HR5; have HO := Lib.hid how5; have HB := Lib.hid hB; have HA := Lib.hid bA; have HSS := Lib.hid bS
      clear HR5 how5 hB bA bS
      go_wp2_with (first | (refine lr (enC e).toList.toArray kc rfl rfl rfl (by kernel_rfl) ?_) | (refine nb rfl rfl rfl rfl (by go_simp; first | done | with_reducible rfl | exact rfl) rfl rfl (by kernel_rfl) ?_; first | rw [HV4.out] | rw [HV5.out] | skip) | (refine lp 33 0 (suC g.x) bF4 rfl rfl rfl (by kernel_rfl) (by rfl) ?_) | (refine lb bF rfl rfl rfl (by kernel_rfl) ?_) | (refine lb bE rfl rfl rfl (by kernel_rfl) ?_))
      clear kc HV4 HV5 bF4
      refine (HS.out _ (hn.next HB.out) HR.out).mono ?_
      rintro en w5 ⟨⟨v5, rfl, hR5⟩, hb⟩
      have bF5 := kp hb bF; have bE5 := kp hb bE; have bS5 := kp hb HSS.out; have bA5 := kp hb HA.out; have hB5 := tr HB.out hb
      have how6 := own_next HO.out hb
      clear hb bF bE HS HR HO HB HA HSS
      obtain ⟨X2, hX2⟩ : ∃ X, (Dw.stepF g e).x = X := ⟨_, rfl⟩
      rw [hX2] at HAUD hgo2 ⊢
      have HX2 := Lib.hid hX2
      clear hX2
      have bA := (setRow_other w5 w1.heap.size w.heap.size (fliC X2 v5) (by omega)).trans bA5
      have bE := (setRow_other w5 w1.heap.size wr.heap.size (fliC X2 v5) (by omega)).trans bE5
      have bS := (setRow_other w5 w1.heap.size V4.heap.size (fliC X2 v5) (by omega)).trans bS5
      have bF := srh (c' := fliC X2 v5) bF5
      have hR6 := reps_row hR5 bF5 (fliC X2 v5)
      have how5 := own_rowT how6 bF5 (by decide) (fliC X2 v5)
      have hB6 := below_setRow hB5 (show w.heap.size ≤ w1.heap.size by omega) (fliC X2 v5)
      obtain ⟨W, hW⟩ : ∃ W, w5.setRow w1.heap.size (fliC X2 v5) = W := ⟨_, rfl⟩
      rw [hW] at bA bE bS bF hR6 how5 hB6
      have HW := Lib.hid hW
      have kE : W.cell? ⟨wr.heap.size, 0, none⟩ = some (.int .i64 e.ki) := by rw [cell_of_row _ _ 0 _ _ _ bE]; rfl
      have HA5 := Lib.hid bA; have HB5 := Lib.hid hB6
      clear hW bE bE5 bS5 bA5 hB5 how6 bA hB6 hR5
      by_cases hki : e.ki = 1 ∨ e.ki = 2
      · have hi : Dw.isK e = true := by unfold Dw.isK; rcases hki with h | h <;> simp [h]
        have ho : (Dw.stepF g e).out = g.out ++ [Dw.repOf g.x e] := by unfold Dw.stepF; rw [hi]; rfl
        have HR5 := Lib.hid hR6
        rw [ho] at hR6
        obtain ⟨p5, q5, hv5⟩ := reps_shape hR6
        obtain ⟨K, hK⟩ : ∃ x, g.out.length = x := ⟨_, rfl⟩
        have hKl : K ≤ 1000000 := by rw [← hK]; exact HGN.out
        rw [show (g.out ++ [Dw.repOf g.x e]).length = K + 1 by simp [hK]] at hv5
        rw [hv5] at hR6
        obtain ⟨q, hq, hc⟩ := own_get (k := K) (r := Dw.repOf g.x e) hR6 (by rw [← hK]; simp)
        rw [hq] at hv5
        clear hR6 hq hK ho hi
        subst hv5
        obtain ⟨er, her⟩ : ∃ x, Dw.stepE g.x e = x := ⟨_, rfl⟩
        have d0 : W.cell? ⟨q, K * 8, none⟩ = some (.int .i64 er) := by rw [← her]; exact hc 0 _ rfl
        have y14 := (cells15 bF).2.2.2.2.2
        rw [her] at HAUD
        have a1 : IntKind.i64.wrap (K : Int) = (K : Int) := IntWalk.i64_in _ (by omega)
        have a2 : wrap64 (K : Int) = (K : Int) := by clear a1; exact IntWalk.wrap64_in _ (by omega)
        have a4 : (0 : Int) ≤ (K : Int) := by clear a1 a2; omega
        have a5 : (K : Int) < (K : Int) + 1 := by clear a1 a2; omega
        clear her hc
        by_cases h0 : er = 0
        · subst h0
          have HAU := Lib.hid (show Dw.ackA a g.x X2 = Dw.audF F0 Dw.aud0 (l.take (k + 1)) by rw [← HAUD.out]; exact (Dw.audS_ackA hki).symm)
          clear HAUD
          rcases hki with hki | hki
          · have q1 : (e.ki != 1) = false := by rw [hki]; rfl
            clear hki
            go_wp2_with (first | (refine sb (c' := fliC X2 _) bF5 rfl rfl rfl rfl (by kernel_rfl) ?_; rw [HW.out]) | (refine lb bS rfl rfl rfl (by kernel_rfl) ?_) | (refine lp 33 0 (suC X2) bF rfl rfl rfl (by kernel_rfl) (by rfl) ?_))
            refine (fack_any g.x X2 a Dw.st0 va w.heap.size W HA5.out how5 hal).mono ?_
            rintro en w9 ⟨rfl, va2, hk9, bA9, how9⟩
            have hX : ∀ j, (j = w.heap.size ∨ va.ownBlock = some j) → w.heap.size ≤ j := fun j hj => hj.elim (fun h => by omega) fun h => by have := (own_blk how5 h).1; omega
            have hTy : ∀ T, T ≠ 66 → T ≠ 29 → ∀ j, (j = w.heap.size ∨ va.ownBlock = some j) → ∃ c T' fr, W.heap[j]? = some (.cells c T' fr) ∧ T' ≠ T := fun T h1 h2 j hj => by
              rcases hj with rfl | hj
              · exact ⟨_, _, _, HA5.out, fun h => h1 h.symm⟩
              · obtain ⟨_, c, hc⟩ := own_blk how5 hj
                exact ⟨_, _, _, hc, fun h => h2 h.symm⟩
            have bF9 := Lib.hid (kpt hk9 bF (hTy _ (by decide) (by decide)))
            have hR9 := Lib.hid (own_but HR5.out hk9 (hTy _ (by decide) (by decide)))
            have hB9 := Lib.hid (HB5.out.trans (hk9.below HB5.out.size hX))
            have HA9 := Lib.hid bA9; have HO9 := Lib.hid how9
            clear hk9 bA9 how9 how5 hX hTy bF bS
            go_wp2_with fail
            go_roundw
            case rel => exact ⟨k + 1, Dw.stepF g e, _, Dw.ackA a g.x X2, va2, hlt, by go_num, HG.out, HAU.out, HA9.out, by rw [HX2.out]; exact bF9.out, hR9.out, HO9.out, hB9.out⟩
            case measure => first | done | (simp [intOf]; done) | (simp [intOf]; omega)
          · have q1 : (e.ki != 1) = true := by rw [hki]; rfl
            have q2 : (e.ki != 2) = false := by rw [hki]; rfl
            clear hki
            go_wp2_with (first | (refine sb (c' := fliC X2 _) bF5 rfl rfl rfl rfl (by kernel_rfl) ?_; rw [HW.out]) | (refine lb bS rfl rfl rfl (by kernel_rfl) ?_) | (refine lp 33 0 (suC X2) bF rfl rfl rfl (by kernel_rfl) (by rfl) ?_))
            refine (fack_any g.x X2 a Dw.st0 va w.heap.size W HA5.out how5 hal).mono ?_
            rintro en w9 ⟨rfl, va2, hk9, bA9, how9⟩
            have hX : ∀ j, (j = w.heap.size ∨ va.ownBlock = some j) → w.heap.size ≤ j := fun j hj => hj.elim (fun h => by omega) fun h => by have := (own_blk how5 h).1; omega
            have hTy : ∀ T, T ≠ 66 → T ≠ 29 → ∀ j, (j = w.heap.size ∨ va.ownBlock = some j) → ∃ c T' fr, W.heap[j]? = some (.cells c T' fr) ∧ T' ≠ T := fun T h1 h2 j hj => by
              rcases hj with rfl | hj
              · exact ⟨_, _, _, HA5.out, fun h => h1 h.symm⟩
              · obtain ⟨_, c, hc⟩ := own_blk how5 hj
                exact ⟨_, _, _, hc, fun h => h2 h.symm⟩
            have bF9 := Lib.hid (kpt hk9 bF (hTy _ (by decide) (by decide)))
            have hR9 := Lib.hid (own_but HR5.out hk9 (hTy _ (by decide) (by decide)))
            have hB9 := Lib.hid (HB5.out.trans (hk9.below HB5.out.size hX))
            have HA9 := Lib.hid bA9; have HO9 := Lib.hid how9
            clear hk9 bA9 how9 how5 hX hTy bF bS
            go_wp2_with fail
            go_roundw
            case rel => exact ⟨k + 1, Dw.stepF g e, _, Dw.ackA a g.x X2, va2, hlt, by go_num, HG.out, HAU.out, HA9.out, by rw [HX2.out]; exact bF9.out, hR9.out, HO9.out, hB9.out⟩
            case measure => first | done | (simp [intOf]; done) | (simp [intOf]; omega)
        · have HAU := Lib.hid (show Dw.cutA a g.x X2 = Dw.audF F0 Dw.aud0 (l.take (k + 1)) by rw [← HAUD.out]; exact (Dw.audS_cutA hki h0).symm)
          have q0 : (er == 0) = false := by simp [h0]
          clear HAUD h0
          rcases hki with hki | hki
          · have q1 : (e.ki != 1) = false := by rw [hki]; rfl
            clear hki
            go_wp2_with (first | (refine sb (c' := fliC X2 _) bF5 rfl rfl rfl rfl (by kernel_rfl) ?_; rw [HW.out]) | (refine lb bS rfl rfl rfl (by kernel_rfl) ?_) | (refine lp 33 0 (suC X2) bF rfl rfl rfl (by kernel_rfl) (by rfl) ?_))
            refine (fcut_any g.x X2 hgo hgo2 a Dw.st0 va w.heap.size W (hn.next HB5.out) HA5.out).mono ?_
            rintro en w9 ⟨rfl, hk9, bA9⟩
            have hTy : ∀ T, T ≠ 66 → ∀ j, j = w.heap.size → ∃ c T' fr, W.heap[j]? = some (.cells c T' fr) ∧ T' ≠ T := fun T h1 j hj => by
              subst hj
              exact ⟨_, _, _, HA5.out, fun h => h1 h.symm⟩
            have bF9 := Lib.hid (kpt hk9 bF (hTy _ (by decide)))
            have hR9 := Lib.hid (own_but HR5.out hk9 (hTy _ (by decide)))
            have HO9 := Lib.hid (own_but how5 hk9 (hTy _ (by decide)))
            have hB9 := Lib.hid (HB5.out.trans (hk9.below HB5.out.size (fun j hj => by omega)))
            have HA9 := Lib.hid bA9
            clear hk9 bA9 how5 hTy bF bS
            go_wp2_with fail
            go_roundw
            case rel => exact ⟨k + 1, Dw.stepF g e, _, Dw.cutA a g.x X2, va, hlt, by go_num, HG.out, HAU.out, HA9.out, by rw [HX2.out]; exact bF9.out, hR9.out, by rw [Dw.cutA_ack]; exact HO9.out, hB9.out⟩
            case measure => first | done | (simp [intOf]; done) | (simp [intOf]; omega)
          · have q1 : (e.ki != 1) = true := by rw [hki]; rfl
            have q2 : (e.ki != 2) = false := by rw [hki]; rfl
            clear hki
            go_wp2_with (first | (refine sb (c' := fliC X2 _) bF5 rfl rfl rfl rfl (by kernel_rfl) ?_; rw [HW.out]) | (refine lb bS rfl rfl rfl (by kernel_rfl) ?_) | (refine lp 33 0 (suC X2) bF rfl rfl rfl (by kernel_rfl) (by rfl) ?_))
            refine (fcut_any g.x X2 hgo hgo2 a Dw.st0 va w.heap.size W (hn.next HB5.out) HA5.out).mono ?_
            rintro en w9 ⟨rfl, hk9, bA9⟩
            have hTy : ∀ T, T ≠ 66 → ∀ j, j = w.heap.size → ∃ c T' fr, W.heap[j]? = some (.cells c T' fr) ∧ T' ≠ T := fun T h1 j hj => by
              subst hj
              exact ⟨_, _, _, HA5.out, fun h => h1 h.symm⟩
            have bF9 := Lib.hid (kpt hk9 bF (hTy _ (by decide)))
            have hR9 := Lib.hid (own_but HR5.out hk9 (hTy _ (by decide)))
            have HO9 := Lib.hid (own_but how5 hk9 (hTy _ (by decide)))
            have hB9 := Lib.hid (HB5.out.trans (hk9.below HB5.out.size (fun j hj => by omega)))
            have HA9 := Lib.hid bA9
            clear hk9 bA9 how5 hTy bF bS
            go_wp2_with fail
            go_roundw
            case rel => exact ⟨k + 1, Dw.stepF g e, _, Dw.cutA a g.x X2, va, hlt, by go_num, HG.out, HAU.out, HA9.out, by rw [HX2.out]; exact bF9.out, hR9.out, by rw [Dw.cutA_ack]; exact HO9.out, hB9.out⟩
            case measure => first | done | (simp [intOf]; done) | (simp [intOf]; omega)
      · have q1 : (e.ki != 1) = true := by simp; omega
        have q2 : (e.ki != 2) = true := by simp; omega
        have HAU := Lib.hid (show a = Dw.audF F0 Dw.aud0 (l.take (k + 1)) by rw [← HAUD.out]; exact (Dw.audS_else (by omega) (by omega)).symm)
        obtain ⟨p5, q5, hv5⟩ := reps_shape hR6
        have HR5 := Lib.hid hR6
        subst hv5
        have HF5 := Lib.hid bF; have HO5 := Lib.hid how5
        clear hki HAUD bF hR6 how5 bS
        go_wp2_with (first | (refine sb (c' := fliC X2 _) bF5 rfl rfl rfl rfl (by kernel_rfl) ?_; rw [HW.out]))
        go_roundw
        case rel => exact ⟨k + 1, Dw.stepF g e, _, a, va, hlt, by go_num, HG.out, HAU.out, HA5.out, by rw [HX2.out]; exact HF5.out, HR5.out, HO5.out, HB5.out⟩
        case measure => first | done | (simp [intOf]; done) | (simp [intOf]; omega)
    · have hge : ¬ (k : Int) < (l.length : Int) := by omega
      obtain rfl : k = l.length := by omega
      rw [List.take_length] at hg ha
      obtain ⟨pv, qv, rfl⟩ := own_shape22 how
      have hgo : Dw.FlOk g.x.f := by rw [hg]; exact Dw.runF_ok _ _ hok0
      have HBT := Lib.hid (fun w hn => boot_any g.x.f hgo w hn)
      have HS := Lib.hid (show Dw.bootT (Dw.runF F0 l).x.f = (Dw.boot g.x.f).s by rw [← hg]; rfl)
      have HAU := Lib.hid ha
      obtain ⟨X, hX⟩ : ∃ X, Dw.boot g.x.f = X := ⟨_, rfl⟩
      rw [hX] at HBT HS
      have HN := Lib.hid (hn.next hB)
      have HO := Lib.hid how; have HB := Lib.hid hB; have HA := Lib.hid bA
      have hfld : ∀ (X : Dw.Su) (w : World), (Instr.field 33 (suV X) 1).run Tryz.prog w = .ok (stV X.s) w := fun _ _ => by kernel_rfl
      clear hX hg ha hR how hB bA hk
      go_wp2_with (first | (refine lp 27 0 (flC g.x.f) bF rfl rfl rfl (by kernel_rfl) (by rfl) ?_))
      refine cb (HBT.out _ HN.out) fun w6 hb => ?_
      have bA6 := kp hb HA.out
      have how6 := own_next HO.out hb
      have HB6 := Lib.hid (tr HB.out hb)
      have bA7 := srh (c' := audC a X.s (.slice pv a.ack.length qv)) bA6
      have bA8 := srh (c' := audC a X.s (.slice pv a.ack.length qv)) bA7
      have how7 := own_low (own_setRow (own_setRow how6 (Nat.lt_succ_self _) (audC a X.s (.slice pv a.ack.length qv))) (Nat.lt_succ_self _) (audC a X.s (.slice pv a.ack.length qv)))
      have HO7 := Lib.hid how7
      clear hb bF HBT HN HO HB HA how6 how7
      go_wp2_with (first | (refine sp 29 8 (stC X.s) (audC a X.s (.slice pv a.ack.length qv)) bA6 rfl rfl rfl rfl (by kernel_rfl) (by rfl) (by rfl) ?_) | (refine lb bA7 rfl rfl rfl (by kernel_rfl) ?_) | (refine sb (c' := audC a X.s (.slice pv a.ack.length qv)) bA7 rfl rfl rfl rfl (by kernel_rfl) ?_))
      rw [HS.out, ← HAU.out]
      exact bodyPost_ret (rcr rfl bA8 (by rfl) (by kernel_rfl)) rfl ⟨⟨_, rfl, HO7.out⟩, below_setRow (below_setRow HB6.out (Nat.le_refl _) _) (Nat.le_refl _) _⟩
end Go.Proofs.YtcadgecnlahkgaaGreatDoor
namespace Go.Proofs.YtcadgecnlahkgaaGreatDoor
open Go.RowKit Go.Shelf
attribute [local go_sem] Oper.semAt_some
theorem ens_block {w : World} {b cap : Nat} {t : TypeId} {fr : Nat × Nat} {l : List Dw.En} (hok : ∀ e ∈ l, enOk e) (h : w.heap[b]? = some (.cells (l.flatMap fun e => (enC e).toList).toArray t fr)) : EnsAt w (.slice (some ⟨b, 0, none⟩) l.length cap) l := by
  refine ⟨_, _, rfl, hok, .inr ⟨b, 0, rfl, fun j x hj i u hi => ?_⟩⟩
  have hi11 : i < 11 := (List.getElem?_eq_some_iff.1 hi).1
  rw [cell_of_row _ _ _ _ _ _ h, ← hi, Nat.zero_add, List.getElem?_toArray]
  exact flat_get (k := 11) (fun _ => rfl) l j x i hj hi11
theorem ens_take {w : World} {sa : Option Addr} {n cap : Nat} {l : List Dw.En} (h : EnsAt w (.slice sa n cap) l) (k : Nat) (hk : k ≤ l.length) (cap' : Nat) : EnsAt w (.slice sa k cap') (l.take k) := by
  obtain ⟨sa', cap0, he, hok, hc⟩ := h
  injection he with h1 h2 h3
  subst h1
  refine ⟨sa, cap', by rw [List.length_take, Nat.min_eq_left hk], fun x hx => hok x (List.mem_of_mem_take hx), ?_⟩
  rcases hc with rfl | ⟨b, off, hb, hc⟩
  · left; simp
  · refine .inr ⟨b, off, hb, fun j x hj => hc j x ?_⟩
    rw [List.getElem?_take] at hj
    split at hj
    · exact hj
    · cases hj
def Dw.sG : Dw.En := ⟨1, ⟨1, 2, 0, 0⟩, 0, 0, 0, ⟨1, [255, 255]⟩, 0⟩
def Dw.l22 : List Dw.En := [Dw.sS, Dw.sS, Dw.sS, Dw.sA, Dw.sG]
abbrev c22 : Array Value := (Dw.l22.flatMap fun e => (enC e).toList).toArray
section
variable {P : Program} {ops : Array Oper} {rest : List Oper} {o : Oper} {a : Act} {w w2 : World} {Q : Exit → Act → World → Prop}
def isBuild : Op → Bool
  | .buildSlice _ _ _ => true
  | _ => false
theorem bsl {v : Value} (hop : isBuild o.op = true) (hg : o.guard = none) (hr : (execOp a.eval o).run P w = .ok (.value v) w2) (h : wpList P ops Q rest (a.put o.dst v) w2) : wpList P ops Q (o :: rest) a w := by
  refine wpList_plain hg fun K hK => ?_
  unfold Oper.wp
  rw [hr]
  exact hK _ _ h
end
theorem sh22_r6 {t0 t1 t2 t3 t6 t7 t8 t9 t10 t11 t12 t13 t14 t15 t16 t17 t18 t19 t20 t21 t22 t23 t24 t25 t26 t27 t28 t29 t30 t31 t32 t33 t34 t35 t36 t37 t38 t39 t40 t41 t42 t43 t44 t45 t46 t47 t48 t49 t50 t51 t52 t53 t54 t55 t56 t57 t58 t59 t60 t61 t62 t63 t64 t65 t66 t67 t68 t69 t70 t71 t72 t73 t74 t75 t76 t77 : Value} {R : Exit → Act → World → Prop} {w : World} {g4 g5 q : Nat} {p : Option Addr} {vb : Value} {ack ackb : List Dw.St} {ar ho : Bool} {la lo iso : Int} {fsb nb2 L : Dw.St} (b4 : w.heap[g4]? = some (.cells (audC ⟨ack, true, ⟨2, ar, ho, la, lo, iso⟩⟩ ⟨2, ar, ho, la, lo, iso⟩ (.slice p 2 q)) 66)) (b5 : w.heap[g5]? = some (.cells (audC ⟨ackb, false, fsb⟩ nb2 vb) 66)) (HSA : StsAt w (.slice p 2 q) ack) (HSB : StsAt w vb ackb)
    (HHA : Hid (∀ w, StsAt w (.slice p 2 q) ack → Calls Tryz.prog 22 #[(audV ⟨ack, true, ⟨2, ar, ho, la, lo, iso⟩⟩ ⟨2, ar, ho, la, lo, iso⟩ (.slice p 2 q))] w fun e w' => e = .returned (.bool true) ∧ Below w.heap.size w w'))
    (HLA : Hid (∀ w, StsAt w (.slice p 2 q) ack → Calls Tryz.prog 24 #[(audV ⟨ack, true, ⟨2, ar, ho, la, lo, iso⟩⟩ ⟨2, ar, ho, la, lo, iso⟩ (.slice p 2 q))] w fun e w' => e = .returned (stV ⟨1, L.ar, L.ho, L.la, L.lo, L.iso⟩) ∧ Below w.heap.size w w'))
    (HKA : Hid (∀ w, StsAt w (.slice p 2 q) ack → Calls Tryz.prog 26 #[(audV ⟨ack, true, ⟨2, ar, ho, la, lo, iso⟩⟩ ⟨2, ar, ho, la, lo, iso⟩ (.slice p 2 q)), stV ⟨2, ar, ho, la, lo, iso⟩] w fun e w' => e = .returned (.bool true) ∧ Below w.heap.size w w'))
    (HHB : Hid (∀ w, StsAt w vb ackb → Calls Tryz.prog 22 #[(audV ⟨ackb, false, fsb⟩ nb2 vb)] w fun e w' => e = .returned (.bool true) ∧ Below w.heap.size w w'))
    (HKB : Hid (∀ w, StsAt w vb ackb → Calls Tryz.prog 26 #[(audV ⟨ackb, false, fsb⟩ nb2 vb), stV ⟨2, ar, ho, la, lo, iso⟩] w fun e w' => e = .returned (.bool false) ∧ Below w.heap.size w w'))
    (hR : ∀ (v25 v26 v27 v28 v29 v30 v31 v32 v33 v34 v35 v36 v37 v38 v39 v40 v41 v42 v43 v44 v45 v46 v47 v48 v49 v50 v51 v52 v53 v54 v55 v56 v57 v58 v59 v60 v61 v62 v63 v64 v65 v66 v67 v68 v69 v70 v71 v72 v73 v74 v75 v76 v77 : Value) (w' : World), Below w.heap.size w w' → wpList Tryz.prog (opsR 6 Tryz.f20) R [] { tmps := #[.bool true, t1, t2, t3, .pointer (some ⟨g4, 0, none⟩), .pointer (some ⟨g5, 0, none⟩), t6, t7, t8, t9, t10, t11, t12, t13, t14, t15, t16, t17, t18, t19, t20, t21, t22, t23, t24, v25, v26, v27, v28, v29, v30, v31, v32, v33, v34, v35, v36, v37, v38, v39, v40, v41, v42, v43, v44, v45, v46, v47, v48, v49, v50, v51, v52, v53, v54, v55, v56, v57, v58, v59, v60, v61, v62, v63, v64, v65, v66, v67, v68, v69, v70, v71, v72, v73, v74, v75, v76, v77], defers := [] } w') :
    wpList Tryz.prog (opsR 6 Tryz.f20) R (opsR 6 Tryz.f20).toList { tmps := #[t0, t1, t2, t3, .pointer (some ⟨g4, 0, none⟩), .pointer (some ⟨g5, 0, none⟩), t6, t7, t8, t9, t10, t11, t12, t13, t14, t15, t16, t17, t18, t19, t20, t21, t22, t23, t24, t25, t26, t27, t28, t29, t30, t31, t32, t33, t34, t35, t36, t37, t38, t39, t40, t41, t42, t43, t44, t45, t46, t47, t48, t49, t50, t51, t52, t53, t54, t55, t56, t57, t58, t59, t60, t61, t62, t63, t64, t65, t66, t67, t68, t69, t70, t71, t72, t73, t74, t75, t76, t77], defers := [] } w := by
  have e : findR 6 Tryz.f20.body.get! = findR 6 Tryz.f20.body.get! := rfl
  conv at e => rhs; whnf
  unfold opsR
  rw [e, Option.getD_some]
  simp only [List.toList_toArray]
  clear e
  have HR := Lib.hid hR
  clear hR
  have HQ := Lib.hid (fun (u v : Operand) (w : World) => st_self ⟨2, ar, ho, la, lo, iso⟩ u v w)
  have hfld : ∀ (s : Dw.St) (w : World), (Instr.field 29 (stV s) 0).run Tryz.prog w = .ok (.int .i64 s.mo) w := fun _ _ => by kernel_rfl
  have hB := Below.refl w.heap.size w
  have x0 : w.cell? ⟨g4, 0, none⟩ = some (.slice p 2 q) := by rw [cell_of_row _ _ 0 _ _ _ b4]; rfl
  have x1 : w.cell? ⟨g4, 1, none⟩ = some (.bool true) := by rw [cell_of_row _ _ 1 _ _ _ b4]; rfl
  have x2 : w.cell? ⟨g4, 2, none⟩ = some (.int .i64 2) := by rw [cell_of_row _ _ 2 _ _ _ b4]; rfl
  have y1 : w.cell? ⟨g5, 1, none⟩ = some (.bool false) := by rw [cell_of_row _ _ 1 _ _ _ b5]; rfl
  go_wp2_with (first | (refine lbo b4 rfl rfl rfl (by kernel_rfl) ?_) | (refine lbo b5 rfl rfl rfl (by kernel_rfl) ?_) | (refine lpo 29 2 (stC ⟨2, ar, ho, la, lo, iso⟩) b4 rfl rfl rfl (by kernel_rfl) (by rfl) ?_) | (refine lpo 29 8 (stC ⟨2, ar, ho, la, lo, iso⟩) b4 rfl rfl rfl (by kernel_rfl) (by rfl) ?_) | (refine bno (HQ.out _ _ _) rfl rfl rfl rfl ?_))
  refine cb (HHA.out _ HSA) fun w1 hb => ?_
  replace b4 := kp hb b4; replace b5 := kp hb b5; replace hB := tr hB hb; replace HSA := RowsAt.next HSA hb; replace HSB := RowsAt.next HSB hb
  clear hb x0 x1 x2 y1
  have x0 : w1.cell? ⟨g4, 0, none⟩ = some (.slice p 2 q) := by rw [cell_of_row _ _ 0 _ _ _ b4]; rfl
  have x1 : w1.cell? ⟨g4, 1, none⟩ = some (.bool true) := by rw [cell_of_row _ _ 1 _ _ _ b4]; rfl
  have x2 : w1.cell? ⟨g4, 2, none⟩ = some (.int .i64 2) := by rw [cell_of_row _ _ 2 _ _ _ b4]; rfl
  have y1 : w1.cell? ⟨g5, 1, none⟩ = some (.bool false) := by rw [cell_of_row _ _ 1 _ _ _ b5]; rfl
  go_wp2_with (first | (refine lbo b4 rfl rfl rfl (by kernel_rfl) ?_) | (refine lbo b5 rfl rfl rfl (by kernel_rfl) ?_) | (refine lpo 29 2 (stC ⟨2, ar, ho, la, lo, iso⟩) b4 rfl rfl rfl (by kernel_rfl) (by rfl) ?_) | (refine lpo 29 8 (stC ⟨2, ar, ho, la, lo, iso⟩) b4 rfl rfl rfl (by kernel_rfl) (by rfl) ?_) | (refine bno (HQ.out _ _ _) rfl rfl rfl rfl ?_))
  refine cb (HLA.out _ HSA) fun w2 hb => ?_
  replace b4 := kp hb b4; replace b5 := kp hb b5; replace hB := tr hB hb; replace HSA := RowsAt.next HSA hb; replace HSB := RowsAt.next HSB hb
  clear hb x0 x1 x2 y1
  have x0 : w2.cell? ⟨g4, 0, none⟩ = some (.slice p 2 q) := by rw [cell_of_row _ _ 0 _ _ _ b4]; rfl
  have x1 : w2.cell? ⟨g4, 1, none⟩ = some (.bool true) := by rw [cell_of_row _ _ 1 _ _ _ b4]; rfl
  have x2 : w2.cell? ⟨g4, 2, none⟩ = some (.int .i64 2) := by rw [cell_of_row _ _ 2 _ _ _ b4]; rfl
  have y1 : w2.cell? ⟨g5, 1, none⟩ = some (.bool false) := by rw [cell_of_row _ _ 1 _ _ _ b5]; rfl
  go_wp2_with (first | (refine lbo b4 rfl rfl rfl (by kernel_rfl) ?_) | (refine lbo b5 rfl rfl rfl (by kernel_rfl) ?_) | (refine lpo 29 2 (stC ⟨2, ar, ho, la, lo, iso⟩) b4 rfl rfl rfl (by kernel_rfl) (by rfl) ?_) | (refine lpo 29 8 (stC ⟨2, ar, ho, la, lo, iso⟩) b4 rfl rfl rfl (by kernel_rfl) (by rfl) ?_) | (refine bno (HQ.out _ _ _) rfl rfl rfl rfl ?_))
  refine cb (HKA.out _ HSA) fun w3 hb => ?_
  replace b4 := kp hb b4; replace b5 := kp hb b5; replace hB := tr hB hb; replace HSA := RowsAt.next HSA hb; replace HSB := RowsAt.next HSB hb
  clear hb x0 x1 x2 y1
  have x0 : w3.cell? ⟨g4, 0, none⟩ = some (.slice p 2 q) := by rw [cell_of_row _ _ 0 _ _ _ b4]; rfl
  have x1 : w3.cell? ⟨g4, 1, none⟩ = some (.bool true) := by rw [cell_of_row _ _ 1 _ _ _ b4]; rfl
  have x2 : w3.cell? ⟨g4, 2, none⟩ = some (.int .i64 2) := by rw [cell_of_row _ _ 2 _ _ _ b4]; rfl
  have y1 : w3.cell? ⟨g5, 1, none⟩ = some (.bool false) := by rw [cell_of_row _ _ 1 _ _ _ b5]; rfl
  go_wp2_with (first | (refine lbo b4 rfl rfl rfl (by kernel_rfl) ?_) | (refine lbo b5 rfl rfl rfl (by kernel_rfl) ?_) | (refine lpo 29 2 (stC ⟨2, ar, ho, la, lo, iso⟩) b4 rfl rfl rfl (by kernel_rfl) (by rfl) ?_) | (refine lpo 29 8 (stC ⟨2, ar, ho, la, lo, iso⟩) b4 rfl rfl rfl (by kernel_rfl) (by rfl) ?_) | (refine bno (HQ.out _ _ _) rfl rfl rfl rfl ?_))
  refine cb (HHB.out _ HSB) fun w4 hb => ?_
  replace b4 := kp hb b4; replace b5 := kp hb b5; replace hB := tr hB hb; replace HSA := RowsAt.next HSA hb; replace HSB := RowsAt.next HSB hb
  clear hb x0 x1 x2 y1
  have x0 : w4.cell? ⟨g4, 0, none⟩ = some (.slice p 2 q) := by rw [cell_of_row _ _ 0 _ _ _ b4]; rfl
  have x1 : w4.cell? ⟨g4, 1, none⟩ = some (.bool true) := by rw [cell_of_row _ _ 1 _ _ _ b4]; rfl
  have x2 : w4.cell? ⟨g4, 2, none⟩ = some (.int .i64 2) := by rw [cell_of_row _ _ 2 _ _ _ b4]; rfl
  have y1 : w4.cell? ⟨g5, 1, none⟩ = some (.bool false) := by rw [cell_of_row _ _ 1 _ _ _ b5]; rfl
  go_wp2_with (first | (refine lbo b4 rfl rfl rfl (by kernel_rfl) ?_) | (refine lbo b5 rfl rfl rfl (by kernel_rfl) ?_) | (refine lpo 29 2 (stC ⟨2, ar, ho, la, lo, iso⟩) b4 rfl rfl rfl (by kernel_rfl) (by rfl) ?_) | (refine lpo 29 8 (stC ⟨2, ar, ho, la, lo, iso⟩) b4 rfl rfl rfl (by kernel_rfl) (by rfl) ?_) | (refine bno (HQ.out _ _ _) rfl rfl rfl rfl ?_))
  refine cb (HKB.out _ HSB) fun w5 hb => ?_
  replace b4 := kp hb b4; replace b5 := kp hb b5; replace hB := tr hB hb; replace HSA := RowsAt.next HSA hb; replace HSB := RowsAt.next HSB hb
  clear hb x0 x1 x2 y1
  have x0 : w5.cell? ⟨g4, 0, none⟩ = some (.slice p 2 q) := by rw [cell_of_row _ _ 0 _ _ _ b4]; rfl
  have x1 : w5.cell? ⟨g4, 1, none⟩ = some (.bool true) := by rw [cell_of_row _ _ 1 _ _ _ b4]; rfl
  have x2 : w5.cell? ⟨g4, 2, none⟩ = some (.int .i64 2) := by rw [cell_of_row _ _ 2 _ _ _ b4]; rfl
  have y1 : w5.cell? ⟨g5, 1, none⟩ = some (.bool false) := by rw [cell_of_row _ _ 1 _ _ _ b5]; rfl
  go_wp2_with (first | (refine lbo b4 rfl rfl rfl (by kernel_rfl) ?_) | (refine lbo b5 rfl rfl rfl (by kernel_rfl) ?_) | (refine lpo 29 2 (stC ⟨2, ar, ho, la, lo, iso⟩) b4 rfl rfl rfl (by kernel_rfl) (by rfl) ?_) | (refine lpo 29 8 (stC ⟨2, ar, ho, la, lo, iso⟩) b4 rfl rfl rfl (by kernel_rfl) (by rfl) ?_) | (refine bno (HQ.out _ _ _) rfl rfl rfl rfl ?_))
  exact HR.out _ _ _ _ _ _ _ _ _ _ _ _ _ _ _ _ _ _ _ _ _ _ _ _ _ _ _ _ _ _ _ _ _ _ _ _ _ _ _ _ _ _ _ _ _ _ _ _ _ _ _ _ _ _ hB
def Dw.A22 : Dw.Aud := Dw.audF (Dw.beginF 4 9) Dw.aud0 Dw.l22
def Dw.N22 : Dw.St := Dw.bootT (Dw.runF (Dw.beginF 4 9) Dw.l22).x.f
def Dw.B22 : Dw.Aud := Dw.audF (Dw.beginF 4 9) Dw.aud0 (Dw.l22.take 4)
def Dw.M22 : Dw.St := Dw.bootT (Dw.runF (Dw.beginF 4 9) (Dw.l22.take 4)).x.f
theorem Dw.vals22 : Dw.A22.ack.length = 2 ∧ Dw.A22.fly = true ∧ Dw.A22.fs.mo = 2 ∧ Dw.N22 = Dw.A22.fs ∧ (Dw.lastA Dw.A22.ack).mo = 1 ∧ Dw.B22.fly = false ∧ Dw.M22 = Dw.saysA Dw.B22 ∧ Dw.knownB Dw.B22 Dw.A22.fs = false ∧ Dw.B22.ack.length ≤ 1000 := by decide +kernel
theorem Dw.ok22 : ∀ e ∈ Dw.l22, enOk e := by decide
theorem holds_true {a : Dw.Aud} {now : Dw.St} (h : now = Dw.saysA a) (hl : a.ack.length ≤ 1000) (va : Value) (w : World) (hs : StsAt w va a.ack) :
    Calls Tryz.prog 22 #[audV a now va] w fun e w' => e = .returned (.bool true) ∧ Below w.heap.size w w' := by
  have := holds_any a now va w hs hl
  rw [decide_eq_true h] at this
  exact this
theorem known_is {a : Dw.Aud} {now s : Dw.St} {b : Bool} (h : Dw.knownB a s = b) (hl : a.ack.length ≤ 1000) (va : Value) (w : World) (hs : StsAt w va a.ack) :
    Calls Tryz.prog 26 #[audV a now va, stV s] w fun e w' => e = .returned (.bool b) ∧ Below w.heap.size w w' := by
  have := known_any a now s va w hs hl
  rw [h] at this
  exact this
theorem shown22_any (w : World) (hn : NoneAt w) :
    Calls Tryz.prog 20 #[] w fun e w' => e = .returned (.bool true) ∧ Below w.heap.size w w' := by
  have HF1 := Lib.hid (show ∀ (w : World) (v : Value), NoneAt w → EnsAt w v Dw.l22 → Calls Tryz.prog 30 #[.int .i64 4, .int .i64 9, v] w fun en w' => (∃ va, en = .returned (audV Dw.A22 Dw.N22 va) ∧ w'.ownsRow 0 29 6 va Dw.A22.ack.length (stCells Dw.A22.ack)) ∧ Below w.heap.size w w' from fun w v hn hv => follow_any 4 9 Dw.l22 (by decide) v w hn hv)
  have HF2 := Lib.hid (show ∀ (w : World) (v : Value), NoneAt w → EnsAt w v (Dw.l22.take 4) → Calls Tryz.prog 30 #[.int .i64 4, .int .i64 9, v] w fun en w' => (∃ va, en = .returned (audV Dw.B22 Dw.M22 va) ∧ w'.ownsRow 0 29 6 va Dw.B22.ack.length (stCells Dw.B22.ack)) ∧ Below w.heap.size w w' from fun w v hn hv => follow_any 4 9 (Dw.l22.take 4) (by decide) v w hn hv)
  obtain ⟨v1, v2, v3, v4, v5, v6, v7, v8, v9⟩ := Dw.vals22
  generalize Dw.A22 = A at *
  generalize Dw.N22 = N at *
  generalize Dw.B22 = B at *
  generalize Dw.M22 = M at *
  obtain ⟨ack, fly, ⟨mo, ar, ho, la, lo, iso⟩⟩ := A
  obtain ⟨ackb, flyb, fsb⟩ := B
  dsimp only at v1 v2 v3 v4 v5 v6 v9
  subst v2 v3 v4 v6
  have hl : ack.length ≤ 1000 := by omega
  have HHA := Lib.hid (fun va w h => holds_true (a := ⟨ack, true, ⟨2, ar, ho, la, lo, iso⟩⟩) (now := ⟨2, ar, ho, la, lo, iso⟩) rfl hl va w h)
  have HLA := Lib.hid (fun va w h => alast_any ⟨ack, true, ⟨2, ar, ho, la, lo, iso⟩⟩ ⟨2, ar, ho, la, lo, iso⟩ va w h hl)
  have HKA := Lib.hid (fun va w h => known_is (a := ⟨ack, true, ⟨2, ar, ho, la, lo, iso⟩⟩) (now := ⟨2, ar, ho, la, lo, iso⟩) (s := ⟨2, ar, ho, la, lo, iso⟩) (b := true) (by unfold Dw.knownB; simp) hl va w h)
  have HHB := Lib.hid (fun va w h => holds_true v7 v9 va w h)
  have HKB := Lib.hid (fun va w h => known_is (now := M) v8 v9 va w h)
  dsimp only at HHB HKB HLA
  generalize Dw.lastA ack = L at *
  obtain ⟨lm, l1, l2, l3, l4, l5⟩ := L
  dsimp only at v5
  subst v5
  obtain ⟨V1, hV1⟩ : ∃ V, w.alloc (.cells #[.int .i64 (-1), .string ⟨#[]⟩] 46) = V := ⟨_, rfl⟩
  obtain ⟨V2, hV2⟩ : ∃ V, V1.alloc (.cells #[.int .i64 2, .int .i64 0, .int .i64 0, .float .f64 0, .float .f64 0, .float .f64 0, .float .f64 0, .float .f64 0, .int .i64 (-1), .string ⟨#[]⟩, .int .i64 0] 48) = V := ⟨_, rfl⟩
  obtain ⟨V3, hV3⟩ : ∃ V, V2.alloc (.cells c22 48) = V := ⟨_, rfl⟩
  have bP1 : V1.heap[w.heap.size]? = some (.cells #[.int .i64 (-1), .string ⟨#[]⟩] 46) := by rw [← hV1]; exact han _ _
  have hb1 : Below w.heap.size w V1 := by rw [← hV1]; exact (Below.refl _ w).alloc (Nat.le_refl _) _
  have hb2 : Below V1.heap.size V1 V2 := by rw [← hV2]; exact (Below.refl _ V1).alloc (Nat.le_refl _) _
  have bP := kp hb2 bP1
  have bS : V2.heap[V1.heap.size]? = some (.cells (enC Dw.sS) 48) := by rw [← hV2]; exact han _ _
  have hb3 : Below V2.heap.size V2 V3 := by rw [← hV3]; exact (Below.refl _ V2).alloc (Nat.le_refl _) _
  have bB : V3.heap[V2.heap.size]? = some (.cells c22 48) := by rw [← hV3]; exact han _ _
  have hE : EnsAt V3 (.slice (some ⟨V2.heap.size, 0, none⟩) 5 5) Dw.l22 := ens_block Dw.ok22 bB
  have HE := Lib.hid hE
  have HB := Lib.hid (tr (tr hb1 hb2) hb3)
  have HV1 := Lib.hid hV1; have HV2 := Lib.hid hV2; have HV3 := Lib.hid hV3
  clear hV1 hV2 hV3 hb1 hb2 hb3 bB hE v7 v8 v9 hl
  go_enter Tryz.func20, Tryz.ntmps20
  go_wp2_with (first | (refine nb rfl rfl rfl rfl (by go_simp; first | done | with_reducible rfl | exact rfl) rfl rfl (by kernel_rfl) ?_; first | rw [HV1.out] | rw [HV2.out] | skip) | (refine lb bP1 rfl rfl rfl (by kernel_rfl) ?_) | (refine lb bS rfl rfl rfl (by kernel_rfl) ?_) | (refine lb bP rfl rfl rfl (by kernel_rfl) ?_) | (refine bsl (v := .slice (some ⟨V2.heap.size, 0, none⟩) 5 5) (w2 := V3) (by exact rfl) (by exact rfl) (by rw [← HV3.out]; kernel_rfl) ?_))
  clear bP1 bS bP HV1 HV2 HV3
  refine (HF1.out _ _ (hn.next HB.out) HE.out).mono ?_
  rintro en w5 ⟨⟨va, rfl, how⟩, hb⟩
  have hB := tr HB.out hb
  have hE := HE.out.next hb
  obtain ⟨p, q, rfl⟩ := own_shape22 how
  have hSA := sts_own how rfl
  dsimp only at hSA ⊢
  rw [v1] at hSA ⊢
  clear hb HB HE HF1 how
  obtain ⟨V4, hV4⟩ : ∃ V, w5.alloc (.cells (audC ⟨ack, true, ⟨2, ar, ho, la, lo, iso⟩⟩ ⟨2, ar, ho, la, lo, iso⟩ (.slice p 2 q)) 66) = V := ⟨_, rfl⟩
  have b4 : V4.heap[w5.heap.size]? = some (.cells (audC ⟨ack, true, ⟨2, ar, ho, la, lo, iso⟩⟩ ⟨2, ar, ho, la, lo, iso⟩ (.slice p 2 q)) 66) := by rw [← hV4]; exact han _ _
  have hb : Below w5.heap.size w5 V4 := by rw [← hV4]; exact (Below.refl _ w5).alloc (Nat.le_refl _) _
  have HSA := Lib.hid (hSA.next hb)
  have HB := Lib.hid (tr hB hb)
  have HE := Lib.hid (ens_take (hE.next hb) 4 (by decide) 5)
  have HV4 := Lib.hid hV4
  clear hb hV4 hSA hB hE
  go_wp2_with (first | (refine nb rfl rfl rfl rfl (by go_simp; first | done | with_reducible rfl | exact rfl) rfl rfl (by kernel_rfl) ?_; rw [HV4.out]))
  clear HV4
  refine (HF2.out _ _ (hn.next HB.out) HE.out).mono ?_
  rintro en w6 ⟨⟨vb, rfl, how⟩, hb⟩
  obtain ⟨pb, qb, rfl⟩ := own_shape22 how
  have hSB := sts_own how rfl
  dsimp only at hSB ⊢
  have hSA := RowsAt.next HSA.out hb
  have hB := tr HB.out hb
  replace b4 := kp hb b4
  clear hb HB HE HF2 how HSA
  obtain ⟨V5, hV5⟩ : ∃ V, w6.alloc (.cells (audC ⟨ackb, false, fsb⟩ M (.slice pb ackb.length qb)) 66) = V := ⟨_, rfl⟩
  have b5 : V5.heap[w6.heap.size]? = some (.cells (audC ⟨ackb, false, fsb⟩ M (.slice pb ackb.length qb)) 66) := by rw [← hV5]; exact han _ _
  have hb : Below w6.heap.size w6 V5 := by rw [← hV5]; exact (Below.refl _ w6).alloc (Nat.le_refl _) _
  replace b4 := kp hb b4
  have HSA := Lib.hid (RowsAt.next hSA hb); have HSB := Lib.hid (RowsAt.next hSB hb); have HB := Lib.hid (tr hB hb); have HV5 := Lib.hid hV5; have H4 := Lib.hid b4; have H5 := Lib.hid b5
  clear hb hV5 hSA hSB hB b4 b5
  rename_i h0K
  refine h0K _ _ ?_
  clear h0K
  rename_i hK Kop
  have HK := Lib.hid hK
  clear hK
  go_wp2_with (first | (refine nb rfl rfl rfl rfl (by go_simp; first | done | with_reducible rfl | exact rfl) rfl rfl (by kernel_rfl) ?_; rw [HV5.out]))
  clear HV5
  refine HK.out _ _ ?_
  clear HK
  go_step
  go_step
  refine list_swap (ops := opsR 6 Tryz.f20) ?_ (by kernel_rfl) (by kernel_rfl)
  refine sh22_r6 (L := ⟨1, l1, l2, l3, l4, l5⟩) H4.out H5.out HSA.out HSB.out (Lib.hid (fun w h => HHA.out _ w h)) (Lib.hid (fun w h => HLA.out _ w h)) (Lib.hid (fun w h => HKA.out _ w h)) (Lib.hid (fun w h => HHB.out _ w h)) (Lib.hid (fun w h => HKB.out _ w h)) ?_
  intro v25 v26 v27 v28 v29 v30 v31 v32 v33 v34 v35 v36 v37 v38 v39 v40 v41 v42 v43 v44 v45 v46 v47 v48 v49 v50 v51 v52 v53 v54 v55 v56 v57 v58 v59 v60 v61 v62 v63 v64 v65 v66 v67 v68 v69 v70 v71 v72 v73 v74 v75 v76 v77 w9 hb9
  have HB9 := Lib.hid (tr HB.out hb9)
  clear H4 H5 HSA HSB HHA HLA HKA HHB HKB HB hb9
  go_wp2_with fail
  go_ret
  exact ⟨rfl, HB9.out⟩
end Go.Proofs.YtcadgecnlahkgaaGreatDoor
