/- What the statement's proof stands on, part 44: Follow22, Says22, Known22, Law22, Rows22. -/
import Derived.Test.YtcadgecnlahkgaaGreatDoorAh43
import Derived.Test.YtcadgecnlahkgaaGreatDoorAh36
set_option linter.unusedSimpArgs false
set_option linter.unusedVariables false
set_option maxRecDepth 100000
set_option maxHeartbeats 4000000
namespace Go.Proofs.YtcadgecnlahkgaaGreatDoor
open Go.RowKit Go.Shelf
attribute [local go_sem] Oper.semAt_some
namespace Dw
theorem audS_ackA {x y : Su} {e : En} {a : Aud} (he : e.ki = 1 ∨ e.ki = 2) : audS x y e 0 a = ackA a x y := by
  unfold audS ackA
  rw [if_pos he, if_pos rfl]
theorem audS_cutA {x y : Su} {e : En} {er : Int} {a : Aud} (he : e.ki = 1 ∨ e.ki = 2) (h0 : er ≠ 0) : audS x y e er a = cutA a x y := by
  unfold audS cutA
  rw [if_pos he, if_neg h0]
theorem cutA_ack (a : Aud) (x y : Su) : (cutA a x y).ack = a.ack := by unfold cutA; split <;> rfl
theorem audS_len (x y : Su) (e : En) (er : Int) (a : Aud) : (audS x y e er a).ack.length ≤ a.ack.length + 1 := by
  unfold audS
  (repeat' split) <;> simp
theorem audF_len : ∀ (l : List En) (f : Fli) (a : Aud), (audF f a l).ack.length ≤ a.ack.length + l.length
  | [], _, _ => Nat.le_refl _
  | e :: l, f, a => by
    have h1 := audF_len l (stepF f e) (audS f.x (stepF f e).x e (stepE f.x e) a)
    have h2 := audS_len f.x (stepF f e).x e (stepE f.x e) a
    show (audF _ _ l).ack.length ≤ _
    simp only [List.length_cons]
    omega
end Dw
theorem own_rowT {w : World} {B n k : Nat} {e T : TypeId} {v : Value} {xs : List Value} (h : w.ownsRow B e k v n xs) {g : Nat} {c0 : Array Value} {fr : Nat × Nat} (hg : w.heap[g]? = some (.cells c0 T fr)) (hT : T ≠ e) (c : Array Value) : (w.setRow g c).ownsRow B e k v n xs :=
  own_but h ((KeepBut.refl _ w).setRow (g := g) (X := fun k => k = g) rfl c) fun j hj => by subst hj; exact ⟨_, _, _, hg, hT⟩
theorem own_low {w : World} {B n k : Nat} {e : TypeId} {v : Value} {xs : List Value} (h : w.ownsRow B e k v n xs) : w.ownsRow 0 e k v n xs := by
  obtain ⟨hl, h | ⟨g, cap, cur, he, h0, hg, hr⟩⟩ := h
  · exact ⟨hl, .inl h⟩
  · exact ⟨hl, .inr ⟨g, cap, cur, he, Nat.zero_le _, hg, hr⟩⟩
abbrev ZA : Array Value := #[.slice none 0 0, .bool false, .int .i64 0, .bool false, .bool false, .int .i64 0, .int .i64 0, .int .i64 0, .int .i64 0, .bool false, .bool false, .int .i64 0, .int .i64 0, .int .i64 0]
theorem follow_any (n li : Int) (l : List Dw.En) (hlen : l.length ≤ 100) (v : Value) (w : World) (hn : NoneAt w) (hv : EnsAt w v l) :
    Calls Tryz.prog 30 #[.int .i64 n, .int .i64 li, v] w fun en w' => (∃ va, en = .returned (audV (Dw.audF (Dw.beginF n li) Dw.aud0 l) (Dw.bootT (Dw.runF (Dw.beginF n li) l).x.f) va) ∧ w'.ownsRow 0 29 6 va (Dw.audF (Dw.beginF n li) Dw.aud0 l).ack.length (stCells (Dw.audF (Dw.beginF n li) Dw.aud0 l).ack)) ∧ Below w.heap.size w w' := by
  have HV := Lib.hid hv
  obtain ⟨sa, cap, rfl, -, -⟩ := id hv
  clear hv
  have HBG := Lib.hid (fun w hn => begin_any n li w hn)
  have hok0 : Dw.FlOk (Dw.beginF n li).x.f := Dw.newF_ok n li
  have hleg0 : Dw.legal (Dw.beginF n li).x.s = true := Dw.boot_legal _
  have hout0 : (Dw.beginF n li).out = [] := rfl
  generalize Dw.beginF n li = F0 at *
  have hmf : ∀ (fn : Fn) (first cap : Array Value) (w : World), (Instr.makeFunc fn first cap).run Tryz.prog w = .ok (.func fn first cap) w := fun _ _ _ _ => rfl
  obtain ⟨V, hV⟩ : ∃ V, w.alloc (.cells ZA 66) = V := ⟨_, rfl⟩
  have bA0 : V.heap[w.heap.size]? = some (.cells (audC Dw.aud0 Dw.st0 (.slice none 0 0)) 66) := by rw [← hV]; exact han _ _
  have hB : Below w.heap.size w V := by rw [← hV]; exact (Below.refl _ w).alloc (Nat.le_refl _) _
  have h0l : (0 : Int) ≤ (l.length : Int) := by omega
  go_enter Tryz.func30, Tryz.ntmps30
  go_wp2_with fail
  try rw [hV]
  clear hV
  refine cb (HBG.out _ (hn.next hB)) fun w1 hb => ?_
  replace bA0 := kp hb bA0; replace hB := tr hB hb
  clear hb HBG
  have zA := block_lt bA0
  obtain ⟨V2, hV2⟩ : ∃ V, w1.alloc (.cells (fliC F0.x (.slice none 0 0)) 36) = V := ⟨_, rfl⟩
  have bF0 : V2.heap[w1.heap.size]? = some (.cells (fliC F0.x (.slice none 0 0)) 36) := by rw [← hV2]; exact han _ _
  have hb : Below w1.heap.size w1 V2 := by rw [← hV2]; exact (Below.refl _ w1).alloc (Nat.le_refl _) _
  replace bA0 := kp hb bA0; replace hB := tr hB hb
  clear hb
  have HA0 := Lib.hid bA0; have HF0 := Lib.hid bF0; have HB0 := Lib.hid hB
  clear bA0 bF0 hB
  have HV2 := Lib.hid hV2
  clear hV2
  go_wp2_with (first | (refine nb rfl rfl rfl rfl (by go_simp; first | done | with_reducible rfl | exact rfl) rfl rfl (by kernel_rfl) ?_; rw [HV2.out]))
  clear HV2
  go_loopw [20] (fun i wr => ∃ (k : Nat) (g : Dw.Fli) (v' : Value) (a : Dw.Aud) (va : Value), k ≤ l.length ∧ i = .int .i64 k ∧ g = Dw.runF F0 (l.take k) ∧ a = Dw.audF F0 Dw.aud0 (l.take k) ∧ wr.heap[w.heap.size]? = some (.cells (audC a Dw.st0 va) 66 (0, 0)) ∧ wr.heap[w1.heap.size]? = some (.cells (fliC g.x v') 36 (0, 0)) ∧ RepsAt wr v' g.out ∧ wr.ownsRow (w.heap.size + 1) 29 6 va a.ack.length (stCells a.ack) ∧ Below w.heap.size w wr) (fun i _ => l.length - (intOf i).toNat)
  case atStart => exact ⟨0, F0, _, Dw.aud0, _, Nat.zero_le _, rfl, rfl, rfl, HA0.out, HF0.out, by rw [hout0]; exact World.ownsRow_nil _ _ _ _, World.ownsRow_nil _ _ _ _, HB0.out⟩
  case round =>
    clear HA0 HF0 HB0
    obtain ⟨k, g, v', a, va, hk, rfl, hg, ha, bA, bF, hR, how, hB⟩ := hrel
    obtain ⟨p0, q0, rfl⟩ := reps_shape hR
    by_cases hlt : k < l.length
    · have hlt' : (k : Int) < (l.length : Int) := by omega
      obtain ⟨e, hce⟩ : ∃ e, l[k]? = some e := ⟨l[k], List.getElem?_eq_getElem hlt⟩
      obtain ⟨he, bb, off, hsa, kc⟩ := EnsAt.get (HV.out.next hB) hce
      subst hsa
      have hgo : Dw.FlOk g.x.f := by rw [hg]; exact Dw.runF_ok _ _ hok0
      have hgo2 : Dw.FlOk (Dw.stepF g e).x.f := Dw.stepF_ok hgo e
      have hgl : Dw.legal g.x.s = true := by rw [hg]; exact Dw.runF_legal _ _ hleg0
      have hgn : g.out.length ≤ 1000000 := by
        rw [hg]
        have h1 := Dw.out_le (l.take k) F0
        have h2 := List.length_take_le k l
        rw [hout0] at h1
        simp at h1
        omega
      have hal : a.ack.length ≤ 1000 := by
        rw [ha]
        have h1 := Dw.audF_len (l.take k) F0 Dw.aud0
        have h2 := List.length_take_le k l
        have h3 : Dw.aud0.ack.length = 0 := rfl
        omega
      have HG := Lib.hid (show Dw.stepF g e = Dw.runF F0 (l.take (k + 1)) by rw [hg]; exact (Dw.run_take hce).symm)
      have HAUD := Lib.hid (show Dw.audS g.x (Dw.stepF g e).x e (Dw.stepE g.x e) a = Dw.audF F0 Dw.aud0 (l.take (k + 1)) by rw [hg, ha]; exact (Dw.aud_take hce).symm)
      obtain ⟨V4, hV4⟩ : ∃ V, wr.alloc (.cells (enC e) 48) = V := ⟨_, rfl⟩
      have hb : Below wr.heap.size wr V4 := by rw [← hV4]; exact (Below.refl _ wr).alloc (Nat.le_refl _) _
      have bE : V4.heap[wr.heap.size]? = some (.cells (enC e) 48) := by rw [← hV4]; exact han _ _
      have HR4 := reps_next hR hb
      have how4 := own_next how hb
      have bF4 := kp hb bF
      have HV4 := Lib.hid hV4
      replace bA := kp hb bA; replace hB := tr hB hb
      have zF := block_lt bF
      have zE := block_lt bE
      have HGN := Lib.hid hgn
      clear hb hV4 hg ha hR how hce bF
      obtain ⟨V5, hV5⟩ : ∃ V, V4.alloc (.cells (suC g.x) 33) = V := ⟨_, rfl⟩
      have hb : Below V4.heap.size V4 V5 := by rw [← hV5]; exact (Below.refl _ V4).alloc (Nat.le_refl _) _
      have bS : V5.heap[V4.heap.size]? = some (.cells (suC g.x) 33) := by rw [← hV5]; exact han _ _
      have HR5 := reps_next HR4 hb
      have how5 := own_next how4 hb
      have bF := kp hb bF4
      have HV5 := Lib.hid hV5
      replace bA := kp hb bA; replace hB := tr hB hb; replace bE := kp hb bE
      have HS := Lib.hid (fun w hn hv => fstep_any g e hgo hgl he hgn (.slice p0 g.out.length q0) w hn hv)
      clear hb hV5 HR4 how4 he hgl hgn
      have HR := Lib.hid HR5; have HO := Lib.hid how5; have HB := Lib.hid hB; have HA := Lib.hid bA; have HSS := Lib.hid bS
      clear HR5 how5 hB bA bS
      go_wp2_with (first | (refine lr (enC e).toList.toArray kc rfl rfl rfl (by kernel_rfl) ?_) | (refine nb rfl rfl rfl rfl (by go_simp; first | done | with_reducible rfl | exact rfl) rfl rfl (by kernel_rfl) ?_; first | rw [HV4.out] | rw [HV5.out] | skip) | (refine lp 33 0 (suC g.x) bF4 rfl rfl rfl (by kernel_rfl) (by rfl) ?_) | (refine lb bF rfl rfl rfl (by kernel_rfl) ?_) | (refine lb bE rfl rfl rfl (by kernel_rfl) ?_))
      clear kc HV4 HV5 bF4
      refine (HS.out _ (hn.next HB.out) HR.out).mono ?_
      rintro en w5 ⟨⟨v5, rfl, hR5⟩, hb⟩
      have bF5 := kp hb bF; have bE5 := kp hb bE; have bS5 := kp hb HSS.out; have bA5 := kp hb HA.out; have hB5 := tr HB.out hb
      have how6 := own_next HO.out hb
      clear hb bF bE HS HR HO HB HA HSS
      obtain ⟨X2, hX2⟩ : ∃ X, (Dw.stepF g e).x = X := ⟨_, rfl⟩
      rw [hX2] at HAUD hgo2 ⊢
      have HX2 := Lib.hid hX2
      clear hX2
      have bA := (setRow_other w5 w1.heap.size w.heap.size (fliC X2 v5) (by omega)).trans bA5
      have bE := (setRow_other w5 w1.heap.size wr.heap.size (fliC X2 v5) (by omega)).trans bE5
      have bS := (setRow_other w5 w1.heap.size V4.heap.size (fliC X2 v5) (by omega)).trans bS5
      have bF := srh (c' := fliC X2 v5) bF5
      have hR6 := reps_row hR5 bF5 (fliC X2 v5)
      have how5 := own_rowT how6 bF5 (by decide) (fliC X2 v5)
      have hB6 := below_setRow hB5 (show w.heap.size ≤ w1.heap.size by omega) (fliC X2 v5)
      obtain ⟨W, hW⟩ : ∃ W, w5.setRow w1.heap.size (fliC X2 v5) = W := ⟨_, rfl⟩
      rw [hW] at bA bE bS bF hR6 how5 hB6
      have HW := Lib.hid hW
      have kE : W.cell? ⟨wr.heap.size, 0, none⟩ = some (.int .i64 e.ki) := by rw [cell_of_row _ _ 0 _ _ _ bE]; rfl
      have HA5 := Lib.hid bA; have HB5 := Lib.hid hB6
      clear hW bE bE5 bS5 bA5 hB5 how6 bA hB6 hR5
      by_cases hki : e.ki = 1 ∨ e.ki = 2
      · have hi : Dw.isK e = true := by unfold Dw.isK; rcases hki with h | h <;> simp [h]
        have ho : (Dw.stepF g e).out = g.out ++ [Dw.repOf g.x e] := by unfold Dw.stepF; rw [hi]; rfl
        have HR5 := Lib.hid hR6
        rw [ho] at hR6
        obtain ⟨p5, q5, hv5⟩ := reps_shape hR6
        obtain ⟨K, hK⟩ : ∃ x, g.out.length = x := ⟨_, rfl⟩
        have hKl : K ≤ 1000000 := by rw [← hK]; exact HGN.out
        rw [show (g.out ++ [Dw.repOf g.x e]).length = K + 1 by simp [hK]] at hv5
        rw [hv5] at hR6
        obtain ⟨q, hq, hc⟩ := own_get (k := K) (r := Dw.repOf g.x e) hR6 (by rw [← hK]; simp)
        rw [hq] at hv5
        clear hR6 hq hK ho hi
        subst hv5
        obtain ⟨er, her⟩ : ∃ x, Dw.stepE g.x e = x := ⟨_, rfl⟩
        have d0 : W.cell? ⟨q, K * 8, none⟩ = some (.int .i64 er) := by rw [← her]; exact hc 0 _ rfl
        have y14 := (cells15 bF).2.2.2.2.2
        rw [her] at HAUD
        have a1 : IntKind.i64.wrap (K : Int) = (K : Int) := IntWalk.i64_in _ (by omega)
        have a2 : wrap64 (K : Int) = (K : Int) := by clear a1; exact IntWalk.wrap64_in _ (by omega)
        have a4 : (0 : Int) ≤ (K : Int) := by clear a1 a2; omega
        have a5 : (K : Int) < (K : Int) + 1 := by clear a1 a2; omega
        clear her hc
        by_cases h0 : er = 0
        · subst h0
          have HAU := Lib.hid (show Dw.ackA a g.x X2 = Dw.audF F0 Dw.aud0 (l.take (k + 1)) by rw [← HAUD.out]; exact (Dw.audS_ackA hki).symm)
          clear HAUD
          rcases hki with hki | hki
          · have q1 : (e.ki != 1) = false := by rw [hki]; rfl
            clear hki
            go_wp2_with (first | (refine sb (c' := fliC X2 _) bF5 rfl rfl rfl rfl (by kernel_rfl) ?_; rw [HW.out]) | (refine lb bS rfl rfl rfl (by kernel_rfl) ?_) | (refine lp 33 0 (suC X2) bF rfl rfl rfl (by kernel_rfl) (by rfl) ?_))
            refine (fack_any g.x X2 a Dw.st0 va w.heap.size W HA5.out how5 hal).mono ?_
            rintro en w9 ⟨rfl, va2, hk9, bA9, how9⟩
            have hX : ∀ j, (j = w.heap.size ∨ va.ownBlock = some j) → w.heap.size ≤ j := fun j hj => hj.elim (fun h => by omega) fun h => by have := (own_blk how5 h).1; omega
            have hTy : ∀ T, T ≠ 66 → T ≠ 29 → ∀ j, (j = w.heap.size ∨ va.ownBlock = some j) → ∃ c T' fr, W.heap[j]? = some (.cells c T' fr) ∧ T' ≠ T := fun T h1 h2 j hj => by
              rcases hj with rfl | hj
              · exact ⟨_, _, _, HA5.out, fun h => h1 h.symm⟩
              · obtain ⟨_, c, hc⟩ := own_blk how5 hj
                exact ⟨_, _, _, hc, fun h => h2 h.symm⟩
            have bF9 := Lib.hid (kpt hk9 bF (hTy _ (by decide) (by decide)))
            have hR9 := Lib.hid (own_but HR5.out hk9 (hTy _ (by decide) (by decide)))
            have hB9 := Lib.hid (HB5.out.trans (hk9.below HB5.out.size hX))
            have HA9 := Lib.hid bA9; have HO9 := Lib.hid how9
            clear hk9 bA9 how9 how5 hX hTy bF bS
            go_wp2_with fail
            go_roundw
            case rel => exact ⟨k + 1, Dw.stepF g e, _, Dw.ackA a g.x X2, va2, hlt, by go_num, HG.out, HAU.out, HA9.out, by rw [HX2.out]; exact bF9.out, hR9.out, HO9.out, hB9.out⟩
            case measure => first | done | (simp [intOf]; done) | (simp [intOf]; omega)
          · have q1 : (e.ki != 1) = true := by rw [hki]; rfl
            have q2 : (e.ki != 2) = false := by rw [hki]; rfl
            clear hki
            go_wp2_with (first | (refine sb (c' := fliC X2 _) bF5 rfl rfl rfl rfl (by kernel_rfl) ?_; rw [HW.out]) | (refine lb bS rfl rfl rfl (by kernel_rfl) ?_) | (refine lp 33 0 (suC X2) bF rfl rfl rfl (by kernel_rfl) (by rfl) ?_))
            refine (fack_any g.x X2 a Dw.st0 va w.heap.size W HA5.out how5 hal).mono ?_
            rintro en w9 ⟨rfl, va2, hk9, bA9, how9⟩
            have hX : ∀ j, (j = w.heap.size ∨ va.ownBlock = some j) → w.heap.size ≤ j := fun j hj => hj.elim (fun h => by omega) fun h => by have := (own_blk how5 h).1; omega
            have hTy : ∀ T, T ≠ 66 → T ≠ 29 → ∀ j, (j = w.heap.size ∨ va.ownBlock = some j) → ∃ c T' fr, W.heap[j]? = some (.cells c T' fr) ∧ T' ≠ T := fun T h1 h2 j hj => by
              rcases hj with rfl | hj
              · exact ⟨_, _, _, HA5.out, fun h => h1 h.symm⟩
              · obtain ⟨_, c, hc⟩ := own_blk how5 hj
                exact ⟨_, _, _, hc, fun h => h2 h.symm⟩
            have bF9 := Lib.hid (kpt hk9 bF (hTy _ (by decide) (by decide)))
            have hR9 := Lib.hid (own_but HR5.out hk9 (hTy _ (by decide) (by decide)))
            have hB9 := Lib.hid (HB5.out.trans (hk9.below HB5.out.size hX))
            have HA9 := Lib.hid bA9; have HO9 := Lib.hid how9
            clear hk9 bA9 how9 how5 hX hTy bF bS
            go_wp2_with fail
            go_roundw
            case rel => exact ⟨k + 1, Dw.stepF g e, _, Dw.ackA a g.x X2, va2, hlt, by go_num, HG.out, HAU.out, HA9.out, by rw [HX2.out]; exact bF9.out, hR9.out, HO9.out, hB9.out⟩
            case measure => first | done | (simp [intOf]; done) | (simp [intOf]; omega)
        · have HAU := Lib.hid (show Dw.cutA a g.x X2 = Dw.audF F0 Dw.aud0 (l.take (k + 1)) by rw [← HAUD.out]; exact (Dw.audS_cutA hki h0).symm)
          have q0 : (er == 0) = false := by simp [h0]
          clear HAUD h0
          rcases hki with hki | hki
          · have q1 : (e.ki != 1) = false := by rw [hki]; rfl
            clear hki
            go_wp2_with (first | (refine sb (c' := fliC X2 _) bF5 rfl rfl rfl rfl (by kernel_rfl) ?_; rw [HW.out]) | (refine lb bS rfl rfl rfl (by kernel_rfl) ?_) | (refine lp 33 0 (suC X2) bF rfl rfl rfl (by kernel_rfl) (by rfl) ?_))
            refine (fcut_any g.x X2 hgo hgo2 a Dw.st0 va w.heap.size W (hn.next HB5.out) HA5.out).mono ?_
            rintro en w9 ⟨rfl, hk9, bA9⟩
            have hTy : ∀ T, T ≠ 66 → ∀ j, j = w.heap.size → ∃ c T' fr, W.heap[j]? = some (.cells c T' fr) ∧ T' ≠ T := fun T h1 j hj => by
              subst hj
              exact ⟨_, _, _, HA5.out, fun h => h1 h.symm⟩
            have bF9 := Lib.hid (kpt hk9 bF (hTy _ (by decide)))
            have hR9 := Lib.hid (own_but HR5.out hk9 (hTy _ (by decide)))
            have HO9 := Lib.hid (own_but how5 hk9 (hTy _ (by decide)))
            have hB9 := Lib.hid (HB5.out.trans (hk9.below HB5.out.size (fun j hj => by omega)))
            have HA9 := Lib.hid bA9
            clear hk9 bA9 how5 hTy bF bS
            go_wp2_with fail
            go_roundw
            case rel => exact ⟨k + 1, Dw.stepF g e, _, Dw.cutA a g.x X2, va, hlt, by go_num, HG.out, HAU.out, HA9.out, by rw [HX2.out]; exact bF9.out, hR9.out, by rw [Dw.cutA_ack]; exact HO9.out, hB9.out⟩
            case measure => first | done | (simp [intOf]; done) | (simp [intOf]; omega)
          · have q1 : (e.ki != 1) = true := by rw [hki]; rfl
            have q2 : (e.ki != 2) = false := by rw [hki]; rfl
            clear hki
            go_wp2_with (first | (refine sb (c' := fliC X2 _) bF5 rfl rfl rfl rfl (by kernel_rfl) ?_; rw [HW.out]) | (refine lb bS rfl rfl rfl (by kernel_rfl) ?_) | (refine lp 33 0 (suC X2) bF rfl rfl rfl (by kernel_rfl) (by rfl) ?_))
            refine (fcut_any g.x X2 hgo hgo2 a Dw.st0 va w.heap.size W (hn.next HB5.out) HA5.out).mono ?_
            rintro en w9 ⟨rfl, hk9, bA9⟩
            have hTy : ∀ T, T ≠ 66 → ∀ j, j = w.heap.size → ∃ c T' fr, W.heap[j]? = some (.cells c T' fr) ∧ T' ≠ T := fun T h1 j hj => by
              subst hj
              exact ⟨_, _, _, HA5.out, fun h => h1 h.symm⟩
            have bF9 := Lib.hid (kpt hk9 bF (hTy _ (by decide)))
            have hR9 := Lib.hid (own_but HR5.out hk9 (hTy _ (by decide)))
            have HO9 := Lib.hid (own_but how5 hk9 (hTy _ (by decide)))
            have hB9 := Lib.hid (HB5.out.trans (hk9.below HB5.out.size (fun j hj => by omega)))
            have HA9 := Lib.hid bA9
            clear hk9 bA9 how5 hTy bF bS
            go_wp2_with fail
            go_roundw
            case rel => exact ⟨k + 1, Dw.stepF g e, _, Dw.cutA a g.x X2, va, hlt, by go_num, HG.out, HAU.out, HA9.out, by rw [HX2.out]; exact bF9.out, hR9.out, by rw [Dw.cutA_ack]; exact HO9.out, hB9.out⟩
            case measure => first | done | (simp [intOf]; done) | (simp [intOf]; omega)
      · have q1 : (e.ki != 1) = true := by simp; omega
        have q2 : (e.ki != 2) = true := by simp; omega
        have HAU := Lib.hid (show a = Dw.audF F0 Dw.aud0 (l.take (k + 1)) by rw [← HAUD.out]; exact (Dw.audS_else (by omega) (by omega)).symm)
        obtain ⟨p5, q5, hv5⟩ := reps_shape hR6
        have HR5 := Lib.hid hR6
        subst hv5
        have HF5 := Lib.hid bF; have HO5 := Lib.hid how5
        clear hki HAUD bF hR6 how5 bS
        go_wp2_with (first | (refine sb (c' := fliC X2 _) bF5 rfl rfl rfl rfl (by kernel_rfl) ?_; rw [HW.out]))
        go_roundw
        case rel => exact ⟨k + 1, Dw.stepF g e, _, a, va, hlt, by go_num, HG.out, HAU.out, HA5.out, by rw [HX2.out]; exact HF5.out, HR5.out, HO5.out, HB5.out⟩
        case measure => first | done | (simp [intOf]; done) | (simp [intOf]; omega)
    · have hge : ¬ (k : Int) < (l.length : Int) := by omega
      obtain rfl : k = l.length := by omega
      rw [List.take_length] at hg ha
      obtain ⟨pv, qv, rfl⟩ := own_shape22 how
      have hgo : Dw.FlOk g.x.f := by rw [hg]; exact Dw.runF_ok _ _ hok0
      have HBT := Lib.hid (fun w hn => boot_any g.x.f hgo w hn)
      have HS := Lib.hid (show Dw.bootT (Dw.runF F0 l).x.f = (Dw.boot g.x.f).s by rw [← hg]; rfl)
      have HAU := Lib.hid ha
      obtain ⟨X, hX⟩ : ∃ X, Dw.boot g.x.f = X := ⟨_, rfl⟩
      rw [hX] at HBT HS
      have HN := Lib.hid (hn.next hB)
      have HO := Lib.hid how; have HB := Lib.hid hB; have HA := Lib.hid bA
      have hfld : ∀ (X : Dw.Su) (w : World), (Instr.field 33 (suV X) 1).run Tryz.prog w = .ok (stV X.s) w := fun _ _ => by kernel_rfl
      clear hX hg ha hR how hB bA hk
      go_wp2_with (first | (refine lp 27 0 (flC g.x.f) bF rfl rfl rfl (by kernel_rfl) (by rfl) ?_))
      refine cb (HBT.out _ HN.out) fun w6 hb => ?_
      have bA6 := kp hb HA.out
      have how6 := own_next HO.out hb
      have HB6 := Lib.hid (tr HB.out hb)
      have bA7 := srh (c' := audC a X.s (.slice pv a.ack.length qv)) bA6
      have bA8 := srh (c' := audC a X.s (.slice pv a.ack.length qv)) bA7
      have how7 := own_low (own_setRow (own_setRow how6 (Nat.lt_succ_self _) (audC a X.s (.slice pv a.ack.length qv))) (Nat.lt_succ_self _) (audC a X.s (.slice pv a.ack.length qv)))
      have HO7 := Lib.hid how7
      clear hb bF HBT HN HO HB HA how6 how7
      go_wp2_with (first | (refine sp 29 8 (stC X.s) (audC a X.s (.slice pv a.ack.length qv)) bA6 rfl rfl rfl rfl (by kernel_rfl) (by rfl) (by rfl) ?_) | (refine lb bA7 rfl rfl rfl (by kernel_rfl) ?_) | (refine sb (c' := audC a X.s (.slice pv a.ack.length qv)) bA7 rfl rfl rfl rfl (by kernel_rfl) ?_))
      rw [HS.out, ← HAU.out]
      exact bodyPost_ret (rcr rfl bA8 (by rfl) (by kernel_rfl)) rfl ⟨⟨_, rfl, HO7.out⟩, below_setRow (below_setRow HB6.out (Nat.le_refl _) _) (Nat.le_refl _) _⟩
end Go.Proofs.YtcadgecnlahkgaaGreatDoor
namespace Go.Proofs.YtcadgecnlahkgaaGreatDoor
open Go.RowKit Go.Shelf
attribute [local go_sem] Oper.semAt_some
theorem last_cases (l : List Dw.St) : l = [] ∨ ∃ m s, l.length = m + 1 ∧ l[m]? = some s ∧ Dw.lastA l = s := by
  rcases List.eq_nil_or_concat l with h | ⟨p, s, h⟩
  · exact .inl h
  · refine .inr ⟨p.length, s, ?_, ?_, ?_⟩
    · rw [h]; simp
    · rw [h]; simp
    · rw [h]; simp [Dw.lastA]
theorem alast_any (a : Dw.Aud) (now : Dw.St) (va : Value) (w : World) (hs : StsAt w va a.ack) (hl : a.ack.length ≤ 1000) :
    Calls Tryz.prog 24 #[audV a now va] w fun e w' => e = .returned (stV (Dw.lastA a.ack)) ∧ Below w.heap.size w w' := by
  obtain ⟨p, q, rfl⟩ := StsAt.shape hs
  obtain ⟨V, hV⟩ : ∃ V, (w.alloc (.cells (audC a now (.slice p a.ack.length q)) 66)).alloc (.cells #[.int .i64 0, .bool false, .bool false, .int .i64 0, .int .i64 0, .int .i64 0] 29) = V := ⟨_, rfl⟩
  obtain ⟨b1, b2, hB⟩ := allocs2 _ _ _ _ hV
  have c0 : V.cell? ⟨w.heap.size, 0, none⟩ = some (.slice p a.ack.length q) := by rw [cell_of_row _ _ 0 _ _ _ b1]; rfl
  have hsV := hs.next hB
  rcases last_cases a.ack with h | ⟨m, s, hlm, hm, hls⟩
  · have HL := Lib.hid (show Dw.lastA a.ack = Dw.st0 by rw [h]; rfl)
    have h0 : a.ack.length = 0 := by rw [h]; rfl
    rw [h0] at c0 hV ⊢
    clear hs hsV h h0 b1
    go_enter Tryz.func24, Tryz.ntmps24
    go_wp2_with (first | (refine lb b2 rfl rfl rfl (by kernel_rfl) ?_) | (refine sb (c' := stC Dw.st0) b2 rfl rfl rfl rfl (by kernel_rfl) ?_))
    rw [HL.out]
    exact bodyPost_ret (rcr rfl (srh b2) (by rfl) (by kernel_rfl)) rfl ⟨rfl, below_setRow hB (by omega) _⟩
  · have HL := Lib.hid hls
    obtain ⟨b, off, hp, hc⟩ := StsAt.get hsV hm
    subst hp
    have hm1 : m ≤ 1000 := by omega
    rw [hlm] at c0 hV ⊢
    have a1 : IntKind.i64.wrap (m : Int) = (m : Int) := IntWalk.i64_in _ (by omega)
    have a2 : wrap64 (m : Int) = (m : Int) := by clear a1; exact IntWalk.wrap64_in _ (by omega)
    have a4 : (0 : Int) ≤ (m : Int) := by clear a1 a2; omega
    have a5 : (m : Int) < (m : Int) + 1 := by clear a1 a2; omega
    have a6 : (0 : Int) < (m : Int) + 1 := by clear a1 a2; omega
    clear hs hsV hlm hm hls b1 hl hm1
    go_enter Tryz.func24, Tryz.ntmps24
    go_wp2_with (first | (refine lr (stC s) hc rfl rfl rfl (by kernel_rfl) ?_) | (refine lb (srh (c' := stC s) b2) rfl rfl rfl (by kernel_rfl) ?_) | (refine sb (c' := stC s) (srh (c' := stC s) b2) rfl rfl rfl rfl (by kernel_rfl) ?_) | (refine sb (c' := stC s) b2 rfl rfl rfl rfl (by kernel_rfl) ?_))
    rw [HL.out]
    exact bodyPost_ret (rcr rfl (srh (srh b2)) (by rfl) (by kernel_rfl)) rfl ⟨rfl, below_setRow (below_setRow hB (by omega) _) (by omega) _⟩
theorem holds_any (a : Dw.Aud) (now : Dw.St) (va : Value) (w : World) (hs : StsAt w va a.ack) (hl : a.ack.length ≤ 1000) :
    Calls Tryz.prog 22 #[audV a now va] w fun e w' => e = .returned (.bool (decide (now = Dw.saysA a))) ∧ Below w.heap.size w w' := by
  obtain ⟨V, hV⟩ : ∃ V, w.alloc (.cells (audC a now va) 66) = V := ⟨_, rfl⟩
  have b1 : V.heap[w.heap.size]? = some (.cells (audC a now va) 66) := by rw [← hV]; exact han _ _
  have hB : Below w.heap.size w V := by rw [← hV]; exact (Below.refl _ w).alloc (Nat.le_refl _) _
  have HL := Lib.hid (fun w h => alast_any a now va w h hl)
  have HS := Lib.hid (hs.next hB)
  have HQ := Lib.hid (fun (p q : Dw.St) (u v : Operand) (w : World) => st_eq u v p q w)
  obtain ⟨ack, fly, fs⟩ := a
  dsimp only at *
  have HY := Lib.hid (show Dw.saysA ⟨ack, fly, fs⟩ = if fly then fs else Dw.lastA ack from rfl)
  generalize Dw.saysA ⟨ack, fly, fs⟩ = Y at *
  generalize Dw.lastA ack = L at *
  clear hs hl
  go_enter Tryz.func22, Tryz.ntmps22
  go_wp2_with (first | (refine lb b1 rfl rfl rfl (by kernel_rfl) ?_))
  try rw [hV]
  clear hV
  refine cb (HL.out _ HS.out) fun w1 hb => ?_
  have bA := kp hb b1
  replace hB := tr hB hb
  clear hb b1 HL HS
  obtain ⟨V2, hV2⟩ : ∃ V, w1.alloc (.cells (stC L) 29) = V := ⟨_, rfl⟩
  have b3 : V2.heap[w1.heap.size]? = some (.cells (stC L) 29) := by rw [← hV2]; exact han _ _
  have hb : Below w1.heap.size w1 V2 := by rw [← hV2]; exact (Below.refl _ w1).alloc (Nat.le_refl _) _
  have z := block_lt bA
  have b1 := kp hb bA
  replace hB := tr hB hb
  have c1 : V2.cell? ⟨w.heap.size, 1, none⟩ = some (.bool fly) := by rw [cell_of_row _ _ 1 _ _ _ b1]; rfl
  have HV2 := Lib.hid hV2
  clear hb hV2 bA
  cases fly
  · go_wp2_with (first | (refine nb rfl rfl rfl rfl (by go_simp; first | done | with_reducible rfl | exact rfl) rfl rfl (by kernel_rfl) ?_; rw [HV2.out]) | (refine lp 29 8 (stC now) b1 rfl rfl rfl (by kernel_rfl) (by rfl) ?_) | (refine lb b3 rfl rfl rfl (by kernel_rfl) ?_) | (refine bno (HQ.out now L _ _ _) rfl rfl rfl rfl ?_))
    go_ret
    exact ⟨by rw [HY.out]; rfl, hB⟩
  · have b1' := (setRow_other V2 w1.heap.size w.heap.size (stC fs) (by omega)).trans b1
    have b3' := srh (c' := stC fs) b3
    have hB' := below_setRow hB (show w.heap.size ≤ w1.heap.size by omega) (stC fs)
    go_wp2_with (first | (refine nb rfl rfl rfl rfl (by go_simp; first | done | with_reducible rfl | exact rfl) rfl rfl (by kernel_rfl) ?_; rw [HV2.out]) | (refine lp 29 2 (stC fs) b1 rfl rfl rfl (by kernel_rfl) (by rfl) ?_) | (refine sb (c' := stC fs) b3 rfl rfl rfl rfl (by kernel_rfl) ?_) | (refine lp 29 8 (stC now) b1' rfl rfl rfl (by kernel_rfl) (by rfl) ?_) | (refine lb b3' rfl rfl rfl (by kernel_rfl) ?_) | (refine bno (HQ.out now fs _ _ _) rfl rfl rfl rfl ?_))
    go_ret
    exact ⟨by rw [HY.out]; rfl, hB'⟩
def IdxSaid (l : List Dw.St) (s : Dw.St) (en : Ending) : Prop := ∃ r : Int, en = .returned (.int .i64 r) ∧ decide (0 ≤ r) = decide (s ∈ l)
theorem idx22_any (l : List Dw.St) (hlen : l.length ≤ 1000) (s : Dw.St) (v : Value) (w : World) (hs : StsAt w v l) :
    Calls Tryz.prog 71 #[v, stV s] w fun en w' => IdxSaid l s en ∧ Below w.heap.size w w' := by
  obtain ⟨p, q, rfl⟩ := StsAt.shape hs
  obtain ⟨V, hV⟩ : ∃ V, w.alloc (.cells (stC s) 29) = V := ⟨_, rfl⟩
  have b1 : V.heap[w.heap.size]? = some (.cells (stC s) 29) := by rw [← hV]; exact han _ _
  have hB : Below w.heap.size w V := by rw [← hV]; exact (Below.refl _ w).alloc (Nat.le_refl _) _
  have HS := Lib.hid (hs.next hB)
  have hll : (0 : Int) ≤ (l.length : Int) := by omega
  clear hs
  go_enter Tryz.func71, Tryz.ntmps71
  go_wp2_with fail
  try rw [hV]
  clear hV
  go_loopw [8] (fun i wr => ∃ k : Nat, k ≤ l.length ∧ i = .int .i64 k ∧ s ∉ l.take k ∧ Keep V wr) (fun i _ => l.length - (intOf i).toNat)
  case atStart => exact ⟨0, Nat.zero_le _, rfl, by simp, KeepBut.refl _ _⟩
  case round =>
    obtain ⟨k, hk, rfl, hno, hkv⟩ := hrel
    by_cases hlt : k < l.length
    · have hlt' : (k : Int) < (l.length : Int) := by omega
      obtain ⟨e, hce⟩ : ∃ e, l[k]? = some e := ⟨l[k], List.getElem?_eq_getElem hlt⟩
      obtain ⟨b, off, hp, hc⟩ := StsAt.get (HS.out.next hkv.whole) hce
      subst hp
      have b1' := kpi hkv b1
      have HK := Lib.hid hkv
      have hmem : s ∈ l.take (k + 1) ↔ s = e := by
        rw [Dw.take_snoc hce, List.mem_append, List.mem_singleton]
        exact ⟨fun h => h.resolve_left hno, .inr⟩
      have hin : s = e → s ∈ l := fun h => by rw [h]; exact List.mem_of_getElem? hce
      have HM := Lib.hid hmem; have HI := Lib.hid hin
      have h0k : (0 : Int) ≤ (k : Int) := by omega
      clear hkv hce hno hmem hin
      by_cases hse : s = e
      · have HQ := Lib.hid (fun (u v : Operand) (w : World) => show _ = Result.ok (Value.bool true) w from (st_eq u v s e w).trans (by rw [decide_eq_true hse]))
        have HIN := Lib.hid (HI.out hse)
        clear hse
        go_wp2_with fail
        refine wp_pure [0, 1, 2, 3, 4, 5] 6 (by kernel_rfl) (by kernel_rfl) rfl ?_
        (apply rat; (focus (intro w' hk; (refine' rv ?_ rfl rfl (by exact exec_cells (stC s) (cells_of (kpi hk b1')) rfl rfl (by kernel_rfl)); try simp only [Act.put, List.setIfInBounds_toArray, List.set_cons_zero, List.set_cons_succ]); (iterate 3 (refine' rv ?_ rfl rfl (by go_simp; first | done | with_reducible rfl | exact rfl); try simp only [Act.put, List.setIfInBounds_toArray, List.set_cons_zero, List.set_cons_succ])); (refine' rv ?_ rfl rfl (by exact exec_cells (b := b) (off := off + k * 6) (stC e) (fun i u hi => look hk (hc i u hi)) rfl rfl (by kernel_rfl)); try simp only [Act.put, List.setIfInBounds_toArray, List.set_cons_zero, List.set_cons_succ]); (refine' rv ?_ rfl rfl (by exact exec_bin rfl rfl rfl (HQ.out _ _ w')); try simp only [Act.put, List.setIfInBounds_toArray, List.set_cons_zero, List.set_cons_succ]); (exact rn))))
        intro w9 hk9
        simp only [List.drop_succ_cons, List.drop_zero]
        go_wp2_with fail
        go_ret
        exact ⟨⟨_, rfl, by rw [decide_eq_true HIN.out]; exact decide_eq_true h0k⟩, hB.trans ((HK.out.trans hk9).whole.mono hB.size)⟩
      · have HQ := Lib.hid (fun (u v : Operand) (w : World) => show _ = Result.ok (Value.bool false) w from (st_eq u v s e w).trans (by rw [decide_eq_false hse]))
        have HNO := Lib.hid (show s ∉ l.take (k + 1) from fun h => hse (HM.out.1 h))
        clear hse
        go_wp2_with fail
        refine wp_pure [0, 1, 2, 3, 4, 5] 6 (by kernel_rfl) (by kernel_rfl) rfl ?_
        (apply rat; (focus (intro w' hk; (refine' rv ?_ rfl rfl (by exact exec_cells (stC s) (cells_of (kpi hk b1')) rfl rfl (by kernel_rfl)); try simp only [Act.put, List.setIfInBounds_toArray, List.set_cons_zero, List.set_cons_succ]); (iterate 3 (refine' rv ?_ rfl rfl (by go_simp; first | done | with_reducible rfl | exact rfl); try simp only [Act.put, List.setIfInBounds_toArray, List.set_cons_zero, List.set_cons_succ])); (refine' rv ?_ rfl rfl (by exact exec_cells (b := b) (off := off + k * 6) (stC e) (fun i u hi => look hk (hc i u hi)) rfl rfl (by kernel_rfl)); try simp only [Act.put, List.setIfInBounds_toArray, List.set_cons_zero, List.set_cons_succ]); (refine' rv ?_ rfl rfl (by exact exec_bin rfl rfl rfl (HQ.out _ _ w')); try simp only [Act.put, List.setIfInBounds_toArray, List.set_cons_zero, List.set_cons_succ]); (exact rn))))
        intro w9 hk9
        simp only [List.drop_succ_cons, List.drop_zero]
        have HK9 := Lib.hid (HK.out.trans hk9)
        clear hk9 HK hc
        go_wp2_with fail
        go_roundw
        case rel => exact ⟨k + 1, hlt, by go_num, HNO.out, HK9.out⟩
        case measure => first | done | (simp [intOf]; done) | (simp [intOf]; omega)
    · have hge : ¬ (k : Int) < (l.length : Int) := by omega
      obtain rfl : k = l.length := by omega
      rw [List.take_length] at hno
      have HNO := Lib.hid hno
      have HB := Lib.hid (hB.trans (hkv.whole.mono hB.size))
      clear hkv hno
      go_wp2_with fail
      go_ret
      exact ⟨⟨-1, rfl, by rw [decide_eq_false HNO.out]; rfl⟩, HB.out⟩
theorem cont22_any (l : List Dw.St) (hlen : l.length ≤ 1000) (s : Dw.St) (v : Value) (w : World) (hs : StsAt w v l) :
    Calls Tryz.prog 50 #[v, stV s] w fun en w' => en = .returned (.bool (decide (s ∈ l))) ∧ Below w.heap.size w w' := by
  obtain ⟨p, q, rfl⟩ := StsAt.shape hs
  obtain ⟨V, hV⟩ : ∃ V, w.alloc (.cells (stC s) 29) = V := ⟨_, rfl⟩
  have b1 : V.heap[w.heap.size]? = some (.cells (stC s) 29) := by rw [← hV]; exact han _ _
  have hB : Below w.heap.size w V := by rw [← hV]; exact (Below.refl _ w).alloc (Nat.le_refl _) _
  have HI := Lib.hid (fun w h => idx22_any l hlen s (.slice p l.length q) w h)
  have HS := Lib.hid (hs.next hB)
  clear hs
  go_enter Tryz.func50, Tryz.ntmps50
  go_wp2_with (first | (refine lb b1 rfl rfl rfl (by kernel_rfl) ?_))
  try rw [hV]
  clear hV
  refine (HI.out _ HS.out).mono ?_
  rintro en w1 ⟨⟨r, rfl, hr⟩, hb⟩
  replace hB := tr hB hb
  have HR := Lib.hid hr
  clear hb b1 hr HI HS
  go_wp2_with fail
  go_ret
  exact ⟨ret_bool HR.out, hB⟩
theorem cells_part {w : World} {b : Nat} {c : Array Value} {t : TypeId} {fr : Nat × Nat} (h : w.heap[b]? = some (.cells c t fr)) (off : Nat) (part : Array Value) (hp : (c.toList.drop off).take part.size = part.toList) (i : Nat) (u : Value) (hi : part.toList[i]? = some u) : w.cell? ⟨b, off + i, none⟩ = some u := by
  have hn : i < part.size := by simpa using (List.getElem?_eq_some_iff.1 hi).1
  rw [cell_of_row _ _ (off + i) _ _ _ h]
  rw [← hp, List.getElem?_take_of_lt hn, List.getElem?_drop] at hi
  simpa using hi
theorem known_any (a : Dw.Aud) (now s : Dw.St) (va : Value) (w : World) (hs : StsAt w va a.ack) (hl : a.ack.length ≤ 1000) :
    Calls Tryz.prog 26 #[audV a now va, stV s] w fun en w' => en = .returned (.bool (Dw.knownB a s)) ∧ Below w.heap.size w w' := by
  obtain ⟨p, q, rfl⟩ := StsAt.shape hs
  obtain ⟨V, hV⟩ : ∃ V, (w.alloc (.cells (audC a now (.slice p a.ack.length q)) 66)).alloc (.cells (stC s) 29) = V := ⟨_, rfl⟩
  obtain ⟨b2, b3, hB⟩ := allocs2 _ _ _ _ hV
  have HC := Lib.hid (fun w h => cont22_any a.ack hl s (.slice p a.ack.length q) w h)
  have HS := Lib.hid (hs.next hB)
  have HD := Lib.hid (fun w => default_any w)
  obtain ⟨ack, fly, fs⟩ := a
  dsimp only at *
  have x0 : V.cell? ⟨w.heap.size, 0, none⟩ = some (.slice p ack.length q) := by rw [cell_of_row _ _ 0 _ _ _ b2]; rfl
  have x1 : V.cell? ⟨w.heap.size, 1, none⟩ = some (.bool fly) := by rw [cell_of_row _ _ 1 _ _ _ b2]; rfl
  have HY := Lib.hid (show Dw.knownB ⟨ack, fly, fs⟩ s = (decide (s = Dw.st0) || (fly && decide (fs = s)) || decide (s ∈ ack)) from rfl)
  generalize Dw.knownB ⟨ack, fly, fs⟩ s = Y at *
  clear hs hl
  go_enter Tryz.func26, Tryz.ntmps26
  go_wp2_with fail
  try rw [hV]
  clear hV
  by_cases h0 : s = Dw.st0
  · have HQ := Lib.hid (fun (u v : Operand) (w : World) => show _ = Result.ok (Value.bool true) w from (st_eq u v s Dw.st0 w).trans (by rw [decide_eq_true h0]))
    have HF := HQ
    have HZ := Lib.hid (show Y = true by rw [HY.out, decide_eq_true h0]; rfl)
    clear h0
    refine wp_pure [0, 1, 2, 3, 4, 5, 6, 7, 8, 9, 10, 11, 12, 13, 14, 15, 16, 17, 18] 19 (by kernel_rfl) (by kernel_rfl) rfl ?_
    (apply rat; (focus (intro w' hk; obtain ⟨k0,k1⟩ := look2 hk x0 x1; repeat' (first | exact rn | ((first | refine' rv ?_ rfl rfl (by exact exec_cells (stC s) (cells_of (kpi hk b3)) rfl rfl (by kernel_rfl)) | refine' rv ?_ rfl rfl (by exact exec_cells (b := w.heap.size) (off := 2) (stC fs) (cells_part (kpi hk b2) 2 (stC fs) rfl) rfl rfl (by kernel_rfl)) | refine' rv ?_ rfl rfl (by exact exec_bin rfl rfl rfl (HQ.out _ _ _)) | refine' rv ?_ rfl rfl (by exact exec_bin rfl rfl rfl (HF.out _ _ _)) | refine' rv ?_ rfl rfl (by go_simp; first | done | with_reducible rfl | exact rfl) | refine' rc ?_ (by exact rfl) (by exact rfl) (by go_simp; first | done | (constructor <;> with_reducible rfl) | with_reducible rfl) (by first | exact HD.out w' | exact HC.out w' (RowsAt.next HS.out hk.whole)) | refine' rs ?_ rfl rfl); try simp only [Act.put, List.setIfInBounds_toArray, List.set_cons_zero, List.set_cons_succ])))))
    intro w9 hk9
    simp only [List.drop_succ_cons, List.drop_zero]
    have HB9 := Lib.hid (hB.trans (hk9.whole.mono hB.size))
    clear hk9
    go_wp2_with fail
    go_ret
    exact ⟨ret_bool HZ.out.symm, HB9.out⟩
  · have HQ := Lib.hid (fun (u v : Operand) (w : World) => show _ = Result.ok (Value.bool false) w from (st_eq u v s Dw.st0 w).trans (by rw [decide_eq_false h0]))
    have HZ0 := Lib.hid (decide_eq_false h0)
    clear h0
    cases fly
    · have HF := HQ
      have HZ := Lib.hid (show Y = decide (s ∈ ack) by rw [HY.out, HZ0.out]; simp)
      refine wp_pure [0, 1, 2, 3, 4, 5, 6, 7, 8, 9, 10, 11, 12, 13, 14, 15, 16, 17, 18] 19 (by kernel_rfl) (by kernel_rfl) rfl ?_
      (apply rat; (focus (intro w' hk; obtain ⟨k0,k1⟩ := look2 hk x0 x1; repeat' (first | exact rn | ((first | refine' rv ?_ rfl rfl (by exact exec_cells (stC s) (cells_of (kpi hk b3)) rfl rfl (by kernel_rfl)) | refine' rv ?_ rfl rfl (by exact exec_cells (b := w.heap.size) (off := 2) (stC fs) (cells_part (kpi hk b2) 2 (stC fs) rfl) rfl rfl (by kernel_rfl)) | refine' rv ?_ rfl rfl (by exact exec_bin rfl rfl rfl (HQ.out _ _ _)) | refine' rv ?_ rfl rfl (by exact exec_bin rfl rfl rfl (HF.out _ _ _)) | refine' rv ?_ rfl rfl (by go_simp; first | done | with_reducible rfl | exact rfl) | refine' rc ?_ (by exact rfl) (by exact rfl) (by go_simp; first | done | (constructor <;> with_reducible rfl) | with_reducible rfl) (by first | exact HD.out w' | exact HC.out w' (RowsAt.next HS.out hk.whole)) | refine' rs ?_ rfl rfl); try simp only [Act.put, List.setIfInBounds_toArray, List.set_cons_zero, List.set_cons_succ])))))
      intro w9 hk9
      simp only [List.drop_succ_cons, List.drop_zero]
      have HB9 := Lib.hid (hB.trans (hk9.whole.mono hB.size))
      clear hk9
      go_wp2_with fail
      go_ret
      exact ⟨ret_bool HZ.out.symm, HB9.out⟩
    · by_cases h1 : fs = s
      · have HF := Lib.hid (fun (u v : Operand) (w : World) => show _ = Result.ok (Value.bool true) w from (st_eq u v fs s w).trans (by rw [decide_eq_true h1]))
        have HZ := Lib.hid (show Y = true by rw [HY.out, decide_eq_true h1]; simp)
        clear h1
        refine wp_pure [0, 1, 2, 3, 4, 5, 6, 7, 8, 9, 10, 11, 12, 13, 14, 15, 16, 17, 18] 19 (by kernel_rfl) (by kernel_rfl) rfl ?_
        (apply rat; (focus (intro w' hk; obtain ⟨k0,k1⟩ := look2 hk x0 x1; repeat' (first | exact rn | ((first | refine' rv ?_ rfl rfl (by exact exec_cells (stC s) (cells_of (kpi hk b3)) rfl rfl (by kernel_rfl)) | refine' rv ?_ rfl rfl (by exact exec_cells (b := w.heap.size) (off := 2) (stC fs) (cells_part (kpi hk b2) 2 (stC fs) rfl) rfl rfl (by kernel_rfl)) | refine' rv ?_ rfl rfl (by exact exec_bin rfl rfl rfl (HQ.out _ _ _)) | refine' rv ?_ rfl rfl (by exact exec_bin rfl rfl rfl (HF.out _ _ _)) | refine' rv ?_ rfl rfl (by go_simp; first | done | with_reducible rfl | exact rfl) | refine' rc ?_ (by exact rfl) (by exact rfl) (by go_simp; first | done | (constructor <;> with_reducible rfl) | with_reducible rfl) (by first | exact HD.out w' | exact HC.out w' (RowsAt.next HS.out hk.whole)) | refine' rs ?_ rfl rfl); try simp only [Act.put, List.setIfInBounds_toArray, List.set_cons_zero, List.set_cons_succ])))))
        intro w9 hk9
        simp only [List.drop_succ_cons, List.drop_zero]
        have HB9 := Lib.hid (hB.trans (hk9.whole.mono hB.size))
        clear hk9
        go_wp2_with fail
        go_ret
        exact ⟨ret_bool HZ.out.symm, HB9.out⟩
      · have HF := Lib.hid (fun (u v : Operand) (w : World) => show _ = Result.ok (Value.bool false) w from (st_eq u v fs s w).trans (by rw [decide_eq_false h1]))
        have HZ := Lib.hid (show Y = decide (s ∈ ack) by rw [HY.out, HZ0.out, decide_eq_false h1]; simp)
        clear h1
        refine wp_pure [0, 1, 2, 3, 4, 5, 6, 7, 8, 9, 10, 11, 12, 13, 14, 15, 16, 17, 18] 19 (by kernel_rfl) (by kernel_rfl) rfl ?_
        (apply rat; (focus (intro w' hk; obtain ⟨k0,k1⟩ := look2 hk x0 x1; repeat' (first | exact rn | ((first | refine' rv ?_ rfl rfl (by exact exec_cells (stC s) (cells_of (kpi hk b3)) rfl rfl (by kernel_rfl)) | refine' rv ?_ rfl rfl (by exact exec_cells (b := w.heap.size) (off := 2) (stC fs) (cells_part (kpi hk b2) 2 (stC fs) rfl) rfl rfl (by kernel_rfl)) | refine' rv ?_ rfl rfl (by exact exec_bin rfl rfl rfl (HQ.out _ _ _)) | refine' rv ?_ rfl rfl (by exact exec_bin rfl rfl rfl (HF.out _ _ _)) | refine' rv ?_ rfl rfl (by go_simp; first | done | with_reducible rfl | exact rfl) | refine' rc ?_ (by exact rfl) (by exact rfl) (by go_simp; first | done | (constructor <;> with_reducible rfl) | with_reducible rfl) (by first | exact HD.out w' | exact HC.out w' (RowsAt.next HS.out hk.whole)) | refine' rs ?_ rfl rfl); try simp only [Act.put, List.setIfInBounds_toArray, List.set_cons_zero, List.set_cons_succ])))))
        intro w9 hk9
        simp only [List.drop_succ_cons, List.drop_zero]
        have HB9 := Lib.hid (hB.trans (hk9.whole.mono hB.size))
        clear hk9
        go_wp2_with fail
        go_ret
        exact ⟨ret_bool HZ.out.symm, HB9.out⟩
theorem long22_any (l : List Dw.En) (v : Value) (w : World) (hv : EnsAt w v l) :
    Calls Tryz.prog 28 #[v] w fun en w' => LongSaid l en ∧ Below w.heap.size w w' := by
  have HV := Lib.hid hv
  obtain ⟨sa, cap, rfl, -, -⟩ := id hv
  clear hv
  have hB := Below.refl w.heap.size w
  have hll : (0 : Int) ≤ (l.length : Int) := by omega
  go_enter Tryz.func28, Tryz.ntmps28
  go_wp2_with fail
  go_loopw [3] (fun i wr => ∃ k : Nat, k ≤ l.length ∧ i = .int .i64 k ∧ Below w.heap.size w wr) (fun i _ => l.length - (intOf i).toNat)
  case atStart => exact ⟨0, Nat.zero_le _, rfl, hB⟩
  case round =>
    clear hB
    obtain ⟨k, hk, rfl, hB⟩ := hrel
    by_cases hlt : k < l.length
    · have hlt' : (k : Int) < (l.length : Int) := by omega
      by_cases h70 : k < 70
      · have h70' : (k : Int) < 70 := by omega
        obtain ⟨e, hce⟩ : ∃ e, l[k]? = some e := ⟨l[k], List.getElem?_eq_getElem hlt⟩
        obtain ⟨he, bb, off, hsa, kc⟩ := EnsAt.get (HV.out.next hB) hce
        subst hsa
        have k9 : wr.cell? ⟨bb, off + k * 11 + 8 + 1, none⟩ = some (.string ⟨e.p.mask.toArray⟩) := kc 9 _ rfl
        have hs : (ByteArray.size ⟨e.p.mask.toArray⟩ : Int) = (e.p.mask.length : Int) := by simp [ByteArray.size]
        clear he hce kc
        by_cases hm : 400 < e.p.mask.length
        · have hm' : (400 : Int) < (e.p.mask.length : Int) := by omega
          go_wp2_with fail
          go_ret
          exact ⟨⟨true, rfl, fun h => by cases h⟩, hB⟩
        · have hm' : ¬ (400 : Int) < (e.p.mask.length : Int) := by omega
          go_wp2_with fail
          go_roundw
          case rel => exact ⟨k + 1, hlt, by go_num, hB⟩
          case measure => first | done | (simp [intOf]; done) | (simp [intOf]; omega)
      · have h70' : ¬ (k : Int) < 70 := by omega
        have h60 : (60 : Int) < (l.length : Int) := by omega
        go_wp2_with fail
        go_ret
        exact ⟨⟨true, rfl, fun h => by cases h⟩, hB⟩
    · have hge : ¬ (k : Int) < (l.length : Int) := by omega
      by_cases h6 : 60 < l.length
      · have h60 : (60 : Int) < (l.length : Int) := by omega
        go_wp2_with fail
        go_ret
        exact ⟨⟨true, rfl, fun h => by cases h⟩, hB⟩
      · have h60 : ¬ (60 : Int) < (l.length : Int) := by omega
        go_wp2_with fail
        go_ret
        exact ⟨⟨false, rfl, fun _ => by omega⟩, hB⟩
def TurnedSaid (l : List Dw.En) (en : Ending) : Prop := ∃ b, en = .returned (.bool b) ∧ (b = false → ∀ e ∈ l, e.ki ≠ 4)
theorem turned22_any (l : List Dw.En) (hlen : l.length ≤ 1000) (v : Value) (w : World) (hv : EnsAt w v l) :
    Calls Tryz.prog 29 #[v] w fun en w' => TurnedSaid l en ∧ Below w.heap.size w w' := by
  have HV := Lib.hid hv
  obtain ⟨sa, cap, rfl, -, -⟩ := id hv
  clear hv
  have hB := Below.refl w.heap.size w
  have hll : (0 : Int) ≤ (l.length : Int) := by omega
  go_enter Tryz.func29, Tryz.ntmps29
  go_wp2_with fail
  go_loopw [3] (fun i wr => ∃ k : Nat, k ≤ l.length ∧ i = .int .i64 k ∧ (∀ e ∈ l.take k, e.ki ≠ 4) ∧ Below w.heap.size w wr) (fun i _ => l.length - (intOf i).toNat)
  case atStart => exact ⟨0, Nat.zero_le _, rfl, by simp, hB⟩
  case round =>
    clear hB
    obtain ⟨k, hk, rfl, hno, hB⟩ := hrel
    by_cases hlt : k < l.length
    · have hlt' : (k : Int) < (l.length : Int) := by omega
      obtain ⟨e, hce⟩ : ∃ e, l[k]? = some e := ⟨l[k], List.getElem?_eq_getElem hlt⟩
      obtain ⟨he, bb, off, hsa, kc⟩ := EnsAt.get (HV.out.next hB) hce
      subst hsa
      have k0 : wr.cell? ⟨bb, off + k * 11, none⟩ = some (.int .i64 e.ki) := kc 0 _ rfl
      have HNX := Lib.hid (show e.ki ≠ 4 → ∀ x ∈ l.take (k + 1), x.ki ≠ 4 from fun h x hx => by
        rw [Dw.take_snoc hce, List.mem_append, List.mem_singleton] at hx
        rcases hx with hx | rfl
        · exact hno x hx
        · exact h)
      clear he hce kc hno
      by_cases hm : e.ki = 4
      · have q1 : (e.ki == 4) = true := by rw [hm]; rfl
        clear hm
        go_wp2_with fail
        go_ret
        exact ⟨⟨true, rfl, fun h => by cases h⟩, hB⟩
      · have q1 : (e.ki == 4) = false := by simp [hm]
        have HN4 := Lib.hid (HNX.out hm)
        clear hm
        go_wp2_with fail
        go_roundw
        case rel => exact ⟨k + 1, hlt, by go_num, HN4.out, hB⟩
        case measure => first | done | (simp [intOf]; done) | (simp [intOf]; omega)
    · have hge : ¬ (k : Int) < (l.length : Int) := by omega
      obtain rfl : k = l.length := by omega
      rw [List.take_length] at hno
      have HN := Lib.hid hno
      clear hno
      go_wp2_with fail
      go_ret
      exact ⟨⟨false, rfl, fun _ => HN.out⟩, hB⟩
end Go.Proofs.YtcadgecnlahkgaaGreatDoor
namespace Go.Proofs.YtcadgecnlahkgaaGreatDoor
open Go.ChangeShapes Go.WideShapes Go.ChangeAt Go.RowKit Go.Joins Go.WideElems
open Go.ChangeMaps (open_string shut_string)
section
variable {H : Type} {enc : TypeId × Value → H} {w : World} {base : Nat} {spare : Nat → Bool} {held : Bool} {r : Reach} {b0 : Nat} {v : Value} {d : DataW H} {p : List MemPlace}
theorem slice_cap {ts te : TypeId} (hu : Tryz.prog.underlying ts = some (.slice te)) (h : DataW.Trod enc Tryz.prog w base spare held ts v d p) : ∀ sa m c, v = .slice sa m c → m ≤ c := by
  rintro sa m c rfl
  obtain ⟨fuel, hf⟩ := h
  rcases Go.Deep.open_slice hu hf with ⟨hcs, _⟩ | ⟨a, l, c', m', n, D, Pl, hcs, _, hl, _⟩
  · simp [Value.cells] at hcs
    omega
  · simp [Value.cells] at hcs
    omega
theorem open_ensc (hv : Value.okWide Tryz.prog w r b0 22 v) (h : DataW.Trod enc Tryz.prog w base spare held 22 v d p) : ∃ l, EnsAt w v l ∧ ∀ sa m c, v = .slice sa m c → m ≤ c := by
  obtain ⟨l, hl⟩ := open_ens hv h
  exact ⟨l, hl, slice_cap Tryz.underlying22 h⟩
end
section
variable {H : Type} {enc : TypeId × Value → H} {w : World} {base : Nat} {spare : Nat → Bool} {held : Bool} {r : Reach} {b0 : Nat} {v : Value} {d : DataW H} {p : List MemPlace}
end
end Go.Proofs.YtcadgecnlahkgaaGreatDoor
