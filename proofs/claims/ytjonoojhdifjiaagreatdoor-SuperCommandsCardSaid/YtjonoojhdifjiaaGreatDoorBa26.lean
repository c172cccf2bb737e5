/- What the statement's proof stands on, part 26: RegionU, Res, Res2, Res3. -/
import Derived.Test.YtjonoojhdifjiaaGreatDoorBa22
import Derived.Test.YtjonoojhdifjiaaGreatDoorBa21
set_option linter.unusedSimpArgs false
set_option linter.unusedVariables false
set_option maxRecDepth 100000
set_option maxHeartbeats 4000000
namespace Go.Proofs.YtjonoojhdifjiaaGreatDoor.RT
open Go.RowKit
section
variable {P : Program} {ops : Array Oper} {Q : Exit → Act → World → Prop} {X : Nat → Prop} {late : Nat → Bool}
theorem PureList.rebase {w w2 : World} {N : Act → Prop} (hk : Keep w w2) : ∀ {ks : List Nat} {a : Act}, PureList P ops X late w N ks a → PureList P ops X late w2 N ks a
  | [], _, h => h
  | k :: ks, a, ⟨o, v, ho, hg, hr⟩ => by
    refine ⟨o, v, ho, ?_, PureList.rebase hk hr⟩
    unfold Gets at hg ⊢
    exact hg.imp (fun h => ⟨h.1, fun w' hk' => h.2 w' ((hk.mono fun _ _ h => h.elim).trans hk')⟩) id
theorem letter2_sound {R : Exit → Act → World → Prop} {T : Array Nat} {ks ts : List Nat} {l1 l : Nat} (ok : RegionOk ops late T (ks ++ [l1]) [l] ts) (hbl : behind T l l1 = true) {w : World} (G : Value → World → Prop)
    {F : Value → World → World → Prop} (hF : ∀ v w2 A B, F v w2 A → Keep A B → F v w2 B) (fuel : Nat) {ol1 ol : Oper} (hol1 : ops[l1]? = some ol1) (hol : ops[l]? = some ol) :
    ∀ (m : Nat) (rest : List Nat) (listed : Array Bool) (a : Act) (w1 : World), rest.length = m → Keep w w1 → Todo ops T ((ks ++ [l1]) ++ [l]) ((rest ++ [l1]) ++ [l]) listed → (∀ k ∈ rest, k ∈ ks) → pairsOk ops T (rest ++ [l1]) = true →
      PureList P ops X late w (fun a' => Region.wanted ol1 (yielded ops a'.tmps) = true ∧ SureSome P w (execOp a'.eval ol1) G ∧ ∀ v w2, Keep w w2 → G v w2 →
        (Region.wanted ol (yielded ops (a'.put ol1.dst v).tmps) = true ∧ Stores P X w2 (execOp (a'.put ol1.dst v).eval ol) (F v w2) ∧ ∀ w', F v w2 w' → wpAny P .any ops R fuel (allListed ops ((ks ++ [l1]) ++ [l])) ((a'.put ol1.dst v).put ol.dst undef) w')) rest a →
      wpAny P .any ops R (m + 1 + 1 + fuel) listed a w1 := by
  intro m
  induction m using Nat.strongRecOn with
  | _ m ih =>
    intro rest listed a w1 hm hk ht hsub hp h
    obtain ⟨hr, hall⟩ := ht.ready ok.base (by simp)
    rw [show m + 1 + 1 + fuel = (m + 1 + fuel) + 1 from by omega]
    refine ⟨fun e => absurd e hr, fun i hi => ?_⟩
    have hir := hall i hi
    have hnx := ht.next hi hir
    obtain ⟨h0, hlt, hdeps⟩ := mem_ready'.1 hi
    have hnd := ht.nodup
    have notBehind : ∀ k, k ∈ (rest ++ [l1]) ++ [l] → behind T i k = false := fun k hk' => by
      cases hb : behind T i k
      · rfl
      · have := behind_listed ok.base.table ok.base.lt ht.closed i k hlt hdeps hb
        have hkl := (ok.base.inside k (ht.sub k hk')).1
        rw [getD_any (by rw [ht.size]; exact hkl) false true, ht.iff k hkl] at this
        have hc : ((rest ++ [l1]) ++ [l]).contains k = true := by simpa using hk'
        rw [hc] at this; simp at this
    have hnd1 := (List.nodup_append.1 hnd).1
    have hlr : l ∉ rest ++ [l1] := fun hl => by
      have := (List.nodup_append.1 hnd).2.2 l hl l (by simp); exact this rfl
    have hlr1 : l1 ∉ rest := fun hl => by
      have := (List.nodup_append.1 hnd1).2.2 l1 hl l1 (by simp); exact this rfl
    have hil : i ≠ l := by
      rintro rfl
      rw [notBehind l1 (by simp)] at hbl
      cases hbl
    by_cases hi1 : i = l1
    · subst hi1
      have hap : ∀ k ∈ rest, apartAt ops i k = true := fun k hk' => (pairsOk_spec (l2 := []) hp k hk').resolve_right fun hb => by rw [notBehind k (by simp [hk'])] at hb; cases hb
      have hp' : pairsOk ops T rest = true := by have := pairsOk_erase (i := i) hp; rwa [List.erase_append_right _ hlr1, show [i].erase i = [] from by simp, List.append_nil] at this
      rw [List.erase_append_left _ (by simp), List.erase_append_right _ hlr1, show [i].erase i = [] from by simp, List.append_nil] at hnx
      obtain ⟨a', ⟨hw, hs, _⟩, he, hw'⟩ := PureList.seen ok.base.sel hol1 hap h
      unfold wpOp
      simp only [hol1]
      rw [if_pos (by rw [← hw']; exact hw)]
      rw [he] at hs
      refine .inl ((hs w1 hk).wp fun v w'' hk'' hG'' => ?_)
      have hkw := hk.trans hk''
      refine letter_sound (X := X) ok (w := w'') (F := F v w'') (fun A B hf hk => hF v w'' A B hf hk) fuel hol m rest _ _ _ hm (KeepBut.refl _ _) hnx (fun k hk' => by simp [hsub k hk']) hp' ?_
      refine PureList.mono ?_ (PureList.putIn ok.base.sel hol1 v hap (PureList.rebase hkw h))
      rintro a'' ⟨a', ⟨_, _, hN⟩, rfl⟩
      exact hN v w'' hkw hG''
    · have hir' : i ∈ rest := by simpa [hil, hi1] using hir
      obtain ⟨r1, r2, rfl⟩ := List.append_of_mem hir'
      have hnd2 := (List.nodup_append.1 hnd1).1
      rw [List.erase_append_left _ (by simp), List.erase_append_left _ hir', erase_mid hnd2] at hnx
      have hp' : pairsOk ops T ((r1 ++ r2) ++ [l1]) = true := by have := pairsOk_erase (i := i) hp; rwa [List.erase_append_left _ hir', erase_mid hnd2] at this
      have hap : ∀ k ∈ r1, apartAt ops i k = true := fun k hk' => (pairsOk_spec (l2 := r2 ++ [l1]) (by simpa using hp) k hk').resolve_right fun hb => by rw [notBehind k (by simp [hk'])] at hb; cases hb
      obtain ⟨o, v, ho, hg, hrest⟩ := PureList.first ok.base.sel hap h
      have hlen : (r1 ++ r2).length + 1 = m := by simp at hm ⊢; omega
      have hsub' : ∀ k ∈ r1 ++ r2, k ∈ ks := fun k hk' => hsub k (by simp at hk' ⊢; exact hk'.imp id .inr)
      rw [show m + 1 + fuel = (r1 ++ r2).length + 1 + 1 + fuel from by omega]
      unfold wpOp
      simp only [ho]
      rcases hg with ⟨hw, hs⟩ | ⟨hw, rfl⟩
      · rw [if_pos hw]
        exact .inl ((hs w1 (hk.mono fun _ _ h => h.elim)).wp fun w'' hk'' => ih _ (by omega) _ _ _ _ rfl (hk.trans hk'') hnx hsub' hp' hrest)
      · rw [if_neg (by simp [hw])]
        exact ih _ (by omega) _ _ _ _ rfl hk hnx hsub' hp' hrest
theorem Stores.mono {X X' : Nat → Prop} {w : World} {s : Sem Next} {F F' : World → Prop} (hX : ∀ k, X k → X' k) (hF : ∀ w', F w' → F' w') (h : Stores P X w s F) : Stores P X' w s F' := fun w' hk => by
  obtain ⟨w'', h1, h2, h3⟩ := h w' hk
  exact ⟨w'', h1, h2.mono (fun _ _ h => hX _ h), hF _ h3⟩
theorem wp_letter2 {R : Exit → Act → World → Prop} {id : Nat} {a : Act} {w : World} (X : Nat → Prop) (late : Nat → Bool) (ks : List Nat) (l1 l k : Nat) (d1 d : Option Tmp) (G : Value → World → Prop) (F : Value → World → World → Prop) {ol1 ol : Oper} (hol1 : ops[l1]? = some ol1) (hd1 : ol1.dst = d1) (hol : ops[l]? = some ol) (hd : ol.dst = d)
    (hm : P.follows .mixedOrders = true) (hok : regionOk ops late (Region.before ops) (ks ++ [l1]) [l] (List.range' k (ops.size - k)) = true) (hbl : behind (Region.before ops) l l1 = true) (hsz : ops.size = ks.length + 1 + 1 + (ops.size - k))
    (hF : ∀ v w2 A B, F v w2 A → Keep A B → F v w2 B)
    (h : PureList P ops X late w (fun a' => Region.wanted ol1 (yielded ops a'.tmps) = true ∧ SureSome P w (execOp a'.eval ol1) G ∧ ∀ v w2, Keep w w2 → G v w2 →
        (Region.wanted ol (yielded ops (a'.put d1 v).tmps) = true ∧ Stores P X w2 (execOp (a'.put d1 v).eval ol) (F v w2) ∧ ∀ w', F v w2 w' → wpList P ops R (ops.toList.drop k) ((a'.put d1 v).put d undef) w')) ks a) : (Code.region id ops true).wp P R a w := by
  subst hd1 hd
  have ok := regionOk_spec hok
  refine wp_region_any hm ?_
  rw [hsz]
  have st := Todo.start ok.base
  refine letter2_sound (X := X) (late := late) (w := w) ok hbl G hF (ops.size - k) hol1 hol ks.length ks _ a _ rfl ⟨rfl, rfl, rfl, Nat.le_refl _, fun _ _ _ => rfl⟩ (by rw [hsz] at st; exact st) (fun _ h => h) ok.base.pairs ?_
  refine PureList.mono (fun a' ⟨hw, hs, hN⟩ => ⟨hw, hs, fun v w2 hk hg => ?_⟩) h
  obtain ⟨h1, h2, h3⟩ := hN v w2 hk hg
  exact ⟨h1, h2, fun w' hf => by
    have := tail_sound ok.base.tail ⟨ops.toList.drop k, range_drop k, h3 w' hf⟩
    rw [List.length_range'] at this
    exact this⟩
end
end Go.Proofs.YtjonoojhdifjiaaGreatDoor.RT
namespace Go.Proofs.YtjonoojhdifjiaaGreatDoor
open Go.RowKit Go.Shelf
attribute [local go_sem] Oper.semAt_some
theorem rmode_any (m : Int) (w : World) :
    Calls Tryz.prog 128 #[.int .i64 m] w fun e w' => e = .returned (.bool (decide (0 ≤ m ∧ m ≤ 5))) ∧ Below w.heap.size w w' := by
  by_cases h1 : 0 ≤ m
  · by_cases h2 : m ≤ 5
    · rw [decide_eq_true ⟨h1, h2⟩]
      go_enter Tryz.func128, Tryz.ntmps128
      go_wp2_with fail
      go_ret
      exact ⟨rfl, Below.refl _ _⟩
    · rw [decide_eq_false (fun h => h2 h.2)]
      go_enter Tryz.func128, Tryz.ntmps128
      go_wp2_with fail
      go_ret
      exact ⟨rfl, Below.refl _ _⟩
  · rw [decide_eq_false (fun h => h1 h.1)]
    go_enter Tryz.func128, Tryz.ntmps128
    go_wp2_with fail
    go_ret
    exact ⟨rfl, Below.refl _ _⟩
theorem rneeds_any (m : Int) (w : World) :
    Calls Tryz.prog 61 #[.int .i64 m] w fun e w' => e = .returned (.int .i64 (Dw.needsI m)) ∧ Below w.heap.size w w' := by
  have hn : ∀ m, Dw.needsI m = if m = 1 ∨ m = 5 then 1 else if m = 2 ∨ m = 4 then 2 else if m = 3 then 3 else 0 := fun _ => rfl
  have HN := Lib.hid hn
  clear hn
  go_enter Tryz.func61, Tryz.ntmps61
  go_wp2_with fail
  all_goals
    go_ret
    refine ⟨?_, Below.refl _ _⟩
    rw [HN.out]
    first | rfl | exact ret_int (by simp_all) | exact ret_int (by split <;> omega)
theorem rhome_any (m : Int) (w : World) :
    Calls Tryz.prog 90 #[.int .i64 m] w fun e w' => e = .returned (.bool (Dw.homeB m)) ∧ Below w.heap.size w w' := by
  by_cases h1 : m = 3
  · subst h1
    go_enter Tryz.func90, Tryz.ntmps90
    go_wp2_with fail
    go_ret
    exact ⟨rfl, Below.refl _ _⟩
  · by_cases h2 : m = 4
    · subst h2
      go_enter Tryz.func90, Tryz.ntmps90
      go_wp2_with fail
      go_ret
      exact ⟨rfl, Below.refl _ _⟩
    · have HN := Lib.hid (show Dw.homeB m = false from by unfold Dw.homeB; rw [decide_eq_false h1, decide_eq_false h2]; rfl)
      have h3 : (m == 3) = false := by simpa using h1
      have h4 : (m == 4) = false := by simpa using h2
      go_enter Tryz.func90, Tryz.ntmps90
      go_wp2_with fail
      go_ret
      exact ⟨by rw [HN.out]; rfl, Below.refl _ _⟩
theorem rfly_any (m : Int) (w : World) :
    Calls Tryz.prog 89 #[.int .i64 m] w fun e w' => e = .returned (.bool (Dw.flyB m)) ∧ Below w.heap.size w w' := by
  by_cases h : 0 ≤ m ∧ m ≤ 5
  · have HF := Lib.hid (show Dw.flyB m = !decide (m = 0) from by unfold Dw.flyB; rw [decide_eq_true h, Bool.true_and])
    have HM := Lib.hid (fun w => rmode_any m w)
    rw [decide_eq_true h] at HM
    clear h
    go_enter Tryz.func89, Tryz.ntmps89
    go_wp2_with fail
    refine cb (HM.out _) fun w1 hb => ?_
    go_wp2_with fail
    go_ret
    refine ⟨?_, hb⟩
    rw [HF.out]
    first | rfl | exact ret_bool (by simp) | exact ret_bool (by rw [Bool.eq_iff_iff]; simp)
  · have HF := Lib.hid (show Dw.flyB m = false from by unfold Dw.flyB; rw [decide_eq_false h, Bool.false_and])
    have HM := Lib.hid (fun w => rmode_any m w)
    rw [decide_eq_false h] at HM
    clear h
    go_enter Tryz.func89, Tryz.ntmps89
    go_wp2_with fail
    refine cb (HM.out _) fun w1 hb => ?_
    go_wp2_with fail
    go_ret
    refine ⟨?_, hb⟩
    rw [HF.out]
    rfl
theorem and1 (k : Int) (h : 0 ≤ k ∧ k ≤ 15) : bits .and .i64 k 1 = k % 2 := by
  rcases ones_cases k h with rfl | rfl | rfl | rfl | rfl | rfl | rfl | rfl | rfl | rfl | rfl | rfl | rfl | rfl | rfl | rfl <;> decide +kernel
def soundUp (k : Int) : Nat → Int
  | 0 => 0
  | 1 => (if k % 2 = 0 then 1 else 0)
  | 2 => (if k % 2 = 0 then 1 else 0) + (if k / 2 % 2 = 0 then 1 else 0)
  | 3 => (if k % 2 = 0 then 1 else 0) + (if k / 2 % 2 = 0 then 1 else 0) + (if k / 4 % 2 = 0 then 1 else 0)
  | _ => Dw.soundN k
theorem sup_all : ∀ (k : Fin 16) (j : Fin 4), (((k.val : Nat) : Int) / 2 ^ j.val % 2 = 0 → wrap64 (soundUp ((k.val : Nat) : Int) j.val + 1) = soundUp ((k.val : Nat) : Int) (j.val + 1)) ∧ (((k.val : Nat) : Int) / 2 ^ j.val % 2 ≠ 0 → soundUp ((k.val : Nat) : Int) j.val = soundUp ((k.val : Nat) : Int) (j.val + 1)) := by decide +kernel
theorem sup_hit (k : Int) (h : 0 ≤ k ∧ k ≤ 15) (j : Nat) (hj : j < 4) (hz : k / 2 ^ j % 2 = 0) : wrap64 (soundUp k j + 1) = soundUp k (j + 1) := by
  have := (sup_all ⟨k.toNat, by omega⟩ ⟨j, hj⟩).1
  rw [show ((k.toNat : Nat) : Int) = k from by omega] at this
  exact this hz
theorem sup_miss (k : Int) (h : 0 ≤ k ∧ k ≤ 15) (j : Nat) (hj : j < 4) (hz : ¬ k / 2 ^ j % 2 = 0) : soundUp k j = soundUp k (j + 1) := by
  have := (sup_all ⟨k.toNat, by omega⟩ ⟨j, hj⟩).2
  rw [show ((k.toNat : Nat) : Int) = k from by omega] at this
  exact this hz
theorem rsens_any (s : Dw.St) (h : 0 ≤ s.iso ∧ s.iso ≤ 15) (w : World) :
    Calls Tryz.prog 59 #[stV s] w fun e w' => e = .returned (.int .i64 (Dw.soundN s.iso)) ∧ Below w.heap.size w w' := by
  obtain ⟨mo, ar, ho, la, lo, k⟩ := s
  have hB0 := (Below.refl w.heap.size w).alloc (Nat.le_refl _) (.cells (stC ⟨mo, ar, ho, la, lo, k⟩) 30)
  have hC0 := han w (.cells (stC ⟨mo, ar, ho, la, lo, k⟩) 30)
  obtain ⟨c0, c1, c2, c3, c4, c5⟩ := cells6 hC0
  have h' : 0 ≤ k ∧ k ≤ 15 := h
  have HH := Lib.hid h'
  clear h h' hC0
  go_enter Tryz.func59, Tryz.ntmps59
  go_wp2_with fail
  generalize w.alloc _ = W at *
  go_loopw [3, 4] (fun n i wr => ∃ j : Nat, j ≤ 4 ∧ i = .int .i64 j ∧ n = .int .i64 (soundUp k j) ∧ wr = W) (fun _ i _ => 4 - (intOf i).toNat)
  case atStart => exact ⟨0, Nat.zero_le _, rfl, rfl, rfl⟩
  case round =>
    obtain ⟨j, hj, rfl, rfl, rfl⟩ := hrel
    have h' := HH.out
    rcases (by omega : j = 0 ∨ j = 1 ∨ j = 2 ∨ j = 3 ∨ j = 4) with rfl | rfl | rfl | rfl | rfl
    · have hb1 : bits .and .i64 (k) 1 = k % 2 := and1 _ (by omega)
      by_cases hz : k % 2 = 0
      · rw [hz] at hb1
        go_wp2_with fail
        exact ⟨⟨1, by decide, rfl, int_val (sup_hit k HH.out 0 (by decide) (by show k / 1 % 2 = 0; omega)), trivial⟩, by simp [intOf]⟩
      · have hz1 : k % 2 = 1 := by omega
        rw [hz1] at hb1
        go_wp2_with fail
        exact ⟨⟨1, by decide, rfl, int_val (sup_miss k HH.out 0 (by decide) (by show ¬ k / 1 % 2 = 0; omega)), trivial⟩, by simp [intOf]⟩
    · have hb1 : bits .and .i64 (k / 2) 1 = k / 2 % 2 := and1 _ (by omega)
      by_cases hz : k / 2 % 2 = 0
      · rw [hz] at hb1
        go_wp2_with fail
        exact ⟨⟨2, by decide, rfl, int_val (sup_hit k HH.out 1 (by decide) (by show k / 2 % 2 = 0; omega)), trivial⟩, by simp [intOf]⟩
      · have hz1 : k / 2 % 2 = 1 := by omega
        rw [hz1] at hb1
        go_wp2_with fail
        exact ⟨⟨2, by decide, rfl, int_val (sup_miss k HH.out 1 (by decide) (by show ¬ k / 2 % 2 = 0; omega)), trivial⟩, by simp [intOf]⟩
    · have hb1 : bits .and .i64 (k / 4) 1 = k / 4 % 2 := and1 _ (by omega)
      by_cases hz : k / 4 % 2 = 0
      · rw [hz] at hb1
        go_wp2_with fail
        exact ⟨⟨3, by decide, rfl, int_val (sup_hit k HH.out 2 (by decide) (by show k / 4 % 2 = 0; omega)), trivial⟩, by simp [intOf]⟩
      · have hz1 : k / 4 % 2 = 1 := by omega
        rw [hz1] at hb1
        go_wp2_with fail
        exact ⟨⟨3, by decide, rfl, int_val (sup_miss k HH.out 2 (by decide) (by show ¬ k / 4 % 2 = 0; omega)), trivial⟩, by simp [intOf]⟩
    · have hb1 : bits .and .i64 (k / 8) 1 = k / 8 % 2 := and1 _ (by omega)
      by_cases hz : k / 8 % 2 = 0
      · rw [hz] at hb1
        go_wp2_with fail
        exact ⟨⟨4, by decide, rfl, int_val (sup_hit k HH.out 3 (by decide) (by show k / 8 % 2 = 0; omega)), trivial⟩, by simp [intOf]⟩
      · have hz1 : k / 8 % 2 = 1 := by omega
        rw [hz1] at hb1
        go_wp2_with fail
        exact ⟨⟨4, by decide, rfl, int_val (sup_miss k HH.out 3 (by decide) (by show ¬ k / 8 % 2 = 0; omega)), trivial⟩, by simp [intOf]⟩
    · go_wp2_with fail
      go_ret
      exact ⟨rfl, hB0⟩
theorem safe_any (s : Dw.St) (h : 0 ≤ s.iso ∧ s.iso ≤ 15) (w : World) :
    Calls Tryz.prog 83 #[stV s] w fun e w' => e = .returned (.int .i64 (Dw.safeI s)) ∧ Below w.heap.size w w' := by
  have hB := (Below.refl w.heap.size w).alloc (Nat.le_refl _) (.cells (stC s) 27)
  have hC0 := han w (.cells (stC s) 27)
  have HS := Lib.hid (fun w => sound_any s h w)
  have HN := Lib.hid (fun w => needs_any s.mo w)
  have HF := Lib.hid (fun w => fly_any s.mo w)
  have HH := Lib.hid (fun w => home_any s.mo w)
  have H2 := Lib.hid (fun w => needs_any 2 w)
  rw [show Dw.needsI 2 = 2 from rfl] at H2
  have HR := Lib.hid (show Dw.safeI s = if Dw.flyB s.mo && (s.ho || !Dw.homeB s.mo) && decide (Dw.needsI s.mo ≤ Dw.soundN s.iso) then s.mo else if 2 ≤ Dw.soundN s.iso then 2 else 5 from rfl)
  generalize Dw.safeI s = R at *
  generalize Dw.needsI s.mo = nM at *
  generalize Dw.soundN s.iso = nS at *
  generalize Dw.flyB s.mo = bF at *
  generalize Dw.homeB s.mo = bH at *
  obtain ⟨mo, ar, ho, la, lo, iso⟩ := s
  obtain ⟨c0, c1, c2, c3, c4, c5⟩ := cells6 hC0
  have HC := Lib.hid hC0
  clear hC0 h
  go_enter Tryz.func83, Tryz.ntmps83
  go_wp2_with (first | (refine lb HC.out rfl rfl rfl (by kernel_rfl) ?_))
  go_wp2_with fail
  refine cb (HS.out _) fun w1 hb => ?_
  have hC := kp hb HC.out
  replace hB := tr hB hb
  clear hb HC c0 c1 c2 c3 c4 c5
  obtain ⟨c0, c1, c2, c3, c4, c5⟩ := cells6 hC
  have HC := Lib.hid hC
  clear hC
  go_wp2_with fail
  refine cb (HF.out _) fun w2 hb => ?_
  have hC := kp hb HC.out
  replace hB := tr hB hb
  clear hb HC c0 c1 c2 c3 c4 c5
  obtain ⟨c0, c1, c2, c3, c4, c5⟩ := cells6 hC
  have HC := Lib.hid hC
  clear hC
  cases bF
  · go_wp2_with fail
    refine cb (H2.out _) fun w3 hb => ?_
    have hC := kp hb HC.out
    replace hB := tr hB hb
    clear hb HC c0 c1 c2 c3 c4 c5
    obtain ⟨c0, c1, c2, c3, c4, c5⟩ := cells6 hC
    have HC := Lib.hid hC
    clear hC
    by_cases h2 : 2 ≤ nS
    · have h3 : ¬ nS < 2 := by omega
      go_wp2_with fail
      go_ret
      exact ⟨ret_int (by rw [HR.out]; first | (simp [*]; done) | (split <;> rename_i q <;> simp at q <;> (try split) <;> omega)), hB⟩
    · have h3 : nS < 2 := by omega
      go_wp2_with fail
      go_ret
      exact ⟨ret_int (by rw [HR.out]; first | (simp [*]; done) | (split <;> rename_i q <;> simp at q <;> (try split) <;> omega)), hB⟩
  · go_wp2_with fail
    refine cb (HN.out _) fun w3 hb => ?_
    have hC := kp hb HC.out
    replace hB := tr hB hb
    clear hb HC c0 c1 c2 c3 c4 c5
    obtain ⟨c0, c1, c2, c3, c4, c5⟩ := cells6 hC
    have HC := Lib.hid hC
    clear hC
    by_cases hn : nM ≤ nS
    · cases ho
      · go_wp2_with fail
        refine cb (HH.out _) fun w4 hb => ?_
        have hC := kp hb HC.out
        replace hB := tr hB hb
        clear hb HC c0 c1 c2 c3 c4 c5
        obtain ⟨c0, c1, c2, c3, c4, c5⟩ := cells6 hC
        have HC := Lib.hid hC
        clear hC
        cases bH
        · go_wp2_with fail
          go_ret
          exact ⟨ret_int (by rw [HR.out]; first | (simp [*]; done) | (split <;> rename_i q <;> simp at q <;> (try split) <;> omega)), hB⟩
        · go_wp2_with fail
          refine cb (H2.out _) fun w5 hb => ?_
          have hC := kp hb HC.out
          replace hB := tr hB hb
          clear hb HC c0 c1 c2 c3 c4 c5
          obtain ⟨c0, c1, c2, c3, c4, c5⟩ := cells6 hC
          have HC := Lib.hid hC
          clear hC
          by_cases h2 : 2 ≤ nS
          · have h3 : ¬ nS < 2 := by omega
            go_wp2_with fail
            go_ret
            exact ⟨ret_int (by rw [HR.out]; first | (simp [*]; done) | (split <;> rename_i q <;> simp at q <;> (try split) <;> omega)), hB⟩
          · have h3 : nS < 2 := by omega
            go_wp2_with fail
            go_ret
            exact ⟨ret_int (by rw [HR.out]; first | (simp [*]; done) | (split <;> rename_i q <;> simp at q <;> (try split) <;> omega)), hB⟩
      · go_wp2_with fail
        go_ret
        exact ⟨ret_int (by rw [HR.out]; first | (simp [*]; done) | (split <;> rename_i q <;> simp at q <;> (try split) <;> omega)), hB⟩
    · go_wp2_with fail
      refine cb (H2.out _) fun w5 hb => ?_
      have hC := kp hb HC.out
      replace hB := tr hB hb
      clear hb HC c0 c1 c2 c3 c4 c5
      obtain ⟨c0, c1, c2, c3, c4, c5⟩ := cells6 hC
      have HC := Lib.hid hC
      clear hC
      by_cases h2 : 2 ≤ nS
      · have h3 : ¬ nS < 2 := by omega
        go_wp2_with fail
        go_ret
        exact ⟨ret_int (by rw [HR.out]; first | (simp [*]; done) | (split <;> rename_i q <;> simp at q <;> (try split) <;> omega)), hB⟩
      · have h3 : nS < 2 := by omega
        go_wp2_with fail
        go_ret
        exact ⟨ret_int (by rw [HR.out]; first | (simp [*]; done) | (split <;> rename_i q <;> simp at q <;> (try split) <;> omega)), hB⟩
theorem rsafe_any (s : Dw.St) (h : 0 ≤ s.iso ∧ s.iso ≤ 15) (w : World) :
    Calls Tryz.prog 57 #[stV s] w fun e w' => e = .returned (.int .i64 (Dw.safeI s)) ∧ Below w.heap.size w w' := by
  have hB := (Below.refl w.heap.size w).alloc (Nat.le_refl _) (.cells (stC s) 30)
  have hC0 := han w (.cells (stC s) 30)
  have HS := Lib.hid (fun w => rsens_any s h w)
  have HN := Lib.hid (fun w => rneeds_any s.mo w)
  have HF := Lib.hid (fun w => rfly_any s.mo w)
  have HH := Lib.hid (fun w => rhome_any s.mo w)
  have HR := Lib.hid (show Dw.safeI s = if Dw.flyB s.mo && (s.ho || !Dw.homeB s.mo) && decide (Dw.needsI s.mo ≤ Dw.soundN s.iso) then s.mo else if 2 ≤ Dw.soundN s.iso then 2 else 5 from rfl)
  generalize Dw.safeI s = R at *
  generalize Dw.needsI s.mo = nM at *
  generalize Dw.soundN s.iso = nS at *
  generalize Dw.flyB s.mo = bF at *
  generalize Dw.homeB s.mo = bH at *
  obtain ⟨mo, ar, ho, la, lo, iso⟩ := s
  obtain ⟨c0, c1, c2, c3, c4, c5⟩ := cells6 hC0
  have HC := Lib.hid hC0
  clear hC0 h
  go_enter Tryz.func57, Tryz.ntmps57
  go_wp2_with (first | (refine lb HC.out rfl rfl rfl (by kernel_rfl) ?_))
  go_wp2_with fail
  refine cb (HS.out _) fun w1 hb => ?_
  have hC := kp hb HC.out
  replace hB := tr hB hb
  clear hb HC c0 c1 c2 c3 c4 c5
  obtain ⟨c0, c1, c2, c3, c4, c5⟩ := cells6 hC
  have HC := Lib.hid hC
  clear hC
  by_cases h2 : 2 ≤ nS
  all_goals
    go_wp2_with fail
    refine cb (HF.out _) fun w2 hb => ?_
    have hC := kp hb HC.out
    replace hB := tr hB hb
    clear hb HC c0 c1 c2 c3 c4 c5
    obtain ⟨c0, c1, c2, c3, c4, c5⟩ := cells6 hC
    have HC := Lib.hid hC
    clear hC
    cases bF
    · go_wp2_with fail
      go_ret
      exact ⟨ret_int (by rw [HR.out]; first | (simp [*]; done) | (split <;> rename_i q <;> simp at q <;> (try split) <;> omega)), hB⟩
    · cases ho
      · go_wp2_with fail
        refine cb (HH.out _) fun w4 hb => ?_
        have hC := kp hb HC.out
        replace hB := tr hB hb
        clear hb HC c0 c1 c2 c3 c4 c5
        obtain ⟨c0, c1, c2, c3, c4, c5⟩ := cells6 hC
        have HC := Lib.hid hC
        clear hC
        cases bH
        · go_wp2_with fail
          refine cb (HN.out _) fun w3 hb => ?_
          have hC := kp hb HC.out
          replace hB := tr hB hb
          clear hb HC c0 c1 c2 c3 c4 c5
          obtain ⟨c0, c1, c2, c3, c4, c5⟩ := cells6 hC
          have HC := Lib.hid hC
          clear hC
          by_cases hn : nM ≤ nS
          · go_wp2_with fail
            go_ret
            exact ⟨ret_int (by rw [HR.out]; first | (simp [*]; done) | (split <;> rename_i q <;> simp at q <;> (try split) <;> omega)), hB⟩
          · go_wp2_with fail
            go_ret
            exact ⟨ret_int (by rw [HR.out]; first | (simp [*]; done) | (split <;> rename_i q <;> simp at q <;> (try split) <;> omega)), hB⟩
        · go_wp2_with fail
          go_ret
          exact ⟨ret_int (by rw [HR.out]; first | (simp [*]; done) | (split <;> rename_i q <;> simp at q <;> (try split) <;> omega)), hB⟩
      · go_wp2_with fail
        refine cb (HN.out _) fun w3 hb => ?_
        have hC := kp hb HC.out
        replace hB := tr hB hb
        clear hb HC c0 c1 c2 c3 c4 c5
        obtain ⟨c0, c1, c2, c3, c4, c5⟩ := cells6 hC
        have HC := Lib.hid hC
        clear hC
        by_cases hn : nM ≤ nS
        · go_wp2_with fail
          go_ret
          exact ⟨ret_int (by rw [HR.out]; first | (simp [*]; done) | (split <;> rename_i q <;> simp at q <;> (try split) <;> omega)), hB⟩
        · go_wp2_with fail
          go_ret
          exact ⟨ret_int (by rw [HR.out]; first | (simp [*]; done) | (split <;> rename_i q <;> simp at q <;> (try split) <;> omega)), hB⟩
abbrev Z6 : Array Value := #[.int .i64 0, .bool false, .bool false, .int .i64 0, .int .i64 0, .int .i64 0]
theorem resolve_any (s : Dw.St) (h : 0 ≤ s.iso ∧ s.iso ≤ 15) (v : Int) (w : World) :
    Calls Tryz.prog 53 #[stV s, .int .i64 v] w fun e w' => e = .returned (stV (Dw.resolveS s v)) ∧ Below w.heap.size w w' := by
  have HS := Lib.hid (fun w => safe_any s h w)
  obtain ⟨V, hV⟩ : ∃ V, (w.alloc (.cells (stC s) 27)).alloc (.cells Z6 27) = V := ⟨_, rfl⟩
  have b0 : V.heap[w.heap.size]? = some (.cells (stC s) 27) := by rw [← hV]; exact heap_alloc2_old _ _ _
  have b1 : V.heap[w.heap.size + 1]? = some (.cells Z6 27) := by rw [← hV]; exact heap_alloc2_new _ _ _
  have hB : Below w.heap.size w V := by rw [← hV]; exact ((Below.refl _ w).alloc (Nat.le_refl _) _).alloc (by simp) _
  by_cases h2 : v = 2
  · subst h2
    go_enter Tryz.func53, Tryz.ntmps53
    go_wp2_with (first | (refine lb b0 rfl rfl rfl (by kernel_rfl) ?_) | (refine sb b0 rfl rfl rfl rfl (by kernel_rfl) ?_))
    refine cb (HS.out _) fun w1 hb => ?_
    replace b0 := kp hb b0
    replace b1 := kp hb b1
    replace hB := tr hB hb
    clear hb hV
    have q0 := heap_setCell_same w1 w.heap.size 1 _ _ (.bool true) b0
    change _ = some (Obj.cells (stC { s with ar := true }) _ _) at q0
    have r0 := (heap_setCell_other w1 ⟨w.heap.size, 1, none⟩ (w.heap.size + 1) (.bool true) (by simp)).trans b1
    have hB0 := hB.setCell (p := ⟨w.heap.size, 1, none⟩) (by simp) (.bool true)
    have q1 := heap_setCell_same _ w.heap.size 0 _ _ (.int .i64 (Dw.safeI s)) q0
    change _ = some (Obj.cells (stC { s with mo := Dw.safeI s, ar := true }) _ _) at q1
    have r1 := (heap_setCell_other _ ⟨w.heap.size, 0, none⟩ (w.heap.size + 1) (.int .i64 (Dw.safeI s)) (by simp)).trans r0
    have hB1 := hB0.setCell (p := ⟨w.heap.size, 0, none⟩) (by simp) (.int .i64 (Dw.safeI s))
    obtain ⟨W2, hW2⟩ : ∃ W2, (w1.setCell ⟨w.heap.size, 1, none⟩ (.bool true)).setCell ⟨w.heap.size, 0, none⟩ (.int .i64 (Dw.safeI s)) = W2 := ⟨_, rfl⟩
    rw [hW2] at q1 r1 hB1
    obtain ⟨c0, c1, -⟩ := cells6 b0
    obtain ⟨d0, d1, -⟩ := cells6 q0
    have z0 := frozen0 b0 1
    have z1 := frozen0 q0 0
    go_wp2_with (first | (refine lb q1 rfl rfl rfl (by kernel_rfl) ?_) | (refine sb q1 rfl rfl rfl rfl (by kernel_rfl) ?_) | (refine lb r1 rfl rfl rfl (by kernel_rfl) ?_) | (refine sb r1 rfl rfl rfl rfl (by kernel_rfl) ?_))
    exact bodyPost_ret (rcr rfl (srh r1) (by rfl) (by kernel_rfl)) rfl ⟨rfl, below_setRow hB1 (by omega) _⟩
  · by_cases h1 : v = 1
    · subst h1
      have q0 := heap_setCell_same V w.heap.size 1 _ _ (.bool false) b0
      change _ = some (Obj.cells (stC { s with ar := false }) _ _) at q0
      have r0 := (heap_setCell_other V ⟨w.heap.size, 1, none⟩ (w.heap.size + 1) (.bool false) (by simp)).trans b1
      have hB0 := hB.setCell (p := ⟨w.heap.size, 1, none⟩) (by simp) (.bool false)
      have q1 := heap_setCell_same _ w.heap.size 0 _ _ (.int .i64 0) q0
      change _ = some (Obj.cells (stC { s with mo := 0, ar := false }) _ _) at q1
      have r1 := (heap_setCell_other _ ⟨w.heap.size, 0, none⟩ (w.heap.size + 1) (.int .i64 0) (by simp)).trans r0
      have hB1 := hB0.setCell (p := ⟨w.heap.size, 0, none⟩) (by simp) (.int .i64 0)
      obtain ⟨W2, hW2⟩ : ∃ W2, (V.setCell ⟨w.heap.size, 1, none⟩ (.bool false)).setCell ⟨w.heap.size, 0, none⟩ (.int .i64 0) = W2 := ⟨_, rfl⟩
      rw [hW2] at q1 r1 hB1
      obtain ⟨c0, c1, -⟩ := cells6 b0
      obtain ⟨d0, d1, -⟩ := cells6 q0
      have z0 := frozen0 b0 1
      have z1 := frozen0 q0 0
      go_enter Tryz.func53, Tryz.ntmps53
      go_wp2_with (first | (refine lb q1 rfl rfl rfl (by kernel_rfl) ?_) | (refine sb q1 rfl rfl rfl rfl (by kernel_rfl) ?_) | (refine lb r1 rfl rfl rfl (by kernel_rfl) ?_) | (refine sb r1 rfl rfl rfl rfl (by kernel_rfl) ?_))
      exact bodyPost_ret (rcr rfl (srh r1) (by rfl) (by kernel_rfl)) rfl ⟨rfl, below_setRow hB1 (by omega) _⟩
    · have hr : Dw.resolveS s v = s := by unfold Dw.resolveS; rw [if_neg h2, if_neg h1]
      have HR := Lib.hid hr
      clear hr
      have h2' : (v == 2) = false := by simpa using h2
      have h1' : (v == 1) = false := by simpa using h1
      go_enter Tryz.func53, Tryz.ntmps53
      go_wp2_with (first | (refine lb b0 rfl rfl rfl (by kernel_rfl) ?_) | (refine sb b0 rfl rfl rfl rfl (by kernel_rfl) ?_) | (refine lb b1 rfl rfl rfl (by kernel_rfl) ?_) | (refine sb b1 rfl rfl rfl rfl (by kernel_rfl) ?_))
      exact bodyPost_ret (rcr rfl (srh b1) (by rfl) (by kernel_rfl)) rfl ⟨by rw [HR.out], below_setRow hB (by omega) _⟩
theorem rresolve_any (s : Dw.St) (h : 0 ≤ s.iso ∧ s.iso ≤ 15) (v : Int) (w : World) :
    Calls Tryz.prog 33 #[stV s, .int .i64 v] w fun e w' => e = .returned (stV (Dw.resolveS s v)) ∧ Below w.heap.size w w' := by
  have HS := Lib.hid (fun w => rsafe_any s h w)
  obtain ⟨V, hV⟩ : ∃ V, (w.alloc (.cells (stC s) 30)).alloc (.cells Z6 30) = V := ⟨_, rfl⟩
  have b0 : V.heap[w.heap.size]? = some (.cells (stC s) 30) := by rw [← hV]; exact heap_alloc2_old _ _ _
  have b1 : V.heap[w.heap.size + 1]? = some (.cells Z6 30) := by rw [← hV]; exact heap_alloc2_new _ _ _
  have hB : Below w.heap.size w V := by rw [← hV]; exact ((Below.refl _ w).alloc (Nat.le_refl _) _).alloc (by simp) _
  by_cases h2 : v = 2
  · subst h2
    go_enter Tryz.func33, Tryz.ntmps33
    go_wp2_with (first | (refine lb b0 rfl rfl rfl (by kernel_rfl) ?_) | (refine sb b0 rfl rfl rfl rfl (by kernel_rfl) ?_))
    refine cb (HS.out _) fun w1 hb => ?_
    replace b0 := kp hb b0
    replace b1 := kp hb b1
    replace hB := tr hB hb
    clear hb hV
    have q0 := heap_setCell_same w1 w.heap.size 0 _ _ (.int .i64 (Dw.safeI s)) b0
    change _ = some (Obj.cells (stC { s with mo := Dw.safeI s }) _ _) at q0
    have r0 := (heap_setCell_other w1 ⟨w.heap.size, 0, none⟩ (w.heap.size + 1) (.int .i64 (Dw.safeI s)) (by simp)).trans b1
    have hB0 := hB.setCell (p := ⟨w.heap.size, 0, none⟩) (by simp) (.int .i64 (Dw.safeI s))
    have q1 := heap_setCell_same _ w.heap.size 1 _ _ (.bool true) q0
    change _ = some (Obj.cells (stC { s with mo := Dw.safeI s, ar := true }) _ _) at q1
    have r1 := (heap_setCell_other _ ⟨w.heap.size, 1, none⟩ (w.heap.size + 1) (.bool true) (by simp)).trans r0
    have hB1 := hB0.setCell (p := ⟨w.heap.size, 1, none⟩) (by simp) (.bool true)
    obtain ⟨W2, hW2⟩ : ∃ W2, (w1.setCell ⟨w.heap.size, 0, none⟩ (.int .i64 (Dw.safeI s))).setCell ⟨w.heap.size, 1, none⟩ (.bool true) = W2 := ⟨_, rfl⟩
    rw [hW2] at q1 r1 hB1
    obtain ⟨c0, c1, -⟩ := cells6 b0
    obtain ⟨d0, d1, -⟩ := cells6 q0
    have z0 := frozen0 b0 0
    have z1 := frozen0 q0 1
    go_wp2_with (first | (refine lb q1 rfl rfl rfl (by kernel_rfl) ?_) | (refine sb q1 rfl rfl rfl rfl (by kernel_rfl) ?_) | (refine lb r1 rfl rfl rfl (by kernel_rfl) ?_) | (refine sb r1 rfl rfl rfl rfl (by kernel_rfl) ?_))
    exact bodyPost_ret (rcr rfl (srh r1) (by rfl) (by kernel_rfl)) rfl ⟨rfl, below_setRow hB1 (by omega) _⟩
  · by_cases h1 : v = 1
    · subst h1
      have q0 := heap_setCell_same V w.heap.size 0 _ _ (.int .i64 0) b0
      change _ = some (Obj.cells (stC { s with mo := 0 }) _ _) at q0
      have r0 := (heap_setCell_other V ⟨w.heap.size, 0, none⟩ (w.heap.size + 1) (.int .i64 0) (by simp)).trans b1
      have hB0 := hB.setCell (p := ⟨w.heap.size, 0, none⟩) (by simp) (.int .i64 0)
      have q1 := heap_setCell_same _ w.heap.size 1 _ _ (.bool false) q0
      change _ = some (Obj.cells (stC { s with mo := 0, ar := false }) _ _) at q1
      have r1 := (heap_setCell_other _ ⟨w.heap.size, 1, none⟩ (w.heap.size + 1) (.bool false) (by simp)).trans r0
      have hB1 := hB0.setCell (p := ⟨w.heap.size, 1, none⟩) (by simp) (.bool false)
      obtain ⟨W2, hW2⟩ : ∃ W2, (V.setCell ⟨w.heap.size, 0, none⟩ (.int .i64 0)).setCell ⟨w.heap.size, 1, none⟩ (.bool false) = W2 := ⟨_, rfl⟩
      rw [hW2] at q1 r1 hB1
      obtain ⟨c0, c1, -⟩ := cells6 b0
      obtain ⟨d0, d1, -⟩ := cells6 q0
      have z0 := frozen0 b0 0
      have z1 := frozen0 q0 1
      go_enter Tryz.func33, Tryz.ntmps33
      go_wp2_with (first | (refine lb q1 rfl rfl rfl (by kernel_rfl) ?_) | (refine sb q1 rfl rfl rfl rfl (by kernel_rfl) ?_) | (refine lb r1 rfl rfl rfl (by kernel_rfl) ?_) | (refine sb r1 rfl rfl rfl rfl (by kernel_rfl) ?_))
      exact bodyPost_ret (rcr rfl (srh r1) (by rfl) (by kernel_rfl)) rfl ⟨rfl, below_setRow hB1 (by omega) _⟩
    · have hr : Dw.resolveS s v = s := by unfold Dw.resolveS; rw [if_neg h2, if_neg h1]
      have HR := Lib.hid hr
      clear hr
      have h2' : (v == 2) = false := by simpa using h2
      have h1' : (v == 1) = false := by simpa using h1
      go_enter Tryz.func33, Tryz.ntmps33
      go_wp2_with (first | (refine lb b0 rfl rfl rfl (by kernel_rfl) ?_) | (refine sb b0 rfl rfl rfl rfl (by kernel_rfl) ?_) | (refine lb b1 rfl rfl rfl (by kernel_rfl) ?_) | (refine sb b1 rfl rfl rfl rfl (by kernel_rfl) ?_))
      exact bodyPost_ret (rcr rfl (srh b1) (by rfl) (by kernel_rfl)) rfl ⟨by rw [HR.out], below_setRow hB (by omega) _⟩
end Go.Proofs.YtjonoojhdifjiaaGreatDoor
