/- A region that draws its order: one operation yields something new (an alloc), a later one is a store into it, and operations that hang on no memory may come behind the store (late). -/
import Derived.Test.YtaniehjhmjecjaaGreatDoorP15
namespace Go.Proofs.YtaniehjhmjecjaaGreatDoor.RT
open Go.RowKit

section
variable {P : Program} {ops : Array Oper} {Q : Exit → Act → World → Prop} {X : Nat → Prop} {late : Nat → Bool}

/-- What is sure in all worlds that keep w is sure in all that keep a later one. -/
theorem PureList.rebase {w w2 : World} {N : Act → Prop} (hk : Keep w w2) : ∀ {ks : List Nat} {a : Act}, PureList P ops X late w N ks a → PureList P ops X late w2 N ks a
  | [], _, h => h
  | k :: ks, a, ⟨o, v, ho, hg, hr⟩ => by
    refine ⟨o, v, ho, ?_, PureList.rebase hk hr⟩
    unfold Gets at hg ⊢
    exact hg.imp (fun h => ⟨h.1, fun w' hk' => h.2 w' ((hk.mono fun _ _ h => h.elim).trans hk')⟩) id

theorem letter2_sound {R : Exit → Act → World → Prop} {T : Array Nat} {ks ts : List Nat} {l1 l : Nat} (ok : RegionOk ops late T (ks ++ [l1]) [l] ts) (hbl : behind T l l1 = true) {w : World} (G : Value → World → Prop)
    {F : Value → World → World → Prop} (hF : ∀ v w2 A B, F v w2 A → Keep A B → F v w2 B) (fuel : Nat) {ol1 ol : Oper} (hol1 : ops[l1]? = some ol1) (hol : ops[l]? = some ol) :
    ∀ (m : Nat) (rest : List Nat) (listed : Array Bool) (a : Act) (w1 : World), rest.length = m → Keep w w1 → Todo ops T ((ks ++ [l1]) ++ [l]) ((rest ++ [l1]) ++ [l]) listed → (∀ k ∈ rest, k ∈ ks) → pairsOk ops T (rest ++ [l1]) = true →
      PureList P ops X late w (fun a' => Region.wanted ol1 (yielded ops a'.tmps) = true ∧ SureSome P w (execOp a'.eval ol1) G ∧ ∀ v w2, Keep w w2 → G v w2 →
        (Region.wanted ol (yielded ops (a'.put ol1.dst v).tmps) = true ∧ Stores P X w2 (execOp (a'.put ol1.dst v).eval ol) (F v w2) ∧ ∀ w', F v w2 w' → wpAny P .any ops R fuel (allListed ops ((ks ++ [l1]) ++ [l])) ((a'.put ol1.dst v).put ol.dst undef) w')) rest a →
      wpAny P .any ops R (m + 1 + 1 + fuel) listed a w1 := by
  intro m
  induction m using Nat.strongRecOn with
  | _ m ih =>
    intro rest listed a w1 hm hk ht hsub hp h
    obtain ⟨hr, hall⟩ := ht.ready ok (by simp)
    rw [show m + 1 + 1 + fuel = (m + 1 + fuel) + 1 from by omega]
    refine ⟨fun e => absurd e hr, fun i hi => ?_⟩
    have hir := hall i hi
    have hnx := ht.next hi hir
    obtain ⟨h0, hlt, hdeps⟩ := mem_ready'.1 hi
    have hnd := ht.nodup
    have notBehind : ∀ k, k ∈ (rest ++ [l1]) ++ [l] → behind T i k = false := fun k hk' => by
      cases hb : behind T i k
      · rfl
      · have := behind_listed ok.table ok.lt ht.closed i k hlt hdeps hb
        have hkl := (ok.inside k (ht.sub k hk')).1
        rw [getD_any (by rw [ht.size]; exact hkl) false true, ht.iff k hkl] at this
        have hc : ((rest ++ [l1]) ++ [l]).contains k = true := by simpa using hk'
        rw [hc] at this; simp at this
    have hnd1 := (List.nodup_append.1 hnd).1
    have hlr : l ∉ rest ++ [l1] := fun hl => by
      have := (List.nodup_append.1 hnd).2.2 l hl l (by simp); exact this rfl
    have hlr1 : l1 ∉ rest := fun hl => by
      have := (List.nodup_append.1 hnd1).2.2 l1 hl l1 (by simp); exact this rfl
    have hil : i ≠ l := by
      rintro rfl
      rw [notBehind l1 (by simp)] at hbl
      cases hbl
    by_cases hi1 : i = l1
    · subst hi1
      have hap : ∀ k ∈ rest, apartAt ops i k = true := fun k hk' => (pairsOk_spec (l2 := []) hp k hk').resolve_right fun hb => by rw [notBehind k (by simp [hk'])] at hb; cases hb
      have hp' : pairsOk ops T rest = true := by have := pairsOk_erase (i := i) hp; rwa [List.erase_append_right _ hlr1, show [i].erase i = [] from by simp, List.append_nil] at this
      rw [List.erase_append_left _ (by simp), List.erase_append_right _ hlr1, show [i].erase i = [] from by simp, List.append_nil] at hnx
      obtain ⟨a', ⟨hw, hs, _⟩, he, hw'⟩ := PureList.seen ok.sel hol1 hap h
      unfold wpOp
      simp only [hol1]
      rw [if_pos (by rw [← hw']; exact hw)]
      rw [he] at hs
      refine .inl ((hs w1 hk).wp fun v w'' hk'' hG'' => ?_)
      have hkw := hk.trans hk''
      refine letter_sound (X := X) ok (w := w'') (F := F v w'') (fun A B hf hk => hF v w'' A B hf hk) fuel hol m rest _ _ _ hm (KeepBut.refl _ _) hnx (fun k hk' => by simp [hsub k hk']) hp' ?_
      refine PureList.mono ?_ (PureList.putIn ok.sel hol1 v hap (PureList.rebase hkw h))
      rintro a'' ⟨a', ⟨_, _, hN⟩, rfl⟩
      exact hN v w'' hkw hG''
    · have hir' : i ∈ rest := by simpa [hil, hi1] using hir
      obtain ⟨r1, r2, rfl⟩ := List.append_of_mem hir'
      have hnd2 := (List.nodup_append.1 hnd1).1
      rw [List.erase_append_left _ (by simp), List.erase_append_left _ hir', erase_mid hnd2] at hnx
      have hp' : pairsOk ops T ((r1 ++ r2) ++ [l1]) = true := by have := pairsOk_erase (i := i) hp; rwa [List.erase_append_left _ hir', erase_mid hnd2] at this
      have hap : ∀ k ∈ r1, apartAt ops i k = true := fun k hk' => (pairsOk_spec (l2 := r2 ++ [l1]) (by simpa using hp) k hk').resolve_right fun hb => by rw [notBehind k (by simp [hk'])] at hb; cases hb
      obtain ⟨o, v, ho, hg, hrest⟩ := PureList.first ok.sel hap h
      have hlen : (r1 ++ r2).length + 1 = m := by simp at hm ⊢; omega
      have hsub' : ∀ k ∈ r1 ++ r2, k ∈ ks := fun k hk' => hsub k (by simp at hk' ⊢; exact hk'.imp id .inr)
      rw [show m + 1 + fuel = (r1 ++ r2).length + 1 + 1 + fuel from by omega]
      unfold wpOp
      simp only [ho]
      rcases hg with ⟨hw, hs⟩ | ⟨hw, rfl⟩
      · rw [if_pos hw]
        exact .inl ((hs w1 (hk.mono fun _ _ h => h.elim)).wp fun w'' hk'' => ih _ (by omega) _ _ _ _ rfl (hk.trans hk'') hnx hsub' hp' hrest)
      · rw [if_neg (by simp [hw])]
        exact ih _ (by omega) _ _ _ _ rfl hk hnx hsub' hp' hrest

theorem pairsOk_init {T : Array Nat} {x : Nat} : ∀ {ks : List Nat}, pairsOk ops T (ks ++ [x]) = true → pairsOk ops T (ks ++ [x]) = true := fun h => h

theorem Stores.mono {X X' : Nat → Prop} {w : World} {s : Sem Next} {F F' : World → Prop} (hX : ∀ k, X k → X' k) (hF : ∀ w', F w' → F' w') (h : Stores P X w s F) : Stores P X' w s F' := fun w' hk => by
  obtain ⟨w'', h1, h2, h3⟩ := h w' hk
  exact ⟨w'', h1, h2.mono (fun _ _ h => hX _ h), hF _ h3⟩
/-- ks and l1 (the alloc) and l (the store), and then the tail. -/
theorem wp_letter2 {R : Exit → Act → World → Prop} {id : Nat} {a : Act} {w : World} (X : Nat → Prop) (late : Nat → Bool) (ks : List Nat) (l1 l k : Nat) (d1 d : Option Tmp) (G : Value → World → Prop) (F : Value → World → World → Prop) {ol1 ol : Oper} (hol1 : ops[l1]? = some ol1) (hd1 : ol1.dst = d1) (hol : ops[l]? = some ol) (hd : ol.dst = d)
    (hm : P.follows .mixedOrders = true) (hok : regionOk ops late (Region.before ops) (ks ++ [l1]) [l] (List.range' k (ops.size - k)) = true) (hbl : behind (Region.before ops) l l1 = true) (hsz : ops.size = ks.length + 1 + 1 + (ops.size - k))
    (hF : ∀ v w2 A B, F v w2 A → Keep A B → F v w2 B)
    (h : PureList P ops X late w (fun a' => Region.wanted ol1 (yielded ops a'.tmps) = true ∧ SureSome P w (execOp a'.eval ol1) G ∧ ∀ v w2, Keep w w2 → G v w2 →
        (Region.wanted ol (yielded ops (a'.put d1 v).tmps) = true ∧ Stores P X w2 (execOp (a'.put d1 v).eval ol) (F v w2) ∧ ∀ w', F v w2 w' → wpList P ops R (ops.toList.drop k) ((a'.put d1 v).put d undef) w')) ks a) : (Code.region id ops true).wp P R a w := by
  subst hd1 hd
  have ok := regionOk_spec hok
  refine wp_region_any hm ?_
  rw [hsz]
  have st := Todo.start ok
  refine letter2_sound (X := X) (late := late) (w := w) ok hbl G hF (ops.size - k) hol1 hol ks.length ks _ a _ rfl ⟨rfl, rfl, rfl, Nat.le_refl _, fun _ _ _ => rfl⟩ (by rw [hsz] at st; exact st) (fun _ h => h) ok.pairs ?_
  refine PureList.mono (fun a' ⟨hw, hs, hN⟩ => ⟨hw, hs, fun v w2 hk hg => ?_⟩) h
  obtain ⟨h1, h2, h3⟩ := hN v w2 hk hg
  exact ⟨h1, h2, fun w' hf => by
    have := tail_sound ok.tail ⟨ops.toList.drop k, range_drop k, h3 w' hf⟩
    rw [List.length_range'] at this
    exact this⟩
end
end Go.Proofs.YtaniehjhmjecjaaGreatDoor.RT
