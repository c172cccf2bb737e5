/- A region that draws: one operation yields something new (the letter), others hang on it and may come anywhere behind it. -/
import Derived.Test.YtaniehjhmjecjaaGreatDoorP8
namespace Go.Proofs.YtaniehjhmjecjaaGreatDoor
open Go.RowKit
section
variable {P : Program} {ops : Array Oper} {Q : Exit → Act → World → Prop}
theorem PureList.rebaseV {w w2 : World} {N : Act → Prop} (hk : Keep w w2) : ∀ {ks : List Nat} {a : Act}, PureList P ops w N ks a → PureList P ops w2 N ks a
  | [], _, h => h
  | _ :: _, _, ⟨o, v, ho, hg, hr⟩ => by
    refine ⟨o, v, ho, ?_, PureList.rebaseV hk hr⟩
    rcases hg with ⟨h1, h2⟩ | h
    · exact .inl ⟨h1, fun w' hk' => h2 w' (hk.trans hk')⟩
    · exact .inr h
theorem PureList.appendV {w : World} {N : Act → Prop} {ms : List Nat} : ∀ {ks : List Nat} {a : Act}, PureList P ops w (fun a' => PureList P ops w N ms a') ks a → PureList P ops w N (ks ++ ms) a
  | [], _, h => h
  | _ :: _, _, ⟨o, v, ho, hg, hr⟩ => ⟨o, v, ho, hg, PureList.appendV hr⟩

theorem letterM_sound {R : Exit → Act → World → Prop} {T : Array Nat} {ks ms ts : List Nat} {l : Nat} (ok : RegionOk ops T (ks ++ l :: ms) [] ts) (hbl : ∀ m ∈ ms, behind T m l = true) {w : World} {G : Value → World → Prop} (hG : ∀ v A B, G v A → Keep A B → G v B) (fuel : Nat) {ol : Oper} (hol : ops[l]? = some ol) :
    ∀ (m : Nat) (rest : List Nat) (listed : Array Bool) (a : Act) (w1 : World), rest.length = m → Keep w w1 → Todo ops T ((ks ++ l :: ms) ++ []) (rest ++ l :: ms) listed → pairsOk ops T (rest ++ l :: ms) = true →
      PureList P ops w (fun a' => Region.wanted ol (yielded ops a'.tmps) = true ∧ SureSome P w (execOp a'.eval ol) G ∧ ∀ v w2, Keep w w2 → G v w2 →
        PureList P ops w2 (fun a'' => ∀ w', Keep w2 w' → G v w' → wpAny P .any ops R fuel (allListed ops ((ks ++ l :: ms) ++ [])) a'' w') ms (a'.put ol.dst v)) rest a →
      wpAny P .any ops R (m + 1 + ms.length + fuel) listed a w1 := by
  intro m
  induction m using Nat.strongRecOn with
  | _ m ih =>
    intro rest listed a w1 hm hk ht hp h
    obtain ⟨hr, hall⟩ := ht.ready ok (by simp)
    rw [show m + 1 + ms.length + fuel = (m + ms.length + fuel) + 1 from by omega]
    refine ⟨fun e => absurd e hr, fun i hi => ?_⟩
    have hir := hall i hi
    have hnx := ht.next hi hir
    obtain ⟨h0, hlt, hdeps⟩ := mem_ready'.1 hi
    have hnd := ht.nodup
    have notBehind : ∀ k, k ∈ rest ++ l :: ms → behind T i k = false := fun k hk' => by
      cases hb : behind T i k
      · rfl
      · have := behind_listed ok.table ok.lt ht.closed i k hlt hdeps hb
        have hkl := (ok.inside k (ht.sub k hk')).1
        rw [getD_any (by rw [ht.size]; exact hkl) false true, ht.iff k hkl] at this
        have hc : (rest ++ l :: ms).contains k = true := by simpa using hk'
        rw [hc] at this; simp at this
    have hlr : l ∉ rest := fun hl => by
      have := (List.nodup_append.1 hnd).2.2 l hl l (by simp); exact this rfl
    have him : i ∉ ms := fun him => by
      have := hbl i him
      rw [notBehind l (by simp)] at this
      cases this
    by_cases hil : i = l
    · subst hil
      have hap : ∀ k ∈ rest, apartAt ops i k = true := fun k hk' => (pairsOk_spec hp k hk').resolve_right fun hb => by rw [notBehind k (by simp [hk'])] at hb; cases hb
      rw [erase_mid hnd] at hnx
      have hp' : pairsOk ops T (rest ++ ms) = true := by have := pairsOk_erase (i := i) hp; rwa [erase_mid hnd] at this
      obtain ⟨a', ⟨hw, hs, _⟩, he, hw'⟩ := PureList.seen ok.sel hol hap h
      unfold wpOp
      simp only [hol]
      rw [if_pos (by rw [← hw']; exact hw)]
      rw [he] at hs
      refine .inl ((hs w1 hk).wp fun v w'' hk'' hG'' => ?_)
      have hkw := hk.trans hk''
      refine pure_sound (w := w'') (ks := ks ++ i :: ms) (ls := []) ok (F := G v) (hG v) fuel (m + ms.length) (rest ++ ms) _ _ _ (by simp; omega) (KeepBut.refl _ _) hG'' hnx hp' ?_
      refine PureList.appendV ?_
      refine PureList.mono ?_ (PureList.putIn ok.sel hol v hap (PureList.rebaseV hkw h))
      rintro a'' ⟨a', ⟨_, _, hN⟩, rfl⟩
      exact hN v w'' hkw hG''
    · have hir' : i ∈ rest := by simpa [hil, him] using hir
      obtain ⟨r1, r2, rfl⟩ := List.append_of_mem hir'
      have hnd1 := (List.nodup_append.1 hnd).1
      rw [List.erase_append_left _ hir', erase_mid hnd1] at hnx
      have hp' : pairsOk ops T ((r1 ++ r2) ++ l :: ms) = true := by have := pairsOk_erase (i := i) hp; rwa [List.erase_append_left _ hir', erase_mid hnd1] at this
      have hap : ∀ k ∈ r1, apartAt ops i k = true := fun k hk' => (pairsOk_spec (l2 := r2 ++ l :: ms) (by simpa using hp) k hk').resolve_right fun hb => by rw [notBehind k (by simp [hk'])] at hb; cases hb
      obtain ⟨o, v, ho, hg, hrest⟩ := PureList.first ok.sel hap h
      have hlen : (r1 ++ r2).length + 1 = m := by simp at hm ⊢; omega
      rw [show m + ms.length + fuel = (r1 ++ r2).length + 1 + ms.length + fuel from by omega]
      unfold wpOp
      simp only [ho]
      rcases hg with ⟨hw, hs⟩ | ⟨hw, rfl⟩
      · rw [if_pos hw]
        exact .inl ((hs w1 hk).wp fun w'' hk'' => ih _ (by omega) _ _ _ _ rfl (hk.trans hk'') hnx hp' hrest)
      · rw [if_neg (by simp [hw])]
        exact ih _ (by omega) _ _ _ _ rfl hk hnx hp' hrest

theorem wp_letterM {R : Exit → Act → World → Prop} {id : Nat} {a : Act} {w : World} (ks : List Nat) (l : Nat) (ms : List Nat) (k : Nat) (d : Option Tmp) (G : Value → World → Prop) {ol : Oper} (hol : ops[l]? = some ol) (hd : ol.dst = d)
    (hm : P.follows .mixedOrders = true) (hok : regionOk ops (Region.before ops) (ks ++ l :: ms) [] (List.range' k (ops.size - k)) = true) (hbl : (ms.all fun m => behind (Region.before ops) m l) = true) (hsz : ops.size = ks.length + 1 + ms.length + (ops.size - k))
    (hG : ∀ v A B, G v A → Keep A B → G v B)
    (h : PureList P ops w (fun a' => Region.wanted ol (yielded ops a'.tmps) = true ∧ SureSome P w (execOp a'.eval ol) G ∧ ∀ v w2, Keep w w2 → G v w2 →
        PureList P ops w2 (fun a'' => ∀ w', Keep w2 w' → G v w' → wpList P ops R (ops.toList.drop k) a'' w') ms (a'.put d v)) ks a) : (Code.region id ops true).wp P R a w := by
  subst hd
  have ok := regionOk_spec hok
  refine wp_region_any hm ?_
  rw [hsz]
  have st := Todo.start ok
  refine letterM_sound (w := w) ok (fun m hm => by simpa using List.all_eq_true.1 hbl m hm) hG (ops.size - k) hol ks.length ks _ a _ rfl ⟨rfl, rfl, rfl, Nat.le_refl _, fun _ _ _ => rfl⟩ (by rw [hsz] at st; simpa using st) ok.pairs ?_
  refine PureList.mono (fun a' ⟨hw, hs, hN⟩ => ⟨hw, hs, fun v w2 hk hg => PureList.mono (fun a'' hT w' hk' hg' => ?_) (hN v w2 hk hg)⟩) h
  have := tail_sound ok.tail ⟨ops.toList.drop k, range_drop k, hT w' hk' hg'⟩
  rw [List.length_range'] at this
  exact this
end
end Go.Proofs.YtaniehjhmjecjaaGreatDoor
