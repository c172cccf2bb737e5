/- A region that draws: a letter with what hangs on it, and an alloc that hangs on nothing, in any order; then the tail. -/
import Derived.Test.YtaniehjhmjecjaaGreatDoorPRegionV
namespace Go.Proofs.YtaniehjhmjecjaaGreatDoor
open Go.RowKit
section
variable {P : Program} {ops : Array Oper} {Q : Exit → Act → World → Prop}
theorem Todo.perm {T : Array Nat} {I I' rest rest' : List Nat} {listed : Array Bool} (h : Todo ops T I rest listed) (hI : ∀ i, i ∈ I ↔ i ∈ I') (hr : ∀ i, i ∈ rest ↔ i ∈ rest') (hn : rest'.Nodup) : Todo ops T I' rest' listed := by
  refine ⟨h.size, fun i hi => ?_, fun i hi => (hI i).1 (h.sub i ((hr i).2 hi)), hn, h.closed⟩
  rw [h.iff i hi]
  have e1 : I.contains i = I'.contains i := by rw [Bool.eq_iff_iff, List.contains_iff_mem, List.contains_iff_mem]; exact hI i
  have e2 : rest.contains i = rest'.contains i := by rw [Bool.eq_iff_iff, List.contains_iff_mem, List.contains_iff_mem]; exact hr i
  rw [e1, e2]
theorem allListed_perm {I I' : List Nat} (hI : ∀ i, i ∈ I ↔ i ∈ I') : allListed ops I = allListed ops I' := by
  unfold allListed
  congr 1
  funext i
  rw [Bool.eq_iff_iff, List.contains_iff_mem, List.contains_iff_mem]
  exact hI i
theorem SureSome.both {w w2 : World} {s : Sem Next} {G : Value → World → Prop} {H : World → Prop} (h : SureSome P w s G) (hk : Keep w w2) (hH : H w2) (hst : ∀ A B, H A → Keep A B → H B) : SureSome P w2 s (fun v w' => G v w' ∧ H w') := by
  intro w' hk'
  have hH' := hst _ _ hH hk'
  rcases h w' (hk.trans hk') with ⟨v, w'', e, k, g⟩ | ⟨f, args, w1, e, hc⟩
  · exact .inl ⟨v, w'', e, k, g, hst _ _ hH' k⟩
  · refine .inr ⟨f, args, w1, e, hc.mono ?_⟩
    rintro x w'' ⟨v, e1, k, g⟩
    exact ⟨v, e1, k, g, hst _ _ hH' k⟩

theorem letterMA_sound {R : Exit → Act → World → Prop} {T : Array Nat} {ks ms ts : List Nat} {l al : Nat} (ok1 : RegionOk ops T ((ks ++ l :: ms) ++ al :: []) [] ts) (ok2 : RegionOk ops T ((al :: ks) ++ l :: ms) [] ts) (hbl : ∀ m ∈ ms, behind T m l = true) (hapl : apartAt ops al l = true) (hapm : ∀ m ∈ ms, apartAt ops al m = true)
    {w : World} {G GA : Value → World → Prop} (hG : ∀ v A B, G v A → Keep A B → G v B) (hGA : ∀ v A B, GA v A → Keep A B → GA v B) (fuel : Nat) {ol oa : Oper} (hol : ops[l]? = some ol) (hoa : ops[al]? = some oa) :
    ∀ (m : Nat) (rest : List Nat) (listed : Array Bool) (a : Act) (w1 : World), rest.length = m → Keep w w1 → Todo ops T (((ks ++ l :: ms) ++ al :: []) ++ []) ((rest ++ l :: ms) ++ al :: []) listed → pairsOk ops T ((rest ++ l :: ms) ++ al :: []) = true →
      PureList P ops w (fun a' => Region.wanted ol (yielded ops a'.tmps) = true ∧ SureSome P w (execOp a'.eval ol) G ∧ Region.wanted oa (yielded ops a'.tmps) = true ∧ SureSome P w (execOp a'.eval oa) GA ∧ ∀ v w2, Keep w w2 → G v w2 →
        PureList P ops w2 (fun b => Region.wanted oa (yielded ops b.tmps) = true ∧ SureSome P w2 (execOp b.eval oa) GA ∧ ∀ va w3, Keep w2 w3 → G v w3 → GA va w3 → wpAny P .any ops R fuel (allListed ops (((ks ++ l :: ms) ++ al :: []) ++ [])) (b.put oa.dst va) w3) ms (a'.put ol.dst v)) rest a →
      wpAny P .any ops R (m + 1 + ms.length + 1 + fuel) listed a w1 := by
  have hI : ∀ i, i ∈ ((ks ++ l :: ms) ++ al :: []) ++ [] ↔ i ∈ ((al :: ks) ++ l :: ms) ++ [] := fun i => by
    simp [or_comm, or_left_comm]
  intro m
  induction m using Nat.strongRecOn with
  | _ m ih =>
    intro rest listed a w1 hm hk ht hp h
    obtain ⟨hr, hall⟩ := ht.ready ok1 (by simp)
    rw [show m + 1 + ms.length + 1 + fuel = (m + 1 + ms.length + fuel) + 1 from by omega]
    refine ⟨fun e => absurd e hr, fun i hi => ?_⟩
    have hir := hall i hi
    have hnx := ht.next hi hir
    obtain ⟨h0, hlt, hdeps⟩ := mem_ready'.1 hi
    have hnd := ht.nodup
    have notBehind : ∀ k, k ∈ (rest ++ l :: ms) ++ al :: [] → behind T i k = false := fun k hk' => by
      cases hb : behind T i k
      · rfl
      · have := behind_listed ok1.table ok1.lt ht.closed i k hlt hdeps hb
        have hkl := (ok1.inside k (ht.sub k hk')).1
        rw [getD_any (by rw [ht.size]; exact hkl) false true, ht.iff k hkl] at this
        have hc : ((rest ++ l :: ms) ++ al :: []).contains k = true := by simpa using hk'
        rw [hc] at this; simp at this
    have hnd1 := (List.nodup_append.1 hnd).1
    have hla : al ∉ rest ++ l :: ms := fun hl => by
      have := (List.nodup_append.1 hnd).2.2 al hl al (by simp); exact this rfl
    have hlr : l ∉ rest := fun hl => by
      have := (List.nodup_append.1 hnd1).2.2 l hl l (by simp); exact this rfl
    have him : i ∉ ms := fun him => by
      have := hbl i him
      rw [notBehind l (by simp)] at this
      cases this
    by_cases hil : i = l
    · subst hil
      have hap : ∀ k ∈ rest, apartAt ops i k = true := fun k hk' => (pairsOk_spec (l2 := ms ++ al :: []) (by simpa using hp) k hk').resolve_right fun hb => by rw [notBehind k (by simp [hk'])] at hb; cases hb
      rw [List.erase_append_left _ (by simp), erase_mid hnd1] at hnx
      have hp' : pairsOk ops T ((rest ++ ms) ++ al :: []) = true := by have := pairsOk_erase (i := i) hp; rwa [List.erase_append_left _ (by simp), erase_mid hnd1] at this
      obtain ⟨a', ⟨hw, hs, _⟩, he, hw'⟩ := PureList.seen ok1.sel hol hap h
      unfold wpOp
      simp only [hol]
      rw [if_pos (by rw [← hw']; exact hw)]
      rw [he] at hs
      refine .inl ((hs w1 hk).wp fun v w'' hk'' hG'' => ?_)
      have hkw := hk.trans hk''
      have key := letterM_sound (P := P) (R := R) (ks := ks ++ i :: ms) (l := al) (ms := []) ok1 (fun m hm => by simp at hm) (w := w'') (G := fun va w' => GA va w' ∧ G v w') (fun va A B h k => ⟨hGA va A B h.1 k, hG v A B h.2 k⟩) fuel hoa (m + ms.length) (rest ++ ms) _ (a.put ol.dst v) w'' (by simp; omega) (KeepBut.refl _ _) hnx hp' ?_
      · rw [show m + ms.length + 1 + ([] : List Nat).length + fuel = m + 1 + ms.length + fuel from by simp; omega] at key
        exact key
      · refine PureList.appendV ?_
        refine PureList.mono ?_ (PureList.putIn ok1.sel hol v hap (PureList.rebaseV hkw h))
        rintro a'' ⟨a', ⟨_, _, _, _, hN⟩, rfl⟩
        refine PureList.mono ?_ (hN v w'' hkw hG'')
        rintro b ⟨h1, h2, h3⟩
        refine ⟨h1, h2.both (KeepBut.refl _ _) hG'' (hG v), fun va w2 hk2 hg2 w' hk' hg' => ?_⟩
        exact h3 va w' (hk2.trans hk') hg'.2 hg'.1
    · by_cases hia : i = al
      · subst hia
        have hap : ∀ k ∈ rest, apartAt ops i k = true := fun k hk' => (pairsOk_spec (l1 := rest ++ l :: ms) (l2 := []) hp k (by simp [hk'])).resolve_right fun hb => by rw [notBehind k (by simp [hk'])] at hb; cases hb
        rw [List.erase_append_right _ hla, show (i :: ([] : List Nat)).erase i = [] from by simp, List.append_nil] at hnx
        have hp' : pairsOk ops T (rest ++ l :: ms) = true := by have := pairsOk_erase (i := i) hp; rwa [List.erase_append_right _ hla, show (i :: ([] : List Nat)).erase i = [] from by simp, List.append_nil] at this
        obtain ⟨a', ⟨_, _, hw, hs, _⟩, he, hw'⟩ := PureList.seen ok1.sel hoa hap h
        unfold wpOp
        simp only [hoa]
        rw [if_pos (by rw [← hw']; exact hw)]
        rw [he] at hs
        refine .inl ((hs w1 hk).wp fun va w'' hk'' hG'' => ?_)
        have hkw := hk.trans hk''
        obtain ⟨q1, q2, q3⟩ := Oper.apart_spec (apartAt_spec hoa hol hapl)
        have hsl := fun cs b => Region.noSelect_spec ok1.sel l ol cs b hol
        have key := letterM_sound (P := P) (R := R) (ks := i :: ks) (l := l) (ms := ms) ok2 hbl (w := w'') (G := fun v w' => G v w' ∧ GA va w') (fun v A B h k => ⟨hG v A B h.1 k, hGA va A B h.2 k⟩) fuel hol m rest _ (a.put oa.dst va) w'' hm (KeepBut.refl _ _) (hnx.perm (fun j => by have := hI j; simpa using this) (fun j => by simp) hnd1) hp' ?_
        · rw [show m + 1 + ms.length + fuel = m + 1 + ms.length + fuel from rfl] at key
          exact key
        · refine PureList.mono ?_ (PureList.putIn ok1.sel hoa va hap (PureList.rebaseV hkw h))
          rintro a'' ⟨a', ⟨h1, h2, _, _, hN⟩, rfl⟩
          refine ⟨by rw [wanted_put ol a' oa.dst va q1]; exact h1, ?_, fun v w2 hk2 hg2 => ?_⟩
          · rw [execOp_put ol hsl a' oa.dst va q1]
            exact h2.both hkw hG'' (hGA va)
          · rw [Act.put_comm a' va v q2]
            refine PureList.mono ?_ (PureList.putIn ok1.sel hoa va hapm (hN v w2 (hkw.trans hk2) hg2.1))
            rintro b'' ⟨b, ⟨_, _, h3⟩, rfl⟩ w' hk' hg'
            rw [← allListed_perm hI]
            exact h3 va w' hk' hg'.1 hg'.2
      · have hir' : i ∈ rest := by simpa [hil, him, hia] using hir
        obtain ⟨r1, r2, rfl⟩ := List.append_of_mem hir'
        have hnd2 := (List.nodup_append.1 hnd1).1
        rw [List.erase_append_left _ (by simp), List.erase_append_left _ hir', erase_mid hnd2] at hnx
        have hp' : pairsOk ops T (((r1 ++ r2) ++ l :: ms) ++ al :: []) = true := by have := pairsOk_erase (i := i) hp; rwa [List.erase_append_left _ (by simp), List.erase_append_left _ hir', erase_mid hnd2] at this
        have hap : ∀ k ∈ r1, apartAt ops i k = true := fun k hk' => (pairsOk_spec (l2 := r2 ++ l :: ms ++ al :: []) (by simpa using hp) k hk').resolve_right fun hb => by rw [notBehind k (by simp [hk'])] at hb; cases hb
        obtain ⟨o, v, ho, hg, hrest⟩ := PureList.first ok1.sel hap h
        have hlen : (r1 ++ r2).length + 1 = m := by simp at hm ⊢; omega
        rw [show m + 1 + ms.length + fuel = (r1 ++ r2).length + 1 + ms.length + 1 + fuel from by omega]
        unfold wpOp
        simp only [ho]
        rcases hg with ⟨hw, hs⟩ | ⟨hw, rfl⟩
        · rw [if_pos hw]
          exact .inl ((hs w1 hk).wp fun w'' hk'' => ih _ (by omega) _ _ _ _ rfl (hk.trans hk'') hnx hp' hrest)
        · rw [if_neg (by simp [hw])]
          exact ih _ (by omega) _ _ _ _ rfl hk hnx hp' hrest

theorem wp_letterMA {R : Exit → Act → World → Prop} {id : Nat} {a : Act} {w : World} (ks : List Nat) (l : Nat) (ms : List Nat) (al k : Nat) (d da : Option Tmp) (G GA : Value → World → Prop) {ol oa : Oper} (hol : ops[l]? = some ol) (hd : ol.dst = d) (hoa : ops[al]? = some oa) (hda : oa.dst = da)
    (hm : P.follows .mixedOrders = true) (hok1 : regionOk ops (Region.before ops) ((ks ++ l :: ms) ++ al :: []) [] (List.range' k (ops.size - k)) = true) (hok2 : regionOk ops (Region.before ops) ((al :: ks) ++ l :: ms) [] (List.range' k (ops.size - k)) = true)
    (hbl : (ms.all fun m => behind (Region.before ops) m l) = true) (hap : ((l :: ms).all fun m => apartAt ops al m) = true) (hsz : ops.size = ks.length + 1 + ms.length + 1 + (ops.size - k))
    (hG : ∀ v A B, G v A → Keep A B → G v B) (hGA : ∀ v A B, GA v A → Keep A B → GA v B)
    (h : PureList P ops w (fun a' => Region.wanted ol (yielded ops a'.tmps) = true ∧ SureSome P w (execOp a'.eval ol) G ∧ Region.wanted oa (yielded ops a'.tmps) = true ∧ SureSome P w (execOp a'.eval oa) GA ∧ ∀ v w2, Keep w w2 → G v w2 →
        PureList P ops w2 (fun b => Region.wanted oa (yielded ops b.tmps) = true ∧ SureSome P w2 (execOp b.eval oa) GA ∧ ∀ va w3, Keep w2 w3 → G v w3 → GA va w3 → wpList P ops R (ops.toList.drop k) (b.put da va) w3) ms (a'.put d v)) ks a) : (Code.region id ops true).wp P R a w := by
  subst hd hda
  have ok1 := regionOk_spec hok1
  have ok2 := regionOk_spec hok2
  refine wp_region_any hm ?_
  rw [hsz]
  have st := Todo.start ok1
  have hap' := List.all_eq_true.1 hap
  refine letterMA_sound (w := w) ok1 ok2 (fun m hm => by simpa using List.all_eq_true.1 hbl m hm) (hap' l (by simp)) (fun m hm => hap' m (by simp [hm])) hG hGA (ops.size - k) hol hoa ks.length ks _ a _ rfl ⟨rfl, rfl, rfl, Nat.le_refl _, fun _ _ _ => rfl⟩ (by rw [hsz] at st; simpa using st) ok1.pairs ?_
  refine PureList.mono (fun a' ⟨h1, h2, h3, h4, hN⟩ => ⟨h1, h2, h3, h4, fun v w2 hk hg => PureList.mono (fun b ⟨b1, b2, b3⟩ => ⟨b1, b2, fun va w3 hk' hg' hga => ?_⟩) (hN v w2 hk hg)⟩) h
  have := tail_sound ok1.tail ⟨ops.toList.drop k, range_drop k, b3 va w3 hk' hg' hga⟩
  rw [List.length_range'] at this
  exact this
theorem sure_newL {w w2 : World} {s : Sem Next} {c : Array Value} {ty : TypeId} (hk : Keep w w2) (h : ∀ w', Keep w2 w' → s.run P w' = .ok (.value (.pointer (some ⟨w'.heap.size, 0, none⟩))) (w'.alloc (.cells c ty))) : SureSome P w2 s (NewBlock w c ty) :=
  fun w' hk' => .inl ⟨_, _, h w' hk', (KeepBut.refl _ _).alloc _, w'.heap.size, rfl, (hk.trans hk').size, World.alloc_heap_new _ _⟩
end
end Go.Proofs.YtaniehjhmjecjaaGreatDoor
