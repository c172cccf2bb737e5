/- What the statement's proof stands on, part 14: RegionIn. -/
import Derived.Test.YtjibbchfndhhpaaGreatDoorRc2
import Derived.OrdersIn
import Derived.TacticsIn
set_option linter.unusedSimpArgs false
set_option linter.unusedVariables false
set_option maxRecDepth 100000
set_option maxHeartbeats 4000000
namespace Go.Proofs.YtjibbchfndhhpaaGreatDoor
open Go.RowKit
structure Open (F : Fence) : Prop where
  fn : ∀ f, F.fn f
  depth : F.depth = none
  calls : ∀ {n : Nat} {P : Program} {f : FuncId} {args : Array Value} {w : World} {R : Ending → World → Prop}, Calls P f args w R → CallsIn F n P f args w R
theorem open_wide : Open Fence.wide := ⟨fun _ => trivial, rfl, fun h => callsIn_wide.2 h⟩
theorem open_round (l : Nat) : Open (Fence.wide.inRound l) := ⟨fun _ => trivial, rfl, fun h => CallsIn.inRound l (callsIn_wide.2 h)⟩
section
variable {F : Fence} {n : Nat} {P : Program} {ops : Array Oper} {Q : Exit → Act → World → Prop}
def noDefer (ops : Array Oper) : Bool := ops.toList.all fun o => match o.op with | .defer _ => false | _ => true
theorem noDefer_spec (h : noDefer ops = true) {i : Nat} {o : Oper} (ho : ops[i]? = some o) : ∀ c, o.op ≠ .defer c := by
  intro c e
  have hm : o ∈ ops.toList := by simpa using Array.mem_of_getElem? ho
  have := (List.all_eq_true.1 h) o hm
  simp [e] at this
theorem Yl.wpIn (hF : Open F) {o : Oper} (hd : ∀ c, o.op ≠ .defer c) {a : Act} {v : Value} {w' : World} (h : Yl P w' ((execOp a.eval o).run P w') v) {K : Act → World → Prop} (hK : ∀ w'', Keep w' w'' → K (a.put o.dst v) w'') : Oper.wpIn F n P o a w' K Q := by
  refine ⟨fun f _ => hF.fn f, ?_⟩
  rw [Oper.semAt_eq _ _ _ hd]
  rcases h with ⟨w'', hr, hk⟩ | ⟨f, args, w1, hr, hc⟩ | ⟨rfl, w'', hr, hk⟩
  · rw [hr]; exact hK _ hk
  · rw [hr]
    refine ⟨(fun h => by rw [hF.depth] at h; cases h), ?_⟩
    refine (hF.calls hc).mono ?_
    rintro e w'' ⟨rfl, hk⟩
    exact hK _ hk
  · rw [hr]; exact hK _ hk
theorem YlSome.wpIn (hF : Open F) {o : Oper} (hd : ∀ c, o.op ≠ .defer c) {a : Act} {R : Value → World → Prop} {w' : World} (h : YlSome P w' ((execOp a.eval o).run P w') R) {K : Act → World → Prop} (hK : ∀ v w'', Keep w' w'' → R v w'' → K (a.put o.dst v) w'') : Oper.wpIn F n P o a w' K Q := by
  refine ⟨fun f _ => hF.fn f, ?_⟩
  rw [Oper.semAt_eq _ _ _ hd]
  rcases h with ⟨v, w'', hr, hk, hR⟩ | ⟨f, args, w1, hr, hc⟩
  · rw [hr]; exact hK _ _ hk hR
  · rw [hr]
    refine ⟨(fun h => by rw [hF.depth] at h; cases h), ?_⟩
    refine (hF.calls hc).mono ?_
    rintro e w'' ⟨v, rfl, hk, hR⟩
    exact hK _ _ hk hR
theorem tailIn_sound (hF : Open F) {R : Exit → Act → World → Prop} : ∀ {ts : List Nat} {listed : Array Bool} {a : Act} {w : World}, tailOk ops listed ts = true → (∃ l, ts.map (fun t => ops[t]?) = l.map some ∧ wpListIn F n P ops R l a w) → wpAnyIn F n P .any ops R ts.length listed a w
  | [], listed, a, w, h, hex => by
    obtain ⟨l, hl, hh⟩ := hex
    have : l = [] := by simpa using hl.symm
    subst this
    exact ⟨by simpa [tailOk] using h, hh⟩
  | t :: ts, listed, a, w, h, hex => by
    obtain ⟨l, hl, hh⟩ := hex
    simp only [tailOk, Bool.and_eq_true, beq_iff_eq] at h
    cases l with
    | nil => simp at hl
    | cons o l =>
      simp only [List.map_cons, List.cons.injEq] at hl
      refine ⟨fun e => (by rw [h.1] at e; cases e), fun i hi => ?_⟩
      rw [h.1] at hi
      obtain rfl : i = t := by simpa using hi
      have next : ∀ a w, wpListIn F n P ops R l a w → wpAnyIn F n P .any ops R ts.length (listed.setIfInBounds i true) a w := fun a w hw => tailIn_sound hF h.2 ⟨l, hl.2, hw⟩
      unfold wpOpIn
      simp only [hl.1]
      unfold wpListIn at hh
      split
      · rename_i hw
        rw [if_pos hw] at hh
        exact Oper.wpIn_mono next hh
      · rename_i hw
        rw [if_neg hw] at hh
        exact ⟨hh.1, next _ _ hh.2⟩
theorem pureIn_sound (hF : Open F) (hnd : noDefer ops = true) {R : Exit → Act → World → Prop} {T : Array Nat} {ks ls ts : List Nat} (ok : RegionOk ops T ks ls ts) {w : World} {G : World → Prop} (hG : ∀ A B, G A → Keep A B → G B) (fuel : Nat) :
    ∀ (m : Nat) (rest : List Nat) (listed : Array Bool) (a : Act) (w1 : World), rest.length = m → Keep w w1 → G w1 → Todo ops T (ks ++ ls) rest listed → pairsOk ops T rest = true →
      PureList P ops w (fun a' => ∀ w', Keep w w' → G w' → wpAnyIn F n P .any ops R fuel (allListed ops (ks ++ ls)) a' w') rest a → wpAnyIn F n P .any ops R (m + fuel) listed a w1 := by
  intro m
  induction m with
  | zero =>
    intro rest listed a w1 hm hk hf ht _ h
    have : rest = [] := List.eq_nil_of_length_eq_zero hm
    subst this
    rw [ht.done, Nat.zero_add]
    exact h w1 hk hf
  | succ m ih =>
    intro rest listed a w1 hm hk hf ht hp h
    have hne : rest ≠ [] := by intro e; subst e; simp at hm
    obtain ⟨hr, hall⟩ := ht.ready ok hne
    rw [show m + 1 + fuel = (m + fuel) + 1 from by omega]
    refine ⟨fun e => absurd e hr, fun i hi => ?_⟩
    have hir := hall i hi
    obtain ⟨l1, l2, rfl⟩ := List.append_of_mem hir
    have hnx := ht.next hi hir
    rw [erase_mid ht.nodup] at hnx
    have hp' : pairsOk ops T (l1 ++ l2) = true := by have := pairsOk_erase (i := i) hp; rwa [erase_mid ht.nodup] at this
    obtain ⟨h0, hlt, hdeps⟩ := mem_ready'.1 hi
    have hap : ∀ k ∈ l1, apartAt ops i k = true := fun k hk' => (pairsOk_spec hp k hk').resolve_right fun hb => by
      have := behind_listed ok.table ok.lt ht.closed i k hlt hdeps hb
      have hkl := (ok.inside k (ht.sub k (by simp [hk']))).1
      rw [getD_any (by rw [ht.size]; exact hkl) false true, ht.iff k hkl] at this
      simp [hk'] at this
    obtain ⟨o, v, ho, hg, hrest⟩ := PureList.first ok.sel hap h
    have hlen : (l1 ++ l2).length = m := by simp at hm ⊢; omega
    unfold wpOpIn
    simp only [ho]
    rcases hg with ⟨hw, hs⟩ | ⟨hw, rfl⟩
    · rw [if_pos hw]
      exact (hs w1 hk).wpIn hF (noDefer_spec hnd ho) fun w'' hk'' => ih _ _ _ _ hlen (hk.trans hk'') (hG _ _ hf hk'') hnx hp' hrest
    · rw [if_neg (by simp [hw])]
      exact ⟨fun f _ => hF.fn f, ih _ _ _ _ hlen hk hf hnx hp' hrest⟩
theorem letterIn_sound (hF : Open F) (hnd : noDefer ops = true) {R : Exit → Act → World → Prop} {T : Array Nat} {ks ts : List Nat} {l : Nat} (ok : RegionOk ops T ks [l] ts) {w : World} {G : Value → World → Prop} (hG : ∀ v A B, G v A → Keep A B → G v B) (fuel : Nat) {ol : Oper} (hol : ops[l]? = some ol) :
    ∀ (m : Nat) (rest : List Nat) (listed : Array Bool) (a : Act) (w1 : World), rest.length = m → Keep w w1 → Todo ops T (ks ++ [l]) (rest ++ [l]) listed → (∀ k ∈ rest, k ∈ ks) → pairsOk ops T rest = true →
      PureList P ops w (fun a' => Region.wanted ol (yielded ops a'.tmps) = true ∧ SureSome P w (execOp a'.eval ol) G ∧ ∀ v w', Keep w w' → G v w' → wpAnyIn F n P .any ops R fuel (allListed ops (ks ++ [l])) (a'.put ol.dst v) w') rest a →
      wpAnyIn F n P .any ops R (m + 1 + fuel) listed a w1 := by
  intro m
  induction m using Nat.strongRecOn with
  | _ m ih =>
    intro rest listed a w1 hm hk ht hsub hp h
    obtain ⟨hr, hall⟩ := ht.ready ok (by simp)
    rw [show m + 1 + fuel = (m + fuel) + 1 from by omega]
    refine ⟨fun e => absurd e hr, fun i hi => ?_⟩
    have hir := hall i hi
    have hnx := ht.next hi hir
    obtain ⟨h0, hlt, hdeps⟩ := mem_ready'.1 hi
    have hndp := ht.nodup
    have notBehind : ∀ k, k ∈ rest ++ [l] → behind T i k = false := fun k hk' => by
      cases hb : behind T i k
      · rfl
      · have := behind_listed ok.table ok.lt ht.closed i k hlt hdeps hb
        have hkl := (ok.inside k (ht.sub k hk')).1
        rw [getD_any (by rw [ht.size]; exact hkl) false true, ht.iff k hkl] at this
        have hc : (rest ++ [l]).contains k = true := by simpa using hk'
        rw [hc] at this; simp at this
    have hlr : l ∉ rest := fun hl => by
      have := (List.nodup_append.1 hndp).2.2 l hl l (by simp); exact this rfl
    by_cases hil : i = l
    · subst hil
      have hap : ∀ k ∈ rest, apartAt ops i k = true := fun k hk' => (ok.letter i (by simp) k (hsub k hk')).resolve_right fun hb => by rw [notBehind k (by simp [hk'])] at hb; cases hb
      rw [List.erase_append_right _ hlr] at hnx
      simp at hnx
      obtain ⟨a', ⟨hw, hs, _⟩, he, hw'⟩ := PureList.seen ok.sel hol hap h
      unfold wpOpIn
      simp only [hol]
      rw [if_pos (by rw [← hw']; exact hw)]
      rw [he] at hs
      refine (hs w1 hk).wpIn hF (noDefer_spec hnd hol) fun v w'' hk'' hG'' => ?_
      refine pureIn_sound hF hnd ok (G := G v) (hG v) fuel m rest _ _ _ hm (hk.trans hk'') hG'' hnx hp ?_
      refine PureList.mono ?_ (PureList.putIn ok.sel hol v hap h)
      rintro a'' ⟨a', ⟨_, _, hN⟩, rfl⟩ w' hkw' hGw'
      exact hN v w' hkw' hGw'
    · have hir' : i ∈ rest := by simpa [hil] using hir
      obtain ⟨l1, l2, rfl⟩ := List.append_of_mem hir'
      have hnd1 := (List.nodup_append.1 hndp).1
      rw [List.erase_append_left _ hir', erase_mid hnd1] at hnx
      have hp' : pairsOk ops T (l1 ++ l2) = true := by have := pairsOk_erase (i := i) hp; rwa [erase_mid hnd1] at this
      have hap : ∀ k ∈ l1, apartAt ops i k = true := fun k hk' => (pairsOk_spec hp k hk').resolve_right fun hb => by rw [notBehind k (by simp [hk'])] at hb; cases hb
      obtain ⟨o, v, ho, hg, hrest⟩ := PureList.first ok.sel hap h
      have hlen : (l1 ++ l2).length + 1 = m := by simp at hm ⊢; omega
      have hsub' : ∀ k ∈ l1 ++ l2, k ∈ ks := fun k hk' => hsub k (by simp at hk' ⊢; exact hk'.imp id .inr)
      rw [show m + fuel = (l1 ++ l2).length + 1 + fuel from by omega]
      unfold wpOpIn
      simp only [ho]
      rcases hg with ⟨hw, hs⟩ | ⟨hw, rfl⟩
      · rw [if_pos hw]
        exact (hs w1 hk).wpIn hF (noDefer_spec hnd ho) fun w'' hk'' => ih _ (by omega) _ _ _ _ rfl (hk.trans hk'') hnx hsub' hp' hrest
      · rw [if_neg (by simp [hw])]
        exact ⟨fun f _ => hF.fn f, ih _ (by omega) _ _ _ _ rfl hk hnx hsub' hp' hrest⟩
theorem wpIn_pure (hF : Open F) {R : Exit → Act → World → Prop} {id : Nat} {a : Act} {w : World} (ks : List Nat) (k : Nat) (hm : P.follows .mixedOrders = true) (hnd : noDefer ops = true) (hok : regionOk ops (Region.before ops) ks [] (List.range' k (ops.size - k)) = true) (hsz : ops.size = ks.length + (ops.size - k))
    (h : PureList P ops w (fun a' => ∀ w', Keep w w' → wpListIn F n P ops R (ops.toList.drop k) a' w') ks a) : (Code.region id ops true).wpIn F n P R a w := by
  have ok := regionOk_spec hok
  refine wpIn_region_any hm ?_
  have st := Todo.start ok
  rw [List.append_nil] at st
  have e := pureIn_sound (n := n) (R := R) hF hnd (w := w) (ks := ks) (ls := []) ok (G := fun _ => True) (fun _ _ _ _ => trivial) (List.range' k (ops.size - k)).length ks.length ks (Array.replicate ops.size false) a w.drew rfl ⟨rfl, rfl, rfl, Nat.le_refl _, fun _ _ _ => rfl⟩ trivial (by rw [List.append_nil]; exact st) ok.pairs
    (PureList.mono (fun a' hN w' hk _ => by rw [List.append_nil]; have := ok.tail; rw [List.append_nil] at this; exact tailIn_sound hF this ⟨_, range_drop k, hN w' hk⟩) h)
  rw [List.length_range', ← hsz] at e
  exact e
theorem wpIn_letter (hF : Open F) {R : Exit → Act → World → Prop} {id : Nat} {a : Act} {w : World} (ks : List Nat) (l k : Nat) (d : Option Tmp) (G : Value → World → Prop) {ol : Oper} (hol : ops[l]? = some ol) (hd : ol.dst = d) (hm : P.follows .mixedOrders = true) (hnd : noDefer ops = true) (hok : regionOk ops (Region.before ops) ks [l] (List.range' k (ops.size - k)) = true) (hsz : ops.size = ks.length + 1 + (ops.size - k))
    (hG : ∀ v A B, G v A → Keep A B → G v B)
    (h : PureList P ops w (fun a' => Region.wanted ol (yielded ops a'.tmps) = true ∧ SureSome P w (execOp a'.eval ol) G ∧ ∀ v w', Keep w w' → G v w' → wpListIn F n P ops R (ops.toList.drop k) (a'.put d v) w') ks a) : (Code.region id ops true).wpIn F n P R a w := by
  subst hd
  have ok := regionOk_spec hok
  refine wpIn_region_any hm ?_
  have st := Todo.start ok
  have e := letterIn_sound (n := n) (R := R) hF hnd (w := w) ok hG (List.range' k (ops.size - k)).length hol ks.length ks (Array.replicate ops.size false) a w.drew rfl ⟨rfl, rfl, rfl, Nat.le_refl _, fun _ _ _ => rfl⟩ st (fun _ h => h) ok.pairs
    (PureList.mono (fun a' ⟨hw, hs, hN⟩ => ⟨hw, hs, fun v w' hk hf => tailIn_sound hF ok.tail ⟨_, range_drop k, hN v w' hk hf⟩⟩) h)
  rw [List.length_range', ← hsz] at e
  exact e
theorem wp_letterD {R : Exit → Act → World → Prop} {id : Nat} {a : Act} {w : World} (ks : List Nat) (l k : Nat) (d : Option Tmp) (G : Value → World → Prop) {ol : Oper} (hol : ops[l]? = some ol) (hd : ol.dst = d) (hm : P.follows .mixedOrders = true) (hok : regionOk ops (Region.before ops) ks [l] (List.range' k (ops.size - k)) = true) (hsz : ops.size = ks.length + 1 + (ops.size - k))
    (hG : ∀ v A B, G v A → Keep A B → G v B)
    (h : PureList P ops w (fun a' => Region.wanted ol (yielded ops a'.tmps) = true ∧ SureSome P w (execOp a'.eval ol) G ∧ ∀ v w', Keep w w' → G v w' → wpList P ops R (ops.toList.drop k) (a'.put d v) w') ks a) : (Code.region id ops true).wp P R a w := by
  subst hd
  exact wp_letter ks l k G hol hm hok hsz hG h
end
end Go.Proofs.YtjibbchfndhhpaaGreatDoor
