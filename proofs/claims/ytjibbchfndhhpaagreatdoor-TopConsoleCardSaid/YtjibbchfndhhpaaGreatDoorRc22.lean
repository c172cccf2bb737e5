/- What the statement's proof stands on, part 22: RegionT, RegionU, Res3, RegionX. -/
import Derived.Test.YtjibbchfndhhpaaGreatDoorRc18
import Derived.Orders
import Derived.Test.YtjibbchfndhhpaaGreatDoorRc14
import Derived.Test.YtjibbchfndhhpaaGreatDoorRc2
set_option linter.unusedSimpArgs false
set_option linter.unusedVariables false
set_option maxRecDepth 100000
set_option maxHeartbeats 4000000
namespace Go.Proofs.YtjibbchfndhhpaaGreatDoor.RT
open Go.RowKit
section
variable {P : Program} {ops : Array Oper} {Q : Exit → Act → World → Prop} {X : Nat → Prop} {late : Nat → Bool}
def Sure (P : Program) (X : Nat → Prop) (lt : Bool) (w : World) (s : Sem Next) (v : Value) : Prop := ∀ w', KeepBut (fun k => lt = true ∧ X k) w w' → Yl P w' (s.run P w') v
def Stores (P : Program) (X : Nat → Prop) (w : World) (s : Sem Next) (R : World → Prop) : Prop := ∀ w', Keep w w' → ∃ w'', s.run P w' = .ok .skip w'' ∧ KeepBut X w w'' ∧ R w''
def Gets (P : Program) (ops : Array Oper) (X : Nat → Prop) (lt : Bool) (w : World) (o : Oper) (a : Act) (v : Value) : Prop :=
  (Region.wanted o (yielded ops a.tmps) = true ∧ Sure P X lt w (execOp a.eval o) v) ∨ (Region.wanted o (yielded ops a.tmps) = false ∧ v = undef)
def PureList (P : Program) (ops : Array Oper) (X : Nat → Prop) (late : Nat → Bool) (w : World) (N : Act → Prop) : List Nat → Act → Prop
  | [], a => N a
  | k :: ks, a => ∃ o v, ops[k]? = some o ∧ Gets P ops X (late k) w o a v ∧ PureList P ops X late w N ks (a.put o.dst v)
theorem PureList.mono {w : World} {N N' : Act → Prop} (h : ∀ a, N a → N' a) : ∀ {ks : List Nat} {a : Act}, PureList P ops X late w N ks a → PureList P ops X late w N' ks a
  | [], a, hh => h a hh
  | _ :: _, _, ⟨o, v, ho, hg, hr⟩ => ⟨o, v, ho, hg, PureList.mono h hr⟩
theorem Gets.put {lt : Bool} {w : World} {o : Oper} {a : Act} {v : Value} (hs : ∀ cs b, o.op ≠ .select cs b) (h : Gets P ops X lt w o a v) {d : Option Tmp} (u : Value) (hd : ∀ t, d = some t → t ∉ o.looksAt ops) : Gets P ops X lt w o (a.put d u) v := by
  unfold Gets
  rw [wanted_put o a d u hd, execOp_put o hs a d u hd]
  exact h
theorem PureList.swap {w : World} {N : Act → Prop} (hsel : Region.noSelect ops = true) {i k : Nat} {l : List Nat} {a : Act} (hap : apartAt ops i k = true)
    (h : PureList P ops X late w N (k :: i :: l) a) : PureList P ops X late w N (i :: k :: l) a := by
  obtain ⟨ok, vk, hok, hgk, oi, vi, hoi, hgi, hr⟩ := h
  obtain ⟨h1, h2, h3⟩ := Oper.apart_spec (apartAt_spec hoi hok hap)
  have hsi := fun cs b => Region.noSelect_spec hsel i oi cs b hoi
  have hsk := fun cs b => Region.noSelect_spec hsel k ok cs b hok
  refine ⟨oi, vi, hoi, ?_, ok, vk, hok, hgk.put hsk vi h1, ?_⟩
  · unfold Gets at hgi ⊢
    rw [wanted_put oi a ok.dst vk h3, execOp_put oi hsi a ok.dst vk h3] at hgi
    exact hgi
  · rw [Act.put_comm a vi vk h2]; exact hr
theorem PureList.first {w : World} {N : Act → Prop} (hsel : Region.noSelect ops = true) {i : Nat} {l2 : List Nat} : ∀ {l1 : List Nat} {a : Act}, (∀ k ∈ l1, apartAt ops i k = true) →
    PureList P ops X late w N (l1 ++ i :: l2) a → PureList P ops X late w N (i :: (l1 ++ l2)) a
  | [], _, _, h => h
  | k :: l1, a, hap, ⟨o, v, ho, hg, hr⟩ => PureList.swap hsel (hap k (by simp)) ⟨o, v, ho, hg, PureList.first hsel (fun j hj => hap j (by simp [hj])) hr⟩
theorem PureList.putIn {w : World} {N : Act → Prop} (hsel : Region.noSelect ops = true) {i : Nat} {oi : Oper} (hoi : ops[i]? = some oi) (u : Value) : ∀ {ks : List Nat} {a : Act}, (∀ k ∈ ks, apartAt ops i k = true) →
    PureList P ops X late w N ks a → PureList P ops X late w (fun a'' => ∃ a', N a' ∧ a'' = a'.put oi.dst u) ks (a.put oi.dst u)
  | [], a, _, h => ⟨a, h, rfl⟩
  | k :: ks, a, hap, ⟨o, v, ho, hg, hr⟩ => by
    obtain ⟨h1, h2, h3⟩ := Oper.apart_spec (apartAt_spec hoi ho (hap k (by simp)))
    refine ⟨o, v, ho, hg.put (fun cs b => Region.noSelect_spec hsel k o cs b ho) u h1, ?_⟩
    rw [Act.put_comm a u v h2]
    exact PureList.putIn hsel hoi u (fun j hj => hap j (by simp [hj])) hr
theorem PureList.seen {w : World} {N : Act → Prop} (hsel : Region.noSelect ops = true) {i : Nat} {oi : Oper} (hoi : ops[i]? = some oi) : ∀ {ks : List Nat} {a : Act}, (∀ k ∈ ks, apartAt ops i k = true) →
    PureList P ops X late w N ks a → ∃ a', N a' ∧ execOp a'.eval oi = execOp a.eval oi ∧ Region.wanted oi (yielded ops a'.tmps) = Region.wanted oi (yielded ops a.tmps)
  | [], a, _, h => ⟨a, h, rfl, rfl⟩
  | k :: ks, a, hap, ⟨o, v, ho, hg, hr⟩ => by
    obtain ⟨h1, h2, h3⟩ := Oper.apart_spec (apartAt_spec hoi ho (hap k (by simp)))
    obtain ⟨a', hn, he, hw⟩ := PureList.seen hsel hoi (fun j hj => hap j (by simp [hj])) hr
    exact ⟨a', hn, he.trans (execOp_put oi (fun cs b => Region.noSelect_spec hsel i oi cs b hoi) a o.dst v h3), hw.trans (wanted_put oi a o.dst v h3)⟩
def regionOk (ops : Array Oper) (late : Nat → Bool) (T : Array Nat) (ks ls ts : List Nat) : Bool :=
  Go.Proofs.YtjibbchfndhhpaaGreatDoor.regionOk ops T ks ls ts && ls.all fun l => ks.all fun k => late k || behind T l k
structure RegionOk (ops : Array Oper) (late : Nat → Bool) (T : Array Nat) (ks ls ts : List Nat) : Prop where
  base : Go.Proofs.YtjibbchfndhhpaaGreatDoor.RegionOk ops T ks ls ts
  late : ∀ l ∈ ls, ∀ k ∈ ks, late k = true ∨ behind T l k = true
theorem RegionOk.letter {T : Array Nat} {ks ls ts : List Nat} (ok : RegionOk ops late T ks ls ts) : ∀ l ∈ ls, ∀ k ∈ ks, (apartAt ops l k = true ∧ late k = true) ∨ behind T l k = true := fun l hl k hk => by
  rcases ok.base.letter l hl k hk with h | h
  · exact (ok.late l hl k hk).imp (fun h' => ⟨h, h'⟩) id
  · exact .inr h
theorem regionOk_spec {T : Array Nat} {ks ls ts : List Nat} (h : regionOk ops late T ks ls ts = true) : RegionOk ops late T ks ls ts := by
  simp only [regionOk, Bool.and_eq_true, List.all_eq_true, Bool.or_eq_true] at h
  exact ⟨Go.Proofs.YtjibbchfndhhpaaGreatDoor.regionOk_spec h.1, h.2⟩
theorem PureList.anyW {w w2 : World} {N : Act → Prop} (hk2 : KeepBut X w w2) : ∀ {ks : List Nat} {a : Act}, (∀ k ∈ ks, late k = true) → PureList P ops X late w N ks a → PureList P ops X late w2 N ks a
  | [], _, _, h => h
  | k :: ks, a, hl, ⟨o, v, ho, hg, hr⟩ => by
    refine ⟨o, v, ho, ?_, PureList.anyW hk2 (fun j hj => hl j (by simp [hj])) hr⟩
    unfold Gets at hg ⊢
    rw [hl k (by simp)] at hg ⊢
    exact hg.imp (fun h => ⟨h.1, fun w' hk => h.2 w' ((hk2.mono fun _ _ h => ⟨rfl, h⟩).trans hk)⟩) id
theorem pure_sound {R : Exit → Act → World → Prop} {T : Array Nat} {ks ls ts : List Nat} (ok : RegionOk ops late T ks ls ts) {w : World} {F : World → Prop} (hF : ∀ A B, F A → Keep A B → F B) (fuel : Nat) :
    ∀ (m : Nat) (rest : List Nat) (listed : Array Bool) (a : Act) (w1 : World), rest.length = m → Keep w w1 → F w1 → Todo ops T (ks ++ ls) rest listed → pairsOk ops T rest = true →
      PureList P ops X late w (fun a' => ∀ w', Keep w w' → F w' → wpAny P .any ops R fuel (allListed ops (ks ++ ls)) a' w') rest a → wpAny P .any ops R (m + fuel) listed a w1 := by
  intro m
  induction m with
  | zero =>
    intro rest listed a w1 hm hk hf ht _ h
    have : rest = [] := List.eq_nil_of_length_eq_zero hm
    subst this
    rw [ht.done, Nat.zero_add]
    exact h w1 hk hf
  | succ m ih =>
    intro rest listed a w1 hm hk hf ht hp h
    have hne : rest ≠ [] := by intro e; subst e; simp at hm
    obtain ⟨hr, hall⟩ := ht.ready ok.base hne
    rw [show m + 1 + fuel = (m + fuel) + 1 from by omega]
    refine ⟨fun e => absurd e hr, fun i hi => ?_⟩
    have hir := hall i hi
    obtain ⟨l1, l2, rfl⟩ := List.append_of_mem hir
    have hnx := ht.next hi hir
    rw [erase_mid ht.nodup] at hnx
    have hp' : pairsOk ops T (l1 ++ l2) = true := by have := pairsOk_erase (i := i) hp; rwa [erase_mid ht.nodup] at this
    obtain ⟨h0, hlt, hdeps⟩ := mem_ready'.1 hi
    have hap : ∀ k ∈ l1, apartAt ops i k = true := fun k hk' => (pairsOk_spec hp k hk').resolve_right fun hb => by
      have := behind_listed ok.base.table ok.base.lt ht.closed i k hlt hdeps hb
      have hkl := (ok.base.inside k (ht.sub k (by simp [hk']))).1
      rw [getD_any (by rw [ht.size]; exact hkl) false true, ht.iff k hkl] at this
      simp [hk'] at this
    obtain ⟨o, v, ho, hg, hrest⟩ := PureList.first ok.base.sel hap h
    have hlen : (l1 ++ l2).length = m := by simp at hm ⊢; omega
    unfold wpOp
    simp only [ho]
    rcases hg with ⟨hw, hs⟩ | ⟨hw, rfl⟩
    · rw [if_pos hw]
      exact .inl ((hs w1 (hk.mono fun _ _ h => h.elim)).wp fun w'' hk'' => ih _ _ _ _ hlen (hk.trans hk'') (hF _ _ hf hk'') hnx hp' hrest)
    · rw [if_neg (by simp [hw])]
      exact ih _ _ _ _ hlen hk hf hnx hp' hrest
theorem letter_sound {R : Exit → Act → World → Prop} {T : Array Nat} {ks ts : List Nat} {l : Nat} (ok : RegionOk ops late T ks [l] ts) {w : World} {F : World → Prop} (hF : ∀ A B, F A → Keep A B → F B) (fuel : Nat) {ol : Oper} (hol : ops[l]? = some ol) :
    ∀ (m : Nat) (rest : List Nat) (listed : Array Bool) (a : Act) (w1 : World), rest.length = m → Keep w w1 → Todo ops T (ks ++ [l]) (rest ++ [l]) listed → (∀ k ∈ rest, k ∈ ks) → pairsOk ops T rest = true →
      PureList P ops X late w (fun a' => Region.wanted ol (yielded ops a'.tmps) = true ∧ Stores P X w (execOp a'.eval ol) F ∧ ∀ w', F w' → wpAny P .any ops R fuel (allListed ops (ks ++ [l])) (a'.put ol.dst undef) w') rest a →
      wpAny P .any ops R (m + 1 + fuel) listed a w1 := by
  intro m
  induction m using Nat.strongRecOn with
  | _ m ih =>
    intro rest listed a w1 hm hk ht hsub hp h
    obtain ⟨hr, hall⟩ := ht.ready ok.base (by simp)
    rw [show m + 1 + fuel = (m + fuel) + 1 from by omega]
    refine ⟨fun e => absurd e hr, fun i hi => ?_⟩
    have hir := hall i hi
    have hnx := ht.next hi hir
    obtain ⟨h0, hlt, hdeps⟩ := mem_ready'.1 hi
    have hnd := ht.nodup
    have notBehind : ∀ k, k ∈ rest ++ [l] → behind T i k = false := fun k hk' => by
      cases hb : behind T i k
      · rfl
      · have := behind_listed ok.base.table ok.base.lt ht.closed i k hlt hdeps hb
        have hkl := (ok.base.inside k (ht.sub k hk')).1
        rw [getD_any (by rw [ht.size]; exact hkl) false true, ht.iff k hkl] at this
        have hc : (rest ++ [l]).contains k = true := by simpa using hk'
        rw [hc] at this; simp at this
    have hlr : l ∉ rest := fun hl => by
      have := (List.nodup_append.1 hnd).2.2 l hl l (by simp); exact this rfl
    by_cases hil : i = l
    · subst hil
      have hal : ∀ k ∈ rest, apartAt ops i k = true ∧ late k = true := fun k hk' => (ok.letter i (by simp) k (hsub k hk')).resolve_right fun hb => by rw [notBehind k (by simp [hk'])] at hb; cases hb
      have hap : ∀ k ∈ rest, apartAt ops i k = true := fun k hk' => (hal k hk').1
      rw [List.erase_append_right _ hlr] at hnx
      simp at hnx
      obtain ⟨a', ⟨hw, hs, _⟩, he, hw'⟩ := PureList.seen ok.base.sel hol hap h
      unfold wpOp
      simp only [hol]
      rw [if_pos (by rw [← hw']; exact hw)]
      rw [he] at hs
      obtain ⟨w'', hrun, hkX, hF''⟩ := hs w1 hk
      refine .inl ?_
      unfold Oper.wp
      rw [hrun]
      refine pure_sound (X := X) ok (w := w'') (F := F) hF fuel m rest _ _ _ hm (KeepBut.refl _ _) hF'' hnx hp ?_
      refine PureList.mono ?_ (PureList.putIn ok.base.sel hol undef hap (PureList.anyW hkX (fun k hk' => (hal k hk').2) h))
      rintro a'' ⟨a', ⟨_, _, hN⟩, rfl⟩ w' _ hFw'
      exact hN w' hFw'
    · have hir' : i ∈ rest := by simpa [hil] using hir
      obtain ⟨l1, l2, rfl⟩ := List.append_of_mem hir'
      have hnd1 := (List.nodup_append.1 hnd).1
      rw [List.erase_append_left _ hir', erase_mid hnd1] at hnx
      have hp' : pairsOk ops T (l1 ++ l2) = true := by have := pairsOk_erase (i := i) hp; rwa [erase_mid hnd1] at this
      have hap : ∀ k ∈ l1, apartAt ops i k = true := fun k hk' => (pairsOk_spec hp k hk').resolve_right fun hb => by rw [notBehind k (by simp [hk'])] at hb; cases hb
      obtain ⟨o, v, ho, hg, hrest⟩ := PureList.first ok.base.sel hap h
      have hlen : (l1 ++ l2).length + 1 = m := by simp at hm ⊢; omega
      have hsub' : ∀ k ∈ l1 ++ l2, k ∈ ks := fun k hk' => hsub k (by simp at hk' ⊢; exact hk'.imp id .inr)
      rw [show m + fuel = (l1 ++ l2).length + 1 + fuel from by omega]
      unfold wpOp
      simp only [ho]
      rcases hg with ⟨hw, hs⟩ | ⟨hw, rfl⟩
      · rw [if_pos hw]
        exact .inl ((hs w1 (hk.mono fun _ _ h => h.elim)).wp fun w'' hk'' => ih _ (by omega) _ _ _ _ rfl (hk.trans hk'') hnx hsub' hp' hrest)
      · rw [if_neg (by simp [hw])]
        exact ih _ (by omega) _ _ _ _ rfl hk hnx hsub' hp' hrest
theorem wp_region_pure {R : Exit → Act → World → Prop} {id : Nat} {a : Act} {w : World} (T : Array Nat) (ks ts : List Nat) (tops : List Oper) (hm : P.follows .mixedOrders = true) (hok : regionOk ops late T ks [] ts = true) (hsz : ops.size = ks.length + ts.length)
    (ht : ts.map (fun t => ops[t]?) = tops.map some)
    (h : PureList P ops X late w (fun a' => ∀ w', Keep w w' → wpList P ops R tops a' w') ks a) : (Code.region id ops true).wp P R a w := by
  have ok := regionOk_spec hok
  refine wp_region_any hm ?_
  rw [hsz]
  have st := Todo.start ok.base
  rw [List.append_nil] at st
  refine pure_sound (X := X) (w := w) (ks := ks) (ls := []) ok (F := fun _ => True) (fun _ _ _ _ => trivial) ts.length ks.length ks _ a _ rfl ⟨rfl, rfl, rfl, Nat.le_refl _, fun _ _ _ => rfl⟩ trivial (by rw [List.append_nil]; rw [hsz] at st; exact st) ok.base.pairs ?_
  exact PureList.mono (fun a' hN w' hk _ => by rw [List.append_nil]; have := ok.base.tail; rw [List.append_nil] at this; exact tail_sound this ⟨tops, ht, hN w' hk⟩) h
theorem wp_region_letter {R : Exit → Act → World → Prop} {id : Nat} {a : Act} {w : World} (T : Array Nat) (ks : List Nat) (l : Nat) (ts : List Nat) (ol : Oper) (tops : List Oper) (hm : P.follows .mixedOrders = true) (hok : regionOk ops late T ks [l] ts = true) (hsz : ops.size = ks.length + 1 + ts.length)
    (hol : ops[l]? = some ol) (ht : ts.map (fun t => ops[t]?) = tops.map some) (F : World → Prop) (hF : ∀ A B, F A → Keep A B → F B)
    (h : PureList P ops X late w (fun a' => Region.wanted ol (yielded ops a'.tmps) = true ∧ Stores P X w (execOp a'.eval ol) F ∧ ∀ w', F w' → wpList P ops R tops (a'.put ol.dst undef) w') ks a) : (Code.region id ops true).wp P R a w := by
  have ok := regionOk_spec hok
  refine wp_region_any hm ?_
  rw [hsz]
  have st := Todo.start ok.base
  refine letter_sound (X := X) (w := w) ok hF ts.length hol ks.length ks _ a _ rfl ⟨rfl, rfl, rfl, Nat.le_refl _, fun _ _ _ => rfl⟩ (by rw [hsz] at st; exact st) (fun _ h => h) ok.base.pairs ?_
  exact PureList.mono (fun a' ⟨hw, hs, hN⟩ => ⟨hw, hs, fun w' hf => tail_sound ok.base.tail ⟨tops, ht, hN w' hf⟩⟩) h
theorem wp_pure {R : Exit → Act → World → Prop} {id : Nat} {a : Act} {w : World} (ks : List Nat) (k : Nat) (hm : P.follows .mixedOrders = true) (hok : regionOk ops late (Region.before ops) ks [] (List.range' k (ops.size - k)) = true) (hsz : ops.size = ks.length + (ops.size - k))
    (h : PureList P ops X late w (fun a' => ∀ w', Keep w w' → wpList P ops R (ops.toList.drop k) a' w') ks a) : (Code.region id ops true).wp P R a w :=
  wp_region_pure (Region.before ops) ks (List.range' k (ops.size - k)) _ hm hok (by simpa using hsz) (range_drop k) h
theorem wp_letter {R : Exit → Act → World → Prop} {id : Nat} {a : Act} {w : World} (X : Nat → Prop) (late : Nat → Bool) (ks : List Nat) (l k : Nat) (F : World → Prop) {ol : Oper} (hol : ops[l]? = some ol) (hm : P.follows .mixedOrders = true) (hok : regionOk ops late (Region.before ops) ks [l] (List.range' k (ops.size - k)) = true) (hsz : ops.size = ks.length + 1 + (ops.size - k))
    (hF : ∀ A B, F A → Keep A B → F B)
    (h : PureList P ops X late w (fun a' => Region.wanted ol (yielded ops a'.tmps) = true ∧ Stores P X w (execOp a'.eval ol) F ∧ ∀ w', F w' → wpList P ops R (ops.toList.drop k) (a'.put ol.dst undef) w') ks a) : (Code.region id ops true).wp P R a w :=
  wp_region_letter (Region.before ops) ks l (List.range' k (ops.size - k)) ol _ hm hok (by simpa using hsz) hol (range_drop k) F hF h
section
variable {X : Nat → Prop} {late : Nat → Bool} {l : List Oper} {w : World} {N : Act → Prop} {k : Nat} {ks : List Nat} {a : Act} {o : Oper} {v : Value}
theorem early {w w' : World} {k : Nat} (he : late k = false) (h : KeepBut (fun j => late k = true ∧ X j) w w') : Keep w w' := h.mono fun _ _ h => by rw [he] at h; cases h.1
theorem pl_value (he : late k = false) (ho : l[k]? = some o) (hw : Region.wanted o (yielded l.toArray a.tmps) = true)
    (hv : ∀ w', Keep w w' → (execOp a.eval o).run P w' = .ok (.value v) w') (h : PureList P l.toArray X late w N ks (a.put o.dst v)) : PureList P l.toArray X late w N (k :: ks) a :=
  ⟨o, v, by simpa using ho, .inl ⟨hw, fun w' hk => .inl ⟨w', hv w' (early he hk), KeepBut.refl _ _⟩⟩, h⟩
theorem pl_late (ho : l[k]? = some o) (hw : Region.wanted o (yielded l.toArray a.tmps) = true)
    (hv : ∀ w', KeepBut X w w' → (execOp a.eval o).run P w' = .ok (.value v) w') (h : PureList P l.toArray X late w N ks (a.put o.dst v)) : PureList P l.toArray X late w N (k :: ks) a :=
  ⟨o, v, by simpa using ho, .inl ⟨hw, fun w' hk => .inl ⟨w', hv w' (hk.mono fun _ _ h => h.2), KeepBut.refl _ _⟩⟩, h⟩
theorem pl_call {f : FuncId} {args : Array Value} (he : late k = false) (ho : l[k]? = some o) (hw : Region.wanted o (yielded l.toArray a.tmps) = true)
    (hv : ∀ w', Keep w w' → (execOp a.eval o).run P w' = .ok (.enter f args) w') (hc : ∀ w', Keep w w' → Calls P f args w' fun e w'' => e = .returned v ∧ Below w'.heap.size w' w'') (h : PureList P l.toArray X late w N ks (a.put o.dst v)) : PureList P l.toArray X late w N (k :: ks) a :=
  ⟨o, v, by simpa using ho, .inl ⟨hw, fun w' hk => .inr (.inl ⟨f, args, w', hv w' (early he hk), (hc w' (early he hk)).mono fun _ _ ⟨he, hb⟩ => ⟨he, KeepBut.of_below' hb⟩⟩)⟩, h⟩
end
def At (P : Program) (l : List Oper) (late : Nat → Bool) (w1 w2 : World) : List Nat → List Value → Act → Act → Prop
  | [], [], a, b => a = b
  | k :: ks, v :: vs, a, b => ∃ o, l[k]? = some o ∧ ((Region.wanted o (yielded l.toArray a.tmps) = true ∧ Yl P (if late k then w2 else w1) ((execOp a.eval o).run P (if late k then w2 else w1)) v) ∨ (Region.wanted o (yielded l.toArray a.tmps) = false ∧ v = undef)) ∧ At P l late w1 w2 ks vs (a.put o.dst v) b
  | _, _, _, _ => False
section
variable {X : Nat → Prop} {late : Nat → Bool} {l : List Oper} {w w1 w2 : World} {k : Nat} {ks : List Nat} {vs : List Value} {a b : Act} {o : Oper} {v : Value}
theorem rat {N : Act → Prop} (h : ∀ w1 w2, Keep w w1 → KeepBut X w w2 → At P l late w1 w2 ks vs a b) (hN : PureList P l.toArray X late w N [] b) : PureList P l.toArray X late w N ks a := by
  induction ks generalizing vs a with
  | nil =>
    have := h w w (KeepBut.refl _ _) (KeepBut.refl _ _)
    cases vs with
    | nil => cases this; exact hN
    | cons v vs => exact this.elim
  | cons k ks ih =>
    have h0 := h w w (KeepBut.refl _ _) (KeepBut.refl _ _)
    cases vs with
    | nil => exact h0.elim
    | cons v vs =>
      obtain ⟨o, ho, hg, _⟩ := h0
      refine ⟨o, v, by simpa using ho, ?_, ih (vs := vs) (fun w1 w2 hk hk2 => ?_)⟩
      · refine hg.imp (fun hw => ⟨hw.1, fun w' hk => ?_⟩) id
        have key : ∀ w1 w2, Keep w w1 → KeepBut X w w2 → Yl P (if late k then w2 else w1) ((execOp a.eval o).run P (if late k then w2 else w1)) v := fun w1 w2 hk hk2 => by
          obtain ⟨o', ho', hg', _⟩ := h w1 w2 hk hk2
          obtain rfl : o = o' := Option.some.inj (ho.symm.trans ho')
          rcases hg' with h' | h'
          · exact h'.2
          · rw [hw.1] at h'; cases h'.1
        cases e : late k with
        | true => have := key w w' (KeepBut.refl _ _) (hk.mono fun _ _ h => h.2); rw [e] at this; exact this
        | false => have := key w' w (early e hk) (KeepBut.refl _ _); rw [e] at this; exact this
      · obtain ⟨o', ho', _, hr⟩ := h w1 w2 hk hk2
        obtain rfl : o = o' := Option.some.inj (ho.symm.trans ho')
        exact hr
theorem rn : At P l late w1 w2 [] [] a a := rfl
theorem rv (h : At P l late w1 w2 ks vs (a.put o.dst v) b) (he : late k = false) (ho : l[k]? = some o) (hw : Region.wanted o (yielded l.toArray a.tmps) = true)
    (hv : (execOp a.eval o).run P w1 = .ok (.value v) w1) : At P l late w1 w2 (k :: ks) (v :: vs) a b :=
  ⟨o, ho, .inl ⟨hw, by rw [he]; exact .inl ⟨w1, hv, KeepBut.refl _ _⟩⟩, h⟩
theorem rl (h : At P l late w1 w2 ks vs (a.put o.dst v) b) (he : late k = true) (ho : l[k]? = some o) (hw : Region.wanted o (yielded l.toArray a.tmps) = true)
    (hv : (execOp a.eval o).run P w2 = .ok (.value v) w2) : At P l late w1 w2 (k :: ks) (v :: vs) a b :=
  ⟨o, ho, .inl ⟨hw, by rw [he]; exact .inl ⟨w2, hv, KeepBut.refl _ _⟩⟩, h⟩
theorem rs (h : At P l late w1 w2 ks vs (a.put o.dst undef) b) (ho : l[k]? = some o) (hw : Region.wanted o (yielded l.toArray a.tmps) = false) : At P l late w1 w2 (k :: ks) (undef :: vs) a b :=
  ⟨o, ho, .inr ⟨hw, rfl⟩, h⟩
theorem rc {f : FuncId} {args : Array Value} (h : At P l late w1 w2 ks vs (a.put o.dst v) b) (he : late k = false) (ho : l[k]? = some o) (hw : Region.wanted o (yielded l.toArray a.tmps) = true)
    (hv : (execOp a.eval o).run P w1 = .ok (.enter f args) w1)
    (hc : Calls P f args w1 fun e w'' => e = .returned v ∧ Below w1.heap.size w1 w'') : At P l late w1 w2 (k :: ks) (v :: vs) a b :=
  ⟨o, ho, .inl ⟨hw, by rw [he]; exact .inr (.inl ⟨f, args, w1, hv, hc.mono fun _ _ ⟨he, hb⟩ => ⟨he, KeepBut.of_below' hb⟩⟩)⟩, h⟩
end
theorem pl_nil {w : World} {N : Act → Prop} {a : Act} (h : N a) : PureList P ops X late w N [] a := h
end
def Stored (w : World) (b : Nat) (c : Array Value) (t : TypeId) (w' : World) : Prop := KeepBut (fun k => k = b) w w' ∧ w'.heap[b]? = some (.cells c t (0, 0))
theorem Stored.keep {w : World} {b : Nat} {c : Array Value} {t : TypeId} {A B : World} (h : Stored w b c t A) (hk : Keep A B) : Stored w b c t B :=
  ⟨h.1.trans (hk.mono fun _ _ h => h.elim), (hk.block b (block_lt h.2) id).trans h.2⟩
theorem stores_block {P : Program} {w : World} {a : Act} {o : Oper} (t : TypeId) (p x : Operand) (hop : o.op = .store t p x) {b : Nat} {c c' : Array Value} {t' : TypeId} (hp : a.eval p = .pointer (some ⟨b, 0, none⟩)) (hx : a.eval x = .agg c')
    (hb : w.heap[b]? = some (.cells c t' (0, 0))) (hi : (P.info? t).map (·.size) = some c'.size) (ho : c.size = c'.size) (h1 : c'.all (·.oneCell') = true) : Stores P (fun k => k = b) w (execOp a.eval o) (Stored w b c' t') := by
  intro w' hk
  have hb' := (hk.block b (block_lt hb) id).trans hb
  have hkb : KeepBut (fun k => k = b) w (w'.setRow b c') := (hk.mono fun _ _ h => h.elim).trans ⟨rfl, rfl, rfl, by simp [World.setRow], fun k _ hne => setRow_other w' b k c' hne⟩
  refine ⟨w'.setRow b c', ?_, hkb, hkb, setRow_heap w' b _ c' _ _ hb'⟩
  have hl := run_storeVar_row (P := P) w' b t' t c c' hb' hi ho h1
  simp [execOp, hop, hp, hx, Instr.storeAt, Instr.sureAddr, hl, Result.andThen]
theorem stb {P : Program} {w : World} {a : Act} {o : Oper} {t t' : TypeId} {p x : Operand} {b : Nat} {c c' : Array Value} (hb : w.heap[b]? = some (.cells c t' (0, 0))) (hop : o.op = .store t p x) (hp : a.eval p = .pointer (some ⟨b, 0, none⟩)) (hx : a.eval x = .agg c') (hi : fits P t c c' = true) :
    Stores P (fun k => k = b) w (execOp a.eval o) (Stored w b c' t') :=
  have ⟨h1, h2, h3⟩ := fits_spec hi
  stores_block t p x hop hp hx hb h1 h2 h3
section
variable {P : Program} {ops : Array Oper} {Q : Exit → Act → World → Prop} {X : Nat → Prop} {late : Nat → Bool}
theorem PureList.rebase {w w2 : World} {N : Act → Prop} (hk : Keep w w2) : ∀ {ks : List Nat} {a : Act}, PureList P ops X late w N ks a → PureList P ops X late w2 N ks a
  | [], _, h => h
  | k :: ks, a, ⟨o, v, ho, hg, hr⟩ => by
    refine ⟨o, v, ho, ?_, PureList.rebase hk hr⟩
    unfold Gets at hg ⊢
    exact hg.imp (fun h => ⟨h.1, fun w' hk' => h.2 w' ((hk.mono fun _ _ h => h.elim).trans hk')⟩) id
theorem letter2_sound {R : Exit → Act → World → Prop} {T : Array Nat} {ks ts : List Nat} {l1 l : Nat} (ok : RegionOk ops late T (ks ++ [l1]) [l] ts) (hbl : behind T l l1 = true) {w : World} (G : Value → World → Prop)
    {F : Value → World → World → Prop} (hF : ∀ v w2 A B, F v w2 A → Keep A B → F v w2 B) (fuel : Nat) {ol1 ol : Oper} (hol1 : ops[l1]? = some ol1) (hol : ops[l]? = some ol) :
    ∀ (m : Nat) (rest : List Nat) (listed : Array Bool) (a : Act) (w1 : World), rest.length = m → Keep w w1 → Todo ops T ((ks ++ [l1]) ++ [l]) ((rest ++ [l1]) ++ [l]) listed → (∀ k ∈ rest, k ∈ ks) → pairsOk ops T (rest ++ [l1]) = true →
      PureList P ops X late w (fun a' => Region.wanted ol1 (yielded ops a'.tmps) = true ∧ SureSome P w (execOp a'.eval ol1) G ∧ ∀ v w2, Keep w w2 → G v w2 →
        (Region.wanted ol (yielded ops (a'.put ol1.dst v).tmps) = true ∧ Stores P X w2 (execOp (a'.put ol1.dst v).eval ol) (F v w2) ∧ ∀ w', F v w2 w' → wpAny P .any ops R fuel (allListed ops ((ks ++ [l1]) ++ [l])) ((a'.put ol1.dst v).put ol.dst undef) w')) rest a →
      wpAny P .any ops R (m + 1 + 1 + fuel) listed a w1 := by
  intro m
  induction m using Nat.strongRecOn with
  | _ m ih =>
    intro rest listed a w1 hm hk ht hsub hp h
    obtain ⟨hr, hall⟩ := ht.ready ok.base (by simp)
    rw [show m + 1 + 1 + fuel = (m + 1 + fuel) + 1 from by omega]
    refine ⟨fun e => absurd e hr, fun i hi => ?_⟩
    have hir := hall i hi
    have hnx := ht.next hi hir
    obtain ⟨h0, hlt, hdeps⟩ := mem_ready'.1 hi
    have hnd := ht.nodup
    have notBehind : ∀ k, k ∈ (rest ++ [l1]) ++ [l] → behind T i k = false := fun k hk' => by
      cases hb : behind T i k
      · rfl
      · have := behind_listed ok.base.table ok.base.lt ht.closed i k hlt hdeps hb
        have hkl := (ok.base.inside k (ht.sub k hk')).1
        rw [getD_any (by rw [ht.size]; exact hkl) false true, ht.iff k hkl] at this
        have hc : ((rest ++ [l1]) ++ [l]).contains k = true := by simpa using hk'
        rw [hc] at this; simp at this
    have hnd1 := (List.nodup_append.1 hnd).1
    have hlr : l ∉ rest ++ [l1] := fun hl => by
      have := (List.nodup_append.1 hnd).2.2 l hl l (by simp); exact this rfl
    have hlr1 : l1 ∉ rest := fun hl => by
      have := (List.nodup_append.1 hnd1).2.2 l1 hl l1 (by simp); exact this rfl
    have hil : i ≠ l := by
      rintro rfl
      rw [notBehind l1 (by simp)] at hbl
      cases hbl
    by_cases hi1 : i = l1
    · subst hi1
      have hap : ∀ k ∈ rest, apartAt ops i k = true := fun k hk' => (pairsOk_spec (l2 := []) hp k hk').resolve_right fun hb => by rw [notBehind k (by simp [hk'])] at hb; cases hb
      have hp' : pairsOk ops T rest = true := by have := pairsOk_erase (i := i) hp; rwa [List.erase_append_right _ hlr1, show [i].erase i = [] from by simp, List.append_nil] at this
      rw [List.erase_append_left _ (by simp), List.erase_append_right _ hlr1, show [i].erase i = [] from by simp, List.append_nil] at hnx
      obtain ⟨a', ⟨hw, hs, _⟩, he, hw'⟩ := PureList.seen ok.base.sel hol1 hap h
      unfold wpOp
      simp only [hol1]
      rw [if_pos (by rw [← hw']; exact hw)]
      rw [he] at hs
      refine .inl ((hs w1 hk).wp fun v w'' hk'' hG'' => ?_)
      have hkw := hk.trans hk''
      refine letter_sound (X := X) ok (w := w'') (F := F v w'') (fun A B hf hk => hF v w'' A B hf hk) fuel hol m rest _ _ _ hm (KeepBut.refl _ _) hnx (fun k hk' => by simp [hsub k hk']) hp' ?_
      refine PureList.mono ?_ (PureList.putIn ok.base.sel hol1 v hap (PureList.rebase hkw h))
      rintro a'' ⟨a', ⟨_, _, hN⟩, rfl⟩
      exact hN v w'' hkw hG''
    · have hir' : i ∈ rest := by simpa [hil, hi1] using hir
      obtain ⟨r1, r2, rfl⟩ := List.append_of_mem hir'
      have hnd2 := (List.nodup_append.1 hnd1).1
      rw [List.erase_append_left _ (by simp), List.erase_append_left _ hir', erase_mid hnd2] at hnx
      have hp' : pairsOk ops T ((r1 ++ r2) ++ [l1]) = true := by have := pairsOk_erase (i := i) hp; rwa [List.erase_append_left _ hir', erase_mid hnd2] at this
      have hap : ∀ k ∈ r1, apartAt ops i k = true := fun k hk' => (pairsOk_spec (l2 := r2 ++ [l1]) (by simpa using hp) k hk').resolve_right fun hb => by rw [notBehind k (by simp [hk'])] at hb; cases hb
      obtain ⟨o, v, ho, hg, hrest⟩ := PureList.first ok.base.sel hap h
      have hlen : (r1 ++ r2).length + 1 = m := by simp at hm ⊢; omega
      have hsub' : ∀ k ∈ r1 ++ r2, k ∈ ks := fun k hk' => hsub k (by simp at hk' ⊢; exact hk'.imp id .inr)
      rw [show m + 1 + fuel = (r1 ++ r2).length + 1 + 1 + fuel from by omega]
      unfold wpOp
      simp only [ho]
      rcases hg with ⟨hw, hs⟩ | ⟨hw, rfl⟩
      · rw [if_pos hw]
        exact .inl ((hs w1 (hk.mono fun _ _ h => h.elim)).wp fun w'' hk'' => ih _ (by omega) _ _ _ _ rfl (hk.trans hk'') hnx hsub' hp' hrest)
      · rw [if_neg (by simp [hw])]
        exact ih _ (by omega) _ _ _ _ rfl hk hnx hsub' hp' hrest
theorem Stores.mono {X X' : Nat → Prop} {w : World} {s : Sem Next} {F F' : World → Prop} (hX : ∀ k, X k → X' k) (hF : ∀ w', F w' → F' w') (h : Stores P X w s F) : Stores P X' w s F' := fun w' hk => by
  obtain ⟨w'', h1, h2, h3⟩ := h w' hk
  exact ⟨w'', h1, h2.mono (fun _ _ h => hX _ h), hF _ h3⟩
theorem wp_letter2 {R : Exit → Act → World → Prop} {id : Nat} {a : Act} {w : World} (X : Nat → Prop) (late : Nat → Bool) (ks : List Nat) (l1 l k : Nat) (d1 d : Option Tmp) (G : Value → World → Prop) (F : Value → World → World → Prop) {ol1 ol : Oper} (hol1 : ops[l1]? = some ol1) (hd1 : ol1.dst = d1) (hol : ops[l]? = some ol) (hd : ol.dst = d)
    (hm : P.follows .mixedOrders = true) (hok : regionOk ops late (Region.before ops) (ks ++ [l1]) [l] (List.range' k (ops.size - k)) = true) (hbl : behind (Region.before ops) l l1 = true) (hsz : ops.size = ks.length + 1 + 1 + (ops.size - k))
    (hF : ∀ v w2 A B, F v w2 A → Keep A B → F v w2 B)
    (h : PureList P ops X late w (fun a' => Region.wanted ol1 (yielded ops a'.tmps) = true ∧ SureSome P w (execOp a'.eval ol1) G ∧ ∀ v w2, Keep w w2 → G v w2 →
        (Region.wanted ol (yielded ops (a'.put d1 v).tmps) = true ∧ Stores P X w2 (execOp (a'.put d1 v).eval ol) (F v w2) ∧ ∀ w', F v w2 w' → wpList P ops R (ops.toList.drop k) ((a'.put d1 v).put d undef) w')) ks a) : (Code.region id ops true).wp P R a w := by
  subst hd1 hd
  have ok := regionOk_spec hok
  refine wp_region_any hm ?_
  rw [hsz]
  have st := Todo.start ok.base
  refine letter2_sound (X := X) (late := late) (w := w) ok hbl G hF (ops.size - k) hol1 hol ks.length ks _ a _ rfl ⟨rfl, rfl, rfl, Nat.le_refl _, fun _ _ _ => rfl⟩ (by rw [hsz] at st; exact st) (fun _ h => h) ok.base.pairs ?_
  refine PureList.mono (fun a' ⟨hw, hs, hN⟩ => ⟨hw, hs, fun v w2 hk hg => ?_⟩) h
  obtain ⟨h1, h2, h3⟩ := hN v w2 hk hg
  exact ⟨h1, h2, fun w' hf => by
    have := tail_sound ok.base.tail ⟨ops.toList.drop k, range_drop k, h3 w' hf⟩
    rw [List.length_range'] at this
    exact this⟩
end
end Go.Proofs.YtjibbchfndhhpaaGreatDoor.RT
namespace Go.Proofs.YtjibbchfndhhpaaGreatDoor
open Go.RowKit Go.Shelf
attribute [local go_sem] Oper.semAt_some
abbrev Z6 : Array Value := #[.int .i64 0, .bool false, .bool false, .int .i64 0, .int .i64 0, .int .i64 0]
theorem resolve_any (s : Dw.St) (h : 0 ≤ s.iso ∧ s.iso ≤ 15) (v : Int) (w : World) :
    Calls Tryz.prog 97 #[stV s, .int .i64 v] w fun e w' => e = .returned (stV (Dw.resolveS s v)) ∧ Below w.heap.size w w' := by
  have HS := Lib.hid (fun w => safe_any s h w)
  obtain ⟨V, hV⟩ : ∃ V, (w.alloc (.cells (stC s) 28)).alloc (.cells Z6 28) = V := ⟨_, rfl⟩
  have b0 : V.heap[w.heap.size]? = some (.cells (stC s) 28) := by rw [← hV]; exact heap_alloc2_old _ _ _
  have b1 : V.heap[w.heap.size + 1]? = some (.cells Z6 28) := by rw [← hV]; exact heap_alloc2_new _ _ _
  have hB : Below w.heap.size w V := by rw [← hV]; exact ((Below.refl _ w).alloc (Nat.le_refl _) _).alloc (by simp) _
  by_cases h2 : v = 2
  · subst h2
    go_enter Tryz.func97, Tryz.ntmps97
    go_wp2_with (first | (refine lb b0 rfl rfl rfl (by kernel_rfl) ?_) | (refine sb b0 rfl rfl rfl rfl (by kernel_rfl) ?_))
    refine cb (HS.out _) fun w1 hb => ?_
    replace b0 := kp hb b0
    replace b1 := kp hb b1
    replace hB := tr hB hb
    clear hb hV
    have q0 := heap_setCell_same w1 w.heap.size 1 _ _ (.bool true) b0
    change _ = some (Obj.cells (stC { s with ar := true }) _ _) at q0
    have r0 := (heap_setCell_other w1 ⟨w.heap.size, 1, none⟩ (w.heap.size + 1) (.bool true) (by simp)).trans b1
    have hB0 := hB.setCell (p := ⟨w.heap.size, 1, none⟩) (by simp) (.bool true)
    have q1 := heap_setCell_same _ w.heap.size 0 _ _ (.int .i64 (Dw.safeI s)) q0
    change _ = some (Obj.cells (stC { s with mo := Dw.safeI s, ar := true }) _ _) at q1
    have r1 := (heap_setCell_other _ ⟨w.heap.size, 0, none⟩ (w.heap.size + 1) (.int .i64 (Dw.safeI s)) (by simp)).trans r0
    have hB1 := hB0.setCell (p := ⟨w.heap.size, 0, none⟩) (by simp) (.int .i64 (Dw.safeI s))
    obtain ⟨W2, hW2⟩ : ∃ W2, (w1.setCell ⟨w.heap.size, 1, none⟩ (.bool true)).setCell ⟨w.heap.size, 0, none⟩ (.int .i64 (Dw.safeI s)) = W2 := ⟨_, rfl⟩
    rw [hW2] at q1 r1 hB1
    obtain ⟨c0, c1, -⟩ := cells6 b0
    obtain ⟨d0, d1, -⟩ := cells6 q0
    have z0 := frozen0 b0 1
    have z1 := frozen0 q0 0
    go_wp2_with (first | (refine lb q1 rfl rfl rfl (by kernel_rfl) ?_) | (refine sb q1 rfl rfl rfl rfl (by kernel_rfl) ?_) | (refine lb r1 rfl rfl rfl (by kernel_rfl) ?_) | (refine sb r1 rfl rfl rfl rfl (by kernel_rfl) ?_))
    exact bodyPost_ret (rcr rfl (srh r1) (by rfl) (by kernel_rfl)) rfl ⟨rfl, below_setRow hB1 (by omega) _⟩
  · by_cases h1 : v = 1
    · subst h1
      have q0 := heap_setCell_same V w.heap.size 1 _ _ (.bool false) b0
      change _ = some (Obj.cells (stC { s with ar := false }) _ _) at q0
      have r0 := (heap_setCell_other V ⟨w.heap.size, 1, none⟩ (w.heap.size + 1) (.bool false) (by simp)).trans b1
      have hB0 := hB.setCell (p := ⟨w.heap.size, 1, none⟩) (by simp) (.bool false)
      have q1 := heap_setCell_same _ w.heap.size 0 _ _ (.int .i64 0) q0
      change _ = some (Obj.cells (stC { s with mo := 0, ar := false }) _ _) at q1
      have r1 := (heap_setCell_other _ ⟨w.heap.size, 0, none⟩ (w.heap.size + 1) (.int .i64 0) (by simp)).trans r0
      have hB1 := hB0.setCell (p := ⟨w.heap.size, 0, none⟩) (by simp) (.int .i64 0)
      obtain ⟨W2, hW2⟩ : ∃ W2, (V.setCell ⟨w.heap.size, 1, none⟩ (.bool false)).setCell ⟨w.heap.size, 0, none⟩ (.int .i64 0) = W2 := ⟨_, rfl⟩
      rw [hW2] at q1 r1 hB1
      obtain ⟨c0, c1, -⟩ := cells6 b0
      obtain ⟨d0, d1, -⟩ := cells6 q0
      have z0 := frozen0 b0 1
      have z1 := frozen0 q0 0
      go_enter Tryz.func97, Tryz.ntmps97
      go_wp2_with (first | (refine lb q1 rfl rfl rfl (by kernel_rfl) ?_) | (refine sb q1 rfl rfl rfl rfl (by kernel_rfl) ?_) | (refine lb r1 rfl rfl rfl (by kernel_rfl) ?_) | (refine sb r1 rfl rfl rfl rfl (by kernel_rfl) ?_))
      exact bodyPost_ret (rcr rfl (srh r1) (by rfl) (by kernel_rfl)) rfl ⟨rfl, below_setRow hB1 (by omega) _⟩
    · have hr : Dw.resolveS s v = s := by unfold Dw.resolveS; rw [if_neg h2, if_neg h1]
      have HR := Lib.hid hr
      clear hr
      have h2' : (v == 2) = false := by simpa using h2
      have h1' : (v == 1) = false := by simpa using h1
      go_enter Tryz.func97, Tryz.ntmps97
      go_wp2_with (first | (refine lb b0 rfl rfl rfl (by kernel_rfl) ?_) | (refine sb b0 rfl rfl rfl rfl (by kernel_rfl) ?_) | (refine lb b1 rfl rfl rfl (by kernel_rfl) ?_) | (refine sb b1 rfl rfl rfl rfl (by kernel_rfl) ?_))
      exact bodyPost_ret (rcr rfl (srh b1) (by rfl) (by kernel_rfl)) rfl ⟨by rw [HR.out], below_setRow hB (by omega) _⟩
end Go.Proofs.YtjibbchfndhhpaaGreatDoor
namespace Go.Proofs.YtjibbchfndhhpaaGreatDoor.RT
open Go.RowKit
section
variable {F : Fence} {n : Nat} {P : Program} {ops : Array Oper} {Q : Exit → Act → World → Prop} {R : Exit → Act → World → Prop} {X : Nat → Prop} {late : Nat → Bool}
def YlX (P : Program) (X : Nat → Prop) (w' : World) (r : Result Next) (G : Value → World → Prop) : Prop :=
  (∃ v w'', r = .ok (.value v) w'' ∧ KeepBut X w' w'' ∧ G v w'') ∨ (∃ f args w1, r = .ok (.enter f args) w1 ∧ Calls P f args w1 fun e w'' => ∃ v, e = .returned v ∧ KeepBut X w' w'' ∧ G v w'')
theorem YlX.wpIn (hF : Open F) {o : Oper} (hd : ∀ c, o.op ≠ .defer c) {a : Act} {G : Value → World → Prop} {w' : World} (h : YlX P X w' ((execOp a.eval o).run P w') G) {K : Act → World → Prop} (hK : ∀ v w'', KeepBut X w' w'' → G v w'' → K (a.put o.dst v) w'') : Oper.wpIn F n P o a w' K Q := by
  refine ⟨fun f _ => hF.fn f, ?_⟩
  rw [Oper.semAt_eq _ _ _ hd]
  rcases h with ⟨v, w'', hr, hk, hR⟩ | ⟨f, args, w1, hr, hc⟩
  · rw [hr]; exact hK _ _ hk hR
  · rw [hr]
    refine ⟨(fun h => by rw [hF.depth] at h; cases h), ?_⟩
    refine (hF.calls hc).mono ?_
    rintro e w'' ⟨v, rfl, hk, hR⟩
    exact hK _ _ hk hR
def LX (F : Fence) (n : Nat) (P : Program) (ops : Array Oper) (X : Nat → Prop) (R : Exit → Act → World → Prop) (tops : List Oper) : List Nat → Act → World → Prop
  | [], a, w => ∀ w', Keep w w' → wpListIn F n P ops R tops a w'
  | l :: ls, a, w => ∃ ol, ops[l]? = some ol ∧ Region.wanted ol (yielded ops a.tmps) = true ∧ ∀ w', Keep w w' → YlX P X w' ((execOp a.eval ol).run P w') (fun v w'' => LX F n P ops X R tops ls (a.put ol.dst v) w'')
theorem LX.keep {tops : List Oper} : ∀ {ls : List Nat} {a : Act} {w w' : World}, LX F n P ops X R tops ls a w → Keep w w' → LX F n P ops X R tops ls a w'
  | [], _, _, _, h, k => fun w'' k' => h w'' (k.trans k')
  | _ :: _, _, _, _, ⟨ol, h1, h2, h3⟩, k => ⟨ol, h1, h2, fun w'' k' => h3 w'' (k.trans k')⟩
theorem PureList.fixX {w : World} {N : Act → Prop} : ∀ {ks : List Nat} {a : Act}, PureList P ops X late w N ks a → ∃ a', N a' ∧ PureList P ops X late w (fun b => b = a') ks a
  | [], a, h => ⟨a, h, rfl⟩
  | _ :: _, _, ⟨o, v, ho, hg, hr⟩ => by
    obtain ⟨a', hn, hp⟩ := PureList.fixX hr
    exact ⟨a', hn, o, v, ho, hg, hp⟩
theorem lettersx_sound (hF : Open F) (hnd0 : noDefer ops = true) {T : Array Nat} {ks ls ts : List Nat} (ok : RegionOk ops late T ks ls ts) {tops : List Oper} (ht : ts.map (fun t => ops[t]?) = tops.map some) :
    ∀ (m : Nat) (rest lrest : List Nat) (listed : Array Bool) (a a' : Act) (w w1 : World), rest.length + lrest.length = m → Keep w w1 → Todo ops T (ks ++ ls) (rest ++ lrest) listed → (∀ k ∈ rest, k ∈ ks) → (∀ l ∈ lrest, l ∈ ls) → lettersOk T lrest = true → pairsOk ops T rest = true →
      PureList P ops X late w (fun b => b = a') rest a → LX F n P ops X R tops lrest a' w1 → wpAnyIn F n P .any ops R (m + ts.length) listed a w1 := by
  intro m
  induction m with
  | zero =>
    intro rest lrest listed a a' w w1 hm hk htd _ _ _ _ hp hL
    have h1 : rest = [] := List.eq_nil_of_length_eq_zero (by omega)
    have h2 : lrest = [] := List.eq_nil_of_length_eq_zero (by omega)
    subst h1; subst h2
    obtain rfl : a = a' := hp
    rw [htd.done, Nat.zero_add]
    exact tailIn_sound hF ok.base.tail ⟨tops, ht, hL w1 (KeepBut.refl _ _)⟩
  | succ m ih =>
    intro rest lrest listed a a' w w1 hm hk htd hsub hlsub hlo hp h hL
    obtain ⟨hr, hall⟩ := htd.ready ok.base (by intro e; obtain ⟨e1, e2⟩ := List.append_eq_nil_iff.1 e; rw [e1, e2] at hm; simp at hm)
    rw [show m + 1 + ts.length = (m + ts.length) + 1 from by omega]
    refine ⟨fun e => absurd e hr, fun i hi => ?_⟩
    have hir := hall i hi
    have hnx := htd.next hi hir
    obtain ⟨h0, hlt, hdeps⟩ := mem_ready'.1 hi
    have hnd := htd.nodup
    have notBehind : ∀ k, k ∈ rest ++ lrest → behind T i k = false := fun k hk' => by
      cases hb : behind T i k
      · rfl
      · have := behind_listed ok.base.table ok.base.lt htd.closed i k hlt hdeps hb
        have hkl := (ok.base.inside k (htd.sub k hk')).1
        rw [getD_any (by rw [htd.size]; exact hkl) false true, htd.iff k hkl] at this
        have hc : (rest ++ lrest).contains k = true := by simpa using hk'
        rw [hc] at this; simp at this
    by_cases hir' : i ∈ rest
    · obtain ⟨l1, l2, rfl⟩ := List.append_of_mem hir'
      have hnd1 := (List.nodup_append.1 hnd).1
      rw [List.erase_append_left _ hir', erase_mid hnd1] at hnx
      have hp' : pairsOk ops T (l1 ++ l2) = true := by have := pairsOk_erase (i := i) hp; rwa [erase_mid hnd1] at this
      have hap : ∀ k ∈ l1, apartAt ops i k = true := fun k hk' => (pairsOk_spec hp k hk').resolve_right fun hb => by rw [notBehind k (by simp [hk'])] at hb; cases hb
      obtain ⟨o, v, ho, hg, hrest⟩ := PureList.first ok.base.sel hap h
      have hlen : (l1 ++ l2).length + lrest.length = m := by simp at hm ⊢; omega
      have hsub' : ∀ k ∈ l1 ++ l2, k ∈ ks := fun k hk' => hsub k (by simp at hk' ⊢; exact hk'.imp id .inr)
      unfold wpOpIn
      simp only [ho]
      rcases hg with ⟨hw, hs⟩ | ⟨hw, rfl⟩
      · rw [if_pos hw]
        exact (hs w1 (hk.mono fun _ _ h => h.elim)).wpIn hF (noDefer_spec hnd0 ho) fun w'' hk'' => ih _ _ _ _ _ _ _ hlen (hk.trans hk'') hnx hsub' hlsub hlo hp' hrest (hL.keep hk'')
      · rw [if_neg (by simp [hw])]
        exact ⟨fun f _ => hF.fn f, ih _ _ _ _ _ _ _ hlen hk hnx hsub' hlsub hlo hp' hrest hL⟩
    · have hil : i ∈ lrest := (List.mem_append.1 hir).resolve_left hir'
      cases lrest with
      | nil => cases hil
      | cons l lr =>
        simp only [lettersOk, Bool.and_eq_true, List.all_eq_true] at hlo
        have hil : i = l := by
          rcases List.mem_cons.1 hil with e | e
          · exact e
          · have := hlo.1 i e
            rw [notBehind l (by simp)] at this; cases this
        subst hil
        have hal : ∀ k ∈ rest, apartAt ops i k = true ∧ late k = true := fun k hk' => (ok.letter i (hlsub i (by simp)) k (hsub k hk')).resolve_right fun hb => by rw [notBehind k (by simp [hk'])] at hb; cases hb
        have hap : ∀ k ∈ rest, apartAt ops i k = true := fun k hk' => (hal k hk').1
        rw [List.erase_append_right _ hir'] at hnx
        simp at hnx
        obtain ⟨ol, hol, hw, hs⟩ := hL
        obtain ⟨a'', rfl, he, hw'⟩ := PureList.seen ok.base.sel hol hap h
        unfold wpOpIn
        simp only [hol]
        rw [if_pos (by rw [← hw']; exact hw)]
        rw [he] at hs
        refine (hs w1 (KeepBut.refl _ _)).wpIn hF (noDefer_spec hnd0 hol) fun v w'' hk'' hL'' => ?_
        have hkX : KeepBut X w w'' := (hk.mono fun _ _ h => h.elim).trans hk''
        refine ih rest lr _ _ _ w'' w'' (by simp at hm; omega) (KeepBut.refl _ _) hnx hsub (fun l hl => hlsub l (by simp [hl])) hlo.2 hp ?_ hL''
        refine PureList.mono ?_ (PureList.putIn ok.base.sel hol v hap (PureList.anyW hkX (fun k hk' => (hal k hk').2) h))
        rintro b ⟨b', rfl, rfl⟩
        rfl
theorem wpIn_lettersx (hF : Open F) {id : Nat} {a : Act} {w : World} (X : Nat → Prop) (late : Nat → Bool) (ks ls : List Nat) (k : Nat) (hm : P.follows .mixedOrders = true) (hnd : noDefer ops = true) (hok : regionOk ops late (Region.before ops) ks ls (List.range' k (ops.size - k)) = true) (hlk : lettersOk (Region.before ops) ls = true) (hsz : ops.size = ks.length + ls.length + (ops.size - k))
    (h : PureList P ops X late w (fun a' => LX F n P ops X R (ops.toList.drop k) ls a' w) ks a) : (Code.region id ops true).wpIn F n P R a w := by
  have ok := regionOk_spec hok
  refine wpIn_region_any hm ?_
  have st := Todo.start ok.base
  obtain ⟨a', hL, hp⟩ := PureList.fixX h
  have kd : Keep w w.drew := ⟨rfl, rfl, rfl, Nat.le_refl _, fun _ _ _ => rfl⟩
  have e := lettersx_sound (F := F) (n := n) (P := P) (R := R) hF hnd ok (range_drop k) (ks.length + ls.length) ks ls (Array.replicate ops.size false) a a' w w.drew rfl kd st (fun _ h => h) (fun _ h => h) hlk ok.base.pairs hp (hL.keep kd)
  rw [List.length_range', ← hsz] at e
  exact e
end
section
variable {F : Fence} {n : Nat} {P : Program} {R : Exit → Act → World → Prop} {X : Nat → Prop} {l : List Oper} {w : World} {k : Nat} {ls : List Nat} {a : Act} {o : Oper} {tops : List Oper}
theorem lx_call {f : FuncId} {args : Array Value} (ho : l[k]? = some o) (hw : Region.wanted o (yielded l.toArray a.tmps) = true)
    (hv : ∀ w', Keep w w' → (execOp a.eval o).run P w' = .ok (.enter f args) w') (hc : ∀ w', Keep w w' → Calls P f args w' fun e w'' => ∃ v, e = .returned v ∧ KeepBut X w' w'' ∧ LX F n P l.toArray X R tops ls (a.put o.dst v) w'') : LX F n P l.toArray X R tops (k :: ls) a w :=
  ⟨o, by simpa using ho, hw, fun w' hk => .inr ⟨f, args, w', hv w' hk, hc w' hk⟩⟩
theorem lx_value (ho : l[k]? = some o) (hw : Region.wanted o (yielded l.toArray a.tmps) = true)
    (hv : ∀ w', Keep w w' → ∃ v w'', (execOp a.eval o).run P w' = .ok (.value v) w'' ∧ KeepBut X w' w'' ∧ LX F n P l.toArray X R tops ls (a.put o.dst v) w'') : LX F n P l.toArray X R tops (k :: ls) a w :=
  ⟨o, by simpa using ho, hw, fun w' hk => .inl (hv w' hk)⟩
theorem lx_nil (h : ∀ w', Keep w w' → wpListIn F n P l.toArray R tops a w') : LX F n P l.toArray X R tops [] a w := h
end
end Go.Proofs.YtjibbchfndhhpaaGreatDoor.RT
