/- What the statement's proof stands on, part 15: Chain, Letters. -/
import Derived.Test.YtjonoojhdifjiaaGreatDoorBb2
set_option linter.unusedSimpArgs false
set_option linter.unusedVariables false
set_option maxRecDepth 100000
set_option maxHeartbeats 4000000
namespace Go.Proofs.YtjonoojhdifjiaaGreatDoor
open Go.RowKit
section
variable {P : Program} {ops : Array Oper} {Q : Exit → Act → World → Prop} {St : Nat → World → Prop} {cs : List Nat}
def YlTo (P : Program) (r : Result Next) (v : Value) (F : World → Prop) : Prop :=
  (∃ w'', r = .ok (.value v) w'' ∧ F w'') ∨ (∃ f args w1, r = .ok (.enter f args) w1 ∧ Calls P f args w1 fun e w'' => e = .returned v ∧ F w'')
theorem YlTo.wp {o : Oper} {a : Act} {v : Value} {F : World → Prop} {w' : World} (h : YlTo P ((execOp a.eval o).run P w') v F) {K : Act → World → Prop} (hK : ∀ w'', F w'' → K (a.put o.dst v) w'') : o.wp P a w' K Q := by
  unfold Oper.wp
  rcases h with ⟨w'', hr, hk⟩ | ⟨f, args, w1, hr, hc⟩
  · rw [hr]; exact hK _ hk
  · rw [hr]
    refine Calls.mono hc ?_
    rintro e w'' ⟨rfl, hk⟩
    exact hK _ hk
def Gets2 (P : Program) (ops : Array Oper) (St : Nat → World → Prop) (o : Oper) (a : Act) (v : Value) : Prop :=
  (Region.wanted o (yielded ops a.tmps) = true ∧ ∀ m w', St m w' → Yl P w' ((execOp a.eval o).run P w') v) ∨ (Region.wanted o (yielded ops a.tmps) = false ∧ v = undef)
def Link (P : Program) (ops : Array Oper) (St : Nat → World → Prop) (n : Nat) (o : Oper) (a : Act) (v : Value) : Prop :=
  Region.wanted o (yielded ops a.tmps) = true ∧ ∀ w', St n w' → YlTo P ((execOp a.eval o).run P w') v (St (n + 1))
def ChainList (P : Program) (ops : Array Oper) (St : Nat → World → Prop) (cs : List Nat) (N : Nat → Act → Prop) : List Nat → Nat → Act → Prop
  | [], n, a => N n a
  | k :: ks, n, a => ∃ o v, ops[k]? = some o ∧ ((cs.contains k = true ∧ Link P ops St n o a v ∧ ChainList P ops St cs N ks (n + 1) (a.put o.dst v)) ∨ (cs.contains k = false ∧ Gets2 P ops St o a v ∧ ChainList P ops St cs N ks n (a.put o.dst v)))
theorem ChainList.mono {N N' : Nat → Act → Prop} (h : ∀ n a, N n a → N' n a) : ∀ {ks : List Nat} {n : Nat} {a : Act}, ChainList P ops St cs N ks n a → ChainList P ops St cs N' ks n a
  | [], _, a, hh => h _ a hh
  | _ :: _, _, _, ⟨o, v, ho, hr⟩ => ⟨o, v, ho, hr.imp (fun ⟨c, g, r⟩ => ⟨c, g, ChainList.mono h r⟩) (fun ⟨c, g, r⟩ => ⟨c, g, ChainList.mono h r⟩)⟩
theorem Gets2.put {o : Oper} {a : Act} {v : Value} (hs : ∀ cs b, o.op ≠ .select cs b) {d : Option Tmp} (u : Value) (hd : ∀ t, d = some t → t ∉ o.looksAt ops) : Gets2 P ops St o (a.put d u) v ↔ Gets2 P ops St o a v := by
  unfold Gets2
  rw [wanted_put o a d u hd, execOp_put o hs a d u hd]
theorem Link.put {n : Nat} {o : Oper} {a : Act} {v : Value} (hs : ∀ cs b, o.op ≠ .select cs b) {d : Option Tmp} (u : Value) (hd : ∀ t, d = some t → t ∉ o.looksAt ops) : Link P ops St n o (a.put d u) v ↔ Link P ops St n o a v := by
  unfold Link
  rw [wanted_put o a d u hd, execOp_put o hs a d u hd]
theorem ChainList.swap {N : Nat → Act → Prop} (hsel : Region.noSelect ops = true) {i k : Nat} {l : List Nat} {n : Nat} {a : Act} (hap : apartAt ops i k = true) (hnc : ¬ (cs.contains i = true ∧ cs.contains k = true))
    (h : ChainList P ops St cs N (k :: i :: l) n a) : ChainList P ops St cs N (i :: k :: l) n a := by
  obtain ⟨ok, vk, hok, hk⟩ := h
  rcases hk with ⟨ck, gk, hr⟩ | ⟨ck, gk, hr⟩ <;> obtain ⟨oi, vi, hoi, hi⟩ := hr <;> obtain ⟨h1, h2, h3⟩ := Oper.apart_spec (apartAt_spec hoi hok hap) <;>
    have hsi := (fun c b => Region.noSelect_spec hsel i oi c b hoi) <;> have hsk := (fun c b => Region.noSelect_spec hsel k ok c b hok)
  · rcases hi with ⟨ci, gi, hr⟩ | ⟨ci, gi, hr⟩
    · exact absurd ⟨ci, ck⟩ hnc
    · exact ⟨oi, vi, hoi, .inr ⟨ci, (Gets2.put hsi vk h3).1 gi, ok, vk, hok, .inl ⟨ck, (Link.put hsk vi h1).2 gk, by rw [Act.put_comm a vi vk h2]; exact hr⟩⟩⟩
  · rcases hi with ⟨ci, gi, hr⟩ | ⟨ci, gi, hr⟩
    · exact ⟨oi, vi, hoi, .inl ⟨ci, (Link.put hsi vk h3).1 gi, ok, vk, hok, .inr ⟨ck, (Gets2.put hsk vi h1).2 gk, by rw [Act.put_comm a vi vk h2]; exact hr⟩⟩⟩
    · exact ⟨oi, vi, hoi, .inr ⟨ci, (Gets2.put hsi vk h3).1 gi, ok, vk, hok, .inr ⟨ck, (Gets2.put hsk vi h1).2 gk, by rw [Act.put_comm a vi vk h2]; exact hr⟩⟩⟩
theorem ChainList.first {N : Nat → Act → Prop} (hsel : Region.noSelect ops = true) {i : Nat} {l2 : List Nat} : ∀ {l1 : List Nat} {n : Nat} {a : Act}, (∀ k ∈ l1, apartAt ops i k = true ∧ ¬ (cs.contains i = true ∧ cs.contains k = true)) →
    ChainList P ops St cs N (l1 ++ i :: l2) n a → ChainList P ops St cs N (i :: (l1 ++ l2)) n a
  | [], _, _, _, h => h
  | k :: l1, _, _, hap, ⟨o, v, ho, hr⟩ => ChainList.swap hsel (hap k (by simp)).1 (hap k (by simp)).2 ⟨o, v, ho, hr.imp (fun ⟨c, g, r⟩ => ⟨c, g, ChainList.first hsel (fun j hj => hap j (by simp [hj])) r⟩) (fun ⟨c, g, r⟩ => ⟨c, g, ChainList.first hsel (fun j hj => hap j (by simp [hj])) r⟩)⟩
def linksOk (T : Array Nat) (cs : List Nat) : List Nat → Bool
  | [] => true
  | k :: ks => (ks.all fun i => !(cs.contains i && cs.contains k) || behind T i k) && linksOk T cs ks
theorem linksOk_spec {T : Array Nat} {i : Nat} {l2 : List Nat} : ∀ {l1 : List Nat}, linksOk T cs (l1 ++ i :: l2) = true → ∀ k ∈ l1, ¬ (cs.contains i = true ∧ cs.contains k = true) ∨ behind T i k = true
  | [], _, k, hk => by cases hk
  | k' :: l1, h, k, hk => by
    simp only [List.cons_append, linksOk, Bool.and_eq_true, List.all_eq_true] at h
    rcases List.mem_cons.1 hk with rfl | hk
    · have := h.1 i (by simp)
      simp only [Bool.or_eq_true, Bool.not_eq_true', Bool.and_eq_false_iff] at this
      rcases this with (h1 | h1) | h1
      · exact .inl (fun ⟨a, _⟩ => by rw [h1] at a; cases a)
      · exact .inl (fun ⟨_, a⟩ => by rw [h1] at a; cases a)
      · exact .inr h1
    · exact linksOk_spec h.2 k hk
theorem linksOk_erase {T : Array Nat} {i : Nat} : ∀ {ks : List Nat}, linksOk T cs ks = true → linksOk T cs (ks.erase i) = true
  | [], _ => rfl
  | k :: ks, h => by
    simp only [linksOk, Bool.and_eq_true, List.all_eq_true] at h
    by_cases e : k = i
    · subst e; simpa using h.2
    · rw [List.erase_cons_tail (by simpa using e)]
      simp only [linksOk, Bool.and_eq_true, List.all_eq_true]
      exact ⟨fun j hj => h.1 j (List.mem_of_mem_erase hj), linksOk_erase h.2⟩
theorem chain_sound {R : Exit → Act → World → Prop} {T : Array Nat} {ks ts : List Nat} (ok : RegionOk ops T ks [] ts) (hSt : ∀ n A B, St n A → Keep A B → St n B) (fuel : Nat) :
    ∀ (m : Nat) (rest : List Nat) (listed : Array Bool) (n : Nat) (a : Act) (w1 : World), rest.length = m → St n w1 → Todo ops T (ks ++ []) rest listed → pairsOk ops T rest = true → linksOk T cs rest = true →
      ChainList P ops St cs (fun n' a' => ∀ w', St n' w' → wpAny P .any ops R fuel (allListed ops (ks ++ [])) a' w') rest n a → wpAny P .any ops R (m + fuel) listed a w1 := by
  intro m
  induction m with
  | zero =>
    intro rest listed n a w1 hm hk ht _ _ h
    have : rest = [] := List.eq_nil_of_length_eq_zero hm
    subst this
    rw [ht.done, Nat.zero_add]
    exact h w1 hk
  | succ m ih =>
    intro rest listed n a w1 hm hk ht hp hl h
    have hne : rest ≠ [] := by intro e; subst e; simp at hm
    obtain ⟨hr, hall⟩ := ht.ready ok hne
    rw [show m + 1 + fuel = (m + fuel) + 1 from by omega]
    refine ⟨fun e => absurd e hr, fun i hi => ?_⟩
    have hir := hall i hi
    obtain ⟨l1, l2, rfl⟩ := List.append_of_mem hir
    have hnx := ht.next hi hir
    rw [erase_mid ht.nodup] at hnx
    have hp' : pairsOk ops T (l1 ++ l2) = true := by have := pairsOk_erase (i := i) hp; rwa [erase_mid ht.nodup] at this
    have hl' : linksOk T cs (l1 ++ l2) = true := by have := linksOk_erase (i := i) hl; rwa [erase_mid ht.nodup] at this
    obtain ⟨h0, hlt, hdeps⟩ := mem_ready'.1 hi
    have nb : ∀ k ∈ l1, ¬ behind T i k = true := fun k hk' hb => by
      have := behind_listed ok.table ok.lt ht.closed i k hlt hdeps hb
      have hkl := (ok.inside k (ht.sub k (by simp [hk']))).1
      rw [getD_any (by rw [ht.size]; exact hkl) false true, ht.iff k hkl] at this
      simp [hk'] at this
    have hap : ∀ k ∈ l1, apartAt ops i k = true ∧ ¬ (cs.contains i = true ∧ cs.contains k = true) := fun k hk' => ⟨(pairsOk_spec hp k hk').resolve_right (nb k hk'), (linksOk_spec hl k hk').resolve_right (nb k hk')⟩
    obtain ⟨o, v, ho, hg⟩ := ChainList.first ok.sel hap h
    have hlen : (l1 ++ l2).length = m := by simp at hm ⊢; omega
    unfold wpOp
    simp only [ho]
    rcases hg with ⟨_, ⟨hw, hs⟩, hrest⟩ | ⟨_, ⟨hw, hs⟩ | ⟨hw, rfl⟩, hrest⟩
    · rw [if_pos hw]
      exact .inl ((hs w1 hk).wp fun w'' hk'' => ih _ _ _ _ _ hlen hk'' hnx hp' hl' hrest)
    · rw [if_pos hw]
      exact .inl ((hs n w1 hk).wp fun w'' hk'' => ih _ _ _ _ _ hlen (hSt _ _ _ hk hk'') hnx hp' hl' hrest)
    · rw [if_neg (by simp [hw])]
      exact ih _ _ _ _ _ hlen hk hnx hp' hl' hrest
theorem wp_chain {R : Exit → Act → World → Prop} {id : Nat} {a : Act} {w : World} (ks cs : List Nat) (k : Nat) (St : Nat → World → Prop) (hm : P.follows .mixedOrders = true) (hok : regionOk ops (Region.before ops) ks [] (List.range' k (ops.size - k)) = true) (hlk : linksOk (Region.before ops) cs ks = true) (hsz : ops.size = ks.length + (ops.size - k))
    (hSt : ∀ n A B, St n A → Keep A B → St n B) (h0 : St 0 w)
    (h : ChainList P ops St cs (fun n' a' => ∀ w', St n' w' → wpList P ops R (ops.toList.drop k) a' w') ks 0 a) : (Code.region id ops true).wp P R a w := by
  have ok := regionOk_spec hok
  refine wp_region_any hm ?_
  have st := Todo.start ok
  have e := chain_sound (P := P) (cs := cs) (R := R) ok hSt (List.range' k (ops.size - k)).length ks.length ks (Array.replicate ops.size false) 0 a w.drew rfl (hSt _ _ _ h0 (KeepBut.refl _ w).drew) (by simpa using st) ok.pairs hlk ?_
  · rw [List.length_range', ← hsz] at e
    exact e
  refine ChainList.mono (fun n a' hN w' hk => ?_) h
  have := ok.tail
  exact tail_sound this ⟨_, range_drop k, hN w' hk⟩
end
section
variable {P : Program} {l : List Oper} {St : Nat → World → Prop} {cs : List Nat} {N : Nat → Act → Prop} {n k : Nat} {ks : List Nat} {a : Act} {o : Oper} {v : Value}
theorem cl_value (ho : l[k]? = some o) (hc : cs.contains k = false) (hw : Region.wanted o (yielded l.toArray a.tmps) = true)
    (hv : ∀ m w', St m w' → (execOp a.eval o).run P w' = .ok (.value v) w') (h : ChainList P l.toArray St cs N ks n (a.put o.dst v)) : ChainList P l.toArray St cs N (k :: ks) n a :=
  ⟨o, v, by simpa using ho, .inr ⟨hc, .inl ⟨hw, fun m w' hk => .inl ⟨w', hv m w' hk, KeepBut.refl _ _⟩⟩, h⟩⟩
theorem cl_skip (ho : l[k]? = some o) (hc : cs.contains k = false) (hw : Region.wanted o (yielded l.toArray a.tmps) = false)
    (h : ChainList P l.toArray St cs N ks n (a.put o.dst undef)) : ChainList P l.toArray St cs N (k :: ks) n a :=
  ⟨o, undef, by simpa using ho, .inr ⟨hc, .inr ⟨hw, rfl⟩, h⟩⟩
theorem cl_link {f : FuncId} {args : Array Value} (ho : l[k]? = some o) (hc : cs.contains k = true) (hw : Region.wanted o (yielded l.toArray a.tmps) = true)
    (hv : ∀ w', St n w' → (execOp a.eval o).run P w' = .ok (.enter f args) w') (hcl : ∀ w', St n w' → Calls P f args w' fun e w'' => e = .returned v ∧ St (n + 1) w'') (h : ChainList P l.toArray St cs N ks (n + 1) (a.put o.dst v)) : ChainList P l.toArray St cs N (k :: ks) n a :=
  ⟨o, v, by simpa using ho, .inl ⟨hc, ⟨hw, fun w' hk => .inr ⟨f, args, w', hv w' hk, hcl w' hk⟩⟩, h⟩⟩
theorem cl_nil {P : Program} {ops : Array Oper} (h : N n a) : ChainList P ops St cs N [] n a := h
end
section
variable {P : Program} {ops : Array Oper} {R : Exit → Act → World → Prop}
def LL (P : Program) (ops : Array Oper) (R : Exit → Act → World → Prop) (tops : List Oper) : List Nat → Act → World → Prop
  | [], a, w => ∀ w', Keep w w' → wpList P ops R tops a w'
  | l :: ls, a, w => ∃ ol, ops[l]? = some ol ∧ Region.wanted ol (yielded ops a.tmps) = true ∧ ∀ w', Keep w w' → YlSome P w' ((execOp a.eval ol).run P w') (fun v w'' => LL P ops R tops ls (a.put ol.dst v) w'')
theorem LL.keep {tops : List Oper} : ∀ {ls : List Nat} {a : Act} {w w' : World}, LL P ops R tops ls a w → Keep w w' → LL P ops R tops ls a w'
  | [], _, _, _, h, k => fun w'' k' => h w'' (k.trans k')
  | _ :: _, _, _, _, ⟨ol, h1, h2, h3⟩, k => ⟨ol, h1, h2, fun w'' k' => h3 w'' (k.trans k')⟩
theorem PureList.fix {w : World} {N : Act → Prop} : ∀ {ks : List Nat} {a : Act}, PureList P ops w N ks a → ∃ a', N a' ∧ PureList P ops w (fun b => b = a') ks a
  | [], a, h => ⟨a, h, rfl⟩
  | _ :: _, _, ⟨o, v, ho, hg, hr⟩ => by
    obtain ⟨a', hn, hp⟩ := PureList.fix hr
    exact ⟨a', hn, o, v, ho, hg, hp⟩
def lettersOk (T : Array Nat) : List Nat → Bool
  | [] => true
  | l :: ls => (ls.all fun j => behind T j l) && lettersOk T ls
theorem letters_sound {T : Array Nat} {ks ls ts : List Nat} (ok : RegionOk ops T ks ls ts) {tops : List Oper} (ht : ts.map (fun t => ops[t]?) = tops.map some) {w : World} :
    ∀ (m : Nat) (rest lrest : List Nat) (listed : Array Bool) (a a' : Act) (w1 : World), rest.length + lrest.length = m → Keep w w1 → Todo ops T (ks ++ ls) (rest ++ lrest) listed → (∀ k ∈ rest, k ∈ ks) → (∀ l ∈ lrest, l ∈ ls) → lettersOk T lrest = true → pairsOk ops T rest = true →
      PureList P ops w (fun b => b = a') rest a → LL P ops R tops lrest a' w1 → wpAny P .any ops R (m + ts.length) listed a w1 := by
  intro m
  induction m with
  | zero =>
    intro rest lrest listed a a' w1 hm hk htd _ _ _ _ hp hL
    have h1 : rest = [] := List.eq_nil_of_length_eq_zero (by omega)
    have h2 : lrest = [] := List.eq_nil_of_length_eq_zero (by omega)
    subst h1; subst h2
    obtain rfl : a = a' := hp
    rw [htd.done, Nat.zero_add]
    exact tail_sound ok.tail ⟨tops, ht, hL w1 (KeepBut.refl _ _)⟩
  | succ m ih =>
    intro rest lrest listed a a' w1 hm hk htd hsub hlsub hlo hp h hL
    obtain ⟨hr, hall⟩ := htd.ready ok (by intro e; obtain ⟨e1, e2⟩ := List.append_eq_nil_iff.1 e; rw [e1, e2] at hm; simp at hm)
    rw [show m + 1 + ts.length = (m + ts.length) + 1 from by omega]
    refine ⟨fun e => absurd e hr, fun i hi => ?_⟩
    have hir := hall i hi
    have hnx := htd.next hi hir
    obtain ⟨h0, hlt, hdeps⟩ := mem_ready'.1 hi
    have hnd := htd.nodup
    have notBehind : ∀ k, k ∈ rest ++ lrest → behind T i k = false := fun k hk' => by
      cases hb : behind T i k
      · rfl
      · have := behind_listed ok.table ok.lt htd.closed i k hlt hdeps hb
        have hkl := (ok.inside k (htd.sub k hk')).1
        rw [getD_any (by rw [htd.size]; exact hkl) false true, htd.iff k hkl] at this
        have hc : (rest ++ lrest).contains k = true := by simpa using hk'
        rw [hc] at this; simp at this
    by_cases hir' : i ∈ rest
    · obtain ⟨l1, l2, rfl⟩ := List.append_of_mem hir'
      have hnd1 := (List.nodup_append.1 hnd).1
      rw [List.erase_append_left _ hir', erase_mid hnd1] at hnx
      have hp' : pairsOk ops T (l1 ++ l2) = true := by have := pairsOk_erase (i := i) hp; rwa [erase_mid hnd1] at this
      have hap : ∀ k ∈ l1, apartAt ops i k = true := fun k hk' => (pairsOk_spec hp k hk').resolve_right fun hb => by rw [notBehind k (by simp [hk'])] at hb; cases hb
      obtain ⟨o, v, ho, hg, hrest⟩ := PureList.first ok.sel hap h
      have hlen : (l1 ++ l2).length + lrest.length = m := by simp at hm ⊢; omega
      have hsub' : ∀ k ∈ l1 ++ l2, k ∈ ks := fun k hk' => hsub k (by simp at hk' ⊢; exact hk'.imp id .inr)
      unfold wpOp
      simp only [ho]
      rcases hg with ⟨hw, hs⟩ | ⟨hw, rfl⟩
      · rw [if_pos hw]
        exact .inl ((hs w1 hk).wp fun w'' hk'' => ih _ _ _ _ _ _ hlen (hk.trans hk'') hnx hsub' hlsub hlo hp' hrest (hL.keep hk''))
      · rw [if_neg (by simp [hw])]
        exact ih _ _ _ _ _ _ hlen hk hnx hsub' hlsub hlo hp' hrest hL
    · have hil : i ∈ lrest := (List.mem_append.1 hir).resolve_left hir'
      cases lrest with
      | nil => cases hil
      | cons l lr =>
        simp only [lettersOk, Bool.and_eq_true, List.all_eq_true] at hlo
        have hil : i = l := by
          rcases List.mem_cons.1 hil with e | e
          · exact e
          · have := hlo.1 i e
            rw [notBehind l (by simp)] at this; cases this
        subst hil
        have hap : ∀ k ∈ rest, apartAt ops i k = true := fun k hk' => (ok.letter i (hlsub i (by simp)) k (hsub k hk')).resolve_right fun hb => by rw [notBehind k (by simp [hk'])] at hb; cases hb
        rw [List.erase_append_right _ hir'] at hnx
        simp at hnx
        obtain ⟨ol, hol, hw, hs⟩ := hL
        obtain ⟨a'', rfl, he, hw'⟩ := PureList.seen ok.sel hol hap h
        unfold wpOp
        simp only [hol]
        rw [if_pos (by rw [← hw']; exact hw)]
        rw [he] at hs
        refine .inl ((hs w1 (KeepBut.refl _ _)).wp fun v w'' hk'' hL'' => ?_)
        refine ih rest lr _ _ _ w'' (by simp at hm; omega) (hk.trans hk'') hnx hsub (fun l hl => hlsub l (by simp [hl])) hlo.2 hp ?_ hL''
        refine PureList.mono ?_ (PureList.putIn ok.sel hol v hap h)
        rintro b ⟨b', rfl, rfl⟩
        rfl
theorem wp_letters {id : Nat} {a : Act} {w : World} (ks ls : List Nat) (k : Nat) (hm : P.follows .mixedOrders = true) (hok : regionOk ops (Region.before ops) ks ls (List.range' k (ops.size - k)) = true) (hlk : lettersOk (Region.before ops) ls = true) (hsz : ops.size = ks.length + ls.length + (ops.size - k))
    (h : PureList P ops w (fun a' => LL P ops R (ops.toList.drop k) ls a' w) ks a) : (Code.region id ops true).wp P R a w := by
  have ok := regionOk_spec hok
  refine wp_region_any hm ?_
  have st := Todo.start ok
  obtain ⟨a', hL, hp⟩ := PureList.fix h
  have kd : Keep w w.drew := ⟨rfl, rfl, rfl, Nat.le_refl _, fun _ _ _ => rfl⟩
  have e := letters_sound (P := P) (R := R) ok (range_drop k) (w := w) (ks.length + ls.length) ks ls (Array.replicate ops.size false) a a' w.drew rfl kd st (fun _ h => h) (fun _ h => h) hlk ok.pairs hp (hL.keep kd)
  rw [List.length_range', ← hsz] at e
  exact e
end
section
variable {P : Program} {R : Exit → Act → World → Prop} {l : List Oper} {w : World} {k : Nat} {ls : List Nat} {a : Act} {o : Oper} {tops : List Oper}
theorem ll_call {f : FuncId} {args : Array Value} (ho : l[k]? = some o) (hw : Region.wanted o (yielded l.toArray a.tmps) = true)
    (hv : ∀ w', Keep w w' → (execOp a.eval o).run P w' = .ok (.enter f args) w') (hc : ∀ w', Keep w w' → Calls P f args w' fun e w'' => ∃ v, e = .returned v ∧ Keep w' w'' ∧ LL P l.toArray R tops ls (a.put o.dst v) w'') : LL P l.toArray R tops (k :: ls) a w :=
  ⟨o, by simpa using ho, hw, fun w' hk => .inr ⟨f, args, w', hv w' hk, hc w' hk⟩⟩
theorem ll_value (ho : l[k]? = some o) (hw : Region.wanted o (yielded l.toArray a.tmps) = true)
    (hv : ∀ w', Keep w w' → ∃ v w'', (execOp a.eval o).run P w' = .ok (.value v) w'' ∧ Keep w' w'' ∧ LL P l.toArray R tops ls (a.put o.dst v) w'') : LL P l.toArray R tops (k :: ls) a w :=
  ⟨o, by simpa using ho, hw, fun w' hk => .inl (hv w' hk)⟩
end
end Go.Proofs.YtjonoojhdifjiaaGreatDoor
