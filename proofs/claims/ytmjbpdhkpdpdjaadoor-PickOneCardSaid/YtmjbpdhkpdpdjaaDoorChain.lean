/- A region that draws its order, in which some operations, forced into one order, go from state to state; all others leave what there is. -/
import Derived.Test.YtmjbpdhkpdpdjaaDoorRegion
namespace Go.Proofs.YtmjbpdhkpdpdjaaDoor
open Go.RowKit

section
variable {P : Program} {ops : Array Oper} {Q : Exit → Act → World → Prop} {St : Nat → World → Prop} {cs : List Nat}

/-- A run that yields v, and ends where F holds. -/
def YlTo (P : Program) (r : Result Next) (v : Value) (F : World → Prop) : Prop :=
  (∃ w'', r = .ok (.value v) w'' ∧ F w'') ∨ (∃ f args w1, r = .ok (.enter f args) w1 ∧ Calls P f args w1 fun e w'' => e = .returned v ∧ F w'')
theorem YlTo.wp {o : Oper} {a : Act} {v : Value} {F : World → Prop} {w' : World} (h : YlTo P ((execOp a.eval o).run P w') v F) {K : Act → World → Prop} (hK : ∀ w'', F w'' → K (a.put o.dst v) w'') : o.wp P a w' K Q := by
  unfold Oper.wp
  rcases h with ⟨w'', hr, hk⟩ | ⟨f, args, w1, hr, hc⟩
  · rw [hr]; exact hK _ hk
  · rw [hr]
    refine Calls.mono hc ?_
    rintro e w'' ⟨rfl, hk⟩
    exact hK _ hk

def Gets2 (P : Program) (ops : Array Oper) (St : Nat → World → Prop) (o : Oper) (a : Act) (v : Value) : Prop :=
  (Region.wanted o (yielded ops a.tmps) = true ∧ ∀ m w', St m w' → Yl P w' ((execOp a.eval o).run P w') v) ∨ (Region.wanted o (yielded ops a.tmps) = false ∧ v = undef)
def Link (P : Program) (ops : Array Oper) (St : Nat → World → Prop) (n : Nat) (o : Oper) (a : Act) (v : Value) : Prop :=
  Region.wanted o (yielded ops a.tmps) = true ∧ ∀ w', St n w' → YlTo P ((execOp a.eval o).run P w') v (St (n + 1))

/-- The walk, in our order; n counts the links. -/
def ChainList (P : Program) (ops : Array Oper) (St : Nat → World → Prop) (cs : List Nat) (N : Nat → Act → Prop) : List Nat → Nat → Act → Prop
  | [], n, a => N n a
  | k :: ks, n, a => ∃ o v, ops[k]? = some o ∧ ((cs.contains k = true ∧ Link P ops St n o a v ∧ ChainList P ops St cs N ks (n + 1) (a.put o.dst v)) ∨ (cs.contains k = false ∧ Gets2 P ops St o a v ∧ ChainList P ops St cs N ks n (a.put o.dst v)))

theorem ChainList.mono {N N' : Nat → Act → Prop} (h : ∀ n a, N n a → N' n a) : ∀ {ks : List Nat} {n : Nat} {a : Act}, ChainList P ops St cs N ks n a → ChainList P ops St cs N' ks n a
  | [], _, a, hh => h _ a hh
  | _ :: _, _, _, ⟨o, v, ho, hr⟩ => ⟨o, v, ho, hr.imp (fun ⟨c, g, r⟩ => ⟨c, g, ChainList.mono h r⟩) (fun ⟨c, g, r⟩ => ⟨c, g, ChainList.mono h r⟩)⟩

theorem Gets2.put {o : Oper} {a : Act} {v : Value} (hs : ∀ cs b, o.op ≠ .select cs b) {d : Option Tmp} (u : Value) (hd : ∀ t, d = some t → t ∉ o.looksAt ops) : Gets2 P ops St o (a.put d u) v ↔ Gets2 P ops St o a v := by
  unfold Gets2
  rw [wanted_put o a d u hd, execOp_put o hs a d u hd]
theorem Link.put {n : Nat} {o : Oper} {a : Act} {v : Value} (hs : ∀ cs b, o.op ≠ .select cs b) {d : Option Tmp} (u : Value) (hd : ∀ t, d = some t → t ∉ o.looksAt ops) : Link P ops St n o (a.put d u) v ↔ Link P ops St n o a v := by
  unfold Link
  rw [wanted_put o a d u hd, execOp_put o hs a d u hd]

theorem ChainList.swap {N : Nat → Act → Prop} (hsel : Region.noSelect ops = true) {i k : Nat} {l : List Nat} {n : Nat} {a : Act} (hap : apartAt ops i k = true) (hnc : ¬ (cs.contains i = true ∧ cs.contains k = true))
    (h : ChainList P ops St cs N (k :: i :: l) n a) : ChainList P ops St cs N (i :: k :: l) n a := by
  obtain ⟨ok, vk, hok, hk⟩ := h
  rcases hk with ⟨ck, gk, hr⟩ | ⟨ck, gk, hr⟩ <;> obtain ⟨oi, vi, hoi, hi⟩ := hr <;> obtain ⟨h1, h2, h3⟩ := Oper.apart_spec (apartAt_spec hoi hok hap) <;>
    have hsi := (fun c b => Region.noSelect_spec hsel i oi c b hoi) <;> have hsk := (fun c b => Region.noSelect_spec hsel k ok c b hok)
  · rcases hi with ⟨ci, gi, hr⟩ | ⟨ci, gi, hr⟩
    · exact absurd ⟨ci, ck⟩ hnc
    · exact ⟨oi, vi, hoi, .inr ⟨ci, (Gets2.put hsi vk h3).1 gi, ok, vk, hok, .inl ⟨ck, (Link.put hsk vi h1).2 gk, by rw [Act.put_comm a vi vk h2]; exact hr⟩⟩⟩
  · rcases hi with ⟨ci, gi, hr⟩ | ⟨ci, gi, hr⟩
    · exact ⟨oi, vi, hoi, .inl ⟨ci, (Link.put hsi vk h3).1 gi, ok, vk, hok, .inr ⟨ck, (Gets2.put hsk vi h1).2 gk, by rw [Act.put_comm a vi vk h2]; exact hr⟩⟩⟩
    · exact ⟨oi, vi, hoi, .inr ⟨ci, (Gets2.put hsi vk h3).1 gi, ok, vk, hok, .inr ⟨ck, (Gets2.put hsk vi h1).2 gk, by rw [Act.put_comm a vi vk h2]; exact hr⟩⟩⟩

theorem ChainList.first {N : Nat → Act → Prop} (hsel : Region.noSelect ops = true) {i : Nat} {l2 : List Nat} : ∀ {l1 : List Nat} {n : Nat} {a : Act}, (∀ k ∈ l1, apartAt ops i k = true ∧ ¬ (cs.contains i = true ∧ cs.contains k = true)) →
    ChainList P ops St cs N (l1 ++ i :: l2) n a → ChainList P ops St cs N (i :: (l1 ++ l2)) n a
  | [], _, _, _, h => h
  | k :: l1, _, _, hap, ⟨o, v, ho, hr⟩ => ChainList.swap hsel (hap k (by simp)).1 (hap k (by simp)).2 ⟨o, v, ho, hr.imp (fun ⟨c, g, r⟩ => ⟨c, g, ChainList.first hsel (fun j hj => hap j (by simp [hj])) r⟩) (fun ⟨c, g, r⟩ => ⟨c, g, ChainList.first hsel (fun j hj => hap j (by simp [hj])) r⟩)⟩

def linksOk (T : Array Nat) (cs : List Nat) : List Nat → Bool
  | [] => true
  | k :: ks => (ks.all fun i => !(cs.contains i && cs.contains k) || behind T i k) && linksOk T cs ks
theorem linksOk_spec {T : Array Nat} {i : Nat} {l2 : List Nat} : ∀ {l1 : List Nat}, linksOk T cs (l1 ++ i :: l2) = true → ∀ k ∈ l1, ¬ (cs.contains i = true ∧ cs.contains k = true) ∨ behind T i k = true
  | [], _, k, hk => by cases hk
  | k' :: l1, h, k, hk => by
    simp only [List.cons_append, linksOk, Bool.and_eq_true, List.all_eq_true] at h
    rcases List.mem_cons.1 hk with rfl | hk
    · have := h.1 i (by simp)
      simp only [Bool.or_eq_true, Bool.not_eq_true', Bool.and_eq_false_iff] at this
      rcases this with (h1 | h1) | h1
      · exact .inl (fun ⟨a, _⟩ => by rw [h1] at a; cases a)
      · exact .inl (fun ⟨_, a⟩ => by rw [h1] at a; cases a)
      · exact .inr h1
    · exact linksOk_spec h.2 k hk
theorem linksOk_erase {T : Array Nat} {i : Nat} : ∀ {ks : List Nat}, linksOk T cs ks = true → linksOk T cs (ks.erase i) = true
  | [], _ => rfl
  | k :: ks, h => by
    simp only [linksOk, Bool.and_eq_true, List.all_eq_true] at h
    by_cases e : k = i
    · subst e; simpa using h.2
    · rw [List.erase_cons_tail (by simpa using e)]
      simp only [linksOk, Bool.and_eq_true, List.all_eq_true]
      exact ⟨fun j hj => h.1 j (List.mem_of_mem_erase hj), linksOk_erase h.2⟩

theorem chain_sound {R : Exit → Act → World → Prop} {T : Array Nat} {ks ts : List Nat} (ok : RegionOk ops T ks [] ts) (hSt : ∀ n A B, St n A → Keep A B → St n B) (fuel : Nat) :
    ∀ (m : Nat) (rest : List Nat) (listed : Array Bool) (n : Nat) (a : Act) (w1 : World), rest.length = m → St n w1 → Todo ops T (ks ++ []) rest listed → pairsOk ops T rest = true → linksOk T cs rest = true →
      ChainList P ops St cs (fun n' a' => ∀ w', St n' w' → wpAny P .any ops R fuel (allListed ops (ks ++ [])) a' w') rest n a → wpAny P .any ops R (m + fuel) listed a w1 := by
  intro m
  induction m with
  | zero =>
    intro rest listed n a w1 hm hk ht _ _ h
    have : rest = [] := List.eq_nil_of_length_eq_zero hm
    subst this
    rw [ht.done, Nat.zero_add]
    exact h w1 hk
  | succ m ih =>
    intro rest listed n a w1 hm hk ht hp hl h
    have hne : rest ≠ [] := by intro e; subst e; simp at hm
    obtain ⟨hr, hall⟩ := ht.ready ok hne
    rw [show m + 1 + fuel = (m + fuel) + 1 from by omega]
    refine ⟨fun e => absurd e hr, fun i hi => ?_⟩
    have hir := hall i hi
    obtain ⟨l1, l2, rfl⟩ := List.append_of_mem hir
    have hnx := ht.next hi hir
    rw [erase_mid ht.nodup] at hnx
    have hp' : pairsOk ops T (l1 ++ l2) = true := by have := pairsOk_erase (i := i) hp; rwa [erase_mid ht.nodup] at this
    have hl' : linksOk T cs (l1 ++ l2) = true := by have := linksOk_erase (i := i) hl; rwa [erase_mid ht.nodup] at this
    obtain ⟨h0, hlt, hdeps⟩ := mem_ready'.1 hi
    have nb : ∀ k ∈ l1, ¬ behind T i k = true := fun k hk' hb => by
      have := behind_listed ok.table ok.lt ht.closed i k hlt hdeps hb
      have hkl := (ok.inside k (ht.sub k (by simp [hk']))).1
      rw [getD_any (by rw [ht.size]; exact hkl) false true, ht.iff k hkl] at this
      simp [hk'] at this
    have hap : ∀ k ∈ l1, apartAt ops i k = true ∧ ¬ (cs.contains i = true ∧ cs.contains k = true) := fun k hk' => ⟨(pairsOk_spec hp k hk').resolve_right (nb k hk'), (linksOk_spec hl k hk').resolve_right (nb k hk')⟩
    obtain ⟨o, v, ho, hg⟩ := ChainList.first ok.sel hap h
    have hlen : (l1 ++ l2).length = m := by simp at hm ⊢; omega
    unfold wpOp
    simp only [ho]
    rcases hg with ⟨_, ⟨hw, hs⟩, hrest⟩ | ⟨_, ⟨hw, hs⟩ | ⟨hw, rfl⟩, hrest⟩
    · rw [if_pos hw]
      exact .inl ((hs w1 hk).wp fun w'' hk'' => ih _ _ _ _ _ hlen hk'' hnx hp' hl' hrest)
    · rw [if_pos hw]
      exact .inl ((hs n w1 hk).wp fun w'' hk'' => ih _ _ _ _ _ hlen (hSt _ _ _ hk hk'') hnx hp' hl' hrest)
    · rw [if_neg (by simp [hw])]
      exact ih _ _ _ _ _ hlen hk hnx hp' hl' hrest

theorem wp_chain {R : Exit → Act → World → Prop} {id : Nat} {a : Act} {w : World} (ks cs : List Nat) (k : Nat) (St : Nat → World → Prop) (hm : P.follows .mixedOrders = true) (hok : regionOk ops (Region.before ops) ks [] (List.range' k (ops.size - k)) = true) (hlk : linksOk (Region.before ops) cs ks = true) (hsz : ops.size = ks.length + (ops.size - k))
    (hSt : ∀ n A B, St n A → Keep A B → St n B) (h0 : St 0 w)
    (h : ChainList P ops St cs (fun n' a' => ∀ w', St n' w' → wpList P ops R (ops.toList.drop k) a' w') ks 0 a) : (Code.region id ops true).wp P R a w := by
  have ok := regionOk_spec hok
  refine wp_region_any hm ?_
  have st := Todo.start ok
  have e := chain_sound (P := P) (cs := cs) (R := R) ok hSt (List.range' k (ops.size - k)).length ks.length ks (Array.replicate ops.size false) 0 a w.drew rfl (hSt _ _ _ h0 (KeepBut.refl _ w).drew) (by simpa using st) ok.pairs hlk ?_
  · rw [List.length_range', ← hsz] at e
    exact e
  refine ChainList.mono (fun n a' hN w' hk => ?_) h
  have := ok.tail
  exact tail_sound this ⟨_, range_drop k, hN w' hk⟩
end

section
variable {P : Program} {l : List Oper} {St : Nat → World → Prop} {cs : List Nat} {N : Nat → Act → Prop} {n k : Nat} {ks : List Nat} {a : Act} {o : Oper} {v : Value}
theorem cl_value (ho : l[k]? = some o) (hc : cs.contains k = false) (hw : Region.wanted o (yielded l.toArray a.tmps) = true)
    (hv : ∀ m w', St m w' → (execOp a.eval o).run P w' = .ok (.value v) w') (h : ChainList P l.toArray St cs N ks n (a.put o.dst v)) : ChainList P l.toArray St cs N (k :: ks) n a :=
  ⟨o, v, by simpa using ho, .inr ⟨hc, .inl ⟨hw, fun m w' hk => .inl ⟨w', hv m w' hk, KeepBut.refl _ _⟩⟩, h⟩⟩
theorem cl_skip (ho : l[k]? = some o) (hc : cs.contains k = false) (hw : Region.wanted o (yielded l.toArray a.tmps) = false)
    (h : ChainList P l.toArray St cs N ks n (a.put o.dst undef)) : ChainList P l.toArray St cs N (k :: ks) n a :=
  ⟨o, undef, by simpa using ho, .inr ⟨hc, .inr ⟨hw, rfl⟩, h⟩⟩
theorem cl_link {f : FuncId} {args : Array Value} (ho : l[k]? = some o) (hc : cs.contains k = true) (hw : Region.wanted o (yielded l.toArray a.tmps) = true)
    (hv : ∀ w', St n w' → (execOp a.eval o).run P w' = .ok (.enter f args) w') (hcl : ∀ w', St n w' → Calls P f args w' fun e w'' => e = .returned v ∧ St (n + 1) w'') (h : ChainList P l.toArray St cs N ks (n + 1) (a.put o.dst v)) : ChainList P l.toArray St cs N (k :: ks) n a :=
  ⟨o, v, by simpa using ho, .inl ⟨hc, ⟨hw, fun w' hk => .inr ⟨f, args, w', hv w' hk, hcl w' hk⟩⟩, h⟩⟩
theorem cl_call {f : FuncId} {args : Array Value} (ho : l[k]? = some o) (hc : cs.contains k = false) (hw : Region.wanted o (yielded l.toArray a.tmps) = true)
    (hv : ∀ m w', St m w' → (execOp a.eval o).run P w' = .ok (.enter f args) w') (hcl : ∀ m w', St m w' → Calls P f args w' fun e w'' => e = .returned v ∧ Below w'.heap.size w' w'') (h : ChainList P l.toArray St cs N ks n (a.put o.dst v)) : ChainList P l.toArray St cs N (k :: ks) n a :=
  ⟨o, v, by simpa using ho, .inr ⟨hc, .inl ⟨hw, fun m w' hk => .inr ⟨f, args, w', hv m w' hk, (hcl m w' hk).mono fun _ _ ⟨he, hb⟩ => ⟨he, KeepBut.of_below' hb⟩⟩⟩, h⟩⟩
theorem cl_nil {P : Program} {ops : Array Oper} (h : N n a) : ChainList P ops St cs N [] n a := h
end
end Go.Proofs.YtmjbpdhkpdpdjaaDoor
