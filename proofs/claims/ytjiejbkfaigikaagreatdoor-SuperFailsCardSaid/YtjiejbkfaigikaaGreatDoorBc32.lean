/- What the statement's proof stands on, part 32: PlainAny, ChainS, Turns, Jour2, Jour3, Run, PlainJour, PlainOne, RRead. -/
import Derived.Test.YtjiejbkfaigikaaGreatDoorBc30
import Derived.Test.YtjiejbkfaigikaaGreatDoorBc13
set_option linter.unusedSimpArgs false
set_option linter.unusedVariables false
set_option maxRecDepth 100000
set_option maxHeartbeats 4000000
namespace Go.Proofs.YtjiejbkfaigikaaGreatDoor
namespace Dw
end Dw
end Go.Proofs.YtjiejbkfaigikaaGreatDoor
namespace Go.Proofs.YtjiejbkfaigikaaGreatDoor.RC
open Go.RowKit
section
variable {P : Program} {ops : Array Oper} {Q : Exit → Act → World → Prop} {St : Nat → World → Prop} {cs : List Nat} {late : Nat → Bool}
def YlTo (P : Program) (r : Result Next) (v : Value) (F : World → Prop) : Prop :=
  (∃ w'', r = .ok (.value v) w'' ∧ F w'') ∨ (∃ f args w1, r = .ok (.enter f args) w1 ∧ Calls P f args w1 fun e w'' => e = .returned v ∧ F w'') ∨ (v = undef ∧ ∃ w'', r = .ok .skip w'' ∧ F w'')
theorem YlTo.wp {o : Oper} {a : Act} {v : Value} {F : World → Prop} {w' : World} (h : YlTo P ((execOp a.eval o).run P w') v F) {K : Act → World → Prop} (hK : ∀ w'', F w'' → K (a.put o.dst v) w'') : o.wp P a w' K Q := by
  unfold Oper.wp
  rcases h with ⟨w'', hr, hk⟩ | ⟨f, args, w1, hr, hc⟩ | ⟨rfl, w'', hr, hk⟩
  · rw [hr]; exact hK _ hk
  · rw [hr]
    refine Calls.mono hc ?_
    rintro e w'' ⟨rfl, hk⟩
    exact hK _ hk
  · rw [hr]; exact hK _ hk
def Gets2 (P : Program) (ops : Array Oper) (St : Nat → World → Prop) (lt : Bool) (n : Nat) (o : Oper) (a : Act) (v : Value) : Prop :=
  (Region.wanted o (yielded ops a.tmps) = true ∧ ∀ m w', (lt = true ∨ m = n) → St m w' → Yl P w' ((execOp a.eval o).run P w') v) ∨ (Region.wanted o (yielded ops a.tmps) = false ∧ v = undef)
def Link (P : Program) (ops : Array Oper) (St : Nat → World → Prop) (n : Nat) (o : Oper) (a : Act) (v : Value) : Prop :=
  Region.wanted o (yielded ops a.tmps) = true ∧ ∀ w', St n w' → YlTo P ((execOp a.eval o).run P w') v (St (n + 1))
def ChainList (P : Program) (ops : Array Oper) (St : Nat → World → Prop) (cs : List Nat) (late : Nat → Bool) (N : Nat → Act → Prop) : List Nat → Nat → Act → Prop
  | [], n, a => N n a
  | k :: ks, n, a => ∃ o v, ops[k]? = some o ∧ ((cs.contains k = true ∧ Link P ops St n o a v ∧ ChainList P ops St cs late N ks (n + 1) (a.put o.dst v)) ∨ (cs.contains k = false ∧ Gets2 P ops St (late k) n o a v ∧ ChainList P ops St cs late N ks n (a.put o.dst v)))
theorem ChainList.mono {N N' : Nat → Act → Prop} (h : ∀ n a, N n a → N' n a) : ∀ {ks : List Nat} {n : Nat} {a : Act}, ChainList P ops St cs late N ks n a → ChainList P ops St cs late N' ks n a
  | [], _, a, hh => h _ a hh
  | _ :: _, _, _, ⟨o, v, ho, hr⟩ => ⟨o, v, ho, hr.imp (fun ⟨c, g, r⟩ => ⟨c, g, ChainList.mono h r⟩) (fun ⟨c, g, r⟩ => ⟨c, g, ChainList.mono h r⟩)⟩
theorem Gets2.put {lt : Bool} {n : Nat} {o : Oper} {a : Act} {v : Value} (hs : ∀ cs b, o.op ≠ .select cs b) {d : Option Tmp} (u : Value) (hd : ∀ t, d = some t → t ∉ o.looksAt ops) : Gets2 P ops St lt n o (a.put d u) v ↔ Gets2 P ops St lt n o a v := by
  unfold Gets2
  rw [wanted_put o a d u hd, execOp_put o hs a d u hd]
theorem Link.put {n : Nat} {o : Oper} {a : Act} {v : Value} (hs : ∀ cs b, o.op ≠ .select cs b) {d : Option Tmp} (u : Value) (hd : ∀ t, d = some t → t ∉ o.looksAt ops) : Link P ops St n o (a.put d u) v ↔ Link P ops St n o a v := by
  unfold Link
  rw [wanted_put o a d u hd, execOp_put o hs a d u hd]
theorem Gets2.any {lt : Bool} (hl : lt = true) {n n' : Nat} {o : Oper} {a : Act} {v : Value} (h : Gets2 P ops St lt n o a v) : Gets2 P ops St lt n' o a v :=
  h.imp (fun ⟨hw, h⟩ => ⟨hw, fun m w' _ hs => h m w' (.inl hl) hs⟩) id
def meet (cs : List Nat) (late : Nat → Bool) (i k : Nat) : Bool := (cs.contains i && cs.contains k) || ((cs.contains i && !late k) || (cs.contains k && !late i))
theorem ChainList.swap {N : Nat → Act → Prop} (hsel : Region.noSelect ops = true) {i k : Nat} {l : List Nat} {n : Nat} {a : Act} (hap : apartAt ops i k = true) (hnc : meet cs late i k = false)
    (h : ChainList P ops St cs late N (k :: i :: l) n a) : ChainList P ops St cs late N (i :: k :: l) n a := by
  obtain ⟨ok, vk, hok, hk⟩ := h
  unfold meet at hnc
  rcases hk with ⟨ck, gk, hr⟩ | ⟨ck, gk, hr⟩ <;> obtain ⟨oi, vi, hoi, hi⟩ := hr <;> obtain ⟨h1, h2, h3⟩ := Oper.apart_spec (apartAt_spec hoi hok hap) <;>
    have hsi := (fun c b => Region.noSelect_spec hsel i oi c b hoi) <;> have hsk := (fun c b => Region.noSelect_spec hsel k ok c b hok)
  · rcases hi with ⟨ci, gi, hr⟩ | ⟨ci, gi, hr⟩
    · rw [ci, ck] at hnc; cases hnc
    · have hl : late i = true := by rw [ci, ck] at hnc; simpa using hnc
      exact ⟨oi, vi, hoi, .inr ⟨ci, Gets2.any hl ((Gets2.put hsi vk h3).1 gi), ok, vk, hok, .inl ⟨ck, (Link.put hsk vi h1).2 gk, by rw [Act.put_comm a vi vk h2]; exact hr⟩⟩⟩
  · rcases hi with ⟨ci, gi, hr⟩ | ⟨ci, gi, hr⟩
    · have hl : late k = true := by rw [ci, ck] at hnc; simpa using hnc
      exact ⟨oi, vi, hoi, .inl ⟨ci, (Link.put hsi vk h3).1 gi, ok, vk, hok, .inr ⟨ck, Gets2.any hl ((Gets2.put hsk vi h1).2 gk), by rw [Act.put_comm a vi vk h2]; exact hr⟩⟩⟩
    · exact ⟨oi, vi, hoi, .inr ⟨ci, (Gets2.put hsi vk h3).1 gi, ok, vk, hok, .inr ⟨ck, (Gets2.put hsk vi h1).2 gk, by rw [Act.put_comm a vi vk h2]; exact hr⟩⟩⟩
theorem ChainList.first {N : Nat → Act → Prop} (hsel : Region.noSelect ops = true) {i : Nat} {l2 : List Nat} : ∀ {l1 : List Nat} {n : Nat} {a : Act}, (∀ k ∈ l1, apartAt ops i k = true ∧ meet cs late i k = false) →
    ChainList P ops St cs late N (l1 ++ i :: l2) n a → ChainList P ops St cs late N (i :: (l1 ++ l2)) n a
  | [], _, _, _, h => h
  | k :: l1, _, _, hap, ⟨o, v, ho, hr⟩ => ChainList.swap hsel (hap k (by simp)).1 (hap k (by simp)).2 ⟨o, v, ho, hr.imp (fun ⟨c, g, r⟩ => ⟨c, g, ChainList.first hsel (fun j hj => hap j (by simp [hj])) r⟩) (fun ⟨c, g, r⟩ => ⟨c, g, ChainList.first hsel (fun j hj => hap j (by simp [hj])) r⟩)⟩
def linksOk (T : Array Nat) (cs : List Nat) (late : Nat → Bool) : List Nat → Bool
  | [] => true
  | k :: ks => (ks.all fun i => !(meet cs late i k) || behind T i k) && linksOk T cs late ks
theorem linksOk_spec {T : Array Nat} {i : Nat} {l2 : List Nat} : ∀ {l1 : List Nat}, linksOk T cs late (l1 ++ i :: l2) = true → ∀ k ∈ l1, meet cs late i k = false ∨ behind T i k = true
  | [], _, k, hk => by cases hk
  | k' :: l1, h, k, hk => by
    simp only [List.cons_append, linksOk, Bool.and_eq_true, List.all_eq_true] at h
    rcases List.mem_cons.1 hk with rfl | hk
    · have := h.1 i (by simp)
      simp only [Bool.or_eq_true, Bool.not_eq_true'] at this
      exact this
    · exact linksOk_spec h.2 k hk
theorem linksOk_erase {T : Array Nat} {i : Nat} : ∀ {ks : List Nat}, linksOk T cs late ks = true → linksOk T cs late (ks.erase i) = true
  | [], _ => rfl
  | k :: ks, h => by
    simp only [linksOk, Bool.and_eq_true, List.all_eq_true] at h
    by_cases e : k = i
    · subst e; simpa using h.2
    · rw [List.erase_cons_tail (by simpa using e)]
      simp only [linksOk, Bool.and_eq_true, List.all_eq_true]
      exact ⟨fun j hj => h.1 j (List.mem_of_mem_erase hj), linksOk_erase h.2⟩
theorem chain_sound {R : Exit → Act → World → Prop} {T : Array Nat} {ks ts : List Nat} (ok : RegionOk ops T ks [] ts) (hSt : ∀ n A B, St n A → Keep A B → St n B) (fuel : Nat) :
    ∀ (m : Nat) (rest : List Nat) (listed : Array Bool) (n : Nat) (a : Act) (w1 : World), rest.length = m → St n w1 → Todo ops T (ks ++ []) rest listed → pairsOk ops T rest = true → linksOk T cs late rest = true →
      ChainList P ops St cs late (fun n' a' => ∀ w', St n' w' → wpAny P .any ops R fuel (allListed ops (ks ++ [])) a' w') rest n a → wpAny P .any ops R (m + fuel) listed a w1 := by
  intro m
  induction m with
  | zero =>
    intro rest listed n a w1 hm hk ht _ _ h
    have : rest = [] := List.eq_nil_of_length_eq_zero hm
    subst this
    rw [ht.done, Nat.zero_add]
    exact h w1 hk
  | succ m ih =>
    intro rest listed n a w1 hm hk ht hp hl h
    have hne : rest ≠ [] := by intro e; subst e; simp at hm
    obtain ⟨hr, hall⟩ := ht.ready ok hne
    rw [show m + 1 + fuel = (m + fuel) + 1 from by omega]
    refine ⟨fun e => absurd e hr, fun i hi => ?_⟩
    have hir := hall i hi
    obtain ⟨l1, l2, rfl⟩ := List.append_of_mem hir
    have hnx := ht.next hi hir
    rw [erase_mid ht.nodup] at hnx
    have hp' : pairsOk ops T (l1 ++ l2) = true := by have := pairsOk_erase (i := i) hp; rwa [erase_mid ht.nodup] at this
    have hl' : linksOk T cs late (l1 ++ l2) = true := by have := linksOk_erase (i := i) hl; rwa [erase_mid ht.nodup] at this
    obtain ⟨h0, hlt, hdeps⟩ := mem_ready'.1 hi
    have nb : ∀ k ∈ l1, ¬ behind T i k = true := fun k hk' hb => by
      have := behind_listed ok.table ok.lt ht.closed i k hlt hdeps hb
      have hkl := (ok.inside k (ht.sub k (by simp [hk']))).1
      rw [getD_any (by rw [ht.size]; exact hkl) false true, ht.iff k hkl] at this
      simp [hk'] at this
    have hap : ∀ k ∈ l1, apartAt ops i k = true ∧ meet cs late i k = false := fun k hk' => ⟨(pairsOk_spec hp k hk').resolve_right (nb k hk'), (linksOk_spec hl k hk').resolve_right (nb k hk')⟩
    obtain ⟨o, v, ho, hg⟩ := ChainList.first ok.sel hap h
    have hlen : (l1 ++ l2).length = m := by simp at hm ⊢; omega
    unfold wpOp
    simp only [ho]
    rcases hg with ⟨_, ⟨hw, hs⟩, hrest⟩ | ⟨_, ⟨hw, hs⟩ | ⟨hw, rfl⟩, hrest⟩
    · rw [if_pos hw]
      exact .inl ((hs w1 hk).wp fun w'' hk'' => ih _ _ _ _ _ hlen hk'' hnx hp' hl' hrest)
    · rw [if_pos hw]
      exact .inl ((hs n w1 (.inr rfl) hk).wp fun w'' hk'' => ih _ _ _ _ _ hlen (hSt _ _ _ hk hk'') hnx hp' hl' hrest)
    · rw [if_neg (by simp [hw])]
      exact ih _ _ _ _ _ hlen hk hnx hp' hl' hrest
theorem wp_chain {R : Exit → Act → World → Prop} {id : Nat} {a : Act} {w : World} (ks cs : List Nat) (late : Nat → Bool) (k : Nat) (St : Nat → World → Prop) (hm : P.follows .mixedOrders = true) (hok : regionOk ops (Region.before ops) ks [] (List.range' k (ops.size - k)) = true) (hlk : linksOk (Region.before ops) cs late ks = true) (hsz : ops.size = ks.length + (ops.size - k))
    (hSt : ∀ n A B, St n A → Keep A B → St n B) (h0 : St 0 w)
    (h : ChainList P ops St cs late (fun n' a' => ∀ w', St n' w' → wpList P ops R (ops.toList.drop k) a' w') ks 0 a) : (Code.region id ops true).wp P R a w := by
  have ok := regionOk_spec hok
  refine wp_region_any hm ?_
  have st := Todo.start ok
  have e := chain_sound (P := P) (cs := cs) (late := late) (R := R) ok hSt (List.range' k (ops.size - k)).length ks.length ks (Array.replicate ops.size false) 0 a w.drew rfl (hSt _ _ _ h0 (KeepBut.refl _ w).drew) (by simpa using st) ok.pairs hlk ?_
  · rw [List.length_range', ← hsz] at e
    exact e
  refine ChainList.mono (fun n a' hN w' hk => ?_) h
  have := ok.tail
  exact tail_sound this ⟨_, range_drop k, hN w' hk⟩
end
section
variable {P : Program} {l : List Oper} {St : Nat → World → Prop} {cs : List Nat} {late : Nat → Bool} {N : Nat → Act → Prop} {n k : Nat} {ks : List Nat} {a : Act} {o : Oper} {v : Value}
theorem cl_value (hl : late k = false) (ho : l[k]? = some o) (hc : cs.contains k = false) (hw : Region.wanted o (yielded l.toArray a.tmps) = true)
    (hv : ∀ w', St n w' → (execOp a.eval o).run P w' = .ok (.value v) w') (h : ChainList P l.toArray St cs late N ks n (a.put o.dst v)) : ChainList P l.toArray St cs late N (k :: ks) n a :=
  ⟨o, v, by simpa using ho, .inr ⟨hc, .inl ⟨hw, fun m w' hm hk => .inl ⟨w', hv w' (by rcases hm with h | rfl; rw [hl] at h; cases h; exact hk), KeepBut.refl _ _⟩⟩, h⟩⟩
theorem cl_skip (ho : l[k]? = some o) (hc : cs.contains k = false) (hw : Region.wanted o (yielded l.toArray a.tmps) = false)
    (h : ChainList P l.toArray St cs late N ks n (a.put o.dst undef)) : ChainList P l.toArray St cs late N (k :: ks) n a :=
  ⟨o, undef, by simpa using ho, .inr ⟨hc, .inr ⟨hw, rfl⟩, h⟩⟩
theorem cl_link {f : FuncId} {args : Array Value} (ho : l[k]? = some o) (hc : cs.contains k = true) (hw : Region.wanted o (yielded l.toArray a.tmps) = true)
    (hv : ∀ w', St n w' → (execOp a.eval o).run P w' = .ok (.enter f args) w') (hcl : ∀ w', St n w' → Calls P f args w' fun e w'' => e = .returned v ∧ St (n + 1) w'') (h : ChainList P l.toArray St cs late N ks (n + 1) (a.put o.dst v)) : ChainList P l.toArray St cs late N (k :: ks) n a :=
  ⟨o, v, by simpa using ho, .inl ⟨hc, ⟨hw, fun w' hk => .inr (.inl ⟨f, args, w', hv w' hk, hcl w' hk⟩)⟩, h⟩⟩
theorem cl_nil {P : Program} {ops : Array Oper} (h : N n a) : ChainList P ops St cs late N [] n a := h
end
end Go.Proofs.YtjiejbkfaigikaaGreatDoor.RC
namespace Go.Proofs.YtjiejbkfaigikaaGreatDoor
open Go.RowKit Go.Shelf
attribute [local go_sem] Oper.semAt_some
namespace Dw
structure Lg where
  f : Fl
  acked : Int
  last : Nat
  flying : Bool
  flight : Nat
end Dw
def At1 (w : World) (b : Nat) (c : Array Value) (t : TypeId) (w' : World) : Prop := KeepBut (fun k => k = b) w w' ∧ w'.heap[b]? = some (.cells c t (0, 0))
theorem At1.keep {w : World} {b : Nat} {c : Array Value} {t : TypeId} {A B : World} (h : At1 w b c t A) (hk : Keep A B) : At1 w b c t B :=
  ⟨h.1.trans (hk.mono fun _ _ h => h.elim), (hk.block b (block_lt h.2) id).trans h.2⟩
theorem At1.set {w A : World} {b i : Nat} {c : Array Value} {t : TypeId} (h : At1 w b c t A) (v : Value) : At1 w b (c.setIfInBounds i v) t (A.setCell ⟨b, i, none⟩ v) :=
  ⟨h.1.setCell (p := ⟨b, i, none⟩) rfl v, heap_setCell_same A b i c t v h.2⟩
end Go.Proofs.YtjiejbkfaigikaaGreatDoor
namespace Go.Proofs.YtjiejbkfaigikaaGreatDoor
open Go.RowKit Go.Shelf
attribute [local go_sem] Oper.semAt_some
namespace Dw
end Dw
end Go.Proofs.YtjiejbkfaigikaaGreatDoor
namespace Go.Proofs.YtjiejbkfaigikaaGreatDoor
open Go.RowKit Go.Shelf
attribute [local go_sem] Oper.semAt_some
end Go.Proofs.YtjiejbkfaigikaaGreatDoor
namespace Go.Proofs.YtjiejbkfaigikaaGreatDoor
open Go.RowKit Go.Shelf
attribute [local go_sem] Oper.semAt_some
namespace Dw
end Dw
def StepsAt (w : World) (v : Value) (l : List Dw.Stp) : Prop :=
  ∃ sa cap, v = .slice sa l.length cap ∧ (∀ s ∈ l, s.data < 18446744073709551616) ∧
    (l = [] ∨ ∃ b off, sa = some ⟨b, off, none⟩ ∧ ∀ j s, l[j]? = some s → w.cell? ⟨b, off + j * 3, none⟩ = some (.int .u64 s.data) ∧ w.cell? ⟨b, off + j * 3 + 1, none⟩ = some (.int .i64 s.cut) ∧ w.cell? ⟨b, off + j * 3 + 2, none⟩ = some (.string ⟨s.mask.toArray⟩))
theorem StepsAt.next {w w' : World} {v : Value} {l : List Dw.Stp} (h : StepsAt w v l) (hb : Below w.heap.size w w') : StepsAt w' v l := by
  obtain ⟨sa, cap, rfl, hd, h⟩ := h
  refine ⟨sa, cap, rfl, hd, ?_⟩
  rcases h with h | ⟨b, off, rfl, hc⟩
  · exact .inl h
  · refine .inr ⟨b, off, rfl, fun j s hj => ?_⟩
    obtain ⟨q0, q1, q2⟩ := hc j s hj
    exact ⟨(hb.cell (lt_of_cell q0)).trans q0, (hb.cell (lt_of_cell q1)).trans q1, (hb.cell (lt_of_cell q2)).trans q2⟩
end Go.Proofs.YtjiejbkfaigikaaGreatDoor
namespace Go.Proofs.YtjiejbkfaigikaaGreatDoor
open Go.RowKit Go.Shelf
namespace Dw
structure Rel (l : Lg) (c : Option Cur) : Prop where
  ac : 0 ≤ l.acked
  st : (l.flying = true ∧ ∃ k, c = some k ∧ k.data = l.flight) ∨ (l.flying = false ∧ ((l.acked = 0 ∧ c = none) ∨ (0 < l.acked ∧ ∃ k, c = some k ∧ k.data = l.last)))
theorem ack_true {n N : Nat} {f : Fl} {s : Stp} {c' : Cur} (hn : (putG f s).2 = (plan f s.data).1.length) (hd : c'.data = s.data) (hI : Inv n N (putG f s).1 (some c')) : ackB f s = true := by
  obtain ⟨r1, r2⟩ := inv_read hI
  unfold ackB
  rw [r1, r2, hn]
  simp [hd]
theorem ack_false {f : Fl} {s : Stp} (hn : (putG f s).2 < (plan f s.data).1.length) : ackB f s = false := by
  unfold ackB
  rw [decide_eq_false (by omega), Bool.false_and]
def fNew (n : Nat) (li : Int) : Fl := ⟨ffs (24 * n + 24), ffs (24 * n + 24), 0, 0, li⟩
theorem new_inv {n : Nat} (h1 : 1 ≤ n) (h2 : n ≤ 12) (li : Int) : Inv n 0 (fNew n li) none :=
  ⟨h1, h2, ⟨Int.le_refl 0, Int.le_refl 0⟩, ⟨Int.le_refl 0, Int.le_refl 0⟩, ⟨ffs_length _, by show Hd (place (ffs (24 * n + 24)) 0); rw [place_ffs n 0 (Nat.zero_le _)]; exact hd_ffs⟩, ⟨ffs_length _, by show Hd (place (ffs (24 * n + 24)) 0); rw [place_ffs n 0 (Nat.zero_le _)]; exact hd_ffs⟩⟩
theorem new_ok {n : Nat} (h2 : n ≤ 12) {li : Int} (hl : li ≤ 1000) : FlOk (fNew n li) := ⟨by show (ffs _).length ≤ 400; rw [ffs_length]; omega, by show (ffs _).length ≤ 400; rw [ffs_length]; omega, by show li ≤ _; omega, (by decide : (-9223372036854775808 : Int) ≤ 0), (by decide : (-9223372036854775808 : Int) ≤ 0)⟩
end Dw
end Go.Proofs.YtjiejbkfaigikaaGreatDoor
namespace Go.Proofs.YtjiejbkfaigikaaGreatDoor
open Go.RowKit Go.Shelf
namespace Dw
theorem putG_ok {f : Fl} (hf : FlOk f) {s : Stp} (hp : (plan f s.data).2 = 0) : FlOk (putG f s).1 := by
  obtain ⟨L, hlen, hok, _, _⟩ := plan_ok hf hp
  exact (play_ok s.cut s.mask _ f 0 hf hlen hok).1
end Dw
end Go.Proofs.YtjiejbkfaigikaaGreatDoor
namespace Go.Proofs.YtjiejbkfaigikaaGreatDoor
open Go.RowKit Go.Shelf
attribute [local go_sem] Oper.semAt_some
theorem rbank_walk (f : Dw.Fl) (sa sb : Bool) (ga gb : Nat) (ea eb : Int) (r : Int) (hr : r = (if sa = true ∧ sb = true ∧ ga < gb then 1 else if sa = true then 0 else if sb = true then 1 else -1)) (w : World)
    (h1 : ∀ w, Calls Tryz.prog 127 #[.string ⟨f.a.toArray⟩] w fun e w' => e = .returned (.bool sa) ∧ Below w.heap.size w w')
    (h2 : ∀ w, Calls Tryz.prog 127 #[.string ⟨f.b.toArray⟩] w fun e w' => e = .returned (.bool sb) ∧ Below w.heap.size w w')
    (h3 : ∀ w, Calls Tryz.prog 83 #[.string ⟨f.a.toArray⟩] w fun e w' => e = .returned (.tuple #[.int .u64 (ga : Int), .int .i64 ea]) ∧ Below w.heap.size w w')
    (h4 : ∀ w, Calls Tryz.prog 83 #[.string ⟨f.b.toArray⟩] w fun e w' => e = .returned (.tuple #[.int .u64 (gb : Int), .int .i64 eb]) ∧ Below w.heap.size w w') :
    Calls Tryz.prog 82 #[flV f] w fun e w' => e = .returned (.int .i64 r) ∧ Below w.heap.size w w' := by
  have H1 := Lib.hid h1; have H2 := Lib.hid h2; have H3 := Lib.hid h3; have H4 := Lib.hid h4; have HR := Lib.hid hr
  clear h1 h2 h3 h4 hr
  have hB := (Below.refl w.heap.size w).alloc (Nat.le_refl _) (.cells (flashC f.a f.b f.e0 f.e1 f.li) 69)
  have hF := han w (.cells (flashC f.a f.b f.e0 f.e1 f.li) 69)
  obtain ⟨c0, c1, c2, c3, c4⟩ := cells5 hF
  go_enter Tryz.func82, Tryz.ntmps82
  go_wp2_with fail
  refine cb (H1.out _) fun w1 hb => ?_
  replace hF := kp hb hF
  replace hB := tr hB hb
  clear hb
  clear c0 c1 c2 c3 c4
  obtain ⟨c0, c1, c2, c3, c4⟩ := cells5 hF
  go_wp2_with fail
  refine cb (H2.out _) fun w2 hb => ?_
  replace hF := kp hb hF
  replace hB := tr hB hb
  clear hb
  clear c0 c1 c2 c3 c4
  obtain ⟨c0, c1, c2, c3, c4⟩ := cells5 hF
  go_wp2_with fail
  refine cb (H3.out _) fun w3 hb => ?_
  replace hF := kp hb hF
  replace hB := tr hB hb
  clear hb
  clear c0 c1 c2 c3 c4
  obtain ⟨c0, c1, c2, c3, c4⟩ := cells5 hF
  go_wp2_with fail
  refine cb (H4.out _) fun w4 hb => ?_
  replace hF := kp hb hF
  replace hB := tr hB hb
  clear hb
  clear c0 c1 c2 c3 c4 hF
  by_cases hg : ga < gb
  · have hg' : (ga : Int) < (gb : Int) := by omega
    cases sa <;> cases sb <;> (go_wp2_with fail; go_ret; exact ⟨by rw [HR.out]; simp [hg], hB⟩)
  · have hg' : ¬ (ga : Int) < (gb : Int) := by omega
    cases sa <;> cases sb <;> (go_wp2_with fail; go_ret; exact ⟨by rw [HR.out]; simp [hg], hB⟩)
theorem rbank10_any (f : Dw.Fl) (ha : f.a.length ≤ 400) (hb : f.b.length ≤ 400) (w : World) :
    Calls Tryz.prog 82 #[flV f] w fun e w' => e = .returned (.int .i64 (Dw.best f.a f.b).bank) ∧ Below w.heap.size w w' := by
  refine cb (rbank_walk f _ _ _ _ _ _ _ rfl w (fun w => rsound_any f.a ha w) (fun w => rsound_any f.b hb w) (fun w => rgen_any f.a ha w) (fun w => rgen_any f.b hb w)) fun w1 hb1 => ?_
  refine ⟨ret_int ?_, hb1⟩
  rcases Dw.bank_five f.a f.b with ⟨h1, h2, h3⟩ | ⟨h1, h2, h3⟩ | ⟨h1, h2, h3, h4⟩ | ⟨h1, h2, h3⟩ | ⟨h1, h2, h3, h4⟩ <;> rw [h1, h2, h3]
  · simp
  · simp
  · rw [if_neg (by omega), if_pos rfl]
  · simp
  · rw [if_pos ⟨rfl, rfl, h4⟩]
theorem rreadA (f : Dw.Fl) (g q d k : Nat) (ea el : Int) (w : World)
    (h1 : ∀ w, Calls Tryz.prog 82 #[flV f] w fun e w' => e = .returned (.int .i64 0) ∧ Below w.heap.size w w')
    (h2 : ∀ w, Calls Tryz.prog 83 #[.string ⟨(f.a).toArray⟩] w fun e w' => e = .returned (.tuple #[.int .u64 (g : Int), .int .i64 ea]) ∧ Below w.heap.size w w')
    (h3 : ∀ w, Calls Tryz.prog 84 #[.string ⟨(f.a).toArray⟩] w fun e w' => e = .returned (.tuple #[.agg #[.int .i64 k, .int .u64 q, .int .u64 d], .int .i64 el]) ∧ Below w.heap.size w w') :
    Calls Tryz.prog 34 #[flV f] w fun e w' => e = .returned (.tuple #[.agg #[.int .i64 0, .int .u64 g, .int .u64 q, .int .u64 d], .int .i64 0]) ∧ Below w.heap.size w w' := by
  have H1 := Lib.hid h1; have H2 := Lib.hid h2; have H3 := Lib.hid h3
  clear h1 h2 h3
  have hB := ((Below.refl w.heap.size w).alloc (Nat.le_refl _) (.cells (flashC f.a f.b f.e0 f.e1 f.li) 69)).alloc (by simp) (.cells #[.int .i64 0, .int .u64 0, .int .u64 0, .int .u64 0] 66)
  have hF := heap_alloc2_old w (.cells (flashC f.a f.b f.e0 f.e1 f.li) 69) (.cells #[.int .i64 0, .int .u64 0, .int .u64 0, .int .u64 0] 66)
  have hS := heap_alloc2_new w (.cells (flashC f.a f.b f.e0 f.e1 f.li) 69) (.cells #[.int .i64 0, .int .u64 0, .int .u64 0, .int .u64 0] 66)
  obtain ⟨c0, c1, c2, c3, c4⟩ := cells5 hF
  go_enter Tryz.func34, Tryz.ntmps34
  go_wp2_with fail
  refine cb (H1.out _) fun w1 hb => ?_
  replace hF := kp hb hF
  replace hS := kp hb hS
  replace hB := tr hB hb
  clear hb
  clear c0 c1 c2 c3 c4
  obtain ⟨c0, c1, c2, c3, c4⟩ := cells5 hF
  go_wp2_with fail
  refine cb (H2.out _) fun w2 hb => ?_
  replace hF := kp hb hF
  replace hS := kp hb hS
  replace hB := tr hB hb
  clear hb
  clear c0 c1 c2 c3 c4
  obtain ⟨c0, c1, c2, c3, c4⟩ := cells5 hF
  go_wp2_with fail
  refine cb (H3.out _) fun w3 hb => ?_
  replace hF := kp hb hF
  replace hS := kp hb hS
  replace hB := tr hB hb
  clear hb
  clear c0 c1 c2 c3 c4 hF
  have hS2 := hao w3 (.cells #[.int .i64 k, .int .u64 q, .int .u64 d] 148) hS
  have hB2 := hB.alloc hB.size (.cells #[.int .i64 k, .int .u64 q, .int .u64 d] 148)
  have HS := Lib.hid hS2; have HB := Lib.hid hB2
  clear hS hS2 hB hB2
  go_wp2_with (first | (refine sb HS.out rfl rfl rfl rfl (by kernel_rfl) ?_))
  refine bodyPost_ret (rct rfl (srh HS.out) (by rfl) (by kernel_rfl)) rfl ⟨?_, below_setRow HB.out (by omega) _⟩
  rfl
theorem rreadB (f : Dw.Fl) (g q d k : Nat) (ea el : Int) (w : World)
    (h1 : ∀ w, Calls Tryz.prog 82 #[flV f] w fun e w' => e = .returned (.int .i64 1) ∧ Below w.heap.size w w')
    (h2 : ∀ w, Calls Tryz.prog 83 #[.string ⟨(f.b).toArray⟩] w fun e w' => e = .returned (.tuple #[.int .u64 (g : Int), .int .i64 ea]) ∧ Below w.heap.size w w')
    (h3 : ∀ w, Calls Tryz.prog 84 #[.string ⟨(f.b).toArray⟩] w fun e w' => e = .returned (.tuple #[.agg #[.int .i64 k, .int .u64 q, .int .u64 d], .int .i64 el]) ∧ Below w.heap.size w w') :
    Calls Tryz.prog 34 #[flV f] w fun e w' => e = .returned (.tuple #[.agg #[.int .i64 1, .int .u64 g, .int .u64 q, .int .u64 d], .int .i64 0]) ∧ Below w.heap.size w w' := by
  have H1 := Lib.hid h1; have H2 := Lib.hid h2; have H3 := Lib.hid h3
  clear h1 h2 h3
  have hB := ((Below.refl w.heap.size w).alloc (Nat.le_refl _) (.cells (flashC f.a f.b f.e0 f.e1 f.li) 69)).alloc (by simp) (.cells #[.int .i64 0, .int .u64 0, .int .u64 0, .int .u64 0] 66)
  have hF := heap_alloc2_old w (.cells (flashC f.a f.b f.e0 f.e1 f.li) 69) (.cells #[.int .i64 0, .int .u64 0, .int .u64 0, .int .u64 0] 66)
  have hS := heap_alloc2_new w (.cells (flashC f.a f.b f.e0 f.e1 f.li) 69) (.cells #[.int .i64 0, .int .u64 0, .int .u64 0, .int .u64 0] 66)
  obtain ⟨c0, c1, c2, c3, c4⟩ := cells5 hF
  go_enter Tryz.func34, Tryz.ntmps34
  go_wp2_with fail
  refine cb (H1.out _) fun w1 hb => ?_
  replace hF := kp hb hF
  replace hS := kp hb hS
  replace hB := tr hB hb
  clear hb
  clear c0 c1 c2 c3 c4
  obtain ⟨c0, c1, c2, c3, c4⟩ := cells5 hF
  go_wp2_with fail
  refine cb (H2.out _) fun w2 hb => ?_
  replace hF := kp hb hF
  replace hS := kp hb hS
  replace hB := tr hB hb
  clear hb
  clear c0 c1 c2 c3 c4
  obtain ⟨c0, c1, c2, c3, c4⟩ := cells5 hF
  go_wp2_with fail
  refine cb (H3.out _) fun w3 hb => ?_
  replace hF := kp hb hF
  replace hS := kp hb hS
  replace hB := tr hB hb
  clear hb
  clear c0 c1 c2 c3 c4 hF
  have hS2 := hao w3 (.cells #[.int .i64 k, .int .u64 q, .int .u64 d] 148) hS
  have hB2 := hB.alloc hB.size (.cells #[.int .i64 k, .int .u64 q, .int .u64 d] 148)
  have HS := Lib.hid hS2; have HB := Lib.hid hB2
  clear hS hS2 hB hB2
  go_wp2_with (first | (refine sb HS.out rfl rfl rfl rfl (by kernel_rfl) ?_))
  refine bodyPost_ret (rct rfl (srh HS.out) (by rfl) (by kernel_rfl)) rfl ⟨?_, below_setRow HB.out (by omega) _⟩
  rfl
theorem rreadN (f : Dw.Fl) (w : World)
    (h1 : ∀ w, Calls Tryz.prog 82 #[flV f] w fun e w' => e = .returned (.int .i64 (-1)) ∧ Below w.heap.size w w') :
    Calls Tryz.prog 34 #[flV f] w fun e w' => e = .returned (.tuple #[.agg #[.int .i64 0, .int .u64 0, .int .u64 0, .int .u64 0], .int .i64 10]) ∧ Below w.heap.size w w' := by
  have H1 := Lib.hid h1
  clear h1
  have hB := ((Below.refl w.heap.size w).alloc (Nat.le_refl _) (.cells (flashC f.a f.b f.e0 f.e1 f.li) 69)).alloc (by simp) (.cells #[.int .i64 0, .int .u64 0, .int .u64 0, .int .u64 0] 66)
  have hF := heap_alloc2_old w (.cells (flashC f.a f.b f.e0 f.e1 f.li) 69) (.cells #[.int .i64 0, .int .u64 0, .int .u64 0, .int .u64 0] 66)
  have hS := heap_alloc2_new w (.cells (flashC f.a f.b f.e0 f.e1 f.li) 69) (.cells #[.int .i64 0, .int .u64 0, .int .u64 0, .int .u64 0] 66)
  obtain ⟨c0, c1, c2, c3, c4⟩ := cells5 hF
  go_enter Tryz.func34, Tryz.ntmps34
  go_wp2_with fail
  refine cb (H1.out _) fun w1 hb => ?_
  replace hF := kp hb hF
  replace hS := kp hb hS
  replace hB := tr hB hb
  clear hb
  clear c0 c1 c2 c3 c4 hF
  have HS := Lib.hid hS; have HB := Lib.hid hB
  clear hS hB
  go_wp2_with (first | (refine sb HS.out rfl rfl rfl rfl (by kernel_rfl) ?_))
  refine bodyPost_ret (rct rfl (srh HS.out) (by rfl) (by kernel_rfl)) rfl ⟨?_, below_setRow HB.out (by omega) _⟩
  rfl
theorem rread_any (f : Dw.Fl) (ha : f.a.length ≤ 400) (hb : f.b.length ≤ 400) (w : World) :
    Calls Tryz.prog 34 #[flV f] w fun e w' => e = .returned (.tuple #[psV (Dw.readS f.a f.b), .int .i64 (Dw.readE f.a f.b)]) ∧ Below w.heap.size w w' := by
  have hbk := fun w => rbank10_any f ha hb w
  rcases Dw.bank_five f.a f.b with ⟨h1, h2, h3⟩ | ⟨h1, h2, h3⟩ | ⟨h1, h2, h3, h4⟩ | ⟨h1, h2, h3⟩ | ⟨h1, h2, h3, h4⟩ <;> rw [h1] at hbk
  · obtain ⟨r1, r2⟩ := Dw.rdN f.a f.b h2 h3
    rw [r1, r2]
    exact rreadN f w hbk
  · obtain ⟨r1, r2⟩ := Dw.rd0 f.a f.b h2 (.inl h3)
    rw [r1, r2]
    exact rreadA f _ _ _ _ _ _ w hbk (fun w => rgen_any f.a ha w) (fun w => rlast_any f.a ha w)
  · obtain ⟨r1, r2⟩ := Dw.rd0 f.a f.b h2 (.inr h4)
    rw [r1, r2]
    exact rreadA f _ _ _ _ _ _ w hbk (fun w => rgen_any f.a ha w) (fun w => rlast_any f.a ha w)
  · obtain ⟨r1, r2⟩ := Dw.rd1 f.a f.b h2 (.inl h3)
    rw [r1, r2]
    exact rreadB f _ _ _ _ _ _ w hbk (fun w => rgen_any f.b hb w) (fun w => rlast_any f.b hb w)
  · obtain ⟨r1, r2⟩ := Dw.rd1 f.a f.b h2 (.inr h4)
    rw [r1, r2]
    exact rreadB f _ _ _ _ _ _ w hbk (fun w => rgen_any f.b hb w) (fun w => rlast_any f.b hb w)
end Go.Proofs.YtjiejbkfaigikaaGreatDoor
