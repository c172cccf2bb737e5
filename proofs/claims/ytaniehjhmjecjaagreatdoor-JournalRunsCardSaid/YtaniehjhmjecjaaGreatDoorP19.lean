/- What the statement's proof stands on, part 19: ChainS, Turns, Jour2, Jour3. -/
import Derived.Test.YtaniehjhmjecjaaGreatDoorP18

/- A region that draws its order, in which some operations, forced into one order, go from state to state; all others leave what there is. -/
namespace Go.Proofs.YtaniehjhmjecjaaGreatDoor.RC
open Go.RowKit

section
variable {P : Program} {ops : Array Oper} {Q : Exit → Act → World → Prop} {St : Nat → World → Prop} {cs : List Nat} {late : Nat → Bool}

/-- A run that yields v, and ends where F holds. -/
def YlTo (P : Program) (r : Result Next) (v : Value) (F : World → Prop) : Prop :=
  (∃ w'', r = .ok (.value v) w'' ∧ F w'') ∨ (∃ f args w1, r = .ok (.enter f args) w1 ∧ Calls P f args w1 fun e w'' => e = .returned v ∧ F w'') ∨ (v = undef ∧ ∃ w'', r = .ok .skip w'' ∧ F w'')
theorem YlTo.wp {o : Oper} {a : Act} {v : Value} {F : World → Prop} {w' : World} (h : YlTo P ((execOp a.eval o).run P w') v F) {K : Act → World → Prop} (hK : ∀ w'', F w'' → K (a.put o.dst v) w'') : o.wp P a w' K Q := by
  unfold Oper.wp
  rcases h with ⟨w'', hr, hk⟩ | ⟨f, args, w1, hr, hc⟩ | ⟨rfl, w'', hr, hk⟩
  · rw [hr]; exact hK _ hk
  · rw [hr]
    refine Calls.mono hc ?_
    rintro e w'' ⟨rfl, hk⟩
    exact hK _ hk
  · rw [hr]; exact hK _ hk

def Gets2 (P : Program) (ops : Array Oper) (St : Nat → World → Prop) (lt : Bool) (n : Nat) (o : Oper) (a : Act) (v : Value) : Prop :=
  (Region.wanted o (yielded ops a.tmps) = true ∧ ∀ m w', (lt = true ∨ m = n) → St m w' → Yl P w' ((execOp a.eval o).run P w') v) ∨ (Region.wanted o (yielded ops a.tmps) = false ∧ v = undef)
def Link (P : Program) (ops : Array Oper) (St : Nat → World → Prop) (n : Nat) (o : Oper) (a : Act) (v : Value) : Prop :=
  Region.wanted o (yielded ops a.tmps) = true ∧ ∀ w', St n w' → YlTo P ((execOp a.eval o).run P w') v (St (n + 1))

/-- The walk, in our order; n counts the links. -/
def ChainList (P : Program) (ops : Array Oper) (St : Nat → World → Prop) (cs : List Nat) (late : Nat → Bool) (N : Nat → Act → Prop) : List Nat → Nat → Act → Prop
  | [], n, a => N n a
  | k :: ks, n, a => ∃ o v, ops[k]? = some o ∧ ((cs.contains k = true ∧ Link P ops St n o a v ∧ ChainList P ops St cs late N ks (n + 1) (a.put o.dst v)) ∨ (cs.contains k = false ∧ Gets2 P ops St (late k) n o a v ∧ ChainList P ops St cs late N ks n (a.put o.dst v)))

theorem ChainList.mono {N N' : Nat → Act → Prop} (h : ∀ n a, N n a → N' n a) : ∀ {ks : List Nat} {n : Nat} {a : Act}, ChainList P ops St cs late N ks n a → ChainList P ops St cs late N' ks n a
  | [], _, a, hh => h _ a hh
  | _ :: _, _, _, ⟨o, v, ho, hr⟩ => ⟨o, v, ho, hr.imp (fun ⟨c, g, r⟩ => ⟨c, g, ChainList.mono h r⟩) (fun ⟨c, g, r⟩ => ⟨c, g, ChainList.mono h r⟩)⟩

theorem Gets2.put {lt : Bool} {n : Nat} {o : Oper} {a : Act} {v : Value} (hs : ∀ cs b, o.op ≠ .select cs b) {d : Option Tmp} (u : Value) (hd : ∀ t, d = some t → t ∉ o.looksAt ops) : Gets2 P ops St lt n o (a.put d u) v ↔ Gets2 P ops St lt n o a v := by
  unfold Gets2
  rw [wanted_put o a d u hd, execOp_put o hs a d u hd]
theorem Link.put {n : Nat} {o : Oper} {a : Act} {v : Value} (hs : ∀ cs b, o.op ≠ .select cs b) {d : Option Tmp} (u : Value) (hd : ∀ t, d = some t → t ∉ o.looksAt ops) : Link P ops St n o (a.put d u) v ↔ Link P ops St n o a v := by
  unfold Link
  rw [wanted_put o a d u hd, execOp_put o hs a d u hd]

theorem Gets2.any {lt : Bool} (hl : lt = true) {n n' : Nat} {o : Oper} {a : Act} {v : Value} (h : Gets2 P ops St lt n o a v) : Gets2 P ops St lt n' o a v :=
  h.imp (fun ⟨hw, h⟩ => ⟨hw, fun m w' _ hs => h m w' (.inl hl) hs⟩) id
/-- Two operations that may not change places in a chain. -/
def meet (cs : List Nat) (late : Nat → Bool) (i k : Nat) : Bool := (cs.contains i && cs.contains k) || ((cs.contains i && !late k) || (cs.contains k && !late i))
theorem ChainList.swap {N : Nat → Act → Prop} (hsel : Region.noSelect ops = true) {i k : Nat} {l : List Nat} {n : Nat} {a : Act} (hap : apartAt ops i k = true) (hnc : meet cs late i k = false)
    (h : ChainList P ops St cs late N (k :: i :: l) n a) : ChainList P ops St cs late N (i :: k :: l) n a := by
  obtain ⟨ok, vk, hok, hk⟩ := h
  unfold meet at hnc
  rcases hk with ⟨ck, gk, hr⟩ | ⟨ck, gk, hr⟩ <;> obtain ⟨oi, vi, hoi, hi⟩ := hr <;> obtain ⟨h1, h2, h3⟩ := Oper.apart_spec (apartAt_spec hoi hok hap) <;>
    have hsi := (fun c b => Region.noSelect_spec hsel i oi c b hoi) <;> have hsk := (fun c b => Region.noSelect_spec hsel k ok c b hok)
  · rcases hi with ⟨ci, gi, hr⟩ | ⟨ci, gi, hr⟩
    · rw [ci, ck] at hnc; cases hnc
    · have hl : late i = true := by rw [ci, ck] at hnc; simpa using hnc
      exact ⟨oi, vi, hoi, .inr ⟨ci, Gets2.any hl ((Gets2.put hsi vk h3).1 gi), ok, vk, hok, .inl ⟨ck, (Link.put hsk vi h1).2 gk, by rw [Act.put_comm a vi vk h2]; exact hr⟩⟩⟩
  · rcases hi with ⟨ci, gi, hr⟩ | ⟨ci, gi, hr⟩
    · have hl : late k = true := by rw [ci, ck] at hnc; simpa using hnc
      exact ⟨oi, vi, hoi, .inl ⟨ci, (Link.put hsi vk h3).1 gi, ok, vk, hok, .inr ⟨ck, Gets2.any hl ((Gets2.put hsk vi h1).2 gk), by rw [Act.put_comm a vi vk h2]; exact hr⟩⟩⟩
    · exact ⟨oi, vi, hoi, .inr ⟨ci, (Gets2.put hsi vk h3).1 gi, ok, vk, hok, .inr ⟨ck, (Gets2.put hsk vi h1).2 gk, by rw [Act.put_comm a vi vk h2]; exact hr⟩⟩⟩

theorem ChainList.first {N : Nat → Act → Prop} (hsel : Region.noSelect ops = true) {i : Nat} {l2 : List Nat} : ∀ {l1 : List Nat} {n : Nat} {a : Act}, (∀ k ∈ l1, apartAt ops i k = true ∧ meet cs late i k = false) →
    ChainList P ops St cs late N (l1 ++ i :: l2) n a → ChainList P ops St cs late N (i :: (l1 ++ l2)) n a
  | [], _, _, _, h => h
  | k :: l1, _, _, hap, ⟨o, v, ho, hr⟩ => ChainList.swap hsel (hap k (by simp)).1 (hap k (by simp)).2 ⟨o, v, ho, hr.imp (fun ⟨c, g, r⟩ => ⟨c, g, ChainList.first hsel (fun j hj => hap j (by simp [hj])) r⟩) (fun ⟨c, g, r⟩ => ⟨c, g, ChainList.first hsel (fun j hj => hap j (by simp [hj])) r⟩)⟩

def linksOk (T : Array Nat) (cs : List Nat) (late : Nat → Bool) : List Nat → Bool
  | [] => true
  | k :: ks => (ks.all fun i => !(meet cs late i k) || behind T i k) && linksOk T cs late ks
theorem linksOk_spec {T : Array Nat} {i : Nat} {l2 : List Nat} : ∀ {l1 : List Nat}, linksOk T cs late (l1 ++ i :: l2) = true → ∀ k ∈ l1, meet cs late i k = false ∨ behind T i k = true
  | [], _, k, hk => by cases hk
  | k' :: l1, h, k, hk => by
    simp only [List.cons_append, linksOk, Bool.and_eq_true, List.all_eq_true] at h
    rcases List.mem_cons.1 hk with rfl | hk
    · have := h.1 i (by simp)
      simp only [Bool.or_eq_true, Bool.not_eq_true'] at this
      exact this
    · exact linksOk_spec h.2 k hk
theorem linksOk_erase {T : Array Nat} {i : Nat} : ∀ {ks : List Nat}, linksOk T cs late ks = true → linksOk T cs late (ks.erase i) = true
  | [], _ => rfl
  | k :: ks, h => by
    simp only [linksOk, Bool.and_eq_true, List.all_eq_true] at h
    by_cases e : k = i
    · subst e; simpa using h.2
    · rw [List.erase_cons_tail (by simpa using e)]
      simp only [linksOk, Bool.and_eq_true, List.all_eq_true]
      exact ⟨fun j hj => h.1 j (List.mem_of_mem_erase hj), linksOk_erase h.2⟩

theorem chain_sound {R : Exit → Act → World → Prop} {T : Array Nat} {ks ts : List Nat} (ok : RegionOk ops T ks [] ts) (hSt : ∀ n A B, St n A → Keep A B → St n B) (fuel : Nat) :
    ∀ (m : Nat) (rest : List Nat) (listed : Array Bool) (n : Nat) (a : Act) (w1 : World), rest.length = m → St n w1 → Todo ops T (ks ++ []) rest listed → pairsOk ops T rest = true → linksOk T cs late rest = true →
      ChainList P ops St cs late (fun n' a' => ∀ w', St n' w' → wpAny P .any ops R fuel (allListed ops (ks ++ [])) a' w') rest n a → wpAny P .any ops R (m + fuel) listed a w1 := by
  intro m
  induction m with
  | zero =>
    intro rest listed n a w1 hm hk ht _ _ h
    have : rest = [] := List.eq_nil_of_length_eq_zero hm
    subst this
    rw [ht.done, Nat.zero_add]
    exact h w1 hk
  | succ m ih =>
    intro rest listed n a w1 hm hk ht hp hl h
    have hne : rest ≠ [] := by intro e; subst e; simp at hm
    obtain ⟨hr, hall⟩ := ht.ready ok hne
    rw [show m + 1 + fuel = (m + fuel) + 1 from by omega]
    refine ⟨fun e => absurd e hr, fun i hi => ?_⟩
    have hir := hall i hi
    obtain ⟨l1, l2, rfl⟩ := List.append_of_mem hir
    have hnx := ht.next hi hir
    rw [erase_mid ht.nodup] at hnx
    have hp' : pairsOk ops T (l1 ++ l2) = true := by have := pairsOk_erase (i := i) hp; rwa [erase_mid ht.nodup] at this
    have hl' : linksOk T cs late (l1 ++ l2) = true := by have := linksOk_erase (i := i) hl; rwa [erase_mid ht.nodup] at this
    obtain ⟨h0, hlt, hdeps⟩ := mem_ready'.1 hi
    have nb : ∀ k ∈ l1, ¬ behind T i k = true := fun k hk' hb => by
      have := behind_listed ok.table ok.lt ht.closed i k hlt hdeps hb
      have hkl := (ok.inside k (ht.sub k (by simp [hk']))).1
      rw [getD_any (by rw [ht.size]; exact hkl) false true, ht.iff k hkl] at this
      simp [hk'] at this
    have hap : ∀ k ∈ l1, apartAt ops i k = true ∧ meet cs late i k = false := fun k hk' => ⟨(pairsOk_spec hp k hk').resolve_right (nb k hk'), (linksOk_spec hl k hk').resolve_right (nb k hk')⟩
    obtain ⟨o, v, ho, hg⟩ := ChainList.first ok.sel hap h
    have hlen : (l1 ++ l2).length = m := by simp at hm ⊢; omega
    unfold wpOp
    simp only [ho]
    rcases hg with ⟨_, ⟨hw, hs⟩, hrest⟩ | ⟨_, ⟨hw, hs⟩ | ⟨hw, rfl⟩, hrest⟩
    · rw [if_pos hw]
      exact .inl ((hs w1 hk).wp fun w'' hk'' => ih _ _ _ _ _ hlen hk'' hnx hp' hl' hrest)
    · rw [if_pos hw]
      exact .inl ((hs n w1 (.inr rfl) hk).wp fun w'' hk'' => ih _ _ _ _ _ hlen (hSt _ _ _ hk hk'') hnx hp' hl' hrest)
    · rw [if_neg (by simp [hw])]
      exact ih _ _ _ _ _ hlen hk hnx hp' hl' hrest

theorem wp_chain {R : Exit → Act → World → Prop} {id : Nat} {a : Act} {w : World} (ks cs : List Nat) (late : Nat → Bool) (k : Nat) (St : Nat → World → Prop) (hm : P.follows .mixedOrders = true) (hok : regionOk ops (Region.before ops) ks [] (List.range' k (ops.size - k)) = true) (hlk : linksOk (Region.before ops) cs late ks = true) (hsz : ops.size = ks.length + (ops.size - k))
    (hSt : ∀ n A B, St n A → Keep A B → St n B) (h0 : St 0 w)
    (h : ChainList P ops St cs late (fun n' a' => ∀ w', St n' w' → wpList P ops R (ops.toList.drop k) a' w') ks 0 a) : (Code.region id ops true).wp P R a w := by
  have ok := regionOk_spec hok
  refine wp_region_any hm ?_
  have st := Todo.start ok
  have e := chain_sound (P := P) (cs := cs) (late := late) (R := R) ok hSt (List.range' k (ops.size - k)).length ks.length ks (Array.replicate ops.size false) 0 a w.drew rfl (hSt _ _ _ h0 (KeepBut.refl _ w).drew) (by simpa using st) ok.pairs hlk ?_
  · rw [List.length_range', ← hsz] at e
    exact e
  refine ChainList.mono (fun n a' hN w' hk => ?_) h
  have := ok.tail
  exact tail_sound this ⟨_, range_drop k, hN w' hk⟩
end

section
variable {P : Program} {l : List Oper} {St : Nat → World → Prop} {cs : List Nat} {late : Nat → Bool} {N : Nat → Act → Prop} {n k : Nat} {ks : List Nat} {a : Act} {o : Oper} {v : Value}
theorem cl_value (hl : late k = false) (ho : l[k]? = some o) (hc : cs.contains k = false) (hw : Region.wanted o (yielded l.toArray a.tmps) = true)
    (hv : ∀ w', St n w' → (execOp a.eval o).run P w' = .ok (.value v) w') (h : ChainList P l.toArray St cs late N ks n (a.put o.dst v)) : ChainList P l.toArray St cs late N (k :: ks) n a :=
  ⟨o, v, by simpa using ho, .inr ⟨hc, .inl ⟨hw, fun m w' hm hk => .inl ⟨w', hv w' (by rcases hm with h | rfl; rw [hl] at h; cases h; exact hk), KeepBut.refl _ _⟩⟩, h⟩⟩
theorem cl_late (ho : l[k]? = some o) (hc : cs.contains k = false) (hw : Region.wanted o (yielded l.toArray a.tmps) = true)
    (hv : ∀ m w', St m w' → (execOp a.eval o).run P w' = .ok (.value v) w') (h : ChainList P l.toArray St cs late N ks n (a.put o.dst v)) : ChainList P l.toArray St cs late N (k :: ks) n a :=
  ⟨o, v, by simpa using ho, .inr ⟨hc, .inl ⟨hw, fun m w' _ hk => .inl ⟨w', hv m w' hk, KeepBut.refl _ _⟩⟩, h⟩⟩
theorem cl_skip (ho : l[k]? = some o) (hc : cs.contains k = false) (hw : Region.wanted o (yielded l.toArray a.tmps) = false)
    (h : ChainList P l.toArray St cs late N ks n (a.put o.dst undef)) : ChainList P l.toArray St cs late N (k :: ks) n a :=
  ⟨o, undef, by simpa using ho, .inr ⟨hc, .inr ⟨hw, rfl⟩, h⟩⟩
theorem cl_link {f : FuncId} {args : Array Value} (ho : l[k]? = some o) (hc : cs.contains k = true) (hw : Region.wanted o (yielded l.toArray a.tmps) = true)
    (hv : ∀ w', St n w' → (execOp a.eval o).run P w' = .ok (.enter f args) w') (hcl : ∀ w', St n w' → Calls P f args w' fun e w'' => e = .returned v ∧ St (n + 1) w'') (h : ChainList P l.toArray St cs late N ks (n + 1) (a.put o.dst v)) : ChainList P l.toArray St cs late N (k :: ks) n a :=
  ⟨o, v, by simpa using ho, .inl ⟨hc, ⟨hw, fun w' hk => .inr (.inl ⟨f, args, w', hv w' hk, hcl w' hk⟩)⟩, h⟩⟩
theorem cl_store (ho : l[k]? = some o) (hc : cs.contains k = true) (hw : Region.wanted o (yielded l.toArray a.tmps) = true)
    (hv : ∀ w', St n w' → ∃ w'', (execOp a.eval o).run P w' = .ok .skip w'' ∧ St (n + 1) w'') (h : ChainList P l.toArray St cs late N ks (n + 1) (a.put o.dst undef)) : ChainList P l.toArray St cs late N (k :: ks) n a :=
  ⟨o, undef, by simpa using ho, .inl ⟨hc, ⟨hw, fun w' hk => .inr (.inr ⟨rfl, hv w' hk⟩)⟩, h⟩⟩
theorem cl_nil {P : Program} {ops : Array Oper} (h : N n a) : ChainList P ops St cs late N [] n a := h
end
end Go.Proofs.YtaniehjhmjecjaaGreatDoor.RC

/- Layer 12: the turns of Play. -/
namespace Go.Proofs.YtaniehjhmjecjaaGreatDoor
open Go.RowKit Go.Shelf
attribute [local go_sem] Oper.semAt_some

namespace Dw
structure Lg where
  f : Fl
  acked : Int
  last : Nat
  flying : Bool
  flight : Nat
end Dw
abbrev lgC (l : Dw.Lg) : Array Value := #[.string ⟨l.f.a.toArray⟩, .string ⟨l.f.b.toArray⟩, .int .i64 l.f.e0, .int .i64 l.f.e1, .int .i64 l.f.li, .int .i64 l.acked, .int .u64 l.last, .bool l.flying, .int .u64 l.flight]
abbrev lgV (l : Dw.Lg) : Value := .agg (lgC l)
theorem cells9 {w : World} {b : Nat} {x0 x1 x2 x3 x4 x5 x6 x7 x8 : Value} {t : TypeId} {fr : Nat × Nat} (h : w.heap[b]? = some (.cells #[x0, x1, x2, x3, x4, x5, x6, x7, x8] t fr)) :
    w.cell? ⟨b, 0, none⟩ = some x0 ∧ w.cell? ⟨b, 1, none⟩ = some x1 ∧ w.cell? ⟨b, 2, none⟩ = some x2 ∧ w.cell? ⟨b, 3, none⟩ = some x3 ∧ w.cell? ⟨b, 4, none⟩ = some x4 ∧ w.cell? ⟨b, 5, none⟩ = some x5 ∧ w.cell? ⟨b, 6, none⟩ = some x6 ∧ w.cell? ⟨b, 7, none⟩ = some x7 ∧ w.cell? ⟨b, 8, none⟩ = some x8 := by
  refine ⟨?_, ?_, ?_, ?_, ?_, ?_, ?_, ?_, ?_⟩ <;> rw [cell_of_row _ _ _ _ _ _ h] <;> rfl
/-- What is there behind stores into one block. -/
def At1 (w : World) (b : Nat) (c : Array Value) (t : TypeId) (w' : World) : Prop := KeepBut (fun k => k = b) w w' ∧ w'.heap[b]? = some (.cells c t (0, 0))
theorem At1.keep {w : World} {b : Nat} {c : Array Value} {t : TypeId} {A B : World} (h : At1 w b c t A) (hk : Keep A B) : At1 w b c t B :=
  ⟨h.1.trans (hk.mono fun _ _ h => h.elim), (hk.block b (block_lt h.2) id).trans h.2⟩
theorem At1.set {w A : World} {b i : Nat} {c : Array Value} {t : TypeId} (h : At1 w b c t A) (v : Value) : At1 w b (c.setIfInBounds i v) t (A.setCell ⟨b, i, none⟩ v) :=
  ⟨h.1.setCell (p := ⟨b, i, none⟩) rfl v, heap_setCell_same A b i c t v h.2⟩

def stF (w : World) (N : Nat) (t : TypeId) (c0 c1 c2 c3 c4 : Array Value) : Nat → World → Prop
  | 0 => At1 w N c0 t
  | 1 => At1 w N c1 t
  | 2 => At1 w N c2 t
  | 3 => At1 w N c3 t
  | _ => At1 w N c4 t
theorem stF_keep {w : World} {N : Nat} {t : TypeId} {c0 c1 c2 c3 c4 : Array Value} : ∀ n A B, stF w N t c0 c1 c2 c3 c4 n A → Keep A B → stF w N t c0 c1 c2 c3 c4 n B
  | 0, _, _, h, k => At1.keep h k
  | 1, _, _, h, k => At1.keep h k
  | 2, _, _, h, k => At1.keep h k
  | 3, _, _, h, k => At1.keep h k
  | _ + 4, _, _, h, k => At1.keep h k
theorem stF_kb {w : World} {N : Nat} {t : TypeId} {c0 c1 c2 c3 c4 : Array Value} : ∀ n A, stF w N t c0 c1 c2 c3 c4 n A → KeepBut (fun k => k = N) w A
  | 0, _, h => h.1
  | 1, _, h => h.1
  | 2, _, h => h.1
  | 3, _, h => h.1
  | _ + 4, _, h => h.1

set_option maxRecDepth 100000 in
set_option maxHeartbeats 2000000 in
theorem turn1_any (N M : Nat) (hNM : M ≠ N) (l : Dw.Lg) (s : Dw.Stp) (a1 : Int) (ha : IntKind.i64.wrap (l.acked + 1) = a1) (w : World) (hl : w.heap[N]? = some (.cells (lgC l) 61 (0, 0))) (hs : w.heap[M]? = some (.cells (stpC s) 49 (0, 0))) :
    Calls Tryz.prog 50 #[.pointer (some ⟨N, 0, none⟩), .pointer (some ⟨M, 0, none⟩)] w fun e w' => e = .returned (.tuple #[]) ∧ At1 w N (lgC ⟨l.f, a1, s.data, false, 0⟩) 61 w' := by
  obtain ⟨s0, s1, s2⟩ := cells3 hs
  go_enter Tryz.func50, Tryz.ntmps50
  refine RC.wp_chain (List.range 23) [13, 16, 19, 22] (fun k => k == 1 || k == 2 || k == 3 || k == 9 || k == 10) 23 (stF w N 61 (lgC l) (lgC ⟨l.f, a1, l.last, l.flying, l.flight⟩) (lgC ⟨l.f, a1, s.data, l.flying, l.flight⟩) (lgC ⟨l.f, a1, s.data, false, l.flight⟩) (lgC ⟨l.f, a1, s.data, false, 0⟩)) rfl (by kernel_rfl) (by kernel_rfl) rfl stF_keep ⟨KeepBut.refl _ _, hl⟩ ?_
  rw [show List.range 23 = [0, 1, 2, 3, 4, 5, 6, 7, 8, 9, 10, 11, 12, 13, 14, 15, 16, 17, 18, 19, 20, 21, 22] from rfl]
  (refine RC.cl_value (v := ?_) rfl rfl (by rfl) rfl ?_ ?_; rotate_left 1; (focus (intro w' hst; go_simp; (first | done | with_reducible rfl | exact rfl))); (try simp only [Act.put, List.setIfInBounds_toArray, List.set_cons_zero, List.set_cons_succ]))
  (refine RC.cl_late (v := ?_) rfl (by rfl) rfl ?_ ?_; rotate_left 1; (focus (intro m w' hst; go_simp; (first | done | with_reducible rfl | exact rfl))); (try simp only [Act.put, List.setIfInBounds_toArray, List.set_cons_zero, List.set_cons_succ]))
  (refine RC.cl_late (v := ?_) rfl (by rfl) rfl ?_ ?_; rotate_left 1; (focus (intro m w' hst; go_simp; (first | done | with_reducible rfl | exact rfl))); (try simp only [Act.put, List.setIfInBounds_toArray, List.set_cons_zero, List.set_cons_succ]))
  (refine RC.cl_late (v := ?_) rfl (by rfl) rfl ?_ ?_; rotate_left 1; (focus (intro m w' hst; go_simp; (first | done | with_reducible rfl | exact rfl))); (try simp only [Act.put, List.setIfInBounds_toArray, List.set_cons_zero, List.set_cons_succ]))
  (refine RC.cl_value (v := ?_) rfl rfl (by rfl) rfl ?_ ?_; rotate_left 1; (focus (intro w' hst; go_simp; (first | done | with_reducible rfl | exact rfl))); (try simp only [Act.put, List.setIfInBounds_toArray, List.set_cons_zero, List.set_cons_succ]))
  (refine RC.cl_value (v := ?_) rfl rfl (by rfl) rfl ?_ ?_; rotate_left 1; (focus (intro w' hst; go_simp; (first | done | with_reducible rfl | exact rfl))); (try simp only [Act.put, List.setIfInBounds_toArray, List.set_cons_zero, List.set_cons_succ]))
  (refine RC.cl_value (v := ?_) rfl rfl (by rfl) rfl ?_ ?_; rotate_left 1; (focus (intro w' hst; go_simp; (first | done | with_reducible rfl | exact rfl))); (try simp only [Act.put, List.setIfInBounds_toArray, List.set_cons_zero, List.set_cons_succ]))
  (refine RC.cl_value (v := ?_) rfl rfl (by rfl) rfl ?_ ?_; rotate_left 1; (focus (intro w' hst; have hx := (show At1 w N _ _ w' from hst).2; obtain ⟨x0, x1, x2, x3, x4, x5, x6, x7, x8⟩ := cells9 hx; go_simp; (first | done | with_reducible rfl | exact rfl))); (try simp only [Act.put, List.setIfInBounds_toArray, List.set_cons_zero, List.set_cons_succ]))
  (refine RC.cl_value (v := ?_) rfl rfl (by rfl) rfl ?_ ?_; rotate_left 1; (focus (intro w' hst; go_simp; (first | done | with_reducible rfl | exact rfl))); (try simp only [Act.put, List.setIfInBounds_toArray, List.set_cons_zero, List.set_cons_succ]))
  (refine RC.cl_late (v := ?_) rfl (by rfl) rfl ?_ ?_; rotate_left 1; (focus (intro m w' hst; go_simp; (first | done | with_reducible rfl | exact rfl))); (try simp only [Act.put, List.setIfInBounds_toArray, List.set_cons_zero, List.set_cons_succ]))
  (refine RC.cl_late (v := ?_) rfl (by rfl) rfl ?_ ?_; rotate_left 1; (focus (intro m w' hst; have y0 := ((stF_kb _ _ hst).cell (lt_of_cell s0) hNM).trans s0; go_simp; (first | done | with_reducible rfl | exact rfl))); (try simp only [Act.put, List.setIfInBounds_toArray, List.set_cons_zero, List.set_cons_succ]))
  (refine RC.cl_value (v := ?_) rfl rfl (by rfl) rfl ?_ ?_; rotate_left 1; (focus (intro w' hst; go_simp; (first | done | with_reducible rfl | exact rfl))); (try simp only [Act.put, List.setIfInBounds_toArray, List.set_cons_zero, List.set_cons_succ]))
  (refine RC.cl_value (v := ?_) rfl rfl (by rfl) rfl ?_ ?_; rotate_left 1; (focus (intro w' hst; go_simp; (first | done | with_reducible rfl | exact rfl))); (try simp only [Act.put, List.setIfInBounds_toArray, List.set_cons_zero, List.set_cons_succ]))
  (refine RC.cl_store rfl (by rfl) rfl (fun w' hst => ⟨w'.setCell ⟨N, 5, none⟩ (.int .i64 a1), ?_, At1.set hst (.int .i64 a1)⟩) ?_; (focus (have hx := (show At1 w N _ _ w' from hst).2; obtain ⟨x0, x1, x2, x3, x4, x5, x6, x7, x8⟩ := cells9 hx; have fz := frozen0 hx 5; go_simp)); (try simp only [Act.put]))
  (refine RC.cl_value (v := ?_) rfl rfl (by rfl) rfl ?_ ?_; rotate_left 1; (focus (intro w' hst; go_simp; (first | done | with_reducible rfl | exact rfl))); (try simp only [Act.put, List.setIfInBounds_toArray, List.set_cons_zero, List.set_cons_succ]))
  (refine RC.cl_value (v := ?_) rfl rfl (by rfl) rfl ?_ ?_; rotate_left 1; (focus (intro w' hst; go_simp; (first | done | with_reducible rfl | exact rfl))); (try simp only [Act.put, List.setIfInBounds_toArray, List.set_cons_zero, List.set_cons_succ]))
  (refine RC.cl_store rfl (by rfl) rfl (fun w' hst => ⟨w'.setCell ⟨N, 6, none⟩ (.int .u64 s.data), ?_, At1.set hst (.int .u64 s.data)⟩) ?_; (focus (have hx := (show At1 w N _ _ w' from hst).2; obtain ⟨x0, x1, x2, x3, x4, x5, x6, x7, x8⟩ := cells9 hx; have fz := frozen0 hx 6; go_simp)); (try simp only [Act.put]))
  (refine RC.cl_value (v := ?_) rfl rfl (by rfl) rfl ?_ ?_; rotate_left 1; (focus (intro w' hst; go_simp; (first | done | with_reducible rfl | exact rfl))); (try simp only [Act.put, List.setIfInBounds_toArray, List.set_cons_zero, List.set_cons_succ]))
  (refine RC.cl_value (v := ?_) rfl rfl (by rfl) rfl ?_ ?_; rotate_left 1; (focus (intro w' hst; go_simp; (first | done | with_reducible rfl | exact rfl))); (try simp only [Act.put, List.setIfInBounds_toArray, List.set_cons_zero, List.set_cons_succ]))
  (refine RC.cl_store rfl (by rfl) rfl (fun w' hst => ⟨w'.setCell ⟨N, 7, none⟩ (.bool false), ?_, At1.set hst (.bool false)⟩) ?_; (focus (have hx := (show At1 w N _ _ w' from hst).2; obtain ⟨x0, x1, x2, x3, x4, x5, x6, x7, x8⟩ := cells9 hx; have fz := frozen0 hx 7; go_simp)); (try simp only [Act.put]))
  (refine RC.cl_value (v := ?_) rfl rfl (by rfl) rfl ?_ ?_; rotate_left 1; (focus (intro w' hst; go_simp; (first | done | with_reducible rfl | exact rfl))); (try simp only [Act.put, List.setIfInBounds_toArray, List.set_cons_zero, List.set_cons_succ]))
  (refine RC.cl_value (v := ?_) rfl rfl (by rfl) rfl ?_ ?_; rotate_left 1; (focus (intro w' hst; go_simp; (first | done | with_reducible rfl | exact rfl))); (try simp only [Act.put, List.setIfInBounds_toArray, List.set_cons_zero, List.set_cons_succ]))
  (refine RC.cl_store rfl (by rfl) rfl (fun w' hst => ⟨w'.setCell ⟨N, 8, none⟩ (.int .u64 0), ?_, At1.set hst (.int .u64 0)⟩) ?_; (focus (have hx := (show At1 w N _ _ w' from hst).2; obtain ⟨x0, x1, x2, x3, x4, x5, x6, x7, x8⟩ := cells9 hx; have fz := frozen0 hx 8; go_simp)); (try simp only [Act.put]))
  refine RC.cl_nil ?_
  intro w5 hst
  simp only [List.drop_succ_cons, List.drop_zero]
  go_wp2_with fail
  go_end0
  exact ⟨rfl, hst⟩

set_option maxRecDepth 100000 in
set_option maxHeartbeats 2000000 in
theorem turn2_any (N M : Nat) (hNM : M ≠ N) (l : Dw.Lg) (s : Dw.Stp) (w : World) (hl : w.heap[N]? = some (.cells (lgC l) 61 (0, 0))) (hs : w.heap[M]? = some (.cells (stpC s) 49 (0, 0))) :
    Calls Tryz.prog 51 #[.pointer (some ⟨N, 0, none⟩), .pointer (some ⟨M, 0, none⟩)] w fun e w' => e = .returned (.tuple #[]) ∧ At1 w N (lgC ⟨l.f, l.acked, l.last, true, s.data⟩) 61 w' := by
  obtain ⟨s0, s1, s2⟩ := cells3 hs
  go_enter Tryz.func51, Tryz.ntmps51
  refine RC.wp_chain (List.range 10) [6, 9] (fun k => k == 1 || k == 2 || k == 3) 10 (stF w N 61 (lgC l) (lgC ⟨l.f, l.acked, l.last, true, l.flight⟩) (lgC ⟨l.f, l.acked, l.last, true, s.data⟩) #[] #[]) rfl (by kernel_rfl) (by kernel_rfl) rfl stF_keep ⟨KeepBut.refl _ _, hl⟩ ?_
  rw [show List.range 10 = [0, 1, 2, 3, 4, 5, 6, 7, 8, 9] from rfl]
  (refine RC.cl_value (v := ?_) rfl rfl (by rfl) rfl ?_ ?_; rotate_left 1; (focus (intro w' hst; go_simp; (first | done | with_reducible rfl | exact rfl))); (try simp only [Act.put, List.setIfInBounds_toArray, List.set_cons_zero, List.set_cons_succ]))
  (refine RC.cl_late (v := ?_) rfl (by rfl) rfl ?_ ?_; rotate_left 1; (focus (intro m w' hst; go_simp; (first | done | with_reducible rfl | exact rfl))); (try simp only [Act.put, List.setIfInBounds_toArray, List.set_cons_zero, List.set_cons_succ]))
  (refine RC.cl_late (v := ?_) rfl (by rfl) rfl ?_ ?_; rotate_left 1; (focus (intro m w' hst; go_simp; (first | done | with_reducible rfl | exact rfl))); (try simp only [Act.put, List.setIfInBounds_toArray, List.set_cons_zero, List.set_cons_succ]))
  (refine RC.cl_late (v := ?_) rfl (by rfl) rfl ?_ ?_; rotate_left 1; (focus (intro m w' hst; have y0 := ((stF_kb _ _ hst).cell (lt_of_cell s0) hNM).trans s0; go_simp; (first | done | with_reducible rfl | exact rfl))); (try simp only [Act.put, List.setIfInBounds_toArray, List.set_cons_zero, List.set_cons_succ]))
  (refine RC.cl_value (v := ?_) rfl rfl (by rfl) rfl ?_ ?_; rotate_left 1; (focus (intro w' hst; go_simp; (first | done | with_reducible rfl | exact rfl))); (try simp only [Act.put, List.setIfInBounds_toArray, List.set_cons_zero, List.set_cons_succ]))
  (refine RC.cl_value (v := ?_) rfl rfl (by rfl) rfl ?_ ?_; rotate_left 1; (focus (intro w' hst; go_simp; (first | done | with_reducible rfl | exact rfl))); (try simp only [Act.put, List.setIfInBounds_toArray, List.set_cons_zero, List.set_cons_succ]))
  (refine RC.cl_store rfl (by rfl) rfl (fun w' hst => ⟨w'.setCell ⟨N, 7, none⟩ (.bool true), ?_, At1.set hst (.bool true)⟩) ?_; (focus (have hx := (show At1 w N _ _ w' from hst).2; obtain ⟨x0, x1, x2, x3, x4, x5, x6, x7, x8⟩ := cells9 hx; have fz := frozen0 hx 7; go_simp)); (try simp only [Act.put]))
  (refine RC.cl_value (v := ?_) rfl rfl (by rfl) rfl ?_ ?_; rotate_left 1; (focus (intro w' hst; go_simp; (first | done | with_reducible rfl | exact rfl))); (try simp only [Act.put, List.setIfInBounds_toArray, List.set_cons_zero, List.set_cons_succ]))
  (refine RC.cl_value (v := ?_) rfl rfl (by rfl) rfl ?_ ?_; rotate_left 1; (focus (intro w' hst; go_simp; (first | done | with_reducible rfl | exact rfl))); (try simp only [Act.put, List.setIfInBounds_toArray, List.set_cons_zero, List.set_cons_succ]))
  (refine RC.cl_store rfl (by rfl) rfl (fun w' hst => ⟨w'.setCell ⟨N, 8, none⟩ (.int .u64 s.data), ?_, At1.set hst (.int .u64 s.data)⟩) ?_; (focus (have hx := (show At1 w N _ _ w' from hst).2; obtain ⟨x0, x1, x2, x3, x4, x5, x6, x7, x8⟩ := cells9 hx; have fz := frozen0 hx 8; go_simp)); (try simp only [Act.put]))
  refine RC.cl_nil ?_
  intro w5 hst
  simp only [List.drop_succ_cons, List.drop_zero]
  go_wp2_with fail
  go_end0
  exact ⟨rfl, hst⟩
end Go.Proofs.YtaniehjhmjecjaaGreatDoor

/- Layer 12: Play. -/
namespace Go.Proofs.YtaniehjhmjecjaaGreatDoor
open Go.RowKit Go.Shelf
attribute [local go_sem] Oper.semAt_some

namespace Dw
def seenEq (a b a' b' : List UInt8) : Bool := decide ((readS a b).bank = (readS a' b').bank ∧ (readS a b).gen = (readS a' b').gen ∧ (readS a b).seq = (readS a' b').seq ∧ (readS a b).data = (readS a' b').data ∧ readE a b = readE a' b')
def playJ (l : Lg) (s : Stp) : Lg :=
  if (plan l.f s.data).2 ≠ 0 then l
  else if ackB l.f s = true then ⟨(putG l.f s).1, l.acked + 1, s.data, false, 0⟩
  else if seenEq (putG l.f s).1.a (putG l.f s).1.b l.f.a l.f.b = false then ⟨(putG l.f s).1, l.acked, l.last, true, s.data⟩
  else ⟨(putG l.f s).1, l.acked, l.last, l.flying, l.flight⟩
end Dw

theorem neq5 {rb pb re pe : Int} {rg pg rq pq rd pd : Nat} {w : World} :
    (if rb = pb then if (rg : Int) = (pg : Int) then if (rq : Int) = (pq : Int) then if (rd : Int) = (pd : Int) then if re = pe then Result.ok (Next.value (Value.bool false)) w else Result.ok (Next.value (Value.bool true)) w else Result.ok (Next.value (Value.bool true)) w else Result.ok (Next.value (Value.bool true)) w else Result.ok (Next.value (Value.bool true)) w else Result.ok (Next.value (Value.bool true)) w) =
      Result.ok (Next.value (.bool (!decide (rb = pb) || (!decide (rg = pg) || (!decide (rq = pq) || (!decide (rd = pd) || !decide (re = pe))))))) w := by
  by_cases h1 : rb = pb <;> by_cases h2 : rg = pg <;> by_cases h3 : rq = pq <;> by_cases h4 : rd = pd <;> by_cases h5 : re = pe <;> simp [h1, h2, h3, h4, h5, Int.natCast_inj]

set_option maxRecDepth 100000 in
set_option maxHeartbeats 8000000 in
theorem play12_any (l : Dw.Lg) (hf : Dw.FlOk l.f) (ha : 0 ≤ l.acked ∧ l.acked ≤ 1000000) (s : Dw.Stp) (hd : s.data < 18446744073709551616) (w : World) (hn : NoneAt w) :
    Calls Tryz.prog 30 #[lgV l, stpV s] w fun e w' => e = .returned (lgV (Dw.playJ l s)) ∧ Below w.heap.size w w' := by
  have hmf : ∀ (fn : Fn) (first cap : Array Value) (w : World), (Instr.makeFunc fn first cap).run Tryz.prog w = .ok (.func fn first cap) w := fun _ _ _ _ => rfl
  obtain ⟨V, hV⟩ : ∃ V, ((w.alloc (.cells (lgC l) 61)).alloc (.cells (stpC s) 49)).alloc (.cells #[.string ⟨#[]⟩, .string ⟨#[]⟩, .int .i64 0, .int .i64 0, .int .i64 0, .int .i64 0, .int .u64 0, .bool false, .int .u64 0] 61) = V := ⟨_, rfl⟩
  obtain ⟨vz, vB, b0, b1, b2⟩ := alloc3 w _ _ _ V hV
  obtain ⟨l0, l1, l2, l3, l4, l5, l6, l7, l8⟩ := cells9 b0
  obtain ⟨s0, s1, s2⟩ := cells3 b1
  obtain ⟨f, acked, last, flying, flight⟩ := l
  dsimp only at *
  have HP := Lib.hid (fun w hn => put12_any f hf s hd w hn)
  go_enter Tryz.func30, Tryz.ntmps30
  go_wp2_with fail
  refine (look_any f hf _ (hn.next vB)).mono ?_
  rintro e w1 ⟨rfl, hb⟩
  replace b0 := (hb.block _ (block_lt b0)).trans b0
  replace b1 := (hb.block _ (block_lt b1)).trans b1
  replace b2 := (hb.block _ (block_lt b2)).trans b2
  replace vB := vB.trans (hb.mono vB.size)
  clear hb hV l0 l1 l2 l3 l4 l5 l6 l7 l8 s0 s1 s2
  have hq1 := block_lt b2
  have b5 := heap_alloc_new w1 (.cells (seenC f.a f.b) 96)
  replace b0 := (heap_alloc_old w1 (.cells (seenC f.a f.b) 96) _ (block_lt b0)).trans b0
  replace b1 := (heap_alloc_old w1 (.cells (seenC f.a f.b) 96) _ (block_lt b1)).trans b1
  replace b2 := (heap_alloc_old w1 (.cells (seenC f.a f.b) 96) _ (block_lt b2)).trans b2
  replace vB := vB.alloc vB.size (.cells (seenC f.a f.b) 96)
  obtain ⟨l0, l1, l2, l3, l4, l5, l6, l7, l8⟩ := cells9 b0
  obtain ⟨s0, s1, s2⟩ := cells3 b1
  go_wp2_with fail
  generalize w1.alloc _ = W1 at *
  refine (HP.out _ (hn.next vB)).mono ?_
  rintro e w2 ⟨rfl, hb⟩
  replace b0 := (hb.block _ (block_lt b0)).trans b0
  replace b1 := (hb.block _ (block_lt b1)).trans b1
  replace b2 := (hb.block _ (block_lt b2)).trans b2
  replace b5 := (hb.block _ (block_lt b5)).trans b5
  replace vB := vB.trans (hb.mono vB.size)
  clear hb l0 l1 l2 l3 l4 l5 l6 l7 l8 s0 s1 s2
  by_cases hpe : (Dw.plan f s.data).2 = 0
  · obtain ⟨L, hlen, hok, hpos, hle⟩ := Dw.plan_ok hf hpe
    have hgok := (Dw.play_ok s.cut s.mask _ f 0 hf hlen hok).1
    change Dw.FlOk (Dw.putG f s).1 at hgok
    have HE := Lib.hid (show Dw.playJ ⟨f, acked, last, flying, flight⟩ s = if Dw.ackB f s = true then ⟨(Dw.putG f s).1, acked + 1, s.data, false, 0⟩
      else if Dw.seenEq (Dw.putG f s).1.a (Dw.putG f s).1.b f.a f.b = false then ⟨(Dw.putG f s).1, acked, last, true, s.data⟩ else ⟨(Dw.putG f s).1, acked, last, flying, flight⟩ from by unfold Dw.playJ; rw [if_neg (by intro h; exact h hpe)])
    rw [putV, if_pos hpe]
    clear hpe hlen hok hpos hle
    generalize Dw.ackB f s = ack at *
    generalize (Dw.putG f s).1 = g at *
    have hq2 := block_lt b5
    have b6 := heap_alloc_new w2 (.cells (flashC g.a g.b g.e0 g.e1 g.li) 25)
    replace b0 := (heap_alloc_old w2 (.cells (flashC g.a g.b g.e0 g.e1 g.li) 25) _ (block_lt b0)).trans b0
    replace b1 := (heap_alloc_old w2 (.cells (flashC g.a g.b g.e0 g.e1 g.li) 25) _ (block_lt b1)).trans b1
    replace b2 := (heap_alloc_old w2 (.cells (flashC g.a g.b g.e0 g.e1 g.li) 25) _ (block_lt b2)).trans b2
    replace b5 := (heap_alloc_old w2 (.cells (flashC g.a g.b g.e0 g.e1 g.li) 25) _ (block_lt b5)).trans b5
    replace vB := vB.alloc vB.size (.cells (flashC g.a g.b g.e0 g.e1 g.li) 25)
    have hq3 := block_lt b6
    have HL := Lib.hid (fun w hn => look_any g hgok w hn)
    obtain ⟨⟨pb, pg, pq, pd⟩, hS⟩ : ∃ p, Dw.readS f.a f.b = p := ⟨_, rfl⟩
    obtain ⟨pe, hE⟩ : ∃ p, Dw.readE f.a f.b = p := ⟨_, rfl⟩
    obtain ⟨⟨rb, rg, rq, rd⟩, hS2⟩ : ∃ p, Dw.readS g.a g.b = p := ⟨_, rfl⟩
    obtain ⟨re, hE2⟩ : ∃ p, Dw.readE g.a g.b = p := ⟨_, rfl⟩
    have HD := Lib.hid (show Dw.seenEq g.a g.b f.a f.b = decide (rb = pb ∧ rg = pg ∧ rq = pq ∧ rd = pd ∧ re = pe) from by unfold Dw.seenEq; rw [hS, hE, hS2, hE2])
    rw [seenC, hS, hE] at b5
    have HL2 := HL.out
    simp only [seenV, seenC, hS2, hE2] at HL2
    have HL3 := Lib.hid HL2
    clear HL HL2 hS hE hS2 hE2
    go_wp2_with fail
    generalize w2.alloc _ = W2 at *
    generalize w2.heap.size = t6 at *
    generalize w1.heap.size = t5 at *
    obtain ⟨e0, e1, e2, e3, e4⟩ := cells5 b6
    obtain ⟨q0, q1, q2, q3, q4⟩ := cells5 b5
    refine wp_letterD (List.range 9) 9 10 (some 35) (NewRows W2 #[.bool ack, .func (.func 50) #[] #[.pointer (some ⟨w.heap.size + 1, 0, none⟩)], .bool (!(decide (rb = pb ∧ rg = pg ∧ rq = pq ∧ rd = pd ∧ re = pe))), .func (.func 51) #[] #[.pointer (some ⟨w.heap.size + 1, 0, none⟩)]] 2 106) rfl rfl (by kernel_rfl) (by kernel_rfl) rfl (fun v A B h hk => h.keep hk) ?_
    rw [show List.range 9 = [0, 1, 2, 3, 4, 5, 6, 7, 8] from rfl]
    (refine pl_value (v := ?_) rfl rfl ?_ ?_; rotate_left 1; (focus (intro w' hk; go_simp; (first | done | with_reducible rfl | exact rfl))); (try simp only [Act.put, List.setIfInBounds_toArray, List.set_cons_zero, List.set_cons_succ]))
    (refine pl_value (v := ?_) rfl rfl ?_ ?_; rotate_left 1; (focus (intro w' hk; go_simp; (first | done | with_reducible rfl | exact rfl))); (try simp only [Act.put, List.setIfInBounds_toArray, List.set_cons_zero, List.set_cons_succ]))
    (refine pl_value (v := ?_) rfl rfl ?_ ?_; rotate_left 1; (focus (intro w' hk; go_simp; (first | done | with_reducible rfl | exact rfl))); (try simp only [Act.put, List.setIfInBounds_toArray, List.set_cons_zero, List.set_cons_succ]))
    (refine pl_value (v := ?_) rfl rfl ?_ ?_; rotate_left 1; (focus (intro w' hk; have c0 := look hk e0; have c1 := look hk e1; have c2 := look hk e2; have c3 := look hk e3; have c4 := look hk e4; go_simp; (first | done | with_reducible rfl | exact rfl))); (try simp only [Act.put, List.setIfInBounds_toArray, List.set_cons_zero, List.set_cons_succ]))
    (refine pl_call (v := ?_) (f := ?_) (args := ?_) rfl rfl ?_ ?_ ?_; rotate_left 3; (focus (intro w' hk; go_simp; (first | done | (constructor <;> with_reducible rfl) | with_reducible rfl))); (focus (intro w' hk; exact HL3.out w' (hn.next (vB.trans (hk.whole.mono vB.size))))); (try simp only [Act.put, List.setIfInBounds_toArray, List.set_cons_zero, List.set_cons_succ]))
    (refine pl_value (v := ?_) rfl rfl ?_ ?_; rotate_left 1; (focus (intro w' hk; have c0 := look hk q0; have c1 := look hk q1; have c2 := look hk q2; have c3 := look hk q3; have c4 := look hk q4; go_simp; (first | done | with_reducible rfl | exact rfl))); (try simp only [Act.put, List.setIfInBounds_toArray, List.set_cons_zero, List.set_cons_succ]))
    (refine pl_value (v := .bool (!(decide (rb = pb ∧ rg = pg ∧ rq = pq ∧ rd = pd ∧ re = pe)))) rfl rfl ?_ ?_; (focus (intro w' hk; go_simp; exact neq5)); (try simp only [Act.put, List.setIfInBounds_toArray, List.set_cons_zero, List.set_cons_succ]))
    (refine pl_value (v := ?_) rfl rfl ?_ ?_; rotate_left 1; (focus (intro w' hk; go_simp; (first | done | with_reducible rfl | exact rfl))); (try simp only [Act.put, List.setIfInBounds_toArray, List.set_cons_zero, List.set_cons_succ]))
    (refine pl_value (v := ?_) rfl rfl ?_ ?_; rotate_left 1; (focus (intro w' hk; go_simp; (first | done | with_reducible rfl | exact rfl))); (try simp only [Act.put, List.setIfInBounds_toArray, List.set_cons_zero, List.set_cons_succ]))
    refine pl_nil ?_
    refine ⟨rfl, sure_rows (fun w' _ => by go_simp), ?_⟩
    rintro v W3 hk3 ⟨tb, rfl, htb, hT⟩
    simp only [List.drop_succ_cons, List.drop_zero, List.setIfInBounds_toArray, List.set_cons_zero, List.set_cons_succ]
    replace b0 := (hk3.block _ (block_lt b0) id).trans b0
    replace b1 := (hk3.block _ (block_lt b1) id).trans b1
    replace b2 := (hk3.block _ (block_lt b2) id).trans b2
    replace b6 := (hk3.block _ (block_lt b6) id).trans b6
    replace vB := vB.trans (hk3.whole.mono vB.size)
    clear hk3 e0 e1 e2 e3 e4 q0 q1 q2 q3 q4 b5
    have HD2 := Lib.hid HD.out.symm
    generalize hdf : (decide (rb = pb ∧ rg = pg ∧ rq = pq ∧ rd = pd ∧ re = pe)) = df at *
    clear hdf HD
    obtain ⟨e0, e1, e2, e3, e4⟩ := cells5 b6
    obtain ⟨l0, l1, l2, l3, l4, l5, l6, l7, l8⟩ := cells9 b0
    have fz0 := frozen0 b0 0; have fz1 := frozen0 b0 1; have fz2 := frozen0 b0 2; have fz3 := frozen0 b0 3; have fz4 := frozen0 b0 4
    go_wp2_with fail
    have at5 : At1 W3 w.heap.size (lgC ⟨g, acked, last, flying, flight⟩) 61 _ := ((((At1.set (i := 0) ⟨KeepBut.refl _ W3, b0⟩ (.string ⟨g.a.toArray⟩)).set (i := 1) (.string ⟨g.b.toArray⟩)).set (i := 2) (.int .i64 g.e0)).set (i := 3) (.int .i64 g.e1)).set (i := 4) (.int .i64 g.li)
    generalize World.setCell (World.setCell (World.setCell (World.setCell (World.setCell W3 _ _) _ _) _ _) _ _) _ _ = W4 at *
    have hzB := vB.size
    replace b1 := (at5.1.block _ (block_lt b1) (by omega)).trans b1
    replace b2 := (at5.1.block _ (block_lt b2) (by omega)).trans b2
    replace hT := (at5.1.block _ (block_lt hT) (by omega)).trans hT
    replace vB := vB.trans (at5.1.below vB.size (fun g hg => by omega))
    replace b0 := at5.2
    clear at5 e0 e1 e2 e3 e4 l0 l1 l2 l3 l4 l5 l6 l7 l8 fz0 fz1 fz2 fz3 fz4 b6
    have htb2 : w.heap.size + 3 ≤ tb := by omega
    clear htb
    go_loopw [40] (fun i wr => ∃ k : Nat, k ≤ 2 ∧ i = .int .i64 k ∧ (1 ≤ k → ack = false) ∧ (2 ≤ k → df = true) ∧ wr.heap[w.heap.size]? = some (.cells (lgC ⟨g, acked, last, flying, flight⟩) 61 (0, 0)) ∧ wr.heap[w.heap.size + 1]? = some (.cells (stpC s) 49 (0, 0)) ∧ wr.heap[w.heap.size + 2]? = some (.cells #[.string ⟨#[]⟩, .string ⟨#[]⟩, .int .i64 0, .int .i64 0, .int .i64 0, .int .i64 0, .int .u64 0, .bool false, .int .u64 0] 61 (0, 0)) ∧
      wr.heap[tb]? = some (.cells #[.bool ack, .func (.func 50) #[] #[.pointer (some ⟨w.heap.size + 1, 0, none⟩)], .bool (!df), .func (.func 51) #[] #[.pointer (some ⟨w.heap.size + 1, 0, none⟩)]] 106 (0, 0)) ∧ Below w.heap.size w wr) (fun i _ => 2 - (intOf i).toNat)
    case atStart => exact ⟨0, Nat.zero_le _, rfl, fun h => by omega, fun h => by omega, b0, b1, b2, hT, vB⟩
    case round =>
      clear b0 b1 b2 hT vB hzB
      obtain ⟨k, hk, rfl, ha1, ha2, b0, b1, b2, hT, vB⟩ := hrel
      rcases (by omega : k = 0 ∨ k = 1 ∨ k = 2) with rfl | rfl | rfl
      · obtain ⟨t0, t1, t2, t3⟩ := cells4 hT
        cases ack with
        | true =>
          have HE2 := Lib.hid (HE.out.trans (if_pos rfl))
          clear HE ha1 ha2
          have hz := heap_alloc_new wr (.cells #[.bool false, Value.nilFunc] 106)
          have hT1 := block_lt hT; have hb2l := block_lt b2
          go_wp2_with (refine wpList_store_block rfl 106 (.tmp 11) (.tmp 43) rfl rfl rfl hz (by kernel_rfl) rfl (by simp [Value.oneCell']) ?_; have z := setRow_heap _ wr.heap.size _ #[.bool true, .func (.func 50) #[] #[.pointer (some ⟨w.heap.size + 1, 0, none⟩)]] _ _ hz; have d0 := (setRow_other (wr.alloc (.cells #[.bool false, Value.nilFunc] 106)) wr.heap.size w.heap.size #[.bool true, .func (.func 50) #[] #[.pointer (some ⟨w.heap.size + 1, 0, none⟩)]] (by omega)).trans ((heap_alloc_old wr (.cells #[.bool false, Value.nilFunc] 106) _ (block_lt b0)).trans b0); have d1 := (setRow_other (wr.alloc (.cells #[.bool false, Value.nilFunc] 106)) wr.heap.size (w.heap.size + 1) #[.bool true, .func (.func 50) #[] #[.pointer (some ⟨w.heap.size + 1, 0, none⟩)]] (by omega)).trans ((heap_alloc_old wr (.cells #[.bool false, Value.nilFunc] 106) _ (block_lt b1)).trans b1); have d2 := (setRow_other (wr.alloc (.cells #[.bool false, Value.nilFunc] 106)) wr.heap.size (w.heap.size + 2) #[.bool true, .func (.func 50) #[] #[.pointer (some ⟨w.heap.size + 1, 0, none⟩)]] (by omega)).trans ((heap_alloc_old wr (.cells #[.bool false, Value.nilFunc] 106) _ (block_lt b2)).trans b2); have dT := (setRow_other (wr.alloc (.cells #[.bool false, Value.nilFunc] 106)) wr.heap.size tb #[.bool true, .func (.func 50) #[] #[.pointer (some ⟨w.heap.size + 1, 0, none⟩)]] (by omega)).trans ((heap_alloc_old wr (.cells #[.bool false, Value.nilFunc] 106) _ (block_lt hT)).trans hT); have hB1 := below_setRow (vB.alloc vB.size (.cells #[.bool false, Value.nilFunc] 106)) vB.size #[.bool true, .func (.func 50) #[] #[.pointer (some ⟨w.heap.size + 1, 0, none⟩)]]; generalize World.setRow _ _ _ = Wt at *; clear b0 b1 b2 hT vB t0 t1 t2 t3 hz; obtain ⟨z0, z1⟩ := cells2 z)
          refine (turn1_any w.heap.size (w.heap.size + 1) (by omega) ⟨g, acked, last, flying, flight⟩ s (acked + 1) (show IntKind.i64.wrap (acked + 1) = acked + 1 from IntWalk.i64_in _ (by omega)) _ d0 d1).mono ?_
          rintro e w5 ⟨rfl, hat⟩
          have c2 := (hat.1.block _ (block_lt d2) (by omega)).trans d2
          have c0 := hat.2
          have hB2 := hB1.trans (hat.1.below hB1.size (fun g hg => by omega))
          clear d0 d1 d2 dT hB1 z z0 z1 hat
          go_wp2_with (first | (refine wpList_load_block rfl 61 (.tmp 2) rfl rfl c0 Tryz.underlying61 rfl (by kernel_rfl) ?_) | (refine wpList_store_block rfl 61 (.tmp 4) (.tmp 50) rfl rfl rfl c2 (by kernel_rfl) rfl (by simp [Value.oneCell']) ?_))
          refine bodyPost_ret (results_cell_row rfl _ _ _ _ _ _ _ (by rfl) (setRow_heap _ _ _ _ _ _ c2) Tryz.underlying61 rfl (by kernel_rfl)) rfl ⟨?_, below_setRow hB2 (by omega) _⟩
          rw [HE2.out]
        | false =>
          have hz := heap_alloc_new wr (.cells #[.bool false, Value.nilFunc] 106)
          have hT1 := block_lt hT; have hb2l := block_lt b2
          go_wp2_with (refine wpList_store_block rfl 106 (.tmp 11) (.tmp 43) rfl rfl rfl hz (by kernel_rfl) rfl (by simp [Value.oneCell']) ?_; have z := setRow_heap _ wr.heap.size _ #[.bool false, .func (.func 50) #[] #[.pointer (some ⟨w.heap.size + 1, 0, none⟩)]] _ _ hz; have d0 := (setRow_other (wr.alloc (.cells #[.bool false, Value.nilFunc] 106)) wr.heap.size w.heap.size #[.bool false, .func (.func 50) #[] #[.pointer (some ⟨w.heap.size + 1, 0, none⟩)]] (by omega)).trans ((heap_alloc_old wr (.cells #[.bool false, Value.nilFunc] 106) _ (block_lt b0)).trans b0); have d1 := (setRow_other (wr.alloc (.cells #[.bool false, Value.nilFunc] 106)) wr.heap.size (w.heap.size + 1) #[.bool false, .func (.func 50) #[] #[.pointer (some ⟨w.heap.size + 1, 0, none⟩)]] (by omega)).trans ((heap_alloc_old wr (.cells #[.bool false, Value.nilFunc] 106) _ (block_lt b1)).trans b1); have d2 := (setRow_other (wr.alloc (.cells #[.bool false, Value.nilFunc] 106)) wr.heap.size (w.heap.size + 2) #[.bool false, .func (.func 50) #[] #[.pointer (some ⟨w.heap.size + 1, 0, none⟩)]] (by omega)).trans ((heap_alloc_old wr (.cells #[.bool false, Value.nilFunc] 106) _ (block_lt b2)).trans b2); have dT := (setRow_other (wr.alloc (.cells #[.bool false, Value.nilFunc] 106)) wr.heap.size tb #[.bool false, .func (.func 50) #[] #[.pointer (some ⟨w.heap.size + 1, 0, none⟩)]] (by omega)).trans ((heap_alloc_old wr (.cells #[.bool false, Value.nilFunc] 106) _ (block_lt hT)).trans hT); have hB1 := below_setRow (vB.alloc vB.size (.cells #[.bool false, Value.nilFunc] 106)) vB.size #[.bool false, .func (.func 50) #[] #[.pointer (some ⟨w.heap.size + 1, 0, none⟩)]]; generalize World.setRow _ _ _ = Wt at *; clear b0 b1 b2 hT vB t0 t1 t2 t3 hz; obtain ⟨z0, z1⟩ := cells2 z)
          go_roundw
          case rel => exact ⟨1, by decide, by go_num, (by first | exact fun _ => rfl | trivial), fun h => by omega, d0, d1, d2, dT, hB1⟩
          case measure => simp [intOf]
      · obtain ⟨t0, t1, t2, t3⟩ := cells4 hT
        obtain rfl := ha1 (Nat.le_refl _)
        cases df with
        | false =>
          have HE2 := Lib.hid ((HE.out.trans (if_neg (by decide))).trans (if_pos HD2.out.symm))
          clear HE ha1 ha2
          have hz := heap_alloc_new wr (.cells #[.bool false, Value.nilFunc] 106)
          have hT1 := block_lt hT; have hb2l := block_lt b2
          go_wp2_with (refine wpList_store_block rfl 106 (.tmp 11) (.tmp 43) rfl rfl rfl hz (by kernel_rfl) rfl (by simp [Value.oneCell']) ?_; have z := setRow_heap _ wr.heap.size _ #[.bool true, .func (.func 51) #[] #[.pointer (some ⟨w.heap.size + 1, 0, none⟩)]] _ _ hz; have d0 := (setRow_other (wr.alloc (.cells #[.bool false, Value.nilFunc] 106)) wr.heap.size w.heap.size #[.bool true, .func (.func 51) #[] #[.pointer (some ⟨w.heap.size + 1, 0, none⟩)]] (by omega)).trans ((heap_alloc_old wr (.cells #[.bool false, Value.nilFunc] 106) _ (block_lt b0)).trans b0); have d1 := (setRow_other (wr.alloc (.cells #[.bool false, Value.nilFunc] 106)) wr.heap.size (w.heap.size + 1) #[.bool true, .func (.func 51) #[] #[.pointer (some ⟨w.heap.size + 1, 0, none⟩)]] (by omega)).trans ((heap_alloc_old wr (.cells #[.bool false, Value.nilFunc] 106) _ (block_lt b1)).trans b1); have d2 := (setRow_other (wr.alloc (.cells #[.bool false, Value.nilFunc] 106)) wr.heap.size (w.heap.size + 2) #[.bool true, .func (.func 51) #[] #[.pointer (some ⟨w.heap.size + 1, 0, none⟩)]] (by omega)).trans ((heap_alloc_old wr (.cells #[.bool false, Value.nilFunc] 106) _ (block_lt b2)).trans b2); have dT := (setRow_other (wr.alloc (.cells #[.bool false, Value.nilFunc] 106)) wr.heap.size tb #[.bool true, .func (.func 51) #[] #[.pointer (some ⟨w.heap.size + 1, 0, none⟩)]] (by omega)).trans ((heap_alloc_old wr (.cells #[.bool false, Value.nilFunc] 106) _ (block_lt hT)).trans hT); have hB1 := below_setRow (vB.alloc vB.size (.cells #[.bool false, Value.nilFunc] 106)) vB.size #[.bool true, .func (.func 51) #[] #[.pointer (some ⟨w.heap.size + 1, 0, none⟩)]]; generalize World.setRow _ _ _ = Wt at *; clear b0 b1 b2 hT vB t0 t1 t2 t3 hz; obtain ⟨z0, z1⟩ := cells2 z)
          refine (turn2_any w.heap.size (w.heap.size + 1) (by omega) ⟨g, acked, last, flying, flight⟩ s _ d0 d1).mono ?_
          rintro e w5 ⟨rfl, hat⟩
          have c2 := (hat.1.block _ (block_lt d2) (by omega)).trans d2
          have c0 := hat.2
          have hB2 := hB1.trans (hat.1.below hB1.size (fun g hg => by omega))
          clear d0 d1 d2 dT hB1 z z0 z1 hat
          go_wp2_with (first | (refine wpList_load_block rfl 61 (.tmp 2) rfl rfl c0 Tryz.underlying61 rfl (by kernel_rfl) ?_) | (refine wpList_store_block rfl 61 (.tmp 4) (.tmp 50) rfl rfl rfl c2 (by kernel_rfl) rfl (by simp [Value.oneCell']) ?_))
          refine bodyPost_ret (results_cell_row rfl _ _ _ _ _ _ _ (by rfl) (setRow_heap _ _ _ _ _ _ c2) Tryz.underlying61 rfl (by kernel_rfl)) rfl ⟨?_, below_setRow hB2 (by omega) _⟩
          rw [HE2.out]
        | true =>
          have hz := heap_alloc_new wr (.cells #[.bool false, Value.nilFunc] 106)
          have hT1 := block_lt hT; have hb2l := block_lt b2
          go_wp2_with (refine wpList_store_block rfl 106 (.tmp 11) (.tmp 43) rfl rfl rfl hz (by kernel_rfl) rfl (by simp [Value.oneCell']) ?_; have z := setRow_heap _ wr.heap.size _ #[.bool false, .func (.func 51) #[] #[.pointer (some ⟨w.heap.size + 1, 0, none⟩)]] _ _ hz; have d0 := (setRow_other (wr.alloc (.cells #[.bool false, Value.nilFunc] 106)) wr.heap.size w.heap.size #[.bool false, .func (.func 51) #[] #[.pointer (some ⟨w.heap.size + 1, 0, none⟩)]] (by omega)).trans ((heap_alloc_old wr (.cells #[.bool false, Value.nilFunc] 106) _ (block_lt b0)).trans b0); have d1 := (setRow_other (wr.alloc (.cells #[.bool false, Value.nilFunc] 106)) wr.heap.size (w.heap.size + 1) #[.bool false, .func (.func 51) #[] #[.pointer (some ⟨w.heap.size + 1, 0, none⟩)]] (by omega)).trans ((heap_alloc_old wr (.cells #[.bool false, Value.nilFunc] 106) _ (block_lt b1)).trans b1); have d2 := (setRow_other (wr.alloc (.cells #[.bool false, Value.nilFunc] 106)) wr.heap.size (w.heap.size + 2) #[.bool false, .func (.func 51) #[] #[.pointer (some ⟨w.heap.size + 1, 0, none⟩)]] (by omega)).trans ((heap_alloc_old wr (.cells #[.bool false, Value.nilFunc] 106) _ (block_lt b2)).trans b2); have dT := (setRow_other (wr.alloc (.cells #[.bool false, Value.nilFunc] 106)) wr.heap.size tb #[.bool false, .func (.func 51) #[] #[.pointer (some ⟨w.heap.size + 1, 0, none⟩)]] (by omega)).trans ((heap_alloc_old wr (.cells #[.bool false, Value.nilFunc] 106) _ (block_lt hT)).trans hT); have hB1 := below_setRow (vB.alloc vB.size (.cells #[.bool false, Value.nilFunc] 106)) vB.size #[.bool false, .func (.func 51) #[] #[.pointer (some ⟨w.heap.size + 1, 0, none⟩)]]; generalize World.setRow _ _ _ = Wt at *; clear b0 b1 b2 hT vB t0 t1 t2 t3 hz; obtain ⟨z0, z1⟩ := cells2 z)
          go_roundw
          case rel => exact ⟨2, by decide, rfl⟩
          case measure => simp [intOf]
      · obtain rfl := ha1 (by decide)
        obtain rfl := ha2 (by decide)
        have HE2 := Lib.hid ((HE.out.trans (if_neg (by decide))).trans (if_neg (by rw [← HD2.out]; decide)))
        clear HE ha1 ha2
        go_wp2_with (first | (refine wpList_load_block rfl 61 (.tmp 2) rfl rfl b0 Tryz.underlying61 rfl (by kernel_rfl) ?_) | (refine wpList_store_block rfl 61 (.tmp 4) (.tmp 50) rfl rfl rfl b2 (by kernel_rfl) rfl (by simp [Value.oneCell']) ?_))
        refine bodyPost_ret (results_cell_row rfl _ _ _ _ _ _ _ (by rfl) (setRow_heap _ _ _ _ _ _ b2) Tryz.underlying61 rfl (by kernel_rfl)) rfl ⟨?_, below_setRow vB (by omega) _⟩
        rw [HE2.out]
  · have HE := Lib.hid (show Dw.playJ ⟨f, acked, last, flying, flight⟩ s = ⟨f, acked, last, flying, flight⟩ from by unfold Dw.playJ; rw [if_pos hpe])
    have hpb : ((Dw.plan f s.data).2 != 0) = true := by simpa using hpe
    rw [putV, if_neg hpe]
    clear hpe
    generalize (Dw.plan f s.data).2 = pe at *
    replace b0 := (heap_alloc_old w2 (.cells (flashC f.a f.b f.e0 f.e1 f.li) 25) _ (block_lt b0)).trans b0
    replace b2 := (heap_alloc_old w2 (.cells (flashC f.a f.b f.e0 f.e1 f.li) 25) _ (block_lt b2)).trans b2
    replace vB := vB.alloc vB.size (.cells (flashC f.a f.b f.e0 f.e1 f.li) 25)
    go_wp2_with (first | (refine wpList_load_block rfl 61 (.tmp 2) rfl rfl b0 Tryz.underlying61 rfl (by kernel_rfl) ?_) | (refine wpList_store_block rfl 61 (.tmp 4) (.tmp 25) rfl rfl rfl b2 (by kernel_rfl) rfl (by simp [Value.oneCell']) ?_))
    refine bodyPost_ret (results_cell_row rfl _ _ _ _ _ _ _ (by rfl) (setRow_heap _ _ _ _ _ _ b2) Tryz.underlying61 rfl (by kernel_rfl)) rfl ⟨?_, below_setRow vB (by omega) _⟩
    rw [HE.out]
end Go.Proofs.YtaniehjhmjecjaaGreatDoor

/- Layer 12: State, Wear, Run; a slice of steps. -/
namespace Go.Proofs.YtaniehjhmjecjaaGreatDoor
open Go.RowKit Go.Shelf
attribute [local go_sem] Oper.semAt_some

set_option maxRecDepth 100000 in
theorem state12_any (l : Dw.Lg) (hf : Dw.FlOk l.f) (w : World) (hn : NoneAt w) :
    Calls Tryz.prog 25 #[lgV l] w fun e w' => e = .returned (.tuple #[.int .u64 (Dw.readS l.f.a l.f.b).data, .bool (decide (Dw.readE l.f.a l.f.b = 0))]) ∧ Below w.heap.size w w' := by
  have b0 := heap_alloc_new w (.cells (lgC l) 61)
  have vB := (Below.refl w.heap.size w).alloc (Nat.le_refl _) (.cells (lgC l) 61)
  obtain ⟨l0, l1, l2, l3, l4, l5, l6, l7, l8⟩ := cells9 b0
  obtain ⟨f, acked, last, flying, flight⟩ := l
  dsimp only at *
  have HL := Lib.hid (fun w hn => look_any f hf w hn)
  obtain ⟨⟨pb, pg, pq, pd⟩, hS⟩ : ∃ p, Dw.readS f.a f.b = p := ⟨_, rfl⟩
  obtain ⟨pe, hE⟩ : ∃ p, Dw.readE f.a f.b = p := ⟨_, rfl⟩
  have HL2 := HL.out
  simp only [seenV, seenC, hS, hE] at HL2
  rw [hS, hE]
  have HL3 := Lib.hid HL2
  clear HL HL2 hS hE
  clear b0
  go_enter Tryz.func25, Tryz.ntmps25
  go_wp2_with fail
  refine (HL3.out _ (hn.next vB)).mono ?_
  rintro e w1 ⟨rfl, hb⟩
  have vB1 := vB.trans (hb.mono vB.size)
  clear hb vB l0 l1 l2 l3 l4 l5 l6 l7 l8
  have b5 := heap_alloc_new w1 (.cells #[.int .i64 pb, .int .u64 pg, .int .u64 pq, .int .u64 pd, .int .i64 pe] 96)
  have vB2 := vB1.alloc vB1.size (.cells #[.int .i64 pb, .int .u64 pg, .int .u64 pq, .int .u64 pd, .int .i64 pe] 96)
  obtain ⟨q0, q1, q2, q3, q4⟩ := cells5 b5
  clear vB1 b5
  go_wp2_with fail
  generalize w1.alloc _ = W1 at *
  refine wp_pure (List.range 8) 8 (by kernel_rfl) (by kernel_rfl) rfl ?_
  rw [show List.range 8 = [0, 1, 2, 3, 4, 5, 6, 7] from rfl]
  repeat' (first | (refine pl_nil ?_) | (refine pl_value (v := ?_) rfl rfl ?_ ?_; rotate_left 1; (focus (intro w' hk; have c0 := look hk q0; have c1 := look hk q1; have c2 := look hk q2; have c3 := look hk q3; have c4 := look hk q4; go_simp; (first | done | with_reducible rfl | exact rfl))); (try simp only [Act.put, List.setIfInBounds_toArray, List.set_cons_zero, List.set_cons_succ])) | (refine pl_skip rfl rfl ?_; (try simp only [Act.put, List.setIfInBounds_toArray, List.set_cons_zero, List.set_cons_succ])))
  intro w2 hk2
  have vB3 := vB2.trans (hk2.whole.mono vB2.size)
  simp only [List.drop_succ_cons, List.drop_zero]
  clear q0 q1 q2 q3 q4 hk2 vB2
  go_wp2_with fail
  go_ret2
  exact ⟨rfl, vB3⟩

set_option maxRecDepth 100000 in
theorem wear_any (f : Dw.Fl) (h0 : 0 ≤ f.e0 ∧ f.e0 ≤ 1000000) (h1 : 0 ≤ f.e1 ∧ f.e1 ≤ 1000000) (w : World) :
    Calls Tryz.prog 20 #[flV f] w fun e w' => e = .returned (.int .i64 (f.e0 + f.e1)) ∧ Below w.heap.size w w' := by
  have b0 := heap_alloc_new w (.cells (flashC f.a f.b f.e0 f.e1 f.li) 25)
  have vB := (Below.refl w.heap.size w).alloc (Nat.le_refl _) (.cells (flashC f.a f.b f.e0 f.e1 f.li) 25)
  obtain ⟨c0, c1, c2, c3, c4⟩ := cells5 b0
  obtain ⟨a, b, e0, e1, li⟩ := f
  dsimp only at *
  clear b0
  have hw0 : IntKind.i64.wrap (0 + e0) = e0 := by rw [Int.zero_add]; exact IntWalk.i64_in _ (by omega)
  have hw1 : IntKind.i64.wrap (e0 + e1) = e0 + e1 := IntWalk.i64_in _ (by omega)
  have i0 : ∀ w, (Instr.index 23 (.agg #[.int .i64 e0, .int .i64 e1]) (.int .i64 0)).run Tryz.prog w = .ok (.int .i64 e0) w := fun _ => by kernel_rfl
  have i1 : ∀ w, (Instr.index 23 (.agg #[.int .i64 e0, .int .i64 e1]) (.int .i64 1)).run Tryz.prog w = .ok (.int .i64 e1) w := fun _ => by kernel_rfl
  go_enter Tryz.func20, Tryz.ntmps20
  go_wp2_with fail
  generalize w.alloc _ = W at *
  go_loopw [2, 7] (fun s i wr => (i = .int .i64 0 ∧ s = .int .i64 0 ∨ i = .int .i64 1 ∧ s = .int .i64 e0 ∨ i = .int .i64 2 ∧ s = .int .i64 (e0 + e1)) ∧ wr = W) (fun _ i _ => 2 - (intOf i).toNat)
  case atStart => exact ⟨.inl ⟨rfl, rfl⟩, rfl⟩
  case round =>
    obtain ⟨⟨rfl, rfl⟩ | ⟨rfl, rfl⟩ | ⟨rfl, rfl⟩, rfl⟩ := hrel
    · go_wp2_with fail
      go_roundw
      case rel => exact ⟨.inr (.inl ⟨rfl, rfl⟩), trivial⟩
      case measure => simp [intOf]
    · go_wp2_with fail
      go_roundw
      case rel => exact ⟨.inr (.inr ⟨rfl, rfl⟩), trivial⟩
      case measure => simp [intOf]
    · go_wp2_with fail
      go_ret
      exact ⟨rfl, vB⟩
end Go.Proofs.YtaniehjhmjecjaaGreatDoor
