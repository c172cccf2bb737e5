/- What the statement's proof stands on, part 27: PlainAny, ChainS, Turns, Jour2, Jour3, Run, PlainJour, PlainOne, PlainErase. -/
import Derived.Test.YtjibbchfndhhpaaGreatDoorRc25
import Derived.Test.YtjibbchfndhhpaaGreatDoorRc18
set_option linter.unusedSimpArgs false
set_option linter.unusedVariables false
set_option maxRecDepth 100000
set_option maxHeartbeats 4000000
namespace Go.Proofs.YtjibbchfndhhpaaGreatDoor
namespace Dw
end Dw
end Go.Proofs.YtjibbchfndhhpaaGreatDoor
namespace Go.Proofs.YtjibbchfndhhpaaGreatDoor.RC
open Go.RowKit
section
variable {P : Program} {ops : Array Oper} {Q : Exit → Act → World → Prop} {St : Nat → World → Prop} {cs : List Nat} {late : Nat → Bool}
def YlTo (P : Program) (r : Result Next) (v : Value) (F : World → Prop) : Prop :=
  (∃ w'', r = .ok (.value v) w'' ∧ F w'') ∨ (∃ f args w1, r = .ok (.enter f args) w1 ∧ Calls P f args w1 fun e w'' => e = .returned v ∧ F w'') ∨ (v = undef ∧ ∃ w'', r = .ok .skip w'' ∧ F w'')
theorem YlTo.wp {o : Oper} {a : Act} {v : Value} {F : World → Prop} {w' : World} (h : YlTo P ((execOp a.eval o).run P w') v F) {K : Act → World → Prop} (hK : ∀ w'', F w'' → K (a.put o.dst v) w'') : o.wp P a w' K Q := by
  unfold Oper.wp
  rcases h with ⟨w'', hr, hk⟩ | ⟨f, args, w1, hr, hc⟩ | ⟨rfl, w'', hr, hk⟩
  · rw [hr]; exact hK _ hk
  · rw [hr]
    refine Calls.mono hc ?_
    rintro e w'' ⟨rfl, hk⟩
    exact hK _ hk
  · rw [hr]; exact hK _ hk
def Gets2 (P : Program) (ops : Array Oper) (St : Nat → World → Prop) (lt : Bool) (n : Nat) (o : Oper) (a : Act) (v : Value) : Prop :=
  (Region.wanted o (yielded ops a.tmps) = true ∧ ∀ m w', (lt = true ∨ m = n) → St m w' → Yl P w' ((execOp a.eval o).run P w') v) ∨ (Region.wanted o (yielded ops a.tmps) = false ∧ v = undef)
def Link (P : Program) (ops : Array Oper) (St : Nat → World → Prop) (n : Nat) (o : Oper) (a : Act) (v : Value) : Prop :=
  Region.wanted o (yielded ops a.tmps) = true ∧ ∀ w', St n w' → YlTo P ((execOp a.eval o).run P w') v (St (n + 1))
def ChainList (P : Program) (ops : Array Oper) (St : Nat → World → Prop) (cs : List Nat) (late : Nat → Bool) (N : Nat → Act → Prop) : List Nat → Nat → Act → Prop
  | [], n, a => N n a
  | k :: ks, n, a => ∃ o v, ops[k]? = some o ∧ ((cs.contains k = true ∧ Link P ops St n o a v ∧ ChainList P ops St cs late N ks (n + 1) (a.put o.dst v)) ∨ (cs.contains k = false ∧ Gets2 P ops St (late k) n o a v ∧ ChainList P ops St cs late N ks n (a.put o.dst v)))
theorem ChainList.mono {N N' : Nat → Act → Prop} (h : ∀ n a, N n a → N' n a) : ∀ {ks : List Nat} {n : Nat} {a : Act}, ChainList P ops St cs late N ks n a → ChainList P ops St cs late N' ks n a
  | [], _, a, hh => h _ a hh
  | _ :: _, _, _, ⟨o, v, ho, hr⟩ => ⟨o, v, ho, hr.imp (fun ⟨c, g, r⟩ => ⟨c, g, ChainList.mono h r⟩) (fun ⟨c, g, r⟩ => ⟨c, g, ChainList.mono h r⟩)⟩
theorem Gets2.put {lt : Bool} {n : Nat} {o : Oper} {a : Act} {v : Value} (hs : ∀ cs b, o.op ≠ .select cs b) {d : Option Tmp} (u : Value) (hd : ∀ t, d = some t → t ∉ o.looksAt ops) : Gets2 P ops St lt n o (a.put d u) v ↔ Gets2 P ops St lt n o a v := by
  unfold Gets2
  rw [wanted_put o a d u hd, execOp_put o hs a d u hd]
theorem Link.put {n : Nat} {o : Oper} {a : Act} {v : Value} (hs : ∀ cs b, o.op ≠ .select cs b) {d : Option Tmp} (u : Value) (hd : ∀ t, d = some t → t ∉ o.looksAt ops) : Link P ops St n o (a.put d u) v ↔ Link P ops St n o a v := by
  unfold Link
  rw [wanted_put o a d u hd, execOp_put o hs a d u hd]
theorem Gets2.any {lt : Bool} (hl : lt = true) {n n' : Nat} {o : Oper} {a : Act} {v : Value} (h : Gets2 P ops St lt n o a v) : Gets2 P ops St lt n' o a v :=
  h.imp (fun ⟨hw, h⟩ => ⟨hw, fun m w' _ hs => h m w' (.inl hl) hs⟩) id
def meet (cs : List Nat) (late : Nat → Bool) (i k : Nat) : Bool := (cs.contains i && cs.contains k) || ((cs.contains i && !late k) || (cs.contains k && !late i))
theorem ChainList.swap {N : Nat → Act → Prop} (hsel : Region.noSelect ops = true) {i k : Nat} {l : List Nat} {n : Nat} {a : Act} (hap : apartAt ops i k = true) (hnc : meet cs late i k = false)
    (h : ChainList P ops St cs late N (k :: i :: l) n a) : ChainList P ops St cs late N (i :: k :: l) n a := by
  obtain ⟨ok, vk, hok, hk⟩ := h
  unfold meet at hnc
  rcases hk with ⟨ck, gk, hr⟩ | ⟨ck, gk, hr⟩ <;> obtain ⟨oi, vi, hoi, hi⟩ := hr <;> obtain ⟨h1, h2, h3⟩ := Oper.apart_spec (apartAt_spec hoi hok hap) <;>
    have hsi := (fun c b => Region.noSelect_spec hsel i oi c b hoi) <;> have hsk := (fun c b => Region.noSelect_spec hsel k ok c b hok)
  · rcases hi with ⟨ci, gi, hr⟩ | ⟨ci, gi, hr⟩
    · rw [ci, ck] at hnc; cases hnc
    · have hl : late i = true := by rw [ci, ck] at hnc; simpa using hnc
      exact ⟨oi, vi, hoi, .inr ⟨ci, Gets2.any hl ((Gets2.put hsi vk h3).1 gi), ok, vk, hok, .inl ⟨ck, (Link.put hsk vi h1).2 gk, by rw [Act.put_comm a vi vk h2]; exact hr⟩⟩⟩
  · rcases hi with ⟨ci, gi, hr⟩ | ⟨ci, gi, hr⟩
    · have hl : late k = true := by rw [ci, ck] at hnc; simpa using hnc
      exact ⟨oi, vi, hoi, .inl ⟨ci, (Link.put hsi vk h3).1 gi, ok, vk, hok, .inr ⟨ck, Gets2.any hl ((Gets2.put hsk vi h1).2 gk), by rw [Act.put_comm a vi vk h2]; exact hr⟩⟩⟩
    · exact ⟨oi, vi, hoi, .inr ⟨ci, (Gets2.put hsi vk h3).1 gi, ok, vk, hok, .inr ⟨ck, (Gets2.put hsk vi h1).2 gk, by rw [Act.put_comm a vi vk h2]; exact hr⟩⟩⟩
theorem ChainList.first {N : Nat → Act → Prop} (hsel : Region.noSelect ops = true) {i : Nat} {l2 : List Nat} : ∀ {l1 : List Nat} {n : Nat} {a : Act}, (∀ k ∈ l1, apartAt ops i k = true ∧ meet cs late i k = false) →
    ChainList P ops St cs late N (l1 ++ i :: l2) n a → ChainList P ops St cs late N (i :: (l1 ++ l2)) n a
  | [], _, _, _, h => h
  | k :: l1, _, _, hap, ⟨o, v, ho, hr⟩ => ChainList.swap hsel (hap k (by simp)).1 (hap k (by simp)).2 ⟨o, v, ho, hr.imp (fun ⟨c, g, r⟩ => ⟨c, g, ChainList.first hsel (fun j hj => hap j (by simp [hj])) r⟩) (fun ⟨c, g, r⟩ => ⟨c, g, ChainList.first hsel (fun j hj => hap j (by simp [hj])) r⟩)⟩
def linksOk (T : Array Nat) (cs : List Nat) (late : Nat → Bool) : List Nat → Bool
  | [] => true
  | k :: ks => (ks.all fun i => !(meet cs late i k) || behind T i k) && linksOk T cs late ks
theorem linksOk_spec {T : Array Nat} {i : Nat} {l2 : List Nat} : ∀ {l1 : List Nat}, linksOk T cs late (l1 ++ i :: l2) = true → ∀ k ∈ l1, meet cs late i k = false ∨ behind T i k = true
  | [], _, k, hk => by cases hk
  | k' :: l1, h, k, hk => by
    simp only [List.cons_append, linksOk, Bool.and_eq_true, List.all_eq_true] at h
    rcases List.mem_cons.1 hk with rfl | hk
    · have := h.1 i (by simp)
      simp only [Bool.or_eq_true, Bool.not_eq_true'] at this
      exact this
    · exact linksOk_spec h.2 k hk
theorem linksOk_erase {T : Array Nat} {i : Nat} : ∀ {ks : List Nat}, linksOk T cs late ks = true → linksOk T cs late (ks.erase i) = true
  | [], _ => rfl
  | k :: ks, h => by
    simp only [linksOk, Bool.and_eq_true, List.all_eq_true] at h
    by_cases e : k = i
    · subst e; simpa using h.2
    · rw [List.erase_cons_tail (by simpa using e)]
      simp only [linksOk, Bool.and_eq_true, List.all_eq_true]
      exact ⟨fun j hj => h.1 j (List.mem_of_mem_erase hj), linksOk_erase h.2⟩
theorem chain_sound {R : Exit → Act → World → Prop} {T : Array Nat} {ks ts : List Nat} (ok : RegionOk ops T ks [] ts) (hSt : ∀ n A B, St n A → Keep A B → St n B) (fuel : Nat) :
    ∀ (m : Nat) (rest : List Nat) (listed : Array Bool) (n : Nat) (a : Act) (w1 : World), rest.length = m → St n w1 → Todo ops T (ks ++ []) rest listed → pairsOk ops T rest = true → linksOk T cs late rest = true →
      ChainList P ops St cs late (fun n' a' => ∀ w', St n' w' → wpAny P .any ops R fuel (allListed ops (ks ++ [])) a' w') rest n a → wpAny P .any ops R (m + fuel) listed a w1 := by
  intro m
  induction m with
  | zero =>
    intro rest listed n a w1 hm hk ht _ _ h
    have : rest = [] := List.eq_nil_of_length_eq_zero hm
    subst this
    rw [ht.done, Nat.zero_add]
    exact h w1 hk
  | succ m ih =>
    intro rest listed n a w1 hm hk ht hp hl h
    have hne : rest ≠ [] := by intro e; subst e; simp at hm
    obtain ⟨hr, hall⟩ := ht.ready ok hne
    rw [show m + 1 + fuel = (m + fuel) + 1 from by omega]
    refine ⟨fun e => absurd e hr, fun i hi => ?_⟩
    have hir := hall i hi
    obtain ⟨l1, l2, rfl⟩ := List.append_of_mem hir
    have hnx := ht.next hi hir
    rw [erase_mid ht.nodup] at hnx
    have hp' : pairsOk ops T (l1 ++ l2) = true := by have := pairsOk_erase (i := i) hp; rwa [erase_mid ht.nodup] at this
    have hl' : linksOk T cs late (l1 ++ l2) = true := by have := linksOk_erase (i := i) hl; rwa [erase_mid ht.nodup] at this
    obtain ⟨h0, hlt, hdeps⟩ := mem_ready'.1 hi
    have nb : ∀ k ∈ l1, ¬ behind T i k = true := fun k hk' hb => by
      have := behind_listed ok.table ok.lt ht.closed i k hlt hdeps hb
      have hkl := (ok.inside k (ht.sub k (by simp [hk']))).1
      rw [getD_any (by rw [ht.size]; exact hkl) false true, ht.iff k hkl] at this
      simp [hk'] at this
    have hap : ∀ k ∈ l1, apartAt ops i k = true ∧ meet cs late i k = false := fun k hk' => ⟨(pairsOk_spec hp k hk').resolve_right (nb k hk'), (linksOk_spec hl k hk').resolve_right (nb k hk')⟩
    obtain ⟨o, v, ho, hg⟩ := ChainList.first ok.sel hap h
    have hlen : (l1 ++ l2).length = m := by simp at hm ⊢; omega
    unfold wpOp
    simp only [ho]
    rcases hg with ⟨_, ⟨hw, hs⟩, hrest⟩ | ⟨_, ⟨hw, hs⟩ | ⟨hw, rfl⟩, hrest⟩
    · rw [if_pos hw]
      exact .inl ((hs w1 hk).wp fun w'' hk'' => ih _ _ _ _ _ hlen hk'' hnx hp' hl' hrest)
    · rw [if_pos hw]
      exact .inl ((hs n w1 (.inr rfl) hk).wp fun w'' hk'' => ih _ _ _ _ _ hlen (hSt _ _ _ hk hk'') hnx hp' hl' hrest)
    · rw [if_neg (by simp [hw])]
      exact ih _ _ _ _ _ hlen hk hnx hp' hl' hrest
theorem wp_chain {R : Exit → Act → World → Prop} {id : Nat} {a : Act} {w : World} (ks cs : List Nat) (late : Nat → Bool) (k : Nat) (St : Nat → World → Prop) (hm : P.follows .mixedOrders = true) (hok : regionOk ops (Region.before ops) ks [] (List.range' k (ops.size - k)) = true) (hlk : linksOk (Region.before ops) cs late ks = true) (hsz : ops.size = ks.length + (ops.size - k))
    (hSt : ∀ n A B, St n A → Keep A B → St n B) (h0 : St 0 w)
    (h : ChainList P ops St cs late (fun n' a' => ∀ w', St n' w' → wpList P ops R (ops.toList.drop k) a' w') ks 0 a) : (Code.region id ops true).wp P R a w := by
  have ok := regionOk_spec hok
  refine wp_region_any hm ?_
  have st := Todo.start ok
  have e := chain_sound (P := P) (cs := cs) (late := late) (R := R) ok hSt (List.range' k (ops.size - k)).length ks.length ks (Array.replicate ops.size false) 0 a w.drew rfl (hSt _ _ _ h0 (KeepBut.refl _ w).drew) (by simpa using st) ok.pairs hlk ?_
  · rw [List.length_range', ← hsz] at e
    exact e
  refine ChainList.mono (fun n a' hN w' hk => ?_) h
  have := ok.tail
  exact tail_sound this ⟨_, range_drop k, hN w' hk⟩
end
section
variable {P : Program} {l : List Oper} {St : Nat → World → Prop} {cs : List Nat} {late : Nat → Bool} {N : Nat → Act → Prop} {n k : Nat} {ks : List Nat} {a : Act} {o : Oper} {v : Value}
theorem cl_value (hl : late k = false) (ho : l[k]? = some o) (hc : cs.contains k = false) (hw : Region.wanted o (yielded l.toArray a.tmps) = true)
    (hv : ∀ w', St n w' → (execOp a.eval o).run P w' = .ok (.value v) w') (h : ChainList P l.toArray St cs late N ks n (a.put o.dst v)) : ChainList P l.toArray St cs late N (k :: ks) n a :=
  ⟨o, v, by simpa using ho, .inr ⟨hc, .inl ⟨hw, fun m w' hm hk => .inl ⟨w', hv w' (by rcases hm with h | rfl; rw [hl] at h; cases h; exact hk), KeepBut.refl _ _⟩⟩, h⟩⟩
theorem cl_skip (ho : l[k]? = some o) (hc : cs.contains k = false) (hw : Region.wanted o (yielded l.toArray a.tmps) = false)
    (h : ChainList P l.toArray St cs late N ks n (a.put o.dst undef)) : ChainList P l.toArray St cs late N (k :: ks) n a :=
  ⟨o, undef, by simpa using ho, .inr ⟨hc, .inr ⟨hw, rfl⟩, h⟩⟩
theorem cl_link {f : FuncId} {args : Array Value} (ho : l[k]? = some o) (hc : cs.contains k = true) (hw : Region.wanted o (yielded l.toArray a.tmps) = true)
    (hv : ∀ w', St n w' → (execOp a.eval o).run P w' = .ok (.enter f args) w') (hcl : ∀ w', St n w' → Calls P f args w' fun e w'' => e = .returned v ∧ St (n + 1) w'') (h : ChainList P l.toArray St cs late N ks (n + 1) (a.put o.dst v)) : ChainList P l.toArray St cs late N (k :: ks) n a :=
  ⟨o, v, by simpa using ho, .inl ⟨hc, ⟨hw, fun w' hk => .inr (.inl ⟨f, args, w', hv w' hk, hcl w' hk⟩)⟩, h⟩⟩
theorem cl_nil {P : Program} {ops : Array Oper} (h : N n a) : ChainList P ops St cs late N [] n a := h
end
end Go.Proofs.YtjibbchfndhhpaaGreatDoor.RC
namespace Go.Proofs.YtjibbchfndhhpaaGreatDoor
open Go.RowKit Go.Shelf
attribute [local go_sem] Oper.semAt_some
namespace Dw
end Dw
def At1 (w : World) (b : Nat) (c : Array Value) (t : TypeId) (w' : World) : Prop := KeepBut (fun k => k = b) w w' ∧ w'.heap[b]? = some (.cells c t (0, 0))
theorem At1.keep {w : World} {b : Nat} {c : Array Value} {t : TypeId} {A B : World} (h : At1 w b c t A) (hk : Keep A B) : At1 w b c t B :=
  ⟨h.1.trans (hk.mono fun _ _ h => h.elim), (hk.block b (block_lt h.2) id).trans h.2⟩
theorem At1.set {w A : World} {b i : Nat} {c : Array Value} {t : TypeId} (h : At1 w b c t A) (v : Value) : At1 w b (c.setIfInBounds i v) t (A.setCell ⟨b, i, none⟩ v) :=
  ⟨h.1.setCell (p := ⟨b, i, none⟩) rfl v, heap_setCell_same A b i c t v h.2⟩
end Go.Proofs.YtjibbchfndhhpaaGreatDoor
namespace Go.Proofs.YtjibbchfndhhpaaGreatDoor
open Go.RowKit Go.Shelf
attribute [local go_sem] Oper.semAt_some
namespace Dw
end Dw
end Go.Proofs.YtjibbchfndhhpaaGreatDoor
namespace Go.Proofs.YtjibbchfndhhpaaGreatDoor
open Go.RowKit Go.Shelf
attribute [local go_sem] Oper.semAt_some
theorem wear_any (f : Dw.Fl) (h0 : 0 ≤ f.e0 ∧ f.e0 ≤ 1000000) (h1 : 0 ≤ f.e1 ∧ f.e1 ≤ 1000000) (w : World) :
    Calls Tryz.prog 86 #[flV f] w fun e w' => e = .returned (.int .i64 (f.e0 + f.e1)) ∧ Below w.heap.size w w' := by
  have b0 := han w (.cells (flashC f.a f.b f.e0 f.e1 f.li) 41)
  have vB := (Below.refl w.heap.size w).alloc (Nat.le_refl _) (.cells (flashC f.a f.b f.e0 f.e1 f.li) 41)
  obtain ⟨c0, c1, c2, c3, c4⟩ := cells5 b0
  obtain ⟨a, b, e0, e1, li⟩ := f
  dsimp only at *
  clear b0
  have hw0 : IntKind.i64.wrap (0 + e0) = e0 := by rw [Int.zero_add]; exact IntWalk.i64_in _ (by omega)
  have hw1 : IntKind.i64.wrap (e0 + e1) = e0 + e1 := IntWalk.i64_in _ (by omega)
  have i0 : ∀ w, (Instr.index 39 (.agg #[.int .i64 e0, .int .i64 e1]) (.int .i64 0)).run Tryz.prog w = .ok (.int .i64 e0) w := fun _ => by kernel_rfl
  have i1 : ∀ w, (Instr.index 39 (.agg #[.int .i64 e0, .int .i64 e1]) (.int .i64 1)).run Tryz.prog w = .ok (.int .i64 e1) w := fun _ => by kernel_rfl
  go_enter Tryz.func86, Tryz.ntmps86
  go_wp2_with fail
  generalize w.alloc _ = W at *
  go_loopw [2, 7] (fun s i wr => (i = .int .i64 0 ∧ s = .int .i64 0 ∨ i = .int .i64 1 ∧ s = .int .i64 e0 ∨ i = .int .i64 2 ∧ s = .int .i64 (e0 + e1)) ∧ wr = W) (fun _ i _ => 2 - (intOf i).toNat)
  case atStart => exact ⟨.inl ⟨rfl, rfl⟩, rfl⟩
  case round =>
    obtain ⟨⟨rfl, rfl⟩ | ⟨rfl, rfl⟩ | ⟨rfl, rfl⟩, rfl⟩ := hrel
    · go_wp2_with fail
      go_roundw
      case rel => exact ⟨.inr (.inl ⟨rfl, rfl⟩), trivial⟩
      case measure => simp [intOf]
    · go_wp2_with fail
      go_roundw
      case rel => exact ⟨.inr (.inr ⟨rfl, rfl⟩), trivial⟩
      case measure => simp [intOf]
    · go_wp2_with fail
      go_ret
      exact ⟨rfl, vB⟩
end Go.Proofs.YtjibbchfndhhpaaGreatDoor
namespace Go.Proofs.YtjibbchfndhhpaaGreatDoor
open Go.RowKit Go.Shelf
attribute [local go_sem] Oper.semAt_some
namespace Dw
end Dw
def StepsAt (w : World) (v : Value) (l : List Dw.Stp) : Prop :=
  ∃ sa cap, v = .slice sa l.length cap ∧ (∀ s ∈ l, s.data < 18446744073709551616) ∧
    (l = [] ∨ ∃ b off, sa = some ⟨b, off, none⟩ ∧ ∀ j s, l[j]? = some s → w.cell? ⟨b, off + j * 3, none⟩ = some (.int .u64 s.data) ∧ w.cell? ⟨b, off + j * 3 + 1, none⟩ = some (.int .i64 s.cut) ∧ w.cell? ⟨b, off + j * 3 + 2, none⟩ = some (.string ⟨s.mask.toArray⟩))
theorem StepsAt.next {w w' : World} {v : Value} {l : List Dw.Stp} (h : StepsAt w v l) (hb : Below w.heap.size w w') : StepsAt w' v l := by
  obtain ⟨sa, cap, rfl, hd, h⟩ := h
  refine ⟨sa, cap, rfl, hd, ?_⟩
  rcases h with h | ⟨b, off, rfl, hc⟩
  · exact .inl h
  · refine .inr ⟨b, off, rfl, fun j s hj => ?_⟩
    obtain ⟨q0, q1, q2⟩ := hc j s hj
    exact ⟨(hb.cell (lt_of_cell q0)).trans q0, (hb.cell (lt_of_cell q1)).trans q1, (hb.cell (lt_of_cell q2)).trans q2⟩
end Go.Proofs.YtjibbchfndhhpaaGreatDoor
namespace Go.Proofs.YtjibbchfndhhpaaGreatDoor
open Go.RowKit Go.Shelf
namespace Dw
theorem ack_true {n N : Nat} {f : Fl} {s : Stp} {c' : Cur} (hn : (putG f s).2 = (plan f s.data).1.length) (hd : c'.data = s.data) (hI : Inv n N (putG f s).1 (some c')) : ackB f s = true := by
  obtain ⟨r1, r2⟩ := inv_read hI
  unfold ackB
  rw [r1, r2, hn]
  simp [hd]
theorem ack_false {f : Fl} {s : Stp} (hn : (putG f s).2 < (plan f s.data).1.length) : ackB f s = false := by
  unfold ackB
  rw [decide_eq_false (by omega), Bool.false_and]
def fNew (n : Nat) (li : Int) : Fl := ⟨ffs (24 * n + 24), ffs (24 * n + 24), 0, 0, li⟩
theorem new_inv {n : Nat} (h1 : 1 ≤ n) (h2 : n ≤ 12) (li : Int) : Inv n 0 (fNew n li) none :=
  ⟨h1, h2, ⟨Int.le_refl 0, Int.le_refl 0⟩, ⟨Int.le_refl 0, Int.le_refl 0⟩, ⟨ffs_length _, by show Hd (place (ffs (24 * n + 24)) 0); rw [place_ffs n 0 (Nat.zero_le _)]; exact hd_ffs⟩, ⟨ffs_length _, by show Hd (place (ffs (24 * n + 24)) 0); rw [place_ffs n 0 (Nat.zero_le _)]; exact hd_ffs⟩⟩
theorem new_ok {n : Nat} (h2 : n ≤ 12) {li : Int} (hl : li ≤ 1000) : FlOk (fNew n li) := ⟨by show (ffs _).length ≤ 400; rw [ffs_length]; omega, by show (ffs _).length ≤ 400; rw [ffs_length]; omega, by show li ≤ _; omega, (by decide : (-9223372036854775808 : Int) ≤ 0), (by decide : (-9223372036854775808 : Int) ≤ 0)⟩
end Dw
end Go.Proofs.YtjibbchfndhhpaaGreatDoor
namespace Go.Proofs.YtjibbchfndhhpaaGreatDoor
open Go.RowKit Go.Shelf
namespace Dw
theorem putG_ok {f : Fl} (hf : FlOk f) {s : Stp} (hp : (plan f s.data).2 = 0) : FlOk (putG f s).1 := by
  obtain ⟨L, hlen, hok, _, _⟩ := plan_ok hf hp
  exact (play_ok s.cut s.mask _ f 0 hf hlen hok).1
end Dw
end Go.Proofs.YtjibbchfndhhpaaGreatDoor
namespace Go.Proofs.YtjibbchfndhhpaaGreatDoor
open Go.RowKit Go.Shelf
namespace Dw
theorem plan_none {n N : Nat} {f : Fl} (h : Inv n N f none) (d : Nat) : plan f d = if wornB f 0 = false then (freshF f 0 1 1 d, 0) else if wornB f 1 = false then (freshF f 1 1 1 d, 0) else ([], 4) := by
  have he := inv_even h
  obtain ⟨_, r2⟩ := inv_read h
  unfold plan
  rw [if_neg (by rw [he]; decide), if_pos (by rw [r2]; decide)]
theorem plan_some {n N : Nat} {f : Fl} {k : Cur} (h : Inv n N f (some k)) (hN : N + 1 < 18446744073709551615) (d : Nat) :
    plan f d = if 0 < next (f.bk k.bank) then (appendOps k.bank (next (f.bk k.bank)) (k.seq + 1) d, 0) else if wornB f (other k.bank) = true then ([], 4) else (freshF f (other k.bank) (k.gen + 1) (k.seq + 1) d, 0) := by
  have he := inv_even h
  obtain ⟨r1, r2⟩ := inv_read h
  obtain ⟨k2, kc, ko, kg, ks, kd⟩ := h.st
  unfold plan
  rw [if_neg (by rw [he]; decide), if_neg (by rw [r2]; decide), r1]
  dsimp only
  rw [if_neg (by omega), Int.toNat_natCast]
  by_cases h0 : 0 < next (f.bk k.bank)
  · rw [if_pos h0, if_pos h0]
  · rw [if_neg h0, if_neg h0, if_neg (by omega)]
theorem fresh_hold {n N : Nat} {f : Fl} {c : Option Cur} (h : Inv n N f c) (b g d : Nat) (hd : d < 18446744073709551616) (hb : b < 2) (hg : g ≤ seqOf c + 1)
    (hc : c = none ∧ g = 1 ∨ ∃ k, c = some k ∧ b = 1 - k.bank ∧ g = k.gen + 1) (s' : List UInt8) (hcn : Cnt s' n g (seqOf c + 1) d) : Inv n (N + 1) ((f.put b s').wearN b 1) (some ⟨b, g, seqOf c + 1, d⟩) := by
  have hsq : seqOf c ≤ N := by
    have := h.st
    cases c with
    | none => exact Nat.zero_le _
    | some k => exact this.2.2.2.2.1
  obtain ⟨w0, w1⟩ := fl_wear f b s' 1 N (Nat.le_refl _) h.w0 h.w1
  refine ⟨h.n1, h.n2, w0, w1, hb, by show Cnt (Fl.bk _ b) n g _ d; rw [fl_put_bk]; exact hcn, ?_, hg, by show seqOf c + 1 ≤ N + 1; omega, hd⟩
  show Oth (Fl.bk _ (1 - b)) n g
  rw [fl_other _ _ _ _ hb]
  have hs := h.st
  rcases hc with ⟨rfl, _⟩ | ⟨k, rfl, hbk, hgk⟩
  · rcases (by omega : b = 0 ∨ b = 1) with rfl | rfl
    · exact ⟨hs.2.1, .inl hs.2.2⟩
    · exact ⟨hs.1.1, .inl hs.1.2⟩
  · obtain ⟨k2, kc, _⟩ := hs
    have : 1 - b = k.bank := by omega
    rw [this]
    exact ⟨kc.len, .inr ⟨kc.hdr, by rw [kc.gen]; omega⟩⟩
theorem app_hold {n N : Nat} {f : Fl} {k : Cur} (h : Inv n N f (some k)) (d : Nat) (hd : d < 18446744073709551616) (s' : List UInt8) (hcn : Cnt s' n k.gen (k.seq + 1) d) : Inv n (N + 1) ((f.put k.bank s').wearN k.bank 0) (some ⟨k.bank, k.gen, k.seq + 1, d⟩) := by
  obtain ⟨k2, kc, ko, kg, ks, kd⟩ := h.st
  obtain ⟨w0, w1⟩ := fl_wear f k.bank s' 0 N (by omega) h.w0 h.w1
  exact ⟨h.n1, h.n2, w0, w1, k2, by show Cnt (Fl.bk _ k.bank) n _ _ _; rw [fl_put_bk]; exact hcn, by show Oth (Fl.bk _ (1 - k.bank)) n _; rw [fl_other _ _ _ _ k2]; exact ko, by show k.gen ≤ k.seq + 1; omega, by show k.seq + 1 ≤ N + 1; omega, hd⟩
theorem wear_e (f : Fl) (b : Nat) (s : List UInt8) (c : Nat) : ((f.put b s).wearN b c).e0 = f.e0 + ((if b = 0 then c else 0 : Nat) : Int) ∧ ((f.put b s).wearN b c).e1 = f.e1 + ((if b = 0 then 0 else c : Nat) : Int) := by
  unfold Fl.put Fl.wearN
  by_cases h : b = 0 <;> simp [h]
structure Full (n i q r : Nat) (f : Fl) (c : Cur) : Prop where
  inv : Inv n i f (some c)
  bank : c.bank = q % 2
  e0 : f.e0 = ((q + 2) / 2 : Nat)
  e1 : f.e1 = ((q + 1) / 2 : Nat)
  pos : i = q * n + r + 1
  lt : r < n
  rest : ∀ j, r + 2 ≤ j → j ≤ n → place (f.bk c.bank) j = ffs 24
  here : stateOf (r + 1) (place (f.bk c.bank) (r + 1)) = 2
def Ex (n i : Nat) (f : Fl) : Prop := (i = 0 ∧ Inv n 0 f none ∧ f.e0 = 0 ∧ f.e1 = 0) ∨ ∃ q r c, Full n i q r f c
theorem full_fresh {n N q i : Nat} {f : Fl} {c : Option Cur} (h : Inv n N f c) (hN : N + 1 < 18446744073709551615) (hi : N = i) (b g d : Nat) (m : List UInt8) (hd : d < 18446744073709551616) (hb : b = q % 2) (hg : g ≤ seqOf c + 1)
    (hc : c = none ∧ g = 1 ∨ ∃ k, c = some k ∧ b = 1 - k.bank ∧ g = k.gen + 1) (e0 : f.e0 + ((if b = 0 then 1 else 0 : Nat) : Int) = ((q + 2) / 2 : Nat)) (e1 : f.e1 + ((if b = 0 then 0 else 1 : Nat) : Int) = ((q + 1) / 2 : Nat)) (hp : i = q * n) :
    ∃ c', Full n (i + 1) q 0 (playL f (freshF f b g (seqOf c + 1) d) 0 (-1) m).1 c' := by
  subst hi
  have hsq : seqOf c ≤ N := by
    have := h.st
    cases c with
    | none => exact Nat.zero_le _
    | some k => exact this.2.2.2.2.1
  have hb2 : b < 2 := by omega
  obtain ⟨la, lb⟩ := inv_len h
  have hl : (f.bk b).length = 24 * n + 24 := by unfold Fl.bk; split <;> assumption
  have hP := playL_bank b (-1) m (freshF f b g (seqOf c + 1) d) f 0 (fresh_bank _ _ _ _ _)
  have hF := fresh_play (f.bk b) m n b g (seqOf c + 1) d (decide (state (f.bk b) 0 = 2)) (-1) h.n1 h.n2 (by omega) (by omega) hd hl
  change _ ∨ _ at hF
  rw [show freshOps b (decide (state (f.bk b) 0 = 2)) g (seqOf c + 1) d = freshF f b g (seqOf c + 1) d from rfl] at hF
  rw [hP]
  rcases hF with ⟨_, _, hfr, hco⟩ | ⟨hc0, _⟩
  · rw [hco]
    dsimp only
    have hcn := fr_cnt h.n1 h.n2 (by omega) (by omega) hd hfr
    obtain ⟨x0, x1⟩ := wear_e f b (bPlay (f.bk b) (freshF f b g (seqOf c + 1) d) 0 (-1) m).1 1
    refine ⟨⟨b, g, seqOf c + 1, d⟩, fresh_hold h b g d hd hb2 hg hc _ hcn, hb, by rw [x0]; exact e0, by rw [x1]; exact e1, by omega, h.n1, ?_, ?_⟩
    · intro j h1 h2
      show place (Fl.bk _ b) j = _
      rw [fl_put_bk]
      exact hfr.pn j (by omega) h2
    · show stateOf (0 + 1) (place (Fl.bk _ b) (0 + 1)) = 2
      rw [fl_put_bk, hfr.p1]
      exact good_encode 1 3 _ d (by decide) (by decide) (by omega) hd (by decide)
  · omega
theorem ex_step {n i most : Nat} {f : Fl} (h : Ex n i f) (hN : i + 1 < 18446744073709551615) (hli : f.li = most) (hlt : i < 2 * most * n) (d : Nat) (m : List UInt8) (hd : d < 18446744073709551616) :
    (plan f d).2 = 0 ∧ Ex n (i + 1) (playL f (plan f d).1 0 (-1) m).1 := by
  rcases h with ⟨rfl, hI, e0, e1⟩ | ⟨q, r, c, hF⟩
  · have hm : 0 < most := by
      rcases Nat.eq_zero_or_pos most with h | h
      · rw [h] at hlt; simp at hlt
      · exact h
    have hp := plan_none hI d
    have hw : wornB f 0 = false := by unfold wornB Fl.er; simp; omega
    rw [hp, if_pos hw]
    exact ⟨rfl, .inr ⟨0, 0, full_fresh (q := 0) hI hN rfl 0 1 d m hd rfl (by decide) (.inl ⟨rfl, rfl⟩) (by rw [e0]; rfl) (by rw [e1]; rfl) (by omega)⟩⟩
  · have hp := plan_some hF.inv hN d
    obtain ⟨k2, kc, ko, kg, ks, kd⟩ := hF.inv.st
    have hn1 := hF.inv.n1; have hn2 := hF.inv.n2
    have hsl : slots (f.bk c.bank).length = n := by rw [kc.len, slots_n n hn1 hn2]
    have hst : ∀ j, j ≤ n → state (f.bk c.bank) j = stateOf j (place (f.bk c.bank) j) := fun j hj => state_place _ n j hn1 hn2 kc.len hj
    have hhere : state (f.bk c.bank) (r + 1) ≠ 0 := by rw [hst _ (by have := hF.lt; omega), hF.here]; decide
    have hpos := hF.pos; have hb := hF.bank; have hrn := hF.lt
    have hot : other c.bank = 1 - c.bank := by unfold other; split <;> omega
    by_cases hlast : r + 1 = n
    · have hnx : next (f.bk c.bank) = 0 := next_zero _ n hsl hn1 (by rw [← hlast]; exact hhere)
      rw [if_neg (by omega), hot] at hp
      have hi2 : i = (q + 1) * n := by rw [Nat.succ_mul]; omega
      have hq1 : q + 1 < 2 * most := by rw [hi2] at hlt; exact Nat.lt_of_mul_lt_mul_right hlt
      have hw : ¬ wornB f (1 - c.bank) = true := by
        have h0 := hF.e0; have h1 := hF.e1
        unfold wornB Fl.er
        rcases (by omega : q % 2 = 0 ∨ q % 2 = 1) with e | e <;> rw [hb, e] <;> simp <;> omega
      rw [hp, if_neg hw]
      refine ⟨rfl, ?_⟩
      refine .inr ⟨q + 1, 0, full_fresh (q := q + 1) hF.inv hN rfl (1 - c.bank) (c.gen + 1) d m hd (by omega) (by show c.gen + 1 ≤ c.seq + 1; omega) (.inr ⟨c, rfl, rfl, rfl⟩) ?_ ?_ hi2⟩
      · have h0 := hF.e0
        rcases (by omega : q % 2 = 0 ∨ q % 2 = 1) with e | e <;> rw [hb, e] <;> simp <;> omega
      · have h1 := hF.e1
        rcases (by omega : q % 2 = 0 ∨ q % 2 = 1) with e | e <;> rw [hb, e] <;> simp <;> omega
    · have hnx : next (f.bk c.bank) = r + 2 := next_is _ n (r + 2) hsl (by omega) (by omega) (fun j h1 h2 => by rw [hst j h2, hF.rest j h1 h2, state_ffs]) (.inr hhere)
      rw [if_pos (by omega), hnx] at hp
      rw [hp]
      refine ⟨rfl, ?_⟩
      dsimp only
      have hP := playL_bank c.bank (-1) m _ f 0 (append_bank c.bank (r + 2) (c.seq + 1) d)
      have hA := append_play (f.bk c.bank) m n c.bank c.gen c.seq d c.data _ (-1) hn1 hn2 (by omega) hd kc hnx (by omega)
      rw [hP]
      rcases hA with ⟨_, _, hcn, hco, hpl⟩ | ⟨hc0, _⟩
      · rw [hco]
        dsimp only
        obtain ⟨x0, x1⟩ := wear_e f c.bank (bPlay (f.bk c.bank) (appendOps c.bank (r + 2) (c.seq + 1) d) 0 (-1) m).1 0
        refine .inr ⟨q, r + 1, _, app_hold hF.inv d hd _ hcn, hb, by rw [x0]; simpa using hF.e0, by rw [x1]; simpa using hF.e1, by omega, by omega, ?_, ?_⟩
        · intro j h1 h2
          show place (Fl.bk _ c.bank) j = _
          rw [fl_put_bk, hpl j h2, if_neg (by omega)]
          exact hF.rest j (by omega) h2
        · show stateOf (r + 1 + 1) (place (Fl.bk _ c.bank) (r + 1 + 1)) = 2
          rw [fl_put_bk, hpl _ (by omega), if_pos rfl]
          exact good_encode _ 2 _ d (by decide) (by decide) (by omega) hd (by omega)
      · omega
theorem ex_inv {n i : Nat} {f : Fl} (h : Ex n i f) : ∃ c, Inv n i f c := by
  rcases h with ⟨rfl, h, _⟩ | ⟨q, r, c, h⟩
  · exact ⟨none, h⟩
  · exact ⟨some c, h.inv⟩
end Dw
end Go.Proofs.YtjibbchfndhhpaaGreatDoor
