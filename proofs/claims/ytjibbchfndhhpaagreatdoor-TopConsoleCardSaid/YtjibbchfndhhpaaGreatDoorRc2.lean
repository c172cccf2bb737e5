/- What the statement's proof stands on, part 2: Region, Chain, Letters, RegionL. -/
import Derived.Test.YtjibbchfndhhpaaGreatDoorRc1
import Derived.Orders
set_option linter.unusedSimpArgs false
set_option linter.unusedVariables false
set_option maxRecDepth 100000
set_option maxHeartbeats 4000000
namespace Go.Proofs.YtjibbchfndhhpaaGreatDoor
open Go.RowKit
abbrev Keep (w w' : World) : Prop := KeepBut (fun _ => False) w w'
section
variable {P : Program} {ops : Array Oper} {Q : Exit → Act → World → Prop}
def Yl (P : Program) (w' : World) (r : Result Next) (v : Value) : Prop :=
  (∃ w'', r = .ok (.value v) w'' ∧ Keep w' w'') ∨ (∃ f args w1, r = .ok (.enter f args) w1 ∧ Calls P f args w1 fun e w'' => e = .returned v ∧ Keep w' w'') ∨ (v = undef ∧ ∃ w'', r = .ok .skip w'' ∧ Keep w' w'')
def YlSome (P : Program) (w' : World) (r : Result Next) (R : Value → World → Prop) : Prop :=
  (∃ v w'', r = .ok (.value v) w'' ∧ Keep w' w'' ∧ R v w'') ∨ (∃ f args w1, r = .ok (.enter f args) w1 ∧ Calls P f args w1 fun e w'' => ∃ v, e = .returned v ∧ Keep w' w'' ∧ R v w'')
def Sure (P : Program) (w : World) (s : Sem Next) (v : Value) : Prop := ∀ w', Keep w w' → Yl P w' (s.run P w') v
def SureSome (P : Program) (w : World) (s : Sem Next) (R : Value → World → Prop) : Prop := ∀ w', Keep w w' → YlSome P w' (s.run P w') R
theorem Yl.wp {o : Oper} {a : Act} {v : Value} {w' : World} (h : Yl P w' ((execOp a.eval o).run P w') v) {K : Act → World → Prop} (hK : ∀ w'', Keep w' w'' → K (a.put o.dst v) w'') : o.wp P a w' K Q := by
  unfold Oper.wp
  rcases h with ⟨w'', hr, hk⟩ | ⟨f, args, w1, hr, hc⟩ | ⟨rfl, w'', hr, hk⟩
  · rw [hr]; exact hK _ hk
  · rw [hr]
    refine Calls.mono hc ?_
    rintro e w'' ⟨rfl, hk⟩
    exact hK _ hk
  · rw [hr]; exact hK _ hk
theorem YlSome.wp {o : Oper} {a : Act} {R : Value → World → Prop} {w' : World} (h : YlSome P w' ((execOp a.eval o).run P w') R) {K : Act → World → Prop} (hK : ∀ v w'', Keep w' w'' → R v w'' → K (a.put o.dst v) w'') : o.wp P a w' K Q := by
  unfold Oper.wp
  rcases h with ⟨v, w'', hr, hk, hR⟩ | ⟨f, args, w1, hr, hc⟩
  · rw [hr]; exact hK _ _ hk hR
  · rw [hr]
    refine Calls.mono hc ?_
    rintro e w'' ⟨v, rfl, hk, hR⟩
    exact hK _ _ hk hR
def Gets (P : Program) (ops : Array Oper) (w : World) (o : Oper) (a : Act) (v : Value) : Prop :=
  (Region.wanted o (yielded ops a.tmps) = true ∧ Sure P w (execOp a.eval o) v) ∨ (Region.wanted o (yielded ops a.tmps) = false ∧ v = undef)
def PureList (P : Program) (ops : Array Oper) (w : World) (N : Act → Prop) : List Nat → Act → Prop
  | [], a => N a
  | k :: ks, a => ∃ o v, ops[k]? = some o ∧ Gets P ops w o a v ∧ PureList P ops w N ks (a.put o.dst v)
theorem PureList.mono {w : World} {N N' : Act → Prop} (h : ∀ a, N a → N' a) : ∀ {ks : List Nat} {a : Act}, PureList P ops w N ks a → PureList P ops w N' ks a
  | [], a, hh => h a hh
  | _ :: _, _, ⟨o, v, ho, hg, hr⟩ => ⟨o, v, ho, hg, PureList.mono h hr⟩
def apartAt (ops : Array Oper) (i j : Nat) : Bool :=
  match ops[i]?, ops[j]? with
  | some x, some y => Oper.apart ops x y
  | _, _ => false
theorem apartAt_spec {i j : Nat} {x y : Oper} (hx : ops[i]? = some x) (hy : ops[j]? = some y) (h : apartAt ops i j = true) : x.apart ops y = true := by
  simpa [apartAt, hx, hy] using h
theorem Gets.put {w : World} {o : Oper} {a : Act} {v : Value} (hs : ∀ cs b, o.op ≠ .select cs b) (h : Gets P ops w o a v) {d : Option Tmp} (u : Value) (hd : ∀ t, d = some t → t ∉ o.looksAt ops) : Gets P ops w o (a.put d u) v := by
  unfold Gets
  rw [wanted_put o a d u hd, execOp_put o hs a d u hd]
  exact h
theorem PureList.swap {w : World} {N : Act → Prop} (hsel : Region.noSelect ops = true) {i k : Nat} {l : List Nat} {a : Act} (hap : apartAt ops i k = true)
    (h : PureList P ops w N (k :: i :: l) a) : PureList P ops w N (i :: k :: l) a := by
  obtain ⟨ok, vk, hok, hgk, oi, vi, hoi, hgi, hr⟩ := h
  obtain ⟨h1, h2, h3⟩ := Oper.apart_spec (apartAt_spec hoi hok hap)
  have hsi := fun cs b => Region.noSelect_spec hsel i oi cs b hoi
  have hsk := fun cs b => Region.noSelect_spec hsel k ok cs b hok
  refine ⟨oi, vi, hoi, ?_, ok, vk, hok, hgk.put hsk vi h1, ?_⟩
  · unfold Gets at hgi ⊢
    rw [wanted_put oi a ok.dst vk h3, execOp_put oi hsi a ok.dst vk h3] at hgi
    exact hgi
  · rw [Act.put_comm a vi vk h2]; exact hr
theorem PureList.first {w : World} {N : Act → Prop} (hsel : Region.noSelect ops = true) {i : Nat} {l2 : List Nat} : ∀ {l1 : List Nat} {a : Act}, (∀ k ∈ l1, apartAt ops i k = true) →
    PureList P ops w N (l1 ++ i :: l2) a → PureList P ops w N (i :: (l1 ++ l2)) a
  | [], _, _, h => h
  | k :: l1, a, hap, ⟨o, v, ho, hg, hr⟩ => PureList.swap hsel (hap k (by simp)) ⟨o, v, ho, hg, PureList.first hsel (fun j hj => hap j (by simp [hj])) hr⟩
theorem PureList.putIn {w : World} {N : Act → Prop} (hsel : Region.noSelect ops = true) {i : Nat} {oi : Oper} (hoi : ops[i]? = some oi) (u : Value) : ∀ {ks : List Nat} {a : Act}, (∀ k ∈ ks, apartAt ops i k = true) →
    PureList P ops w N ks a → PureList P ops w (fun a'' => ∃ a', N a' ∧ a'' = a'.put oi.dst u) ks (a.put oi.dst u)
  | [], a, _, h => ⟨a, h, rfl⟩
  | k :: ks, a, hap, ⟨o, v, ho, hg, hr⟩ => by
    obtain ⟨h1, h2, h3⟩ := Oper.apart_spec (apartAt_spec hoi ho (hap k (by simp)))
    refine ⟨o, v, ho, hg.put (fun cs b => Region.noSelect_spec hsel k o cs b ho) u h1, ?_⟩
    rw [Act.put_comm a u v h2]
    exact PureList.putIn hsel hoi u (fun j hj => hap j (by simp [hj])) hr
theorem PureList.seen {w : World} {N : Act → Prop} (hsel : Region.noSelect ops = true) {i : Nat} {oi : Oper} (hoi : ops[i]? = some oi) : ∀ {ks : List Nat} {a : Act}, (∀ k ∈ ks, apartAt ops i k = true) →
    PureList P ops w N ks a → ∃ a', N a' ∧ execOp a'.eval oi = execOp a.eval oi ∧ Region.wanted oi (yielded ops a'.tmps) = Region.wanted oi (yielded ops a.tmps)
  | [], a, _, h => ⟨a, h, rfl, rfl⟩
  | k :: ks, a, hap, ⟨o, v, ho, hg, hr⟩ => by
    obtain ⟨h1, h2, h3⟩ := Oper.apart_spec (apartAt_spec hoi ho (hap k (by simp)))
    obtain ⟨a', hn, he, hw⟩ := PureList.seen hsel hoi (fun j hj => hap j (by simp [hj])) hr
    exact ⟨a', hn, he.trans (execOp_put oi (fun cs b => Region.noSelect_spec hsel i oi cs b hoi) a o.dst v h3), hw.trans (wanted_put oi a o.dst v h3)⟩
def depsOf (ops : Array Oper) (i : Nat) : List Nat := (((ops[i]?).map (·.after)).getD #[]).toList.filterMap fun e => if Region.binds .any e then some e.on else none
def unDeps (T : Array Nat) (l : List Nat) : Nat := l.foldr (fun d s => 2 ^ d ||| (T.getD d 0 ||| s)) 0
def tableOk (ops : Array Oper) (T : Array Nat) : Bool := (List.range ops.size).all fun i => (T.getD i 0 &&& unDeps T (depsOf ops i)) == T.getD i 0
def behind (T : Array Nat) (i m : Nat) : Bool := (T.getD i 0).testBit m
theorem unDeps_spec {T : Array Nat} {m : Nat} : ∀ {l : List Nat}, (unDeps T l).testBit m = true → ∃ d ∈ l, m = d ∨ behind T d m = true
  | [], h => by simp [unDeps] at h
  | d :: l, h => by
    simp only [unDeps, List.foldr_cons, Nat.testBit_or, Bool.or_eq_true] at h
    rcases h with h | h | h
    · rw [Nat.testBit_two_pow] at h; exact ⟨d, by simp, .inl (of_decide_eq_true h).symm⟩
    · exact ⟨d, by simp, .inr h⟩
    · obtain ⟨d', hd', h'⟩ := unDeps_spec (l := l) h; exact ⟨d', by simp [hd'], h'⟩
theorem tableOk_spec {T : Array Nat} (h : tableOk ops T = true) {i m : Nat} (hi : i < ops.size) (hb : behind T i m = true) : ∃ d ∈ depsOf ops i, m = d ∨ behind T d m = true := by
  simp only [tableOk, List.all_eq_true, List.mem_range] at h
  have := beq_iff_eq.1 (h i hi)
  unfold behind at hb
  rw [← this, Nat.testBit_and, Bool.and_eq_true] at hb
  exact unDeps_spec hb.2
theorem mem_ready' {i : Nat} {listed : Array Bool} : i ∈ Region.ready .any ops listed ↔ listed.getD i true = false ∧ i < ops.size ∧ ∀ d ∈ depsOf ops i, listed.getD d false = true := by
  rw [mem_ready]
  constructor
  · rintro ⟨h0, o, ho, hall⟩
    refine ⟨h0, (Array.getElem?_eq_some_iff.1 ho).1, fun d hd => ?_⟩
    simp only [depsOf, ho, Option.map_some, Option.getD_some, List.mem_filterMap] at hd
    obtain ⟨e, he, hd⟩ := hd
    split at hd
    · rename_i hb; cases hd; exact hall e (by simpa using he) hb
    · cases hd
  · rintro ⟨h0, hi, hall⟩
    refine ⟨h0, ops[i], by simp [hi], fun e he hb => hall e.on ?_⟩
    simp only [depsOf, List.mem_filterMap]
    exact ⟨e, by simpa [hi] using he, by simp [hb]⟩
def ClosedL (ops : Array Oper) (listed : Array Bool) : Prop := ∀ i, listed.getD i false = true → i < ops.size → ∀ d ∈ depsOf ops i, listed.getD d false = true
theorem behind_listed {T : Array Nat} (hT : tableOk ops T = true) (hlt : ∀ i, ∀ d ∈ depsOf ops i, d < i) {listed : Array Bool} (hc : ClosedL ops listed) : ∀ (i m : Nat), i < ops.size → (∀ d ∈ depsOf ops i, listed.getD d false = true) → behind T i m = true → listed.getD m false = true := by
  intro i
  induction i using Nat.strongRecOn with
  | _ i ih =>
    intro m hi hall hb
    obtain ⟨d, hd, rfl | h⟩ := tableOk_spec hT hi hb
    · exact hall _ hd
    · have hdi := hlt i d hd
      exact ih d hdi m (by omega) (hc d (hall d hd) (by omega)) h
def pairsOk (ops : Array Oper) (T : Array Nat) : List Nat → Bool
  | [] => true
  | k :: ks => (ks.all fun i => apartAt ops i k || behind T i k) && pairsOk ops T ks
def tailOk (ops : Array Oper) : Array Bool → List Nat → Bool
  | listed, [] => Region.ready .any ops listed == []
  | listed, t :: ts => Region.ready .any ops listed == [t] && tailOk ops (listed.setIfInBounds t true) ts
def allListed (ops : Array Oper) (I : List Nat) : Array Bool := (Array.range ops.size).map fun i => I.contains i
def regionOk (ops : Array Oper) (T : Array Nat) (ks ls ts : List Nat) : Bool :=
  Region.noSelect ops && tableOk ops T && ((List.range ops.size).all fun i => (depsOf ops i).all (· < i)) &&
  ((ks ++ ls).all fun i => decide (i < ops.size) && (depsOf ops i).all fun d => (ks ++ ls).contains d) && decide ((ks ++ ls).Nodup) &&
  ((List.range ops.size).all fun j => (ks ++ ls).contains j || (ks ++ ls).all fun i => behind T j i) &&
  pairsOk ops T ks && (ls.all fun l => ks.all fun k => apartAt ops l k || behind T l k) && tailOk ops (allListed ops (ks ++ ls)) ts
theorem pairsOk_spec {T : Array Nat} {i : Nat} {l2 : List Nat} : ∀ {l1 : List Nat}, pairsOk ops T (l1 ++ i :: l2) = true → ∀ k ∈ l1, apartAt ops i k = true ∨ behind T i k = true
  | [], _, k, hk => by cases hk
  | k' :: l1, h, k, hk => by
    simp only [List.cons_append, pairsOk, Bool.and_eq_true, List.all_eq_true] at h
    rcases List.mem_cons.1 hk with rfl | hk
    · have := h.1 i (by simp); simpa using this
    · exact pairsOk_spec h.2 k hk
structure Todo (ops : Array Oper) (T : Array Nat) (I : List Nat) (rest : List Nat) (listed : Array Bool) : Prop where
  size : listed.size = ops.size
  iff : ∀ i, i < ops.size → listed.getD i true = (I.contains i && !rest.contains i)
  sub : ∀ i ∈ rest, i ∈ I
  nodup : rest.Nodup
  closed : ClosedL ops listed
theorem getD_any {listed : Array Bool} {i : Nat} (h : i < listed.size) (x y : Bool) : listed.getD i x = listed.getD i y := by simp [Array.getD, h]
theorem tail_sound {R : Exit → Act → World → Prop} : ∀ {ts : List Nat} {listed : Array Bool} {a : Act} {w : World}, tailOk ops listed ts = true → (∃ l, ts.map (fun t => ops[t]?) = l.map some ∧ wpList P ops R l a w) → wpAny P .any ops R ts.length listed a w
  | [], listed, a, w, h, hex => by
    obtain ⟨l, hl, hh⟩ := hex
    have : l = [] := by simpa using hl.symm
    subst this
    exact ⟨by simpa [tailOk] using h, hh⟩
  | t :: ts, listed, a, w, h, hex => by
    obtain ⟨l, hl, hh⟩ := hex
    simp only [tailOk, Bool.and_eq_true, beq_iff_eq] at h
    cases l with
    | nil => simp at hl
    | cons o l =>
      simp only [List.map_cons, List.cons.injEq] at hl
      refine ⟨fun e => (by rw [h.1] at e; cases e), fun i hi => ?_⟩
      rw [h.1] at hi
      obtain rfl : i = t := by simpa using hi
      have next : ∀ a w, wpList P ops R l a w → wpAny P .any ops R ts.length (listed.setIfInBounds i true) a w := fun a w hw => tail_sound h.2 ⟨l, hl.2, hw⟩
      unfold wpOp
      simp only [hl.1]
      unfold wpList at hh
      split
      · rename_i hw
        rw [if_pos hw] at hh
        exact hh.imp (Oper.wp_mono next) id
      · rename_i hw
        rw [if_neg hw] at hh
        exact next _ _ hh
structure RegionOk (ops : Array Oper) (T : Array Nat) (ks ls ts : List Nat) : Prop where
  sel : Region.noSelect ops = true
  table : tableOk ops T = true
  lt : ∀ i, ∀ d ∈ depsOf ops i, d < i
  inside : ∀ i ∈ ks ++ ls, i < ops.size ∧ ∀ d ∈ depsOf ops i, d ∈ ks ++ ls
  nodup : (ks ++ ls).Nodup
  behindAll : ∀ j, j < ops.size → j ∉ ks ++ ls → ∀ i ∈ ks ++ ls, behind T j i = true
  pairs : pairsOk ops T ks = true
  letter : ∀ l ∈ ls, ∀ k ∈ ks, apartAt ops l k = true ∨ behind T l k = true
  tail : tailOk ops (allListed ops (ks ++ ls)) ts = true
theorem regionOk_spec {T : Array Nat} {ks ls ts : List Nat} (h : regionOk ops T ks ls ts = true) : RegionOk ops T ks ls ts := by
  simp only [regionOk, Bool.and_eq_true, List.all_eq_true, List.mem_range, decide_eq_true_eq, Bool.or_eq_true, List.contains_iff_mem] at h
  obtain ⟨⟨⟨⟨⟨⟨⟨⟨h1, h2⟩, h3⟩, h4⟩, h5⟩, h6⟩, h7⟩, h8⟩, h9⟩ := h
  refine ⟨h1, h2, fun i d hd => ?_, fun i hi => ⟨(h4 i hi).1, (h4 i hi).2⟩, h5, fun j hj hn i hi => (h6 j hj).resolve_left hn i hi, h7, h8, h9⟩
  by_cases hi : i < ops.size
  · exact h3 i hi d hd
  · simp [depsOf, Array.getElem?_eq_none (Nat.le_of_not_lt hi)] at hd
theorem Todo.next {T : Array Nat} {I rest : List Nat} {listed : Array Bool} (h : Todo ops T I rest listed) {i : Nat} (hi : i ∈ Region.ready .any ops listed) (hir : i ∈ rest) : Todo ops T I (rest.erase i) (listed.setIfInBounds i true) := by
  obtain ⟨h0, hlt, hall⟩ := mem_ready'.1 hi
  have get : ∀ j d, (listed.setIfInBounds i true).getD j d = if j = i then true else listed.getD j d := by
    intro j d
    by_cases e : j = i
    · subst e; simp [Array.getD, h.size, hlt]
    · rw [if_neg e]; exact getD_set_ne d (Ne.symm e)
  refine ⟨by simpa using h.size, fun j hj => ?_, fun j hj => h.sub j (List.mem_of_mem_erase hj), h.nodup.erase i, fun j hj hjs d hd => ?_⟩
  · rw [get]
    by_cases e : j = i
    · subst e
      have := h.sub _ hir
      have hne : j ∉ rest.erase j := fun hm => by
        have := (h.nodup.mem_erase_iff).1 hm; exact this.1 rfl
      simp [this, hne]
    · rw [if_neg e, h.iff j hj]
      have : (rest.erase i).contains j = rest.contains j := by
        rw [Bool.eq_iff_iff]; simp only [List.contains_iff_mem]; exact List.mem_erase_of_ne e
      rw [this]
  · rw [get]
    by_cases e : d = i
    · simp [e]
    · rw [if_neg e]
      rw [get] at hj
      by_cases e' : j = i
      · subst e'; exact hall d hd
      · rw [if_neg e'] at hj; exact h.closed j hj hjs d hd
theorem Todo.ready {T : Array Nat} {ks ls ts : List Nat} {rest : List Nat} {listed : Array Bool} (ok : RegionOk ops T ks ls ts) (h : Todo ops T (ks ++ ls) rest listed) (hne : rest ≠ []) :
    Region.ready .any ops listed ≠ [] ∧ ∀ i ∈ Region.ready .any ops listed, i ∈ rest := by
  constructor
  · -- the least one that is to come
    have : ∀ m, ∀ i ∈ rest, i ≤ m → ∃ j, j ∈ Region.ready .any ops listed := by
      intro m
      induction m using Nat.strongRecOn with
      | _ m ih =>
        intro i hi him
        have hin := ok.inside i (h.sub i hi)
        by_cases hall : ∀ d ∈ depsOf ops i, listed.getD d false = true
        · refine ⟨i, mem_ready'.2 ⟨?_, hin.1, hall⟩⟩
          rw [h.iff i hin.1]; simp [hi]
        · obtain ⟨d, hd'⟩ := Classical.not_forall.1 hall
          obtain ⟨hd, hdl⟩ := Classical.not_imp.1 hd'
          have hlt := ok.lt i d hd
          have hdI := hin.2 d hd
          have hdr : d ∈ rest := by
            have := h.iff d (by omega)
            rw [getD_any (by rw [h.size]; omega) true false] at this
            by_cases e : d ∈ rest
            · exact e
            · exact absurd (by rw [this]; simp [hdI, e]) hdl
          exact ih d (by omega) d hdr (Nat.le_refl _)
    obtain ⟨i, hi⟩ := List.exists_mem_of_ne_nil rest hne
    obtain ⟨j, hj⟩ := this i i hi (Nat.le_refl _)
    exact List.ne_nil_of_mem hj
  · intro i hi
    obtain ⟨h0, hlt, hall⟩ := mem_ready'.1 hi
    rw [h.iff i hlt] at h0
    by_cases hI : i ∈ ks ++ ls
    · by_cases e : i ∈ rest
      · exact e
      · simp [hI, e] at h0
    · obtain ⟨m, hm⟩ := List.exists_mem_of_ne_nil rest hne
      have hmI := h.sub m hm
      have := behind_listed ok.table ok.lt h.closed i m hlt hall (ok.behindAll i hlt hI m hmI)
      have hml := (ok.inside m hmI).1
      rw [getD_any (by rw [h.size]; exact hml) false true, h.iff m hml] at this
      simp [hm] at this
theorem Todo.done {T : Array Nat} {I : List Nat} {listed : Array Bool} (h : Todo ops T I [] listed) : listed = allListed ops I := by
  apply Array.ext
  · simp [allListed, h.size]
  · intro i h1 h2
    have := h.iff i (by rw [← h.size]; exact h1)
    simp [Array.getD, h1] at this
    simp [allListed, this]
theorem pairsOk_erase {T : Array Nat} {i : Nat} : ∀ {ks : List Nat}, pairsOk ops T ks = true → pairsOk ops T (ks.erase i) = true
  | [], _ => rfl
  | k :: ks, h => by
    simp only [pairsOk, Bool.and_eq_true, List.all_eq_true] at h
    by_cases e : k = i
    · subst e; simpa using h.2
    · rw [List.erase_cons_tail (by simpa using e)]
      simp only [pairsOk, Bool.and_eq_true, List.all_eq_true]
      exact ⟨fun j hj => h.1 j (List.mem_of_mem_erase hj), pairsOk_erase h.2⟩
theorem erase_mid {i : Nat} {l1 l2 : List Nat} (h : (l1 ++ i :: l2).Nodup) : (l1 ++ i :: l2).erase i = l1 ++ l2 := by
  have : i ∉ l1 := by
    intro hi
    have := (List.nodup_append.1 h).2.2 i hi i (by simp)
    exact this rfl
  rw [List.erase_append_right _ this]; simp
theorem pure_sound {R : Exit → Act → World → Prop} {T : Array Nat} {ks ls ts : List Nat} (ok : RegionOk ops T ks ls ts) {w : World} {F : World → Prop} (hF : ∀ A B, F A → Keep A B → F B) (fuel : Nat) :
    ∀ (m : Nat) (rest : List Nat) (listed : Array Bool) (a : Act) (w1 : World), rest.length = m → Keep w w1 → F w1 → Todo ops T (ks ++ ls) rest listed → pairsOk ops T rest = true →
      PureList P ops w (fun a' => ∀ w', Keep w w' → F w' → wpAny P .any ops R fuel (allListed ops (ks ++ ls)) a' w') rest a → wpAny P .any ops R (m + fuel) listed a w1 := by
  intro m
  induction m with
  | zero =>
    intro rest listed a w1 hm hk hf ht _ h
    have : rest = [] := List.eq_nil_of_length_eq_zero hm
    subst this
    rw [ht.done, Nat.zero_add]
    exact h w1 hk hf
  | succ m ih =>
    intro rest listed a w1 hm hk hf ht hp h
    have hne : rest ≠ [] := by intro e; subst e; simp at hm
    obtain ⟨hr, hall⟩ := ht.ready ok hne
    rw [show m + 1 + fuel = (m + fuel) + 1 from by omega]
    refine ⟨fun e => absurd e hr, fun i hi => ?_⟩
    have hir := hall i hi
    obtain ⟨l1, l2, rfl⟩ := List.append_of_mem hir
    have hnx := ht.next hi hir
    rw [erase_mid ht.nodup] at hnx
    have hp' : pairsOk ops T (l1 ++ l2) = true := by have := pairsOk_erase (i := i) hp; rwa [erase_mid ht.nodup] at this
    obtain ⟨h0, hlt, hdeps⟩ := mem_ready'.1 hi
    have hap : ∀ k ∈ l1, apartAt ops i k = true := fun k hk' => (pairsOk_spec hp k hk').resolve_right fun hb => by
      have := behind_listed ok.table ok.lt ht.closed i k hlt hdeps hb
      have hkl := (ok.inside k (ht.sub k (by simp [hk']))).1
      rw [getD_any (by rw [ht.size]; exact hkl) false true, ht.iff k hkl] at this
      simp [hk'] at this
    obtain ⟨o, v, ho, hg, hrest⟩ := PureList.first ok.sel hap h
    have hlen : (l1 ++ l2).length = m := by simp at hm ⊢; omega
    unfold wpOp
    simp only [ho]
    rcases hg with ⟨hw, hs⟩ | ⟨hw, rfl⟩
    · rw [if_pos hw]
      exact .inl ((hs w1 hk).wp fun w'' hk'' => ih _ _ _ _ hlen (hk.trans hk'') (hF _ _ hf hk'') hnx hp' hrest)
    · rw [if_neg (by simp [hw])]
      exact ih _ _ _ _ hlen hk hf hnx hp' hrest
theorem letter_sound {R : Exit → Act → World → Prop} {T : Array Nat} {ks ts : List Nat} {l : Nat} (ok : RegionOk ops T ks [l] ts) {w : World} {F : Value → World → Prop} (hF : ∀ v A B, F v A → Keep A B → F v B) (fuel : Nat) {ol : Oper} (hol : ops[l]? = some ol) :
    ∀ (m : Nat) (rest : List Nat) (listed : Array Bool) (a : Act) (w1 : World), rest.length = m → Keep w w1 → Todo ops T (ks ++ [l]) (rest ++ [l]) listed → (∀ k ∈ rest, k ∈ ks) → pairsOk ops T rest = true →
      PureList P ops w (fun a' => Region.wanted ol (yielded ops a'.tmps) = true ∧ SureSome P w (execOp a'.eval ol) F ∧ ∀ v w', Keep w w' → F v w' → wpAny P .any ops R fuel (allListed ops (ks ++ [l])) (a'.put ol.dst v) w') rest a →
      wpAny P .any ops R (m + 1 + fuel) listed a w1 := by
  intro m
  induction m using Nat.strongRecOn with
  | _ m ih =>
    intro rest listed a w1 hm hk ht hsub hp h
    obtain ⟨hr, hall⟩ := ht.ready ok (by simp)
    rw [show m + 1 + fuel = (m + fuel) + 1 from by omega]
    refine ⟨fun e => absurd e hr, fun i hi => ?_⟩
    have hir := hall i hi
    have hnx := ht.next hi hir
    obtain ⟨h0, hlt, hdeps⟩ := mem_ready'.1 hi
    have hnd := ht.nodup
    have notBehind : ∀ k, k ∈ rest ++ [l] → behind T i k = false := fun k hk' => by
      cases hb : behind T i k
      · rfl
      · have := behind_listed ok.table ok.lt ht.closed i k hlt hdeps hb
        have hkl := (ok.inside k (ht.sub k hk')).1
        rw [getD_any (by rw [ht.size]; exact hkl) false true, ht.iff k hkl] at this
        have hc : (rest ++ [l]).contains k = true := by simpa using hk'
        rw [hc] at this; simp at this
    have hlr : l ∉ rest := fun hl => by
      have := (List.nodup_append.1 hnd).2.2 l hl l (by simp); exact this rfl
    by_cases hil : i = l
    · subst hil
      have hap : ∀ k ∈ rest, apartAt ops i k = true := fun k hk' => (ok.letter i (by simp) k (hsub k hk')).resolve_right fun hb => by rw [notBehind k (by simp [hk'])] at hb; cases hb
      rw [List.erase_append_right _ hlr] at hnx
      simp at hnx
      obtain ⟨a', ⟨hw, hs, _⟩, he, hw'⟩ := PureList.seen ok.sel hol hap h
      unfold wpOp
      simp only [hol]
      rw [if_pos (by rw [← hw']; exact hw)]
      rw [he] at hs
      refine .inl ((hs w1 hk).wp fun v w'' hk'' hF'' => ?_)
      refine pure_sound ok (F := F v) (hF v) fuel m rest _ _ _ hm (hk.trans hk'') hF'' hnx hp ?_
      refine PureList.mono ?_ (PureList.putIn ok.sel hol v hap h)
      rintro a'' ⟨a', ⟨_, _, hN⟩, rfl⟩ w' hkw' hFw'
      exact hN v w' hkw' hFw'
    · have hir' : i ∈ rest := by simpa [hil] using hir
      obtain ⟨l1, l2, rfl⟩ := List.append_of_mem hir'
      have hnd1 := (List.nodup_append.1 hnd).1
      rw [List.erase_append_left _ hir', erase_mid hnd1] at hnx
      have hp' : pairsOk ops T (l1 ++ l2) = true := by have := pairsOk_erase (i := i) hp; rwa [erase_mid hnd1] at this
      have hap : ∀ k ∈ l1, apartAt ops i k = true := fun k hk' => (pairsOk_spec hp k hk').resolve_right fun hb => by rw [notBehind k (by simp [hk'])] at hb; cases hb
      obtain ⟨o, v, ho, hg, hrest⟩ := PureList.first ok.sel hap h
      have hlen : (l1 ++ l2).length + 1 = m := by simp at hm ⊢; omega
      have hsub' : ∀ k ∈ l1 ++ l2, k ∈ ks := fun k hk' => hsub k (by simp at hk' ⊢; exact hk'.imp id .inr)
      rw [show m + fuel = (l1 ++ l2).length + 1 + fuel from by omega]
      unfold wpOp
      simp only [ho]
      rcases hg with ⟨hw, hs⟩ | ⟨hw, rfl⟩
      · rw [if_pos hw]
        exact .inl ((hs w1 hk).wp fun w'' hk'' => ih _ (by omega) _ _ _ _ rfl (hk.trans hk'') hnx hsub' hp' hrest)
      · rw [if_neg (by simp [hw])]
        exact ih _ (by omega) _ _ _ _ rfl hk hnx hsub' hp' hrest
theorem Todo.start {T : Array Nat} {ks ls ts : List Nat} (ok : RegionOk ops T ks ls ts) : Todo ops T (ks ++ ls) (ks ++ ls) (Array.replicate ops.size false) := by
  refine ⟨by simp, fun i hi => ?_, fun i hi => hi, ok.nodup, fun i hi hs => ?_⟩
  · by_cases h : i ∈ ks ++ ls <;> simp [Array.getD, hi, h]
  · simp [Array.getD, hs] at hi
theorem wp_region_pure {R : Exit → Act → World → Prop} {id : Nat} {a : Act} {w : World} (T : Array Nat) (ks ts : List Nat) (tops : List Oper) (hm : P.follows .mixedOrders = true) (hok : regionOk ops T ks [] ts = true) (hsz : ops.size = ks.length + ts.length)
    (ht : ts.map (fun t => ops[t]?) = tops.map some)
    (h : PureList P ops w (fun a' => ∀ w', Keep w w' → wpList P ops R tops a' w') ks a) : (Code.region id ops true).wp P R a w := by
  have ok := regionOk_spec hok
  refine wp_region_any hm ?_
  rw [hsz]
  have st := Todo.start ok
  rw [List.append_nil] at st
  refine pure_sound (w := w) (ks := ks) (ls := []) ok (F := fun _ => True) (fun _ _ _ _ => trivial) ts.length ks.length ks _ a _ rfl ⟨rfl, rfl, rfl, Nat.le_refl _, fun _ _ _ => rfl⟩ trivial (by rw [List.append_nil]; rw [hsz] at st; exact st) ok.pairs ?_
  exact PureList.mono (fun a' hN w' hk _ => by rw [List.append_nil]; have := ok.tail; rw [List.append_nil] at this; exact tail_sound this ⟨tops, ht, hN w' hk⟩) h
theorem wp_region_letter {R : Exit → Act → World → Prop} {id : Nat} {a : Act} {w : World} (T : Array Nat) (ks : List Nat) (l : Nat) (ts : List Nat) (ol : Oper) (tops : List Oper) (hm : P.follows .mixedOrders = true) (hok : regionOk ops T ks [l] ts = true) (hsz : ops.size = ks.length + 1 + ts.length)
    (hol : ops[l]? = some ol) (ht : ts.map (fun t => ops[t]?) = tops.map some) (F : Value → World → Prop) (hF : ∀ v A B, F v A → Keep A B → F v B)
    (h : PureList P ops w (fun a' => Region.wanted ol (yielded ops a'.tmps) = true ∧ SureSome P w (execOp a'.eval ol) F ∧ ∀ v w', Keep w w' → F v w' → wpList P ops R tops (a'.put ol.dst v) w') ks a) : (Code.region id ops true).wp P R a w := by
  have ok := regionOk_spec hok
  refine wp_region_any hm ?_
  rw [hsz]
  have st := Todo.start ok
  refine letter_sound (w := w) ok hF ts.length hol ks.length ks _ a _ rfl ⟨rfl, rfl, rfl, Nat.le_refl _, fun _ _ _ => rfl⟩ (by rw [hsz] at st; exact st) (fun _ h => h) ok.pairs ?_
  exact PureList.mono (fun a' ⟨hw, hs, hN⟩ => ⟨hw, hs, fun v w' hk hf => tail_sound ok.tail ⟨tops, ht, hN v w' hk hf⟩⟩) h
theorem range_drop (k : Nat) : (List.range' k (ops.size - k)).map (fun t => ops[t]?) = (ops.toList.drop k).map some := by
  apply List.ext_getElem
  · simp
  · intro i h1 h2
    simp at h1
    simp [Array.getElem?_eq_getElem (show k + i < ops.size by omega)]
theorem wp_pure {R : Exit → Act → World → Prop} {id : Nat} {a : Act} {w : World} (ks : List Nat) (k : Nat) (hm : P.follows .mixedOrders = true) (hok : regionOk ops (Region.before ops) ks [] (List.range' k (ops.size - k)) = true) (hsz : ops.size = ks.length + (ops.size - k))
    (h : PureList P ops w (fun a' => ∀ w', Keep w w' → wpList P ops R (ops.toList.drop k) a' w') ks a) : (Code.region id ops true).wp P R a w :=
  wp_region_pure (Region.before ops) ks (List.range' k (ops.size - k)) _ hm hok (by simpa using hsz) (range_drop k) h
theorem wp_letter {R : Exit → Act → World → Prop} {id : Nat} {a : Act} {w : World} (ks : List Nat) (l k : Nat) (F : Value → World → Prop) {ol : Oper} (hol : ops[l]? = some ol) (hm : P.follows .mixedOrders = true) (hok : regionOk ops (Region.before ops) ks [l] (List.range' k (ops.size - k)) = true) (hsz : ops.size = ks.length + 1 + (ops.size - k))
    (hF : ∀ v A B, F v A → Keep A B → F v B)
    (h : PureList P ops w (fun a' => Region.wanted ol (yielded ops a'.tmps) = true ∧ SureSome P w (execOp a'.eval ol) F ∧ ∀ v w', Keep w w' → F v w' → wpList P ops R (ops.toList.drop k) (a'.put ol.dst v) w') ks a) : (Code.region id ops true).wp P R a w :=
  wp_region_letter (Region.before ops) ks l (List.range' k (ops.size - k)) ol _ hm hok (by simpa using hsz) hol (range_drop k) F hF h
section
variable {l : List Oper} {w : World} {N : Act → Prop} {k : Nat} {ks : List Nat} {a : Act} {o : Oper} {v : Value}
theorem pl_value (ho : l[k]? = some o) (hw : Region.wanted o (yielded l.toArray a.tmps) = true)
    (hv : ∀ w', Keep w w' → (execOp a.eval o).run P w' = .ok (.value v) w') (h : PureList P l.toArray w N ks (a.put o.dst v)) : PureList P l.toArray w N (k :: ks) a :=
  ⟨o, v, by simpa using ho, .inl ⟨hw, fun w' hk => .inl ⟨w', hv w' hk, KeepBut.refl _ _⟩⟩, h⟩
theorem pl_call {f : FuncId} {args : Array Value} (ho : l[k]? = some o) (hw : Region.wanted o (yielded l.toArray a.tmps) = true)
    (hv : ∀ w', Keep w w' → (execOp a.eval o).run P w' = .ok (.enter f args) w') (hc : ∀ w', Keep w w' → Calls P f args w' fun e w'' => e = .returned v ∧ Below w'.heap.size w' w'') (h : PureList P l.toArray w N ks (a.put o.dst v)) : PureList P l.toArray w N (k :: ks) a :=
  ⟨o, v, by simpa using ho, .inl ⟨hw, fun w' hk => .inr (.inl ⟨f, args, w', hv w' hk, (hc w' hk).mono fun _ _ ⟨he, hb⟩ => ⟨he, KeepBut.of_below' hb⟩⟩)⟩, h⟩
end
theorem pl_nil {w : World} {N : Act → Prop} {a : Act} (h : N a) : PureList P ops w N [] a := h
def At (P : Program) (l : List Oper) (w : World) : List Nat → List Value → Act → Act → Prop
  | [], [], a, b => a = b
  | k :: ks, v :: vs, a, b => ∃ o, l[k]? = some o ∧ ((Region.wanted o (yielded l.toArray a.tmps) = true ∧ Yl P w ((execOp a.eval o).run P w) v) ∨ (Region.wanted o (yielded l.toArray a.tmps) = false ∧ v = undef)) ∧ At P l w ks vs (a.put o.dst v) b
  | _, _, _, _ => False
section
variable {l : List Oper} {w : World} {k : Nat} {ks : List Nat} {vs : List Value} {a b : Act} {o : Oper} {v : Value}
theorem rat {N : Act → Prop} (h : ∀ w', Keep w w' → At P l w' ks vs a b) (hN : N b) : PureList P l.toArray w N ks a := by
  induction ks generalizing vs a with
  | nil =>
    have := h w (KeepBut.refl _ _)
    cases vs with
    | nil => cases this; exact hN
    | cons v vs => exact this.elim
  | cons k ks ih =>
    have h0 := h w (KeepBut.refl _ _)
    cases vs with
    | nil => exact h0.elim
    | cons v vs =>
      obtain ⟨o, ho, hg, _⟩ := h0
      refine ⟨o, v, by simpa using ho, ?_, ih (vs := vs) (fun w' hk => ?_)⟩
      · refine hg.imp (fun hw => ⟨hw.1, fun w' hk => ?_⟩) id
        obtain ⟨o', ho', hg', _⟩ := h w' hk
        obtain rfl : o = o' := Option.some.inj (ho.symm.trans ho')
        rcases hg' with h' | h'
        · exact h'.2
        · rw [hw.1] at h'; cases h'.1
      · obtain ⟨o', ho', _, hr⟩ := h w' hk
        obtain rfl : o = o' := Option.some.inj (ho.symm.trans ho')
        exact hr
theorem rn : At P l w [] [] a a := rfl
theorem rv (h : At P l w ks vs (a.put o.dst v) b) (ho : l[k]? = some o) (hw : Region.wanted o (yielded l.toArray a.tmps) = true)
    (hv : (execOp a.eval o).run P w = .ok (.value v) w) : At P l w (k :: ks) (v :: vs) a b :=
  ⟨o, ho, .inl ⟨hw, .inl ⟨w, hv, KeepBut.refl _ _⟩⟩, h⟩
theorem rs (h : At P l w ks vs (a.put o.dst undef) b) (ho : l[k]? = some o) (hw : Region.wanted o (yielded l.toArray a.tmps) = false) : At P l w (k :: ks) (undef :: vs) a b :=
  ⟨o, ho, .inr ⟨hw, rfl⟩, h⟩
theorem rc {f : FuncId} {args : Array Value} (h : At P l w ks vs (a.put o.dst v) b) (ho : l[k]? = some o) (hw : Region.wanted o (yielded l.toArray a.tmps) = true)
    (hv : (execOp a.eval o).run P w = .ok (.enter f args) w)
    (hc : Calls P f args w fun e w'' => e = .returned v ∧ Below w.heap.size w w'') : At P l w (k :: ks) (v :: vs) a b :=
  ⟨o, ho, .inl ⟨hw, .inr (.inl ⟨f, args, w, hv, hc.mono fun _ _ ⟨he, hb⟩ => ⟨he, KeepBut.of_below' hb⟩⟩)⟩, h⟩
end
def NewBlock (w : World) (c : Array Value) (ty : TypeId) (v : Value) (w' : World) : Prop :=
  ∃ b, v = .pointer (some ⟨b, 0, none⟩) ∧ w.heap.size ≤ b ∧ w'.heap[b]? = some (.cells c ty (0, 0))
theorem NewBlock.keep {w : World} {c : Array Value} {ty : TypeId} {v : Value} {A B : World} (h : NewBlock w c ty v A) (hk : Keep A B) : NewBlock w c ty v B := by
  obtain ⟨b, e, hb, hc⟩ := h
  exact ⟨b, e, hb, (hk.block b (Array.getElem?_eq_some_iff.1 hc).1 id).trans hc⟩
theorem sure_new {w : World} {s : Sem Next} {c : Array Value} {ty : TypeId} (h : ∀ w', Keep w w' → s.run P w' = .ok (.value (.pointer (some ⟨w'.heap.size, 0, none⟩))) (w'.alloc (.cells c ty))) : SureSome P w s (NewBlock w c ty) :=
  fun w' hk => .inl ⟨_, _, h w' hk, (KeepBut.refl _ _).alloc _, w'.heap.size, rfl, hk.size, World.alloc_heap_new _ _⟩
theorem kfrozen {w w' : World} (hk : Keep w w') : ∀ b o, b < w.heap.size → w'.frozen? ⟨b, o, none⟩ = w.frozen? ⟨b, o, none⟩ := fun b o h => hk.frozen (p := ⟨b, o, none⟩) h id
theorem look {w w' : World} (hk : Keep w w') {p : Addr} {v : Value} (h : w.cell? p = some v) : w'.cell? p = some v := (hk.cell (lt_of_cell h) id).trans h
theorem KeepBut.whole {w w' : World} (hk : Keep w w') : Below w.heap.size w w' := hk.below (Nat.le_refl _) (fun _ h => h.elim)
theorem keepB {w w' : World} (h : Below w.heap.size w w') : Keep w w' := KeepBut.of_below' h
end
section
variable {P : Program} {ops : Array Oper} {Q : Exit → Act → World → Prop} {St : Nat → World → Prop} {cs : List Nat}
def YlTo (P : Program) (r : Result Next) (v : Value) (F : World → Prop) : Prop :=
  (∃ w'', r = .ok (.value v) w'' ∧ F w'') ∨ (∃ f args w1, r = .ok (.enter f args) w1 ∧ Calls P f args w1 fun e w'' => e = .returned v ∧ F w'')
theorem YlTo.wp {o : Oper} {a : Act} {v : Value} {F : World → Prop} {w' : World} (h : YlTo P ((execOp a.eval o).run P w') v F) {K : Act → World → Prop} (hK : ∀ w'', F w'' → K (a.put o.dst v) w'') : o.wp P a w' K Q := by
  unfold Oper.wp
  rcases h with ⟨w'', hr, hk⟩ | ⟨f, args, w1, hr, hc⟩
  · rw [hr]; exact hK _ hk
  · rw [hr]
    refine Calls.mono hc ?_
    rintro e w'' ⟨rfl, hk⟩
    exact hK _ hk
def Gets2 (P : Program) (ops : Array Oper) (St : Nat → World → Prop) (o : Oper) (a : Act) (v : Value) : Prop :=
  (Region.wanted o (yielded ops a.tmps) = true ∧ ∀ m w', St m w' → Yl P w' ((execOp a.eval o).run P w') v) ∨ (Region.wanted o (yielded ops a.tmps) = false ∧ v = undef)
def Link (P : Program) (ops : Array Oper) (St : Nat → World → Prop) (n : Nat) (o : Oper) (a : Act) (v : Value) : Prop :=
  Region.wanted o (yielded ops a.tmps) = true ∧ ∀ w', St n w' → YlTo P ((execOp a.eval o).run P w') v (St (n + 1))
def ChainList (P : Program) (ops : Array Oper) (St : Nat → World → Prop) (cs : List Nat) (N : Nat → Act → Prop) : List Nat → Nat → Act → Prop
  | [], n, a => N n a
  | k :: ks, n, a => ∃ o v, ops[k]? = some o ∧ ((cs.contains k = true ∧ Link P ops St n o a v ∧ ChainList P ops St cs N ks (n + 1) (a.put o.dst v)) ∨ (cs.contains k = false ∧ Gets2 P ops St o a v ∧ ChainList P ops St cs N ks n (a.put o.dst v)))
theorem ChainList.mono {N N' : Nat → Act → Prop} (h : ∀ n a, N n a → N' n a) : ∀ {ks : List Nat} {n : Nat} {a : Act}, ChainList P ops St cs N ks n a → ChainList P ops St cs N' ks n a
  | [], _, a, hh => h _ a hh
  | _ :: _, _, _, ⟨o, v, ho, hr⟩ => ⟨o, v, ho, hr.imp (fun ⟨c, g, r⟩ => ⟨c, g, ChainList.mono h r⟩) (fun ⟨c, g, r⟩ => ⟨c, g, ChainList.mono h r⟩)⟩
theorem Gets2.put {o : Oper} {a : Act} {v : Value} (hs : ∀ cs b, o.op ≠ .select cs b) {d : Option Tmp} (u : Value) (hd : ∀ t, d = some t → t ∉ o.looksAt ops) : Gets2 P ops St o (a.put d u) v ↔ Gets2 P ops St o a v := by
  unfold Gets2
  rw [wanted_put o a d u hd, execOp_put o hs a d u hd]
theorem Link.put {n : Nat} {o : Oper} {a : Act} {v : Value} (hs : ∀ cs b, o.op ≠ .select cs b) {d : Option Tmp} (u : Value) (hd : ∀ t, d = some t → t ∉ o.looksAt ops) : Link P ops St n o (a.put d u) v ↔ Link P ops St n o a v := by
  unfold Link
  rw [wanted_put o a d u hd, execOp_put o hs a d u hd]
theorem ChainList.swap {N : Nat → Act → Prop} (hsel : Region.noSelect ops = true) {i k : Nat} {l : List Nat} {n : Nat} {a : Act} (hap : apartAt ops i k = true) (hnc : ¬ (cs.contains i = true ∧ cs.contains k = true))
    (h : ChainList P ops St cs N (k :: i :: l) n a) : ChainList P ops St cs N (i :: k :: l) n a := by
  obtain ⟨ok, vk, hok, hk⟩ := h
  rcases hk with ⟨ck, gk, hr⟩ | ⟨ck, gk, hr⟩ <;> obtain ⟨oi, vi, hoi, hi⟩ := hr <;> obtain ⟨h1, h2, h3⟩ := Oper.apart_spec (apartAt_spec hoi hok hap) <;>
    have hsi := (fun c b => Region.noSelect_spec hsel i oi c b hoi) <;> have hsk := (fun c b => Region.noSelect_spec hsel k ok c b hok)
  · rcases hi with ⟨ci, gi, hr⟩ | ⟨ci, gi, hr⟩
    · exact absurd ⟨ci, ck⟩ hnc
    · exact ⟨oi, vi, hoi, .inr ⟨ci, (Gets2.put hsi vk h3).1 gi, ok, vk, hok, .inl ⟨ck, (Link.put hsk vi h1).2 gk, by rw [Act.put_comm a vi vk h2]; exact hr⟩⟩⟩
  · rcases hi with ⟨ci, gi, hr⟩ | ⟨ci, gi, hr⟩
    · exact ⟨oi, vi, hoi, .inl ⟨ci, (Link.put hsi vk h3).1 gi, ok, vk, hok, .inr ⟨ck, (Gets2.put hsk vi h1).2 gk, by rw [Act.put_comm a vi vk h2]; exact hr⟩⟩⟩
    · exact ⟨oi, vi, hoi, .inr ⟨ci, (Gets2.put hsi vk h3).1 gi, ok, vk, hok, .inr ⟨ck, (Gets2.put hsk vi h1).2 gk, by rw [Act.put_comm a vi vk h2]; exact hr⟩⟩⟩
theorem ChainList.first {N : Nat → Act → Prop} (hsel : Region.noSelect ops = true) {i : Nat} {l2 : List Nat} : ∀ {l1 : List Nat} {n : Nat} {a : Act}, (∀ k ∈ l1, apartAt ops i k = true ∧ ¬ (cs.contains i = true ∧ cs.contains k = true)) →
    ChainList P ops St cs N (l1 ++ i :: l2) n a → ChainList P ops St cs N (i :: (l1 ++ l2)) n a
  | [], _, _, _, h => h
  | k :: l1, _, _, hap, ⟨o, v, ho, hr⟩ => ChainList.swap hsel (hap k (by simp)).1 (hap k (by simp)).2 ⟨o, v, ho, hr.imp (fun ⟨c, g, r⟩ => ⟨c, g, ChainList.first hsel (fun j hj => hap j (by simp [hj])) r⟩) (fun ⟨c, g, r⟩ => ⟨c, g, ChainList.first hsel (fun j hj => hap j (by simp [hj])) r⟩)⟩
def linksOk (T : Array Nat) (cs : List Nat) : List Nat → Bool
  | [] => true
  | k :: ks => (ks.all fun i => !(cs.contains i && cs.contains k) || behind T i k) && linksOk T cs ks
theorem linksOk_spec {T : Array Nat} {i : Nat} {l2 : List Nat} : ∀ {l1 : List Nat}, linksOk T cs (l1 ++ i :: l2) = true → ∀ k ∈ l1, ¬ (cs.contains i = true ∧ cs.contains k = true) ∨ behind T i k = true
  | [], _, k, hk => by cases hk
  | k' :: l1, h, k, hk => by
    simp only [List.cons_append, linksOk, Bool.and_eq_true, List.all_eq_true] at h
    rcases List.mem_cons.1 hk with rfl | hk
    · have := h.1 i (by simp)
      simp only [Bool.or_eq_true, Bool.not_eq_true', Bool.and_eq_false_iff] at this
      rcases this with (h1 | h1) | h1
      · exact .inl (fun ⟨a, _⟩ => by rw [h1] at a; cases a)
      · exact .inl (fun ⟨_, a⟩ => by rw [h1] at a; cases a)
      · exact .inr h1
    · exact linksOk_spec h.2 k hk
theorem linksOk_erase {T : Array Nat} {i : Nat} : ∀ {ks : List Nat}, linksOk T cs ks = true → linksOk T cs (ks.erase i) = true
  | [], _ => rfl
  | k :: ks, h => by
    simp only [linksOk, Bool.and_eq_true, List.all_eq_true] at h
    by_cases e : k = i
    · subst e; simpa using h.2
    · rw [List.erase_cons_tail (by simpa using e)]
      simp only [linksOk, Bool.and_eq_true, List.all_eq_true]
      exact ⟨fun j hj => h.1 j (List.mem_of_mem_erase hj), linksOk_erase h.2⟩
theorem chain_sound {R : Exit → Act → World → Prop} {T : Array Nat} {ks ts : List Nat} (ok : RegionOk ops T ks [] ts) (hSt : ∀ n A B, St n A → Keep A B → St n B) (fuel : Nat) :
    ∀ (m : Nat) (rest : List Nat) (listed : Array Bool) (n : Nat) (a : Act) (w1 : World), rest.length = m → St n w1 → Todo ops T (ks ++ []) rest listed → pairsOk ops T rest = true → linksOk T cs rest = true →
      ChainList P ops St cs (fun n' a' => ∀ w', St n' w' → wpAny P .any ops R fuel (allListed ops (ks ++ [])) a' w') rest n a → wpAny P .any ops R (m + fuel) listed a w1 := by
  intro m
  induction m with
  | zero =>
    intro rest listed n a w1 hm hk ht _ _ h
    have : rest = [] := List.eq_nil_of_length_eq_zero hm
    subst this
    rw [ht.done, Nat.zero_add]
    exact h w1 hk
  | succ m ih =>
    intro rest listed n a w1 hm hk ht hp hl h
    have hne : rest ≠ [] := by intro e; subst e; simp at hm
    obtain ⟨hr, hall⟩ := ht.ready ok hne
    rw [show m + 1 + fuel = (m + fuel) + 1 from by omega]
    refine ⟨fun e => absurd e hr, fun i hi => ?_⟩
    have hir := hall i hi
    obtain ⟨l1, l2, rfl⟩ := List.append_of_mem hir
    have hnx := ht.next hi hir
    rw [erase_mid ht.nodup] at hnx
    have hp' : pairsOk ops T (l1 ++ l2) = true := by have := pairsOk_erase (i := i) hp; rwa [erase_mid ht.nodup] at this
    have hl' : linksOk T cs (l1 ++ l2) = true := by have := linksOk_erase (i := i) hl; rwa [erase_mid ht.nodup] at this
    obtain ⟨h0, hlt, hdeps⟩ := mem_ready'.1 hi
    have nb : ∀ k ∈ l1, ¬ behind T i k = true := fun k hk' hb => by
      have := behind_listed ok.table ok.lt ht.closed i k hlt hdeps hb
      have hkl := (ok.inside k (ht.sub k (by simp [hk']))).1
      rw [getD_any (by rw [ht.size]; exact hkl) false true, ht.iff k hkl] at this
      simp [hk'] at this
    have hap : ∀ k ∈ l1, apartAt ops i k = true ∧ ¬ (cs.contains i = true ∧ cs.contains k = true) := fun k hk' => ⟨(pairsOk_spec hp k hk').resolve_right (nb k hk'), (linksOk_spec hl k hk').resolve_right (nb k hk')⟩
    obtain ⟨o, v, ho, hg⟩ := ChainList.first ok.sel hap h
    have hlen : (l1 ++ l2).length = m := by simp at hm ⊢; omega
    unfold wpOp
    simp only [ho]
    rcases hg with ⟨_, ⟨hw, hs⟩, hrest⟩ | ⟨_, ⟨hw, hs⟩ | ⟨hw, rfl⟩, hrest⟩
    · rw [if_pos hw]
      exact .inl ((hs w1 hk).wp fun w'' hk'' => ih _ _ _ _ _ hlen hk'' hnx hp' hl' hrest)
    · rw [if_pos hw]
      exact .inl ((hs n w1 hk).wp fun w'' hk'' => ih _ _ _ _ _ hlen (hSt _ _ _ hk hk'') hnx hp' hl' hrest)
    · rw [if_neg (by simp [hw])]
      exact ih _ _ _ _ _ hlen hk hnx hp' hl' hrest
theorem wp_chain {R : Exit → Act → World → Prop} {id : Nat} {a : Act} {w : World} (ks cs : List Nat) (k : Nat) (St : Nat → World → Prop) (hm : P.follows .mixedOrders = true) (hok : regionOk ops (Region.before ops) ks [] (List.range' k (ops.size - k)) = true) (hlk : linksOk (Region.before ops) cs ks = true) (hsz : ops.size = ks.length + (ops.size - k))
    (hSt : ∀ n A B, St n A → Keep A B → St n B) (h0 : St 0 w)
    (h : ChainList P ops St cs (fun n' a' => ∀ w', St n' w' → wpList P ops R (ops.toList.drop k) a' w') ks 0 a) : (Code.region id ops true).wp P R a w := by
  have ok := regionOk_spec hok
  refine wp_region_any hm ?_
  have st := Todo.start ok
  have e := chain_sound (P := P) (cs := cs) (R := R) ok hSt (List.range' k (ops.size - k)).length ks.length ks (Array.replicate ops.size false) 0 a w.drew rfl (hSt _ _ _ h0 (KeepBut.refl _ w).drew) (by simpa using st) ok.pairs hlk ?_
  · rw [List.length_range', ← hsz] at e
    exact e
  refine ChainList.mono (fun n a' hN w' hk => ?_) h
  have := ok.tail
  exact tail_sound this ⟨_, range_drop k, hN w' hk⟩
end
section
variable {P : Program} {l : List Oper} {St : Nat → World → Prop} {cs : List Nat} {N : Nat → Act → Prop} {n k : Nat} {ks : List Nat} {a : Act} {o : Oper} {v : Value}
theorem cl_value (ho : l[k]? = some o) (hc : cs.contains k = false) (hw : Region.wanted o (yielded l.toArray a.tmps) = true)
    (hv : ∀ m w', St m w' → (execOp a.eval o).run P w' = .ok (.value v) w') (h : ChainList P l.toArray St cs N ks n (a.put o.dst v)) : ChainList P l.toArray St cs N (k :: ks) n a :=
  ⟨o, v, by simpa using ho, .inr ⟨hc, .inl ⟨hw, fun m w' hk => .inl ⟨w', hv m w' hk, KeepBut.refl _ _⟩⟩, h⟩⟩
theorem cl_skip (ho : l[k]? = some o) (hc : cs.contains k = false) (hw : Region.wanted o (yielded l.toArray a.tmps) = false)
    (h : ChainList P l.toArray St cs N ks n (a.put o.dst undef)) : ChainList P l.toArray St cs N (k :: ks) n a :=
  ⟨o, undef, by simpa using ho, .inr ⟨hc, .inr ⟨hw, rfl⟩, h⟩⟩
theorem cl_link {f : FuncId} {args : Array Value} (ho : l[k]? = some o) (hc : cs.contains k = true) (hw : Region.wanted o (yielded l.toArray a.tmps) = true)
    (hv : ∀ w', St n w' → (execOp a.eval o).run P w' = .ok (.enter f args) w') (hcl : ∀ w', St n w' → Calls P f args w' fun e w'' => e = .returned v ∧ St (n + 1) w'') (h : ChainList P l.toArray St cs N ks (n + 1) (a.put o.dst v)) : ChainList P l.toArray St cs N (k :: ks) n a :=
  ⟨o, v, by simpa using ho, .inl ⟨hc, ⟨hw, fun w' hk => .inr ⟨f, args, w', hv w' hk, hcl w' hk⟩⟩, h⟩⟩
theorem cl_nil {P : Program} {ops : Array Oper} (h : N n a) : ChainList P ops St cs N [] n a := h
end
section
variable {P : Program} {ops : Array Oper} {R : Exit → Act → World → Prop}
def LL (P : Program) (ops : Array Oper) (R : Exit → Act → World → Prop) (tops : List Oper) : List Nat → Act → World → Prop
  | [], a, w => ∀ w', Keep w w' → wpList P ops R tops a w'
  | l :: ls, a, w => ∃ ol, ops[l]? = some ol ∧ Region.wanted ol (yielded ops a.tmps) = true ∧ ∀ w', Keep w w' → YlSome P w' ((execOp a.eval ol).run P w') (fun v w'' => LL P ops R tops ls (a.put ol.dst v) w'')
theorem LL.keep {tops : List Oper} : ∀ {ls : List Nat} {a : Act} {w w' : World}, LL P ops R tops ls a w → Keep w w' → LL P ops R tops ls a w'
  | [], _, _, _, h, k => fun w'' k' => h w'' (k.trans k')
  | _ :: _, _, _, _, ⟨ol, h1, h2, h3⟩, k => ⟨ol, h1, h2, fun w'' k' => h3 w'' (k.trans k')⟩
theorem PureList.fix {w : World} {N : Act → Prop} : ∀ {ks : List Nat} {a : Act}, PureList P ops w N ks a → ∃ a', N a' ∧ PureList P ops w (fun b => b = a') ks a
  | [], a, h => ⟨a, h, rfl⟩
  | _ :: _, _, ⟨o, v, ho, hg, hr⟩ => by
    obtain ⟨a', hn, hp⟩ := PureList.fix hr
    exact ⟨a', hn, o, v, ho, hg, hp⟩
def lettersOk (T : Array Nat) : List Nat → Bool
  | [] => true
  | l :: ls => (ls.all fun j => behind T j l) && lettersOk T ls
theorem letters_sound {T : Array Nat} {ks ls ts : List Nat} (ok : RegionOk ops T ks ls ts) {tops : List Oper} (ht : ts.map (fun t => ops[t]?) = tops.map some) {w : World} :
    ∀ (m : Nat) (rest lrest : List Nat) (listed : Array Bool) (a a' : Act) (w1 : World), rest.length + lrest.length = m → Keep w w1 → Todo ops T (ks ++ ls) (rest ++ lrest) listed → (∀ k ∈ rest, k ∈ ks) → (∀ l ∈ lrest, l ∈ ls) → lettersOk T lrest = true → pairsOk ops T rest = true →
      PureList P ops w (fun b => b = a') rest a → LL P ops R tops lrest a' w1 → wpAny P .any ops R (m + ts.length) listed a w1 := by
  intro m
  induction m with
  | zero =>
    intro rest lrest listed a a' w1 hm hk htd _ _ _ _ hp hL
    have h1 : rest = [] := List.eq_nil_of_length_eq_zero (by omega)
    have h2 : lrest = [] := List.eq_nil_of_length_eq_zero (by omega)
    subst h1; subst h2
    obtain rfl : a = a' := hp
    rw [htd.done, Nat.zero_add]
    exact tail_sound ok.tail ⟨tops, ht, hL w1 (KeepBut.refl _ _)⟩
  | succ m ih =>
    intro rest lrest listed a a' w1 hm hk htd hsub hlsub hlo hp h hL
    obtain ⟨hr, hall⟩ := htd.ready ok (by intro e; obtain ⟨e1, e2⟩ := List.append_eq_nil_iff.1 e; rw [e1, e2] at hm; simp at hm)
    rw [show m + 1 + ts.length = (m + ts.length) + 1 from by omega]
    refine ⟨fun e => absurd e hr, fun i hi => ?_⟩
    have hir := hall i hi
    have hnx := htd.next hi hir
    obtain ⟨h0, hlt, hdeps⟩ := mem_ready'.1 hi
    have hnd := htd.nodup
    have notBehind : ∀ k, k ∈ rest ++ lrest → behind T i k = false := fun k hk' => by
      cases hb : behind T i k
      · rfl
      · have := behind_listed ok.table ok.lt htd.closed i k hlt hdeps hb
        have hkl := (ok.inside k (htd.sub k hk')).1
        rw [getD_any (by rw [htd.size]; exact hkl) false true, htd.iff k hkl] at this
        have hc : (rest ++ lrest).contains k = true := by simpa using hk'
        rw [hc] at this; simp at this
    by_cases hir' : i ∈ rest
    · obtain ⟨l1, l2, rfl⟩ := List.append_of_mem hir'
      have hnd1 := (List.nodup_append.1 hnd).1
      rw [List.erase_append_left _ hir', erase_mid hnd1] at hnx
      have hp' : pairsOk ops T (l1 ++ l2) = true := by have := pairsOk_erase (i := i) hp; rwa [erase_mid hnd1] at this
      have hap : ∀ k ∈ l1, apartAt ops i k = true := fun k hk' => (pairsOk_spec hp k hk').resolve_right fun hb => by rw [notBehind k (by simp [hk'])] at hb; cases hb
      obtain ⟨o, v, ho, hg, hrest⟩ := PureList.first ok.sel hap h
      have hlen : (l1 ++ l2).length + lrest.length = m := by simp at hm ⊢; omega
      have hsub' : ∀ k ∈ l1 ++ l2, k ∈ ks := fun k hk' => hsub k (by simp at hk' ⊢; exact hk'.imp id .inr)
      unfold wpOp
      simp only [ho]
      rcases hg with ⟨hw, hs⟩ | ⟨hw, rfl⟩
      · rw [if_pos hw]
        exact .inl ((hs w1 hk).wp fun w'' hk'' => ih _ _ _ _ _ _ hlen (hk.trans hk'') hnx hsub' hlsub hlo hp' hrest (hL.keep hk''))
      · rw [if_neg (by simp [hw])]
        exact ih _ _ _ _ _ _ hlen hk hnx hsub' hlsub hlo hp' hrest hL
    · have hil : i ∈ lrest := (List.mem_append.1 hir).resolve_left hir'
      cases lrest with
      | nil => cases hil
      | cons l lr =>
        simp only [lettersOk, Bool.and_eq_true, List.all_eq_true] at hlo
        have hil : i = l := by
          rcases List.mem_cons.1 hil with e | e
          · exact e
          · have := hlo.1 i e
            rw [notBehind l (by simp)] at this; cases this
        subst hil
        have hap : ∀ k ∈ rest, apartAt ops i k = true := fun k hk' => (ok.letter i (hlsub i (by simp)) k (hsub k hk')).resolve_right fun hb => by rw [notBehind k (by simp [hk'])] at hb; cases hb
        rw [List.erase_append_right _ hir'] at hnx
        simp at hnx
        obtain ⟨ol, hol, hw, hs⟩ := hL
        obtain ⟨a'', rfl, he, hw'⟩ := PureList.seen ok.sel hol hap h
        unfold wpOp
        simp only [hol]
        rw [if_pos (by rw [← hw']; exact hw)]
        rw [he] at hs
        refine .inl ((hs w1 (KeepBut.refl _ _)).wp fun v w'' hk'' hL'' => ?_)
        refine ih rest lr _ _ _ w'' (by simp at hm; omega) (hk.trans hk'') hnx hsub (fun l hl => hlsub l (by simp [hl])) hlo.2 hp ?_ hL''
        refine PureList.mono ?_ (PureList.putIn ok.sel hol v hap h)
        rintro b ⟨b', rfl, rfl⟩
        rfl
theorem wp_letters {id : Nat} {a : Act} {w : World} (ks ls : List Nat) (k : Nat) (hm : P.follows .mixedOrders = true) (hok : regionOk ops (Region.before ops) ks ls (List.range' k (ops.size - k)) = true) (hlk : lettersOk (Region.before ops) ls = true) (hsz : ops.size = ks.length + ls.length + (ops.size - k))
    (h : PureList P ops w (fun a' => LL P ops R (ops.toList.drop k) ls a' w) ks a) : (Code.region id ops true).wp P R a w := by
  have ok := regionOk_spec hok
  refine wp_region_any hm ?_
  have st := Todo.start ok
  obtain ⟨a', hL, hp⟩ := PureList.fix h
  have kd : Keep w w.drew := ⟨rfl, rfl, rfl, Nat.le_refl _, fun _ _ _ => rfl⟩
  have e := letters_sound (P := P) (R := R) ok (range_drop k) (w := w) (ks.length + ls.length) ks ls (Array.replicate ops.size false) a a' w.drew rfl kd st (fun _ h => h) (fun _ h => h) hlk ok.pairs hp (hL.keep kd)
  rw [List.length_range', ← hsz] at e
  exact e
end
section
variable {P : Program} {R : Exit → Act → World → Prop} {l : List Oper} {w : World} {k : Nat} {ls : List Nat} {a : Act} {o : Oper} {tops : List Oper}
theorem ll_call {f : FuncId} {args : Array Value} (ho : l[k]? = some o) (hw : Region.wanted o (yielded l.toArray a.tmps) = true)
    (hv : ∀ w', Keep w w' → (execOp a.eval o).run P w' = .ok (.enter f args) w') (hc : ∀ w', Keep w w' → Calls P f args w' fun e w'' => ∃ v, e = .returned v ∧ Keep w' w'' ∧ LL P l.toArray R tops ls (a.put o.dst v) w'') : LL P l.toArray R tops (k :: ls) a w :=
  ⟨o, by simpa using ho, hw, fun w' hk => .inr ⟨f, args, w', hv w' hk, hc w' hk⟩⟩
theorem ll_value (ho : l[k]? = some o) (hw : Region.wanted o (yielded l.toArray a.tmps) = true)
    (hv : ∀ w', Keep w w' → ∃ v w'', (execOp a.eval o).run P w' = .ok (.value v) w'' ∧ Keep w' w'' ∧ LL P l.toArray R tops ls (a.put o.dst v) w'') : LL P l.toArray R tops (k :: ls) a w :=
  ⟨o, by simpa using ho, hw, fun w' hk => .inl (hv w' hk)⟩
end
section
variable {P : Program} {ops : Array Oper} {Q : Exit → Act → World → Prop}
theorem PureList.base {w w' : World} {N : Act → Prop} (hk : Keep w w') : ∀ {ks : List Nat} {a : Act}, PureList P ops w N ks a → PureList P ops w' N ks a
  | [], _, h => h
  | _ :: _, _, ⟨o, v, ho, hg, hr⟩ => ⟨o, v, ho, hg.imp (fun ⟨hw, hs⟩ => ⟨hw, fun w2 h2 => hs w2 (hk.trans h2)⟩) id, PureList.base hk hr⟩
theorem PureList.append {w : World} {N : Act → Prop} {l2 : List Nat} : ∀ {l1 : List Nat} {a : Act}, PureList P ops w (fun a' => PureList P ops w N l2 a') l1 a → PureList P ops w N (l1 ++ l2) a
  | [], _, h => h
  | _ :: _, _, ⟨o, v, ho, hg, hr⟩ => ⟨o, v, ho, hg, PureList.append hr⟩
theorem letterP_sound {R : Exit → Act → World → Prop} {T : Array Nat} {ks ks2 ts : List Nat} {l : Nat} (ok : RegionOk ops T (ks ++ l :: ks2) [] ts) {w : World} {F : Value → World → Prop} (fuel : Nat) {ol : Oper} (hol : ops[l]? = some ol) (hbeh : ∀ k ∈ ks2, behind T k l = true) :
    ∀ (m : Nat) (rest : List Nat) (listed : Array Bool) (a : Act) (w1 : World), rest.length = m → Keep w w1 → Todo ops T ((ks ++ l :: ks2) ++ []) (rest ++ l :: ks2) listed → pairsOk ops T (rest ++ l :: ks2) = true →
      PureList P ops w (fun a' => Region.wanted ol (yielded ops a'.tmps) = true ∧ SureSome P w (execOp a'.eval ol) F ∧ ∀ v w', Keep w w' → F v w' → PureList P ops w' (fun a'' => ∀ w'', Keep w' w'' → wpAny P .any ops R fuel (allListed ops ((ks ++ l :: ks2) ++ [])) a'' w'') ks2 (a'.put ol.dst v)) rest a →
      wpAny P .any ops R (m + ks2.length + 1 + fuel) listed a w1 := by
  intro m
  induction m using Nat.strongRecOn with
  | _ m ih =>
    intro rest listed a w1 hm hk ht hp h
    obtain ⟨hr, hall⟩ := ht.ready ok (by simp)
    rw [show m + ks2.length + 1 + fuel = (m + ks2.length + fuel) + 1 from by omega]
    refine ⟨fun e => absurd e hr, fun i hi => ?_⟩
    have hir := hall i hi
    have hnx := ht.next hi hir
    obtain ⟨h0, hlt, hdeps⟩ := mem_ready'.1 hi
    have hnd := ht.nodup
    have notBehind : ∀ k, k ∈ rest ++ l :: ks2 → behind T i k = false := fun k hk' => by
      cases hb : behind T i k
      · rfl
      · have := behind_listed ok.table ok.lt ht.closed i k hlt hdeps hb
        have hkl := (ok.inside k (ht.sub k hk')).1
        rw [getD_any (by rw [ht.size]; exact hkl) false true, ht.iff k hkl] at this
        have hc : (rest ++ l :: ks2).contains k = true := by simpa using hk'
        rw [hc] at this; simp at this
    have hlr : l ∉ rest := fun hl => by
      have := (List.nodup_append.1 hnd).2.2 l hl l (by simp); exact this rfl
    by_cases hil : i = l
    · subst hil
      have hap : ∀ k ∈ rest, apartAt ops i k = true := fun k hk' => (pairsOk_spec hp k hk').resolve_right fun hb => by rw [notBehind k (by simp [hk'])] at hb; cases hb
      rw [erase_mid hnd] at hnx
      have hp' : pairsOk ops T (rest ++ ks2) = true := by have := pairsOk_erase (i := i) hp; rwa [erase_mid hnd] at this
      obtain ⟨a', ⟨hw, hs, _⟩, he, hw'⟩ := PureList.seen ok.sel hol hap h
      unfold wpOp
      simp only [hol]
      rw [if_pos (by rw [← hw']; exact hw)]
      rw [he] at hs
      refine .inl ((hs w1 hk).wp fun v w'' hk'' hF'' => ?_)
      have hkw : Keep w w'' := hk.trans hk''
      refine pure_sound ok (w := w'') (F := fun _ => True) (fun _ _ _ _ => trivial) fuel (m + ks2.length) (rest ++ ks2) _ _ _ (by simp [hm]) (KeepBut.refl _ _) trivial hnx hp' ?_
      refine PureList.append (PureList.mono ?_ (PureList.base hkw (PureList.putIn ok.sel hol v hap h)))
      rintro a'' ⟨a', ⟨_, _, hN⟩, rfl⟩
      exact PureList.mono (fun a3 h3 w3 hk3 _ => h3 w3 hk3) (hN v w'' hkw hF'')
    · have hi2 : i ∉ ks2 := fun q => by
        have := hbeh i q
        rw [notBehind l (by simp)] at this
        cases this
      have hir' : i ∈ rest := by simpa [hil, hi2] using hir
      obtain ⟨l1, l2, rfl⟩ := List.append_of_mem hir'
      have hnd1 := (List.nodup_append.1 hnd).1
      rw [List.erase_append_left _ hir', erase_mid hnd1] at hnx
      have hp' : pairsOk ops T ((l1 ++ l2) ++ l :: ks2) = true := by
        have := pairsOk_erase (i := i) hp
        rwa [List.erase_append_left _ hir', erase_mid hnd1] at this
      have hap : ∀ k ∈ l1, apartAt ops i k = true := fun k hk' => (pairsOk_spec (l1 := l1) (l2 := l2 ++ l :: ks2) (by simpa using hp) k hk').resolve_right fun hb => by rw [notBehind k (by simp [hk'])] at hb; cases hb
      obtain ⟨o, v, ho, hg, hrest⟩ := PureList.first ok.sel hap h
      have hlen : (l1 ++ l2).length + 1 = m := by simp at hm ⊢; omega
      rw [show m + ks2.length + fuel = (l1 ++ l2).length + ks2.length + 1 + fuel from by omega]
      unfold wpOp
      simp only [ho]
      rcases hg with ⟨hw, hs⟩ | ⟨hw, rfl⟩
      · rw [if_pos hw]
        exact .inl ((hs w1 hk).wp fun w'' hk'' => ih _ (by omega) _ _ _ _ rfl (hk.trans hk'') hnx hp' hrest)
      · rw [if_neg (by simp [hw])]
        exact ih _ (by omega) _ _ _ _ rfl hk hnx hp' hrest
theorem wp_letterP {R : Exit → Act → World → Prop} {id : Nat} {a : Act} {w : World} (ks : List Nat) (l : Nat) (ks2 : List Nat) (k : Nat) (F : Value → World → Prop) {ol : Oper} (hol : ops[l]? = some ol) (hm : P.follows .mixedOrders = true) (hok : regionOk ops (Region.before ops) (ks ++ l :: ks2) [] (List.range' k (ops.size - k)) = true)
    (hbeh : (ks2.all fun j => behind (Region.before ops) j l) = true) (hsz : ops.size = ks.length + ks2.length + 1 + (ops.size - k))
    (h : PureList P ops w (fun a' => Region.wanted ol (yielded ops a'.tmps) = true ∧ SureSome P w (execOp a'.eval ol) F ∧ ∀ v w', Keep w w' → F v w' → PureList P ops w' (fun a'' => ∀ w'', Keep w' w'' → wpList P ops R (ops.toList.drop k) a'' w'') ks2 (a'.put ol.dst v)) ks a) : (Code.region id ops true).wp P R a w := by
  have ok := regionOk_spec hok
  refine wp_region_any hm ?_
  rw [hsz]
  have st := Todo.start ok
  have ht := range_drop (ops := ops) k
  refine letterP_sound (w := w) (F := F) ok (ops.size - k) hol (fun j hj => List.all_eq_true.1 hbeh j hj) ks.length ks _ a _ rfl ⟨rfl, rfl, rfl, Nat.le_refl _, fun _ _ _ => rfl⟩ (by rw [hsz] at st; simpa using st) ok.pairs ?_
  refine PureList.mono (fun a' ⟨hw, hs, hN⟩ => ⟨hw, hs, fun v w' hk hf => PureList.mono (fun a'' h3 w3 hk3 => ?_) (hN v w' hk hf)⟩) h
  have := tail_sound ok.tail ⟨_, ht, h3 w3 hk3⟩
  simpa using this
end
end Go.Proofs.YtjibbchfndhhpaaGreatDoor
