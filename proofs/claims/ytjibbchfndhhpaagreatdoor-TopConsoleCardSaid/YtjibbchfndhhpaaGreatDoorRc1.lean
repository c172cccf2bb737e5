/- What the statement's proof stands on, part 1: Iter, IterG, IterA, IterT. -/
import Derived.RangeFuncNested
import Derived.RangeFuncBound
import Derived.RangeFuncCalls
import Derived.RangeFuncLeaves
import Derived.WalkKit
set_option linter.unusedSimpArgs false
set_option linter.unusedVariables false
set_option maxRecDepth 100000
set_option maxHeartbeats 4000000
namespace Go.Proofs.YtjibbchfndhhpaaGreatDoor
open Go.RowKit
structure KeepBut (X : Nat → Prop) (w w' : World) : Prop where
  os : w'.os = w.os
  tape : w'.tape = w.tape
  output : w'.output = w.output
  size : w.heap.size ≤ w'.heap.size
  block : ∀ k, k < w.heap.size → ¬ X k → w'.heap[k]? = w.heap[k]?
theorem KeepBut.refl (X : Nat → Prop) (w : World) : KeepBut X w w := ⟨rfl, rfl, rfl, Nat.le_refl _, fun _ _ _ => rfl⟩
theorem KeepBut.trans {X : Nat → Prop} {a b c : World} (h : KeepBut X a b) (k : KeepBut X b c) : KeepBut X a c :=
  ⟨k.os.trans h.os, k.tape.trans h.tape, k.output.trans h.output, Nat.le_trans h.size k.size, fun i hi hx => (k.block i (Nat.lt_of_lt_of_le hi h.size) hx).trans (h.block i hi hx)⟩
theorem KeepBut.mono {X Y : Nat → Prop} {a b : World} (h : KeepBut X a b) (hXY : ∀ k, k < a.heap.size → X k → Y k) : KeepBut Y a b :=
  ⟨h.os, h.tape, h.output, h.size, fun i hi hx => h.block i hi (fun hh => hx (hXY i hi hh))⟩
theorem KeepBut.of_below {X : Nat → Prop} {B : Nat} {a b : World} (h : Below B a b) (hX : ∀ k, k < a.heap.size → B ≤ k → X k) : KeepBut X a b :=
  ⟨h.os, h.tape, h.output, h.size, fun i hi hx => h.block i (by rcases Nat.lt_or_ge i B with g | g; exact g; exact (hx (hX i hi g)).elim)⟩
theorem KeepBut.of_below' {X : Nat → Prop} {a b : World} (h : Below a.heap.size a b) : KeepBut X a b := .of_below h (fun k hk hb => by omega)
theorem KeepBut.below {X : Nat → Prop} {B : Nat} {a b : World} (h : KeepBut X a b) (hB : B ≤ a.heap.size) (hX : ∀ k, X k → B ≤ k) : Below B a b :=
  ⟨h.os, h.tape, h.output, h.size, fun i hi => h.block i (Nat.lt_of_lt_of_le hi hB) (fun hh => by have := hX i hh; omega)⟩
theorem KeepBut.cell {X : Nat → Prop} {w w' : World} (h : KeepBut X w w') {p : Addr} (hp : p.block < w.heap.size) (hx : ¬ X p.block) : w'.cell? p = w.cell? p := World.cell?_of_block (w := w) (h.block p.block hp hx)
theorem KeepBut.frozen {X : Nat → Prop} {w w' : World} (h : KeepBut X w w') {p : Addr} (hp : p.block < w.heap.size) (hx : ¬ X p.block) : w'.frozen? p = w.frozen? p := World.frozen?_of_block (w := w) (h.block p.block hp hx)
theorem KeepBut.putObj {X : Nat → Prop} {w : World} {l : Nat} (o : Obj) (hl : X l) : KeepBut X w (w.putObj l o) :=
  ⟨rfl, rfl, rfl, by simp, fun k _ hk => World.putObj_heap_other (fun e => hk (e ▸ hl))⟩
theorem KeepBut.setCell {X : Nat → Prop} {a w : World} (h : KeepBut X a w) {p : Addr} (hp : X p.block) (u : Value) : KeepBut X a (w.setCell p u) :=
  h.trans ⟨rfl, rfl, rfl, by simp [World.setCell], fun k _ hk => Below.heap_setCell _ _ _ _ (fun e => hk (e ▸ hp))⟩
theorem KeepBut.alloc {X : Nat → Prop} {a w : World} (h : KeepBut X a w) (o : Obj) : KeepBut X a (w.alloc o) :=
  h.trans ⟨rfl, rfl, rfl, by simp, fun k hk _ => Below.heap_alloc _ _ _ hk⟩
theorem KeepBut.drew {X : Nat → Prop} {a w : World} (h : KeepBut X a w) : KeepBut X a w.drew := ⟨h.os, h.tape, h.output, h.size, h.block⟩
theorem lt_of_cell {w : World} {p : Addr} {v : Value} (h : w.cell? p = some v) : p.block < w.heap.size := by
  unfold World.cell? at h
  cases ho : w.heap[p.block]? with
  | none => simp [ho] at h
  | some o => exact (Array.getElem?_eq_some_iff.1 ho).1
def Closed {β : Type} (Z : Nat → Prop) (J : β → World → Prop) : Prop := ∀ s W W', J s W → KeepBut Z W W' → J s W'
def Tells {α : Type} (P : Program) (gf : Nat) (lb : Array Value) (encs : α → Array Value) (xs : List α) (X Y : Nat → Prop) (w : World) : Prop :=
  ∀ (n : Nat) (l : Nat) (J Jx : List α → World → Prop) (W : World), KeepBut (fun _ => False) w W → w.heap.size ≤ l → l < W.heap.size → Closed (fun k => Y k ∨ W.heap.size ≤ k) J → Closed (fun k => Y k ∨ W.heap.size ≤ k) Jx →
    (∀ pre x suf W1, xs = pre ++ x :: suf → J pre W1 → YieldAt Fence.wide n P l (encs x) W1 fun e W' =>
      (e = .returned (.bool true) ∧ J (pre ++ [x]) W' ∧ KeepBut X W1 W') ∨ (e = .returned (.bool false) ∧ Jx (pre ++ [x]) W' ∧ KeepBut (fun k => X k ∨ k = l) W1 W')) →
    J [] W →
    CallsIn Fence.wide (n + 1) P gf (#[.func (.yield l) #[] #[]] ++ lb) W fun e W' => (∃ v, e = .returned v) ∧ (J xs W' ∨ ∃ pre, pre <+: xs ∧ Jx pre W')
def tellPost {α : Type} (X : Nat → Prop) (I : List α → World → Prop) (Ix : Code → List α → World → Prop) (pre : List α) (W : World) : Exit → Act → World → Prop
  | .normal, _, W' => KeepBut X W W' ∧ I pre W'
  | .ret, _, W' => KeepBut X W W' ∧ Ix .ret pre W'
  | .exit id, _, W' => KeepBut X W W' ∧ Ix (.exit id) pre W'
  | .goto t, _, W' => KeepBut X W W' ∧ Ix (.goto t) pre W'
  | .panic _, _, _ => False
  | .outgrown, _, _ => False
theorem wp_tells {α : Type} {P : Program} {n : Nat} {g : Operand} {ps : Array Tmp} {assign body : Code} {Q : Exit → Act → World → Prop} {a : Act} {w : World}
    {gf : Nat} {lb : Array Value} (hg : a.eval g = .func (.func gf) #[] lb) (eg : ∀ args w, (callFunc gf args).run P w = .ok (.enter gf args) w)
    {encs : α → Array Value} {xs : List α} {X Y : Nat → Prop} (hseq : Tells P gf lb encs xs X Y w)
    (hX : ∀ k, X k → k < w.heap.size) (hY : ∀ k, Y k → k < w.heap.size) (hps : ∀ x, (encs x).size = ps.size)
    (I : List α → World → Prop) (Ix : Code → List α → World → Prop) (hI : Closed (fun k => Y k ∨ w.heap.size ≤ k) I) (hIx : ∀ c, Closed (fun k => Y k ∨ w.heap.size ≤ k) (Ix c)) (h0 : I [] w) (a₁ : α → Act)
    (IA : List α → α → World → Prop) (hIA : ∀ pre x W W', IA pre x W → KeepBut (fun k => w.heap.size ≤ k) W W' → IA pre x W')
    (hassign : ∀ (l : Nat) (pre : List α) (x : α) (suf : List α) (W : World), xs = pre ++ x :: suf → w.heap.size < W.heap.size → I pre W → ∀ K : Act → World → Prop, (∀ W', KeepBut X W W' → IA pre x W' → K (a₁ x) W') →
      assign.wpIn (Fence.wide.inRound l) n P (Exit.then K (fun _ _ _ => False)) { tmps := (ps.zip (encs x)).foldl (fun t (p, v) => t.setIfInBounds p v) a.tmps, defers := [] } W)
    (hbody : ∀ (l : Nat) (pre : List α) (x : α) (suf : List α) (W : World), xs = pre ++ x :: suf → w.heap.size < W.heap.size → IA pre x W → body.wpIn (Fence.wide.inRound l) n P (tellPost X I Ix (pre ++ [x]) W) (a₁ x) W)
    (hdone : ∀ (D : Nat) (W : World), w.heap.size ≤ D → I xs W → W.heap[D]? = some (.deferred (some [])) → Q .normal { a with defers := { target := .collected D, args := #[] } :: a.defers } W)
    (hstop : ∀ (D : Nat) (c : Code) (pre : List α) (W : World), w.heap.size ≤ D → pre <+: xs → Ix c pre W → W.heap[D]? = some (.deferred (some [])) → c.wpIn Fence.wide (n + 2) P Q { a with defers := { target := .collected D, args := #[] } :: a.defers } W) :
    (Code.rangeFunc g ps assign body).wpIn Fence.wide (n + 2) P Q a w := by
  refine wpIn_rangeFunc ?_
  intro fn hfn
  obtain ⟨rec, hrec⟩ : ∃ rec : LoopState → Option Code → Loop, rec = fun st pe => { state := st, pending := pe, fn, tmps := a.tmps, params := ps, assign, body, defers := w.heap.size } := ⟨_, rfl⟩
  obtain ⟨W1, hW1⟩ : ∃ W1, (w.alloc (.deferred (some []))).alloc (.loop (rec .ready none)) = W1 := ⟨_, rfl⟩
  have hz1 : W1.heap.size = w.heap.size + 2 := by rw [← hW1]; simp
  have hL1 : W1.heap[w.heap.size + 1]? = some (.loop (rec .ready none)) := by
    rw [← hW1]; have := World.alloc_heap_new (w.alloc (.deferred (some []))) (.loop (rec .ready none)); rwa [World.size_alloc] at this
  have hK1 : W1.heap[w.heap.size]? = some (.deferred (some [])) := by
    rw [← hW1]; exact (Below.heap_alloc _ _ _ (by simp)).trans (World.alloc_heap_new w _)
  have hkw : KeepBut (fun _ => False) w W1 := by rw [← hW1]; exact ((KeepBut.refl _ w).alloc _).alloc _
  have hI1 : I [] W1 := hI _ _ _ h0 (hkw.mono fun _ _ h => h.elim)
  -- the loop's own two blocks stay, whatever the iterator writes
  have two : ∀ {Z : Nat → Prop} {A B : World} {o1 o2 : Obj}, (∀ k, Z k → k < w.heap.size ∨ W1.heap.size ≤ k) → KeepBut Z A B → A.heap[w.heap.size + 1]? = some o1 → A.heap[w.heap.size]? = some o2 →
      B.heap[w.heap.size + 1]? = some o1 ∧ B.heap[w.heap.size]? = some o2 := by
    intro Z A B o1 o2 hZ hk h1 h2
    have l1 := (Array.getElem?_eq_some_iff.1 h1).1
    exact ⟨(hk.block _ l1 (fun h => by have := hZ _ h; omega)).trans h1, (hk.block _ (by omega) (fun h => by have := hZ _ h; omega)).trans h2⟩
  have hZ : ∀ k, (Y k ∨ W1.heap.size ≤ k) → k < w.heap.size ∨ W1.heap.size ≤ k := fun k h => h.imp (hY k) id
  have hwk : ∀ {k}, (Y k ∨ W1.heap.size ≤ k) → (Y k ∨ w.heap.size ≤ k) := fun h => h.imp id (by omega)
  have hput : ∀ {A : World} (o : Obj), KeepBut (fun k => Y k ∨ w.heap.size ≤ k) A (A.putObj (w.heap.size + 1) o) := fun o => .putObj o (.inr (by omega))
  refine ⟨w.heap.size + 1, [{ target := .collected w.heap.size, args := #[] }], W1, { target := .fn (.func gf) lb, args := #[.func (.yield (w.heap.size + 1)) #[] #[]] }, W1, gf,
    #[.func (.yield (w.heap.size + 1)) #[] #[]] ++ lb, W1, ?_, ?_, ?_, ?_, ?_, ?_⟩
  · rw [← hW1, hrec]; exact run_enterLoop_outer _ _ _ _ _
  · simp only [resolve, hg]
    simp [go_sem]
  · intro f' _; trivial
  · simp [invoke, go_sem, eg]
  · intro h; simp [Fence.wide] at h
  · refine (hseq n (w.heap.size + 1)
      (fun pre W => I pre W ∧ W.heap[w.heap.size + 1]? = some (.loop (rec .ready none)) ∧ W.heap[w.heap.size]? = some (.deferred (some [])))
      (fun pre W => ∃ c, Ix c pre W ∧ W.heap[w.heap.size + 1]? = some (.loop (rec .done (some c))) ∧ W.heap[w.heap.size]? = some (.deferred (some [])))
      W1 hkw (by omega) (by omega)
      (fun s A B hs hk => ⟨hI s A B hs.1 (hk.mono fun _ _ => hwk), two hZ hk hs.2.1 hs.2.2⟩)
      (fun s A B hs hk => by obtain ⟨c, hc, h1, h2⟩ := hs; exact ⟨c, hIx c s A B hc (hk.mono fun _ _ => hwk), two hZ hk h1 h2⟩)
      ?_ ⟨hI1, hL1, hK1⟩).mono ?_
    · rintro pre x suf W hsuf ⟨hi, hl, hk⟩
      have hlt : w.heap.size + 1 < W.heap.size := (Array.getElem?_eq_some_iff.1 hl).1
      have hy := run_yield (P := P) (args := encs x) hl (by rw [hrec]; exact hps x)
      rw [hrec] at hy
      refine ⟨fn, _, assign, body, hy, roundIn_of_wpIn hfn (hassign _ pre x suf W hsuf (by omega) hi _ fun W9 hk9 hi9 => ?_)⟩
      obtain ⟨hl9, hk9'⟩ := two (fun k h => .inl (hX k h)) hk9 hl hk
      refine ⟨_, run_beginRound hl9 (by rw [hrec]), ?_⟩
      obtain ⟨V, hV⟩ : ∃ V, W9.putObj (w.heap.size + 1) (.loop { rec .ready none with state := .busy }) = V := ⟨_, rfl⟩
      rw [hV]
      have hl2 : V.heap[w.heap.size + 1]? = some (.loop { rec .ready none with state := .busy }) := by rw [← hV]; exact World.putObj_heap_same (Nat.lt_of_lt_of_le hlt hk9.size)
      have hk2 : V.heap[w.heap.size]? = some (.deferred (some [])) := by rw [← hV]; exact (World.putObj_heap_other (by omega)).trans hk9'
      have hi2 : IA pre x V := by rw [← hV]; exact hIA _ _ _ _ hi9 (.putObj _ (by omega))
      have hVs : W.heap.size ≤ V.heap.size := by rw [← hV]; simpa using hk9.size
      refine wpIn_mono (hbody _ pre x suf V hsuf (by omega) hi2) ?_
      have fin : ∀ (jump : Option Code) (W3 : World), KeepBut X V W3 →
          (Instr.endRound (w.heap.size + 1) jump).run P W3 = .ok (.bool jump.isNone) (W3.putObj (w.heap.size + 1) (.loop (rec (if jump.isNone then .ready else .done) jump))) ∧
          (W3.putObj (w.heap.size + 1) (.loop (rec (if jump.isNone then .ready else .done) jump))).heap[w.heap.size + 1]? = some (.loop (rec (if jump.isNone then .ready else .done) jump)) ∧
          (W3.putObj (w.heap.size + 1) (.loop (rec (if jump.isNone then .ready else .done) jump))).heap[w.heap.size]? = some (.deferred (some [])) ∧
          KeepBut (fun k => X k ∨ k = w.heap.size + 1) W (W3.putObj (w.heap.size + 1) (.loop (rec (if jump.isNone then .ready else .done) jump))) ∧
          (jump = none → KeepBut X W (W3.putObj (w.heap.size + 1) (.loop (rec (if jump.isNone then .ready else .done) jump)))) := fun jump W3 hk3 => by
        obtain ⟨h1, h2⟩ := two (fun k h => .inl (hX k h)) hk3 hl2 hk2
        have hrun := run_endRound (P := P) jump h1
        have hsz := (Array.getElem?_eq_some_iff.1 h1).1
        have e1 := World.putObj_heap_same (w := W3) (o := .loop (rec (if jump.isNone then .ready else .done) jump)) hsz
        have e2 := (World.putObj_heap_other (w := W3) (r := w.heap.size + 1) (k := w.heap.size) (o := .loop (rec (if jump.isNone then .ready else .done) jump)) (by omega)).trans h2
        rw [hrec] at hrun ⊢
        rw [hrec] at e1 e2
        have e0 : ∀ k, k ≠ w.heap.size + 1 → k < W.heap.size → ¬ X k → (W3.putObj (w.heap.size + 1) (.loop ((fun st pe => ({ state := st, pending := pe, fn, tmps := a.tmps, params := ps, assign, body, defers := w.heap.size } : Loop)) (if jump.isNone then .ready else .done) jump))).heap[k]? = W.heap[k]? := by
          intro k hkl hk hx
          rw [World.putObj_heap_other (fun e => hkl e), hk3.block k (by omega) hx, ← hV, World.putObj_heap_other (fun e => hkl e), hk9.block k hk hx]
        have hos := hk3.os.trans (show V.os = W.os by rw [← hV]; exact hk9.os)
        have htp := hk3.tape.trans (show V.tape = W.tape by rw [← hV]; exact hk9.tape)
        have hou := hk3.output.trans (show V.output = W.output by rw [← hV]; exact hk9.output)
        have hzz := hk3.size
        refine ⟨hrun, e1, e2, ⟨hos, htp, hou, by simp; omega, fun k hk hx => e0 k (fun e => hx (.inr e)) hk (fun h => hx (.inl h))⟩, ?_⟩
        rintro rfl
        refine ⟨hos, htp, hou, by simp; omega, fun k hk hx => ?_⟩
        by_cases hkl : k = w.heap.size + 1
        · subst hkl; rw [hl, hrec]; exact e1
        · exact e0 k hkl hk hx
      rintro e a3 W3 hp
      cases e with
      | normal =>
        obtain ⟨hk3, hi3⟩ := hp
        obtain ⟨hr, hl4, hk4, _, hkp⟩ := fin none W3 hk3
        exact ⟨_, _, hr, .inl ⟨rfl, ⟨hI _ _ _ hi3 (hput _), hl4, hk4⟩, hkp rfl⟩⟩
      | ret =>
        obtain ⟨hk3, hi3⟩ := hp
        obtain ⟨hr, hl4, hk4, hkp, _⟩ := fin (some .ret) W3 hk3
        exact ⟨_, _, hr, .inr ⟨rfl, ⟨.ret, hIx _ _ _ _ hi3 (hput _), hl4, hk4⟩, hkp⟩⟩
      | exit id =>
        obtain ⟨hk3, hi3⟩ := hp
        obtain ⟨hr, hl4, hk4, hkp, _⟩ := fin (some (.exit id)) W3 hk3
        exact ⟨_, _, hr, .inr ⟨rfl, ⟨.exit id, hIx _ _ _ _ hi3 (hput _), hl4, hk4⟩, hkp⟩⟩
      | goto t =>
        obtain ⟨hk3, hi3⟩ := hp
        obtain ⟨hr, hl4, hk4, hkp, _⟩ := fin (some (.goto t)) W3 hk3
        exact ⟨_, _, hr, .inr ⟨rfl, ⟨.goto t, hIx _ _ _ _ hi3 (hput _), hl4, hk4⟩, hkp⟩⟩
      | panic ch => exact hp.elim
      | outgrown => exact hp.elim
    · rintro e W2 ⟨⟨v, rfl⟩, (⟨hi, hl, hk⟩ | ⟨pre, hSp, c, hi, hl, hk⟩)⟩
      · exact ⟨none, _, by have := run_endLoop (P := P) hl (by rw [hrec]; simp); rw [hrec] at this; exact this, hdone _ _ (Nat.le_refl _) (hI _ _ _ hi (hput _)) ((World.putObj_heap_other (by omega)).trans hk)⟩
      · exact ⟨some c, _, by have := run_endLoop (P := P) hl (by rw [hrec]; simp); rw [hrec] at this; exact this, hstop _ c pre _ (Nat.le_refl _) hSp (hIx c _ _ _ hi (hput _)) ((World.putObj_heap_other (by omega)).trans hk)⟩
def TellsG {α : Type} (P : Program) (gf : Nat) (lb : Array Value) (encs : α → Array Value) (xs : List α) (X : Nat → Prop) (C : World → Nat → Prop) (w : World) : Prop :=
  ∀ (n : Nat) (l : Nat) (J Jx : List α → World → Prop) (W : World), KeepBut (fun _ => False) w W → w.heap.size ≤ l → l < W.heap.size → Closed (C W) J → Closed (C W) Jx →
    (∀ pre x suf W1, xs = pre ++ x :: suf → J pre W1 → YieldAt Fence.wide n P l (encs x) W1 fun e W' =>
      (e = .returned (.bool true) ∧ J (pre ++ [x]) W' ∧ KeepBut X W1 W') ∨ (e = .returned (.bool false) ∧ Jx (pre ++ [x]) W' ∧ KeepBut (fun k => X k ∨ k = l) W1 W')) →
    J [] W →
    CallsIn Fence.wide (n + 1) P gf (#[.func (.yield l) #[] #[]] ++ lb) W fun e W' => (∃ v, e = .returned v) ∧ (J xs W' ∨ ∃ pre, pre <+: xs ∧ Jx pre W')
theorem TellsG.tells {α : Type} {P : Program} {gf : Nat} {lb : Array Value} {encs : α → Array Value} {xs : List α} {X Y : Nat → Prop} {w : World} (h : TellsG P gf lb encs xs X (fun W k => Y k ∨ W.heap.size ≤ k) w) : Tells P gf lb encs xs X Y w := h
theorem TellsG.mono {α : Type} {P : Program} {gf : Nat} {lb : Array Value} {encs : α → Array Value} {xs : List α} {X : Nat → Prop} {C C' : World → Nat → Prop} {w : World} (h : TellsG P gf lb encs xs X C w) (hC : ∀ W k, C W k → C' W k) : TellsG P gf lb encs xs X C' w :=
  fun n l J Jx W hW h1 h2 hJ hJx hY h0 => h n l J Jx W hW h1 h2 (fun s A B a b => hJ s A B a (b.mono fun _ _ => hC W _)) (fun s A B a b => hJx s A B a (b.mono fun _ _ => hC W _)) hY h0
theorem wp_tellsG {α : Type} {P : Program} {n : Nat} {g : Operand} {ps : Array Tmp} {assign body : Code} {Q : Exit → Act → World → Prop} {a : Act} {w : World}
    {gf : Nat} {lb : Array Value} (hg : a.eval g = .func (.func gf) #[] lb) (eg : ∀ args w, (callFunc gf args).run P w = .ok (.enter gf args) w)
    {encs : α → Array Value} {xs : List α} {X : Nat → Prop} {C : World → Nat → Prop} (hseq : TellsG P gf lb encs xs X C w) (Cs : Nat → Prop)
    (hC : ∀ W k, W.heap.size = w.heap.size + 2 → C W k → Cs k) (hCs : ∀ k, Cs k → k < w.heap.size ∨ w.heap.size + 2 ≤ k) (hX : ∀ k, X k → k < w.heap.size ∨ w.heap.size + 2 ≤ k) (hps : ∀ x, (encs x).size = ps.size)
    (I : List α → World → Prop) (Ix : Code → List α → World → Prop) (hI : Closed (fun k => Cs k ∨ k = w.heap.size ∨ k = w.heap.size + 1) I) (hIx : ∀ c, Closed (fun k => Cs k ∨ k = w.heap.size ∨ k = w.heap.size + 1) (Ix c)) (h0 : I [] w) (a₁ : α → Act)
    (IA : List α → α → World → Prop) (hIA : ∀ pre x W W', IA pre x W → KeepBut (fun k => k = w.heap.size + 1) W W' → IA pre x W')
    (hassign : ∀ (l : Nat) (pre : List α) (x : α) (suf : List α) (W : World), xs = pre ++ x :: suf → w.heap.size + 1 < W.heap.size → I pre W → ∀ K : Act → World → Prop, (∀ W', KeepBut X W W' → IA pre x W' → K (a₁ x) W') →
      assign.wpIn (Fence.wide.inRound l) n P (Exit.then K (fun _ _ _ => False)) { tmps := (ps.zip (encs x)).foldl (fun t (p, v) => t.setIfInBounds p v) a.tmps, defers := [] } W)
    (hbody : ∀ (l : Nat) (pre : List α) (x : α) (suf : List α) (W : World), xs = pre ++ x :: suf → w.heap.size + 1 < W.heap.size → IA pre x W → body.wpIn (Fence.wide.inRound l) n P (tellPost X I Ix (pre ++ [x]) W) (a₁ x) W)
    (hdone : ∀ (D : Nat) (W : World), w.heap.size ≤ D → I xs W → W.heap[D]? = some (.deferred (some [])) → Q .normal { a with defers := { target := .collected D, args := #[] } :: a.defers } W)
    (hstop : ∀ (D : Nat) (c : Code) (pre : List α) (W : World), w.heap.size ≤ D → pre <+: xs → Ix c pre W → W.heap[D]? = some (.deferred (some [])) → c.wpIn Fence.wide (n + 2) P Q { a with defers := { target := .collected D, args := #[] } :: a.defers } W) :
    (Code.rangeFunc g ps assign body).wpIn Fence.wide (n + 2) P Q a w := by
  refine wpIn_rangeFunc ?_
  intro fn hfn
  obtain ⟨rec, hrec⟩ : ∃ rec : LoopState → Option Code → Loop, rec = fun st pe => { state := st, pending := pe, fn, tmps := a.tmps, params := ps, assign, body, defers := w.heap.size } := ⟨_, rfl⟩
  obtain ⟨W1, hW1⟩ : ∃ W1, (w.alloc (.deferred (some []))).alloc (.loop (rec .ready none)) = W1 := ⟨_, rfl⟩
  have hz1 : W1.heap.size = w.heap.size + 2 := by rw [← hW1]; simp
  have hL1 : W1.heap[w.heap.size + 1]? = some (.loop (rec .ready none)) := by
    rw [← hW1]; have := World.alloc_heap_new (w.alloc (.deferred (some []))) (.loop (rec .ready none)); rwa [World.size_alloc] at this
  have hK1 : W1.heap[w.heap.size]? = some (.deferred (some [])) := by
    rw [← hW1]; exact (Below.heap_alloc _ _ _ (by simp)).trans (World.alloc_heap_new w _)
  have hkw : KeepBut (fun _ => False) w W1 := by rw [← hW1]; exact ((KeepBut.refl _ w).alloc _).alloc _
  have hI1 : I [] W1 := hI _ _ _ h0 (hkw.mono fun _ _ h => h.elim)
  -- the loop's own two blocks stay, whatever the iterator writes
  have two : ∀ {Z : Nat → Prop} {A B : World} {o1 o2 : Obj}, (∀ k, Z k → k < w.heap.size ∨ W1.heap.size ≤ k) → KeepBut Z A B → A.heap[w.heap.size + 1]? = some o1 → A.heap[w.heap.size]? = some o2 →
      B.heap[w.heap.size + 1]? = some o1 ∧ B.heap[w.heap.size]? = some o2 := by
    intro Z A B o1 o2 hZ hk h1 h2
    have l1 := (Array.getElem?_eq_some_iff.1 h1).1
    exact ⟨(hk.block _ l1 (fun h => by have := hZ _ h; omega)).trans h1, (hk.block _ (by omega) (fun h => by have := hZ _ h; omega)).trans h2⟩
  have hZ : ∀ k, C W1 k → k < w.heap.size ∨ W1.heap.size ≤ k := fun k h => by have := hCs _ (hC W1 k hz1 h); omega
  have hwk : ∀ {k}, C W1 k → (Cs k ∨ k = w.heap.size ∨ k = w.heap.size + 1) := fun h => .inl (hC W1 _ hz1 h)
  have hput : ∀ {A : World} (o : Obj), KeepBut (fun k => Cs k ∨ k = w.heap.size ∨ k = w.heap.size + 1) A (A.putObj (w.heap.size + 1) o) := fun o => .putObj o (.inr (.inr rfl))
  refine ⟨w.heap.size + 1, [{ target := .collected w.heap.size, args := #[] }], W1, { target := .fn (.func gf) lb, args := #[.func (.yield (w.heap.size + 1)) #[] #[]] }, W1, gf,
    #[.func (.yield (w.heap.size + 1)) #[] #[]] ++ lb, W1, ?_, ?_, ?_, ?_, ?_, ?_⟩
  · rw [← hW1, hrec]; exact run_enterLoop_outer _ _ _ _ _
  · simp only [resolve, hg]
    simp [go_sem]
  · intro f' _; trivial
  · simp [invoke, go_sem, eg]
  · intro h; simp [Fence.wide] at h
  · refine (hseq n (w.heap.size + 1)
      (fun pre W => I pre W ∧ W.heap[w.heap.size + 1]? = some (.loop (rec .ready none)) ∧ W.heap[w.heap.size]? = some (.deferred (some [])))
      (fun pre W => ∃ c, Ix c pre W ∧ W.heap[w.heap.size + 1]? = some (.loop (rec .done (some c))) ∧ W.heap[w.heap.size]? = some (.deferred (some [])))
      W1 hkw (by omega) (by omega)
      (fun s A B hs hk => ⟨hI s A B hs.1 (hk.mono fun _ _ => hwk), two hZ hk hs.2.1 hs.2.2⟩)
      (fun s A B hs hk => by obtain ⟨c, hc, h1, h2⟩ := hs; exact ⟨c, hIx c s A B hc (hk.mono fun _ _ => hwk), two hZ hk h1 h2⟩)
      ?_ ⟨hI1, hL1, hK1⟩).mono ?_
    · rintro pre x suf W hsuf ⟨hi, hl, hk⟩
      have hlt : w.heap.size + 1 < W.heap.size := (Array.getElem?_eq_some_iff.1 hl).1
      have hy := run_yield (P := P) (args := encs x) hl (by rw [hrec]; exact hps x)
      rw [hrec] at hy
      refine ⟨fn, _, assign, body, hy, roundIn_of_wpIn hfn (hassign _ pre x suf W hsuf (by omega) hi _ fun W9 hk9 hi9 => ?_)⟩
      obtain ⟨hl9, hk9'⟩ := two (fun k h => by have := hX k h; omega) hk9 hl hk
      refine ⟨_, run_beginRound hl9 (by rw [hrec]), ?_⟩
      obtain ⟨V, hV⟩ : ∃ V, W9.putObj (w.heap.size + 1) (.loop { rec .ready none with state := .busy }) = V := ⟨_, rfl⟩
      rw [hV]
      have hl2 : V.heap[w.heap.size + 1]? = some (.loop { rec .ready none with state := .busy }) := by rw [← hV]; exact World.putObj_heap_same (Nat.lt_of_lt_of_le hlt hk9.size)
      have hk2 : V.heap[w.heap.size]? = some (.deferred (some [])) := by rw [← hV]; exact (World.putObj_heap_other (by omega)).trans hk9'
      have hi2 : IA pre x V := by rw [← hV]; exact hIA _ _ _ _ hi9 (.putObj _ rfl)
      have hVs : W.heap.size ≤ V.heap.size := by rw [← hV]; simpa using hk9.size
      refine wpIn_mono (hbody _ pre x suf V hsuf (by omega) hi2) ?_
      have fin : ∀ (jump : Option Code) (W3 : World), KeepBut X V W3 →
          (Instr.endRound (w.heap.size + 1) jump).run P W3 = .ok (.bool jump.isNone) (W3.putObj (w.heap.size + 1) (.loop (rec (if jump.isNone then .ready else .done) jump))) ∧
          (W3.putObj (w.heap.size + 1) (.loop (rec (if jump.isNone then .ready else .done) jump))).heap[w.heap.size + 1]? = some (.loop (rec (if jump.isNone then .ready else .done) jump)) ∧
          (W3.putObj (w.heap.size + 1) (.loop (rec (if jump.isNone then .ready else .done) jump))).heap[w.heap.size]? = some (.deferred (some [])) ∧
          KeepBut (fun k => X k ∨ k = w.heap.size + 1) W (W3.putObj (w.heap.size + 1) (.loop (rec (if jump.isNone then .ready else .done) jump))) ∧
          (jump = none → KeepBut X W (W3.putObj (w.heap.size + 1) (.loop (rec (if jump.isNone then .ready else .done) jump)))) := fun jump W3 hk3 => by
        obtain ⟨h1, h2⟩ := two (fun k h => by have := hX k h; omega) hk3 hl2 hk2
        have hrun := run_endRound (P := P) jump h1
        have hsz := (Array.getElem?_eq_some_iff.1 h1).1
        have e1 := World.putObj_heap_same (w := W3) (o := .loop (rec (if jump.isNone then .ready else .done) jump)) hsz
        have e2 := (World.putObj_heap_other (w := W3) (r := w.heap.size + 1) (k := w.heap.size) (o := .loop (rec (if jump.isNone then .ready else .done) jump)) (by omega)).trans h2
        rw [hrec] at hrun ⊢
        rw [hrec] at e1 e2
        have e0 : ∀ k, k ≠ w.heap.size + 1 → k < W.heap.size → ¬ X k → (W3.putObj (w.heap.size + 1) (.loop ((fun st pe => ({ state := st, pending := pe, fn, tmps := a.tmps, params := ps, assign, body, defers := w.heap.size } : Loop)) (if jump.isNone then .ready else .done) jump))).heap[k]? = W.heap[k]? := by
          intro k hkl hk hx
          rw [World.putObj_heap_other (fun e => hkl e), hk3.block k (by omega) hx, ← hV, World.putObj_heap_other (fun e => hkl e), hk9.block k hk hx]
        have hos := hk3.os.trans (show V.os = W.os by rw [← hV]; exact hk9.os)
        have htp := hk3.tape.trans (show V.tape = W.tape by rw [← hV]; exact hk9.tape)
        have hou := hk3.output.trans (show V.output = W.output by rw [← hV]; exact hk9.output)
        have hzz := hk3.size
        refine ⟨hrun, e1, e2, ⟨hos, htp, hou, by simp; omega, fun k hk hx => e0 k (fun e => hx (.inr e)) hk (fun h => hx (.inl h))⟩, ?_⟩
        rintro rfl
        refine ⟨hos, htp, hou, by simp; omega, fun k hk hx => ?_⟩
        by_cases hkl : k = w.heap.size + 1
        · subst hkl; rw [hl, hrec]; exact e1
        · exact e0 k hkl hk hx
      rintro e a3 W3 hp
      cases e with
      | normal =>
        obtain ⟨hk3, hi3⟩ := hp
        obtain ⟨hr, hl4, hk4, _, hkp⟩ := fin none W3 hk3
        exact ⟨_, _, hr, .inl ⟨rfl, ⟨hI _ _ _ hi3 (hput _), hl4, hk4⟩, hkp rfl⟩⟩
      | ret =>
        obtain ⟨hk3, hi3⟩ := hp
        obtain ⟨hr, hl4, hk4, hkp, _⟩ := fin (some .ret) W3 hk3
        exact ⟨_, _, hr, .inr ⟨rfl, ⟨.ret, hIx _ _ _ _ hi3 (hput _), hl4, hk4⟩, hkp⟩⟩
      | exit id =>
        obtain ⟨hk3, hi3⟩ := hp
        obtain ⟨hr, hl4, hk4, hkp, _⟩ := fin (some (.exit id)) W3 hk3
        exact ⟨_, _, hr, .inr ⟨rfl, ⟨.exit id, hIx _ _ _ _ hi3 (hput _), hl4, hk4⟩, hkp⟩⟩
      | goto t =>
        obtain ⟨hk3, hi3⟩ := hp
        obtain ⟨hr, hl4, hk4, hkp, _⟩ := fin (some (.goto t)) W3 hk3
        exact ⟨_, _, hr, .inr ⟨rfl, ⟨.goto t, hIx _ _ _ _ hi3 (hput _), hl4, hk4⟩, hkp⟩⟩
      | panic ch => exact hp.elim
      | outgrown => exact hp.elim
    · rintro e W2 ⟨⟨v, rfl⟩, (⟨hi, hl, hk⟩ | ⟨pre, hSp, c, hi, hl, hk⟩)⟩
      · exact ⟨none, _, by have := run_endLoop (P := P) hl (by rw [hrec]; simp); rw [hrec] at this; exact this, hdone _ _ (Nat.le_refl _) (hI _ _ _ hi (hput _)) ((World.putObj_heap_other (by omega)).trans hk)⟩
      · exact ⟨some c, _, by have := run_endLoop (P := P) hl (by rw [hrec]; simp); rw [hrec] at this; exact this, hstop _ c pre _ (Nat.le_refl _) hSp (hIx c _ _ _ hi (hput _)) ((World.putObj_heap_other (by omega)).trans hk)⟩
theorem wp_tellsA {α : Type} {P : Program} {n : Nat} {g : Operand} {ps : Array Tmp} {assign body : Code} {Q : Exit → Act → World → Prop} {a : Act} {w : World}
    {gf : Nat} {lb : Array Value} (hg : a.eval g = .func (.func gf) #[] lb) (eg : ∀ args w, (callFunc gf args).run P w = .ok (.enter gf args) w)
    {encs : α → Array Value} {xs : List α} {X : Nat → Prop} {C : World → Nat → Prop} (hseq : TellsG P gf lb encs xs X C w) (Cs : Nat → Prop)
    (hC : ∀ W k, W.heap.size = w.heap.size + 2 → C W k → Cs k) (hCs : ∀ k, Cs k → k < w.heap.size ∨ w.heap.size + 2 ≤ k) (hX : ∀ k, X k → k < w.heap.size ∨ w.heap.size + 2 ≤ k) (hps : ∀ x, (encs x).size = ps.size)
    (I : List α → World → Prop) (Ix : Code → List α → World → Prop) (hI : Closed (fun k => Cs k ∨ k = w.heap.size ∨ k = w.heap.size + 1) I) (hIx : ∀ c, Closed (fun k => Cs k ∨ k = w.heap.size ∨ k = w.heap.size + 1) (Ix c)) (h0 : I [] w)
    (IA : List α → α → Act → World → Prop) (hIA : ∀ pre x a' W W', IA pre x a' W → KeepBut (fun k => k = w.heap.size + 1) W W' → IA pre x a' W')
    (hassign : ∀ (l : Nat) (pre : List α) (x : α) (suf : List α) (W : World), xs = pre ++ x :: suf → w.heap.size + 1 < W.heap.size → I pre W → ∀ K : Act → World → Prop, (∀ a' W', KeepBut X W W' → IA pre x a' W' → K a' W') →
      assign.wpIn (Fence.wide.inRound l) n P (Exit.then K (fun _ _ _ => False)) { tmps := (ps.zip (encs x)).foldl (fun t (p, v) => t.setIfInBounds p v) a.tmps, defers := [] } W)
    (hbody : ∀ (l : Nat) (pre : List α) (x : α) (suf : List α) (a' : Act) (W : World), xs = pre ++ x :: suf → w.heap.size + 1 < W.heap.size → IA pre x a' W → body.wpIn (Fence.wide.inRound l) n P (tellPost X I Ix (pre ++ [x]) W) a' W)
    (hdone : ∀ (D : Nat) (W : World), w.heap.size ≤ D → I xs W → W.heap[D]? = some (.deferred (some [])) → Q .normal { a with defers := { target := .collected D, args := #[] } :: a.defers } W)
    (hstop : ∀ (D : Nat) (c : Code) (pre : List α) (W : World), w.heap.size ≤ D → pre <+: xs → Ix c pre W → W.heap[D]? = some (.deferred (some [])) → c.wpIn Fence.wide (n + 2) P Q { a with defers := { target := .collected D, args := #[] } :: a.defers } W) :
    (Code.rangeFunc g ps assign body).wpIn Fence.wide (n + 2) P Q a w := by
  refine wpIn_rangeFunc ?_
  intro fn hfn
  obtain ⟨rec, hrec⟩ : ∃ rec : LoopState → Option Code → Loop, rec = fun st pe => { state := st, pending := pe, fn, tmps := a.tmps, params := ps, assign, body, defers := w.heap.size } := ⟨_, rfl⟩
  obtain ⟨W1, hW1⟩ : ∃ W1, (w.alloc (.deferred (some []))).alloc (.loop (rec .ready none)) = W1 := ⟨_, rfl⟩
  have hz1 : W1.heap.size = w.heap.size + 2 := by rw [← hW1]; simp
  have hL1 : W1.heap[w.heap.size + 1]? = some (.loop (rec .ready none)) := by
    rw [← hW1]; have := World.alloc_heap_new (w.alloc (.deferred (some []))) (.loop (rec .ready none)); rwa [World.size_alloc] at this
  have hK1 : W1.heap[w.heap.size]? = some (.deferred (some [])) := by
    rw [← hW1]; exact (Below.heap_alloc _ _ _ (by simp)).trans (World.alloc_heap_new w _)
  have hkw : KeepBut (fun _ => False) w W1 := by rw [← hW1]; exact ((KeepBut.refl _ w).alloc _).alloc _
  have hI1 : I [] W1 := hI _ _ _ h0 (hkw.mono fun _ _ h => h.elim)
  -- the loop's own two blocks stay, whatever the iterator writes
  have two : ∀ {Z : Nat → Prop} {A B : World} {o1 o2 : Obj}, (∀ k, Z k → k < w.heap.size ∨ W1.heap.size ≤ k) → KeepBut Z A B → A.heap[w.heap.size + 1]? = some o1 → A.heap[w.heap.size]? = some o2 →
      B.heap[w.heap.size + 1]? = some o1 ∧ B.heap[w.heap.size]? = some o2 := by
    intro Z A B o1 o2 hZ hk h1 h2
    have l1 := (Array.getElem?_eq_some_iff.1 h1).1
    exact ⟨(hk.block _ l1 (fun h => by have := hZ _ h; omega)).trans h1, (hk.block _ (by omega) (fun h => by have := hZ _ h; omega)).trans h2⟩
  have hZ : ∀ k, C W1 k → k < w.heap.size ∨ W1.heap.size ≤ k := fun k h => by have := hCs _ (hC W1 k hz1 h); omega
  have hwk : ∀ {k}, C W1 k → (Cs k ∨ k = w.heap.size ∨ k = w.heap.size + 1) := fun h => .inl (hC W1 _ hz1 h)
  have hput : ∀ {A : World} (o : Obj), KeepBut (fun k => Cs k ∨ k = w.heap.size ∨ k = w.heap.size + 1) A (A.putObj (w.heap.size + 1) o) := fun o => .putObj o (.inr (.inr rfl))
  refine ⟨w.heap.size + 1, [{ target := .collected w.heap.size, args := #[] }], W1, { target := .fn (.func gf) lb, args := #[.func (.yield (w.heap.size + 1)) #[] #[]] }, W1, gf,
    #[.func (.yield (w.heap.size + 1)) #[] #[]] ++ lb, W1, ?_, ?_, ?_, ?_, ?_, ?_⟩
  · rw [← hW1, hrec]; exact run_enterLoop_outer _ _ _ _ _
  · simp only [resolve, hg]
    simp [go_sem]
  · intro f' _; trivial
  · simp [invoke, go_sem, eg]
  · intro h; simp [Fence.wide] at h
  · refine (hseq n (w.heap.size + 1)
      (fun pre W => I pre W ∧ W.heap[w.heap.size + 1]? = some (.loop (rec .ready none)) ∧ W.heap[w.heap.size]? = some (.deferred (some [])))
      (fun pre W => ∃ c, Ix c pre W ∧ W.heap[w.heap.size + 1]? = some (.loop (rec .done (some c))) ∧ W.heap[w.heap.size]? = some (.deferred (some [])))
      W1 hkw (by omega) (by omega)
      (fun s A B hs hk => ⟨hI s A B hs.1 (hk.mono fun _ _ => hwk), two hZ hk hs.2.1 hs.2.2⟩)
      (fun s A B hs hk => by obtain ⟨c, hc, h1, h2⟩ := hs; exact ⟨c, hIx c s A B hc (hk.mono fun _ _ => hwk), two hZ hk h1 h2⟩)
      ?_ ⟨hI1, hL1, hK1⟩).mono ?_
    · rintro pre x suf W hsuf ⟨hi, hl, hk⟩
      have hlt : w.heap.size + 1 < W.heap.size := (Array.getElem?_eq_some_iff.1 hl).1
      have hy := run_yield (P := P) (args := encs x) hl (by rw [hrec]; exact hps x)
      rw [hrec] at hy
      refine ⟨fn, _, assign, body, hy, roundIn_of_wpIn hfn (hassign _ pre x suf W hsuf (by omega) hi _ fun a9 W9 hk9 hi9 => ?_)⟩
      obtain ⟨hl9, hk9'⟩ := two (fun k h => by have := hX k h; omega) hk9 hl hk
      refine ⟨_, run_beginRound hl9 (by rw [hrec]), ?_⟩
      obtain ⟨V, hV⟩ : ∃ V, W9.putObj (w.heap.size + 1) (.loop { rec .ready none with state := .busy }) = V := ⟨_, rfl⟩
      rw [hV]
      have hl2 : V.heap[w.heap.size + 1]? = some (.loop { rec .ready none with state := .busy }) := by rw [← hV]; exact World.putObj_heap_same (Nat.lt_of_lt_of_le hlt hk9.size)
      have hk2 : V.heap[w.heap.size]? = some (.deferred (some [])) := by rw [← hV]; exact (World.putObj_heap_other (by omega)).trans hk9'
      have hi2 : IA pre x a9 V := by rw [← hV]; exact hIA _ _ _ _ _ hi9 (.putObj _ rfl)
      have hVs : W.heap.size ≤ V.heap.size := by rw [← hV]; simpa using hk9.size
      refine wpIn_mono (hbody _ pre x suf a9 V hsuf (by omega) hi2) ?_
      have fin : ∀ (jump : Option Code) (W3 : World), KeepBut X V W3 →
          (Instr.endRound (w.heap.size + 1) jump).run P W3 = .ok (.bool jump.isNone) (W3.putObj (w.heap.size + 1) (.loop (rec (if jump.isNone then .ready else .done) jump))) ∧
          (W3.putObj (w.heap.size + 1) (.loop (rec (if jump.isNone then .ready else .done) jump))).heap[w.heap.size + 1]? = some (.loop (rec (if jump.isNone then .ready else .done) jump)) ∧
          (W3.putObj (w.heap.size + 1) (.loop (rec (if jump.isNone then .ready else .done) jump))).heap[w.heap.size]? = some (.deferred (some [])) ∧
          KeepBut (fun k => X k ∨ k = w.heap.size + 1) W (W3.putObj (w.heap.size + 1) (.loop (rec (if jump.isNone then .ready else .done) jump))) ∧
          (jump = none → KeepBut X W (W3.putObj (w.heap.size + 1) (.loop (rec (if jump.isNone then .ready else .done) jump)))) := fun jump W3 hk3 => by
        obtain ⟨h1, h2⟩ := two (fun k h => by have := hX k h; omega) hk3 hl2 hk2
        have hrun := run_endRound (P := P) jump h1
        have hsz := (Array.getElem?_eq_some_iff.1 h1).1
        have e1 := World.putObj_heap_same (w := W3) (o := .loop (rec (if jump.isNone then .ready else .done) jump)) hsz
        have e2 := (World.putObj_heap_other (w := W3) (r := w.heap.size + 1) (k := w.heap.size) (o := .loop (rec (if jump.isNone then .ready else .done) jump)) (by omega)).trans h2
        rw [hrec] at hrun ⊢
        rw [hrec] at e1 e2
        have e0 : ∀ k, k ≠ w.heap.size + 1 → k < W.heap.size → ¬ X k → (W3.putObj (w.heap.size + 1) (.loop ((fun st pe => ({ state := st, pending := pe, fn, tmps := a.tmps, params := ps, assign, body, defers := w.heap.size } : Loop)) (if jump.isNone then .ready else .done) jump))).heap[k]? = W.heap[k]? := by
          intro k hkl hk hx
          rw [World.putObj_heap_other (fun e => hkl e), hk3.block k (by omega) hx, ← hV, World.putObj_heap_other (fun e => hkl e), hk9.block k hk hx]
        have hos := hk3.os.trans (show V.os = W.os by rw [← hV]; exact hk9.os)
        have htp := hk3.tape.trans (show V.tape = W.tape by rw [← hV]; exact hk9.tape)
        have hou := hk3.output.trans (show V.output = W.output by rw [← hV]; exact hk9.output)
        have hzz := hk3.size
        refine ⟨hrun, e1, e2, ⟨hos, htp, hou, by simp; omega, fun k hk hx => e0 k (fun e => hx (.inr e)) hk (fun h => hx (.inl h))⟩, ?_⟩
        rintro rfl
        refine ⟨hos, htp, hou, by simp; omega, fun k hk hx => ?_⟩
        by_cases hkl : k = w.heap.size + 1
        · subst hkl; rw [hl, hrec]; exact e1
        · exact e0 k hkl hk hx
      rintro e a3 W3 hp
      cases e with
      | normal =>
        obtain ⟨hk3, hi3⟩ := hp
        obtain ⟨hr, hl4, hk4, _, hkp⟩ := fin none W3 hk3
        exact ⟨_, _, hr, .inl ⟨rfl, ⟨hI _ _ _ hi3 (hput _), hl4, hk4⟩, hkp rfl⟩⟩
      | ret =>
        obtain ⟨hk3, hi3⟩ := hp
        obtain ⟨hr, hl4, hk4, hkp, _⟩ := fin (some .ret) W3 hk3
        exact ⟨_, _, hr, .inr ⟨rfl, ⟨.ret, hIx _ _ _ _ hi3 (hput _), hl4, hk4⟩, hkp⟩⟩
      | exit id =>
        obtain ⟨hk3, hi3⟩ := hp
        obtain ⟨hr, hl4, hk4, hkp, _⟩ := fin (some (.exit id)) W3 hk3
        exact ⟨_, _, hr, .inr ⟨rfl, ⟨.exit id, hIx _ _ _ _ hi3 (hput _), hl4, hk4⟩, hkp⟩⟩
      | goto t =>
        obtain ⟨hk3, hi3⟩ := hp
        obtain ⟨hr, hl4, hk4, hkp, _⟩ := fin (some (.goto t)) W3 hk3
        exact ⟨_, _, hr, .inr ⟨rfl, ⟨.goto t, hIx _ _ _ _ hi3 (hput _), hl4, hk4⟩, hkp⟩⟩
      | panic ch => exact hp.elim
      | outgrown => exact hp.elim
    · rintro e W2 ⟨⟨v, rfl⟩, (⟨hi, hl, hk⟩ | ⟨pre, hSp, c, hi, hl, hk⟩)⟩
      · exact ⟨none, _, by have := run_endLoop (P := P) hl (by rw [hrec]; simp); rw [hrec] at this; exact this, hdone _ _ (Nat.le_refl _) (hI _ _ _ hi (hput _)) ((World.putObj_heap_other (by omega)).trans hk)⟩
      · exact ⟨some c, _, by have := run_endLoop (P := P) hl (by rw [hrec]; simp); rw [hrec] at this; exact this, hstop _ c pre _ (Nat.le_refl _) hSp (hIx c _ _ _ hi (hput _)) ((World.putObj_heap_other (by omega)).trans hk)⟩
def TellsT {α : Type} (P : Program) (gf : Nat) (lb : Array Value) (encs : α → Array Value) (xs : List α) (X : Nat → Prop) (C : World → Nat → Prop) (T : World → Prop) (w : World) : Prop :=
  ∀ (n : Nat) (l : Nat) (J Jx : List α → World → Prop) (W : World), KeepBut (fun _ => False) w W → w.heap.size ≤ l → l < W.heap.size → Closed (C W) J → Closed (C W) Jx →
    (∀ pre x suf W1, xs = pre ++ x :: suf → J pre W1 → T W1 → YieldAt Fence.wide n P l (encs x) W1 fun e W' =>
      (e = .returned (.bool true) ∧ J (pre ++ [x]) W' ∧ KeepBut X W1 W') ∨ (e = .returned (.bool false) ∧ Jx (pre ++ [x]) W' ∧ KeepBut (fun k => X k ∨ k = l) W1 W')) →
    J [] W →
    CallsIn Fence.wide (n + 1) P gf (#[.func (.yield l) #[] #[]] ++ lb) W fun e W' => (∃ v, e = .returned v) ∧ (J xs W' ∨ ∃ pre, pre <+: xs ∧ Jx pre W')
theorem wp_tellsT {α : Type} {P : Program} {n : Nat} {g : Operand} {ps : Array Tmp} {assign body : Code} {Q : Exit → Act → World → Prop} {a : Act} {w : World}
    {gf : Nat} {lb : Array Value} (hg : a.eval g = .func (.func gf) #[] lb) (eg : ∀ args w, (callFunc gf args).run P w = .ok (.enter gf args) w)
    {encs : α → Array Value} {xs : List α} {X : Nat → Prop} {C : World → Nat → Prop} {T : World → Prop} (hseq : TellsT P gf lb encs xs X C T w) (hT : ∀ A B, T A → KeepBut (fun k => X k ∨ k = w.heap.size + 1) A B → T B) (Cs : Nat → Prop)
    (hC : ∀ W k, W.heap.size = w.heap.size + 2 → C W k → Cs k) (hCs : ∀ k, Cs k → k < w.heap.size ∨ w.heap.size + 2 ≤ k) (hX : ∀ k, X k → k < w.heap.size ∨ w.heap.size + 2 ≤ k) (hps : ∀ x, (encs x).size = ps.size)
    (I : List α → World → Prop) (Ix : Code → List α → World → Prop) (hI : Closed (fun k => Cs k ∨ k = w.heap.size ∨ k = w.heap.size + 1) I) (hIx : ∀ c, Closed (fun k => Cs k ∨ k = w.heap.size ∨ k = w.heap.size + 1) (Ix c)) (h0 : I [] w) (a₁ : α → Act)
    (IA : List α → α → World → Prop) (hIA : ∀ pre x W W', IA pre x W → KeepBut (fun k => k = w.heap.size + 1) W W' → IA pre x W')
    (hassign : ∀ (l : Nat) (pre : List α) (x : α) (suf : List α) (W : World), xs = pre ++ x :: suf → w.heap.size + 1 < W.heap.size → I pre W → ∀ K : Act → World → Prop, (∀ W', KeepBut X W W' → IA pre x W' → K (a₁ x) W') →
      assign.wpIn (Fence.wide.inRound l) n P (Exit.then K (fun _ _ _ => False)) { tmps := (ps.zip (encs x)).foldl (fun t (p, v) => t.setIfInBounds p v) a.tmps, defers := [] } W)
    (hbody : ∀ (l : Nat) (pre : List α) (x : α) (suf : List α) (W : World), xs = pre ++ x :: suf → w.heap.size + 1 < W.heap.size → IA pre x W → T W → (∃ o, W.heap[w.heap.size]? = some (.deferred o)) → (∃ o, W.heap[w.heap.size + 1]? = some (.loop o)) → body.wpIn (Fence.wide.inRound l) n P (tellPost X I Ix (pre ++ [x]) W) (a₁ x) W)
    (hdone : ∀ (D : Nat) (W : World), w.heap.size ≤ D → I xs W → W.heap[D]? = some (.deferred (some [])) → Q .normal { a with defers := { target := .collected D, args := #[] } :: a.defers } W)
    (hstop : ∀ (D : Nat) (c : Code) (pre : List α) (W : World), w.heap.size ≤ D → pre <+: xs → Ix c pre W → W.heap[D]? = some (.deferred (some [])) → c.wpIn Fence.wide (n + 2) P Q { a with defers := { target := .collected D, args := #[] } :: a.defers } W) :
    (Code.rangeFunc g ps assign body).wpIn Fence.wide (n + 2) P Q a w := by
  refine wpIn_rangeFunc ?_
  intro fn hfn
  obtain ⟨rec, hrec⟩ : ∃ rec : LoopState → Option Code → Loop, rec = fun st pe => { state := st, pending := pe, fn, tmps := a.tmps, params := ps, assign, body, defers := w.heap.size } := ⟨_, rfl⟩
  obtain ⟨W1, hW1⟩ : ∃ W1, (w.alloc (.deferred (some []))).alloc (.loop (rec .ready none)) = W1 := ⟨_, rfl⟩
  have hz1 : W1.heap.size = w.heap.size + 2 := by rw [← hW1]; simp
  have hL1 : W1.heap[w.heap.size + 1]? = some (.loop (rec .ready none)) := by
    rw [← hW1]; have := World.alloc_heap_new (w.alloc (.deferred (some []))) (.loop (rec .ready none)); rwa [World.size_alloc] at this
  have hK1 : W1.heap[w.heap.size]? = some (.deferred (some [])) := by
    rw [← hW1]; exact (Below.heap_alloc _ _ _ (by simp)).trans (World.alloc_heap_new w _)
  have hkw : KeepBut (fun _ => False) w W1 := by rw [← hW1]; exact ((KeepBut.refl _ w).alloc _).alloc _
  have hI1 : I [] W1 := hI _ _ _ h0 (hkw.mono fun _ _ h => h.elim)
  -- the loop's own two blocks stay, whatever the iterator writes
  have two : ∀ {Z : Nat → Prop} {A B : World} {o1 o2 : Obj}, (∀ k, Z k → k < w.heap.size ∨ W1.heap.size ≤ k) → KeepBut Z A B → A.heap[w.heap.size + 1]? = some o1 → A.heap[w.heap.size]? = some o2 →
      B.heap[w.heap.size + 1]? = some o1 ∧ B.heap[w.heap.size]? = some o2 := by
    intro Z A B o1 o2 hZ hk h1 h2
    have l1 := (Array.getElem?_eq_some_iff.1 h1).1
    exact ⟨(hk.block _ l1 (fun h => by have := hZ _ h; omega)).trans h1, (hk.block _ (by omega) (fun h => by have := hZ _ h; omega)).trans h2⟩
  have hZ : ∀ k, C W1 k → k < w.heap.size ∨ W1.heap.size ≤ k := fun k h => by have := hCs _ (hC W1 k hz1 h); omega
  have hwk : ∀ {k}, C W1 k → (Cs k ∨ k = w.heap.size ∨ k = w.heap.size + 1) := fun h => .inl (hC W1 _ hz1 h)
  have hput : ∀ {A : World} (o : Obj), KeepBut (fun k => Cs k ∨ k = w.heap.size ∨ k = w.heap.size + 1) A (A.putObj (w.heap.size + 1) o) := fun o => .putObj o (.inr (.inr rfl))
  refine ⟨w.heap.size + 1, [{ target := .collected w.heap.size, args := #[] }], W1, { target := .fn (.func gf) lb, args := #[.func (.yield (w.heap.size + 1)) #[] #[]] }, W1, gf,
    #[.func (.yield (w.heap.size + 1)) #[] #[]] ++ lb, W1, ?_, ?_, ?_, ?_, ?_, ?_⟩
  · rw [← hW1, hrec]; exact run_enterLoop_outer _ _ _ _ _
  · simp only [resolve, hg]
    simp [go_sem]
  · intro f' _; trivial
  · simp [invoke, go_sem, eg]
  · intro h; simp [Fence.wide] at h
  · refine (hseq n (w.heap.size + 1)
      (fun pre W => I pre W ∧ W.heap[w.heap.size + 1]? = some (.loop (rec .ready none)) ∧ W.heap[w.heap.size]? = some (.deferred (some [])))
      (fun pre W => ∃ c, Ix c pre W ∧ W.heap[w.heap.size + 1]? = some (.loop (rec .done (some c))) ∧ W.heap[w.heap.size]? = some (.deferred (some [])))
      W1 hkw (by omega) (by omega)
      (fun s A B hs hk => ⟨hI s A B hs.1 (hk.mono fun _ _ => hwk), two hZ hk hs.2.1 hs.2.2⟩)
      (fun s A B hs hk => by obtain ⟨c, hc, h1, h2⟩ := hs; exact ⟨c, hIx c s A B hc (hk.mono fun _ _ => hwk), two hZ hk h1 h2⟩)
      ?_ ⟨hI1, hL1, hK1⟩).mono ?_
    · rintro pre x suf W hsuf ⟨hi, hl, hk⟩ hTW
      have hlt : w.heap.size + 1 < W.heap.size := (Array.getElem?_eq_some_iff.1 hl).1
      have hy := run_yield (P := P) (args := encs x) hl (by rw [hrec]; exact hps x)
      rw [hrec] at hy
      refine ⟨fn, _, assign, body, hy, roundIn_of_wpIn hfn (hassign _ pre x suf W hsuf (by omega) hi _ fun W9 hk9 hi9 => ?_)⟩
      obtain ⟨hl9, hk9'⟩ := two (fun k h => by have := hX k h; omega) hk9 hl hk
      refine ⟨_, run_beginRound hl9 (by rw [hrec]), ?_⟩
      obtain ⟨V, hV⟩ : ∃ V, W9.putObj (w.heap.size + 1) (.loop { rec .ready none with state := .busy }) = V := ⟨_, rfl⟩
      rw [hV]
      have hl2 : V.heap[w.heap.size + 1]? = some (.loop { rec .ready none with state := .busy }) := by rw [← hV]; exact World.putObj_heap_same (Nat.lt_of_lt_of_le hlt hk9.size)
      have hk2 : V.heap[w.heap.size]? = some (.deferred (some [])) := by rw [← hV]; exact (World.putObj_heap_other (by omega)).trans hk9'
      have hi2 : IA pre x V := by rw [← hV]; exact hIA _ _ _ _ hi9 (.putObj _ rfl)
      have hVs : W.heap.size ≤ V.heap.size := by rw [← hV]; simpa using hk9.size
      have hTV : T V := by
        refine hT _ _ (hT _ _ hTW (hk9.mono fun _ _ h => .inl h)) ?_
        rw [← hV]
        exact .putObj _ (.inr rfl)
      refine wpIn_mono (hbody _ pre x suf V hsuf (by omega) hi2 hTV ⟨_, hk2⟩ ⟨_, hl2⟩) ?_
      have fin : ∀ (jump : Option Code) (W3 : World), KeepBut X V W3 →
          (Instr.endRound (w.heap.size + 1) jump).run P W3 = .ok (.bool jump.isNone) (W3.putObj (w.heap.size + 1) (.loop (rec (if jump.isNone then .ready else .done) jump))) ∧
          (W3.putObj (w.heap.size + 1) (.loop (rec (if jump.isNone then .ready else .done) jump))).heap[w.heap.size + 1]? = some (.loop (rec (if jump.isNone then .ready else .done) jump)) ∧
          (W3.putObj (w.heap.size + 1) (.loop (rec (if jump.isNone then .ready else .done) jump))).heap[w.heap.size]? = some (.deferred (some [])) ∧
          KeepBut (fun k => X k ∨ k = w.heap.size + 1) W (W3.putObj (w.heap.size + 1) (.loop (rec (if jump.isNone then .ready else .done) jump))) ∧
          (jump = none → KeepBut X W (W3.putObj (w.heap.size + 1) (.loop (rec (if jump.isNone then .ready else .done) jump)))) := fun jump W3 hk3 => by
        obtain ⟨h1, h2⟩ := two (fun k h => by have := hX k h; omega) hk3 hl2 hk2
        have hrun := run_endRound (P := P) jump h1
        have hsz := (Array.getElem?_eq_some_iff.1 h1).1
        have e1 := World.putObj_heap_same (w := W3) (o := .loop (rec (if jump.isNone then .ready else .done) jump)) hsz
        have e2 := (World.putObj_heap_other (w := W3) (r := w.heap.size + 1) (k := w.heap.size) (o := .loop (rec (if jump.isNone then .ready else .done) jump)) (by omega)).trans h2
        rw [hrec] at hrun ⊢
        rw [hrec] at e1 e2
        have e0 : ∀ k, k ≠ w.heap.size + 1 → k < W.heap.size → ¬ X k → (W3.putObj (w.heap.size + 1) (.loop ((fun st pe => ({ state := st, pending := pe, fn, tmps := a.tmps, params := ps, assign, body, defers := w.heap.size } : Loop)) (if jump.isNone then .ready else .done) jump))).heap[k]? = W.heap[k]? := by
          intro k hkl hk hx
          rw [World.putObj_heap_other (fun e => hkl e), hk3.block k (by omega) hx, ← hV, World.putObj_heap_other (fun e => hkl e), hk9.block k hk hx]
        have hos := hk3.os.trans (show V.os = W.os by rw [← hV]; exact hk9.os)
        have htp := hk3.tape.trans (show V.tape = W.tape by rw [← hV]; exact hk9.tape)
        have hou := hk3.output.trans (show V.output = W.output by rw [← hV]; exact hk9.output)
        have hzz := hk3.size
        refine ⟨hrun, e1, e2, ⟨hos, htp, hou, by simp; omega, fun k hk hx => e0 k (fun e => hx (.inr e)) hk (fun h => hx (.inl h))⟩, ?_⟩
        rintro rfl
        refine ⟨hos, htp, hou, by simp; omega, fun k hk hx => ?_⟩
        by_cases hkl : k = w.heap.size + 1
        · subst hkl; rw [hl, hrec]; exact e1
        · exact e0 k hkl hk hx
      rintro e a3 W3 hp
      cases e with
      | normal =>
        obtain ⟨hk3, hi3⟩ := hp
        obtain ⟨hr, hl4, hk4, _, hkp⟩ := fin none W3 hk3
        exact ⟨_, _, hr, .inl ⟨rfl, ⟨hI _ _ _ hi3 (hput _), hl4, hk4⟩, hkp rfl⟩⟩
      | ret =>
        obtain ⟨hk3, hi3⟩ := hp
        obtain ⟨hr, hl4, hk4, hkp, _⟩ := fin (some .ret) W3 hk3
        exact ⟨_, _, hr, .inr ⟨rfl, ⟨.ret, hIx _ _ _ _ hi3 (hput _), hl4, hk4⟩, hkp⟩⟩
      | exit id =>
        obtain ⟨hk3, hi3⟩ := hp
        obtain ⟨hr, hl4, hk4, hkp, _⟩ := fin (some (.exit id)) W3 hk3
        exact ⟨_, _, hr, .inr ⟨rfl, ⟨.exit id, hIx _ _ _ _ hi3 (hput _), hl4, hk4⟩, hkp⟩⟩
      | goto t =>
        obtain ⟨hk3, hi3⟩ := hp
        obtain ⟨hr, hl4, hk4, hkp, _⟩ := fin (some (.goto t)) W3 hk3
        exact ⟨_, _, hr, .inr ⟨rfl, ⟨.goto t, hIx _ _ _ _ hi3 (hput _), hl4, hk4⟩, hkp⟩⟩
      | panic ch => exact hp.elim
      | outgrown => exact hp.elim
    · rintro e W2 ⟨⟨v, rfl⟩, (⟨hi, hl, hk⟩ | ⟨pre, hSp, c, hi, hl, hk⟩)⟩
      · exact ⟨none, _, by have := run_endLoop (P := P) hl (by rw [hrec]; simp); rw [hrec] at this; exact this, hdone _ _ (Nat.le_refl _) (hI _ _ _ hi (hput _)) ((World.putObj_heap_other (by omega)).trans hk)⟩
      · exact ⟨some c, _, by have := run_endLoop (P := P) hl (by rw [hrec]; simp); rw [hrec] at this; exact this, hstop _ c pre _ (Nat.le_refl _) hSp (hIx c _ _ _ hi (hput _)) ((World.putObj_heap_other (by omega)).trans hk)⟩
end Go.Proofs.YtjibbchfndhhpaaGreatDoor
