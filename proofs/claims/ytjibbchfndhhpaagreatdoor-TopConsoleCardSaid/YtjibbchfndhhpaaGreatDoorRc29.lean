/- What the statement's proof stands on, part 29: PlainLaw20, PlainFly, Cmd4, Ev20, EvT. -/
import Derived.Test.YtjibbchfndhhpaaGreatDoorRc28
import Derived.Test.YtjibbchfndhhpaaGreatDoorRc27
import Derived.Test.YtjibbchfndhhpaaGreatDoorRc18
set_option linter.unusedSimpArgs false
set_option linter.unusedVariables false
set_option maxRecDepth 100000
set_option maxHeartbeats 4000000
namespace Go.Proofs.YtjibbchfndhhpaaGreatDoor
open Go.RowKit Go.Shelf
namespace Dw
abbrev whole : Pw := ⟨-1, []⟩
theorem refused_else {x : Su} {c : Cmd} (h : ¬ (x.ph = 2 ∨ x.ph = 3)) (h2 : ¬ (x.ph = 0 ∧ 1 ≤ c.ki ∧ c.ki ≤ 3)) : refusedE x c = deltaE x.s c := by unfold refusedE; rw [if_neg h, if_neg h2]
theorem sample_off {x : Su} (h : x.ph = 3) (v : Int) (p : Pw) : sampleX x v p = x ∧ sampleE x v p = 26 := by
  unfold sampleX sampleE
  rw [if_pos h, if_pos h]
  exact ⟨rfl, rfl⟩
theorem sample_still {x : Su} (h : x.ph ≠ 3) {v : Int} (p : Pw) (h2 : x.ph ≠ 0 ∨ verdC (addV x.vo v) (addN x.vo x.n v) = 0) : sampleX x v p = voted x v ∧ sampleE x v p = 0 := by
  have h2' : x.ph ≠ 0 ∨ verdC (voted x v).vo (voted x v).n = 0 := h2
  unfold sampleX sampleE
  rw [if_neg h, if_neg h]
  dsimp only
  rw [if_pos h2', if_pos h2']
  exact ⟨rfl, rfl⟩
theorem sample_kept {x : Su} (h : x.ph = 0) {v d : Int} (p : Pw) (hd : verdC (addV x.vo v) (addN x.vo x.n v) = d) (h0 : d ≠ 0) (ht : resolveS x.s d = x.s) (hk : kept x = true) :
    sampleX x v p = { voted x v with ph := 1 } ∧ sampleE x v p = 0 := by
  have hd' : verdC (voted x v).vo (voted x v).n = d := hd
  have hno : ¬ (x.ph ≠ 0 ∨ d = 0) := by rintro (q | q); exact q h; exact h0 q
  refine ⟨?_, ?_⟩
  · unfold sampleX
    rw [if_neg (show ¬ x.ph = 3 by omega)]
    dsimp only
    rw [hd', if_neg hno, if_pos ⟨ht, hk⟩]
  · unfold sampleE
    rw [if_neg (show ¬ x.ph = 3 by omega)]
    dsimp only
    rw [hd', if_neg hno, if_pos ⟨ht, hk⟩]
theorem sample_writes {x : Su} (h : x.ph = 0) {v d : Int} (p : Pw) (hd : verdC (addV x.vo v) (addN x.vo x.n v) = d) (h0 : d ≠ 0) (hk : ¬ (resolveS x.s d = x.s ∧ kept x = true)) :
    sampleX x v p = (if writeE (voted x v) (resolveS x.s d) p = 0 then { writeX (voted x v) (resolveS x.s d) p with ph := 1 } else writeX (voted x v) (resolveS x.s d) p) ∧ sampleE x v p = writeE (voted x v) (resolveS x.s d) p := by
  have hd' : verdC (voted x v).vo (voted x v).n = d := hd
  have hno : ¬ (x.ph ≠ 0 ∨ d = 0) := by rintro (q | q); exact q h; exact h0 q
  refine ⟨?_, ?_⟩
  · unfold sampleX
    rw [if_neg (show ¬ x.ph = 3 by omega)]
    dsimp only
    rw [hd', if_neg hno, if_neg hk]
  · unfold sampleE
    rw [if_neg (show ¬ x.ph = 3 by omega)]
    dsimp only
    rw [hd', if_neg hno, if_neg hk]
theorem sampleX_ok {x : Su} (h : FlOk x.f) (v : Int) (p : Pw) : FlOk (sampleX x v p).f := by
  by_cases h3 : x.ph = 3
  · rw [(sample_off h3 v p).1]; exact h
  by_cases h2 : x.ph ≠ 0 ∨ verdC (addV x.vo v) (addN x.vo x.n v) = 0
  · rw [(sample_still h3 p h2).1]; exact h
  · have h0 : x.ph = 0 := Decidable.byContradiction fun q => h2 (.inl q)
    have hd : verdC (addV x.vo v) (addN x.vo x.n v) ≠ 0 := fun q => h2 (.inr q)
    by_cases hk : resolveS x.s (verdC (addV x.vo v) (addN x.vo x.n v)) = x.s ∧ kept x = true
    · rw [(sample_kept h0 p rfl hd hk.1 hk.2).1]; exact h
    · rw [(sample_writes h0 p rfl hd hk).1]
      split
      · exact write_okf (x := voted x v) h _ _
      · exact write_okf (x := voted x v) h _ _
theorem sample_legal {x : Su} (h : legal x.s = true) (v : Int) (p : Pw) : legal (sampleX x v p).s = true := by
  by_cases h3 : x.ph = 3
  · rw [(sample_off h3 v p).1]; exact h
  by_cases h2 : x.ph ≠ 0 ∨ verdC (addV x.vo v) (addN x.vo x.n v) = 0
  · rw [(sample_still h3 p h2).1]; exact h
  · have h0 : x.ph = 0 := Decidable.byContradiction fun q => h2 (.inl q)
    have hd : verdC (addV x.vo v) (addN x.vo x.n v) ≠ 0 := fun q => h2 (.inr q)
    by_cases hk : resolveS x.s (verdC (addV x.vo v) (addN x.vo x.n v)) = x.s ∧ kept x = true
    · rw [(sample_kept h0 p rfl hd hk.1 hk.2).1]; exact h
    · rw [(sample_writes h0 p rfl hd hk).1]
      split
      · exact write_legal (x := voted x v) h (resolve_legal h _) p
      · exact write_legal (x := voted x v) h (resolve_legal h _) p
theorem boot_legal (f : Fl) : legal (boot f).s = true := by
  show legal (bootT f) = true
  unfold bootT
  split
  · exact unP_legal _
  · exact legal0
def seen3 (x : Su) (v : Int) : Su := sampleX (sampleX (sampleX x v whole) v whole) v whole
end Dw
end Go.Proofs.YtjibbchfndhhpaaGreatDoor
namespace Go.Proofs.YtjibbchfndhhpaaGreatDoor
open Go.RowKit Go.Shelf
namespace Dw
structure En where
  ki : Int
  c : Cmd
  va : Nat
  vb : Nat
  vc : Nat
  p : Pw
  at_ : Int
structure Rep where
  e : Int
  ph : Int
  s : St
structure Fli where
  x : Su
  out : List Rep
def turnB (s : List UInt8) (i b : Nat) : List UInt8 := s.set i (s.getD i 0 ^^^ UInt8.ofNat (2 ^ b))
def flip (f : Fl) (at_ : Int) : Fl :=
  if at_ < 0 then f else
  if at_ / 8 < (f.a.length : Int) then { f with a := turnB f.a (at_ / 8).toNat (at_ % 8).toNat } else
  if at_ / 8 < (f.a.length + f.b.length : Nat) then { f with b := turnB f.b (at_ / 8 - (f.a.length : Int)).toNat (at_ % 8).toNat } else f
theorem turnB_length (s : List UInt8) (i b : Nat) : (turnB s i b).length = s.length := by simp [turnB]
theorem flip_ok {f : Fl} (h : FlOk f) (k : Int) : FlOk (flip f k) := by
  unfold flip
  (repeat' split)
  · exact h
  · exact ⟨by show (turnB _ _ _).length ≤ 400; rw [turnB_length]; exact h.a, h.b, h.li, h.e0, h.e1⟩
  · exact ⟨h.a, by show (turnB _ _ _).length ≤ 400; rw [turnB_length]; exact h.b, h.li, h.e0, h.e1⟩
  · exact h
theorem flip_neg (f : Fl) {k : Int} (h : k < 0) : flip f k = f := by unfold flip; rw [if_pos h]
abbrev En.v (e : En) : Int := voteI e.va e.vb e.vc
def stepX (x : Su) (e : En) : Su :=
  if e.ki = 1 then commandX x e.c e.p else if e.ki = 2 then sampleX x e.v e.p else if e.ki = 3 then boot x.f else if e.ki = 4 then boot (flip x.f e.at_) else x
def stepE (x : Su) (e : En) : Int := if e.ki = 1 then commandE x e.c e.p else if e.ki = 2 then sampleE x e.v e.p else 0
def isK (e : En) : Bool := decide (1 ≤ e.ki) && decide (e.ki ≤ 4)
def repOf (x : Su) (e : En) : Rep := ⟨stepE x e, (stepX x e).ph, (stepX x e).s⟩
def stepF (f : Fli) (e : En) : Fli := if isK e then ⟨stepX f.x e, f.out ++ [repOf f.x e]⟩ else f
theorem isK_no {e : En} (h : isK e = false) : e.ki ≠ 1 ∧ e.ki ≠ 2 ∧ e.ki ≠ 3 ∧ e.ki ≠ 4 := by
  unfold isK at h
  simp at h
  omega
theorem step_no {e : En} (h : isK e = false) (x : Su) : stepX x e = x := by
  obtain ⟨a, b, c, d⟩ := isK_no h
  unfold stepX
  rw [if_neg a, if_neg b, if_neg c, if_neg d]
theorem stepF_x (f : Fli) (e : En) : (stepF f e).x = stepX f.x e := by
  unfold stepF
  cases h : isK e
  · rw [if_neg (by decide)]; exact (step_no h _).symm
  · rw [if_pos rfl]
theorem stepX_ok {x : Su} (h : FlOk x.f) (e : En) : FlOk (stepX x e).f := by
  unfold stepX
  (repeat' split)
  · exact commandX_ok h _ _
  · exact sampleX_ok h _ _
  · exact h
  · exact flip_ok h _
  · exact h
theorem stepX_legal {x : Su} (h : legal x.s = true) (e : En) : legal (stepX x e).s = true := by
  unfold stepX
  (repeat' split)
  · exact command_legal h _ _
  · exact sample_legal h _ _
  · exact boot_legal _
  · exact boot_legal _
  · exact h
theorem stepF_ok {f : Fli} (h : FlOk f.x.f) (e : En) : FlOk (stepF f e).x.f := by rw [stepF_x]; exact stepX_ok h e
theorem stepF_legal {f : Fli} (h : legal f.x.s = true) (e : En) : legal (stepF f e).x.s = true := by rw [stepF_x]; exact stepX_legal h e
theorem take_snoc {α : Type} {l : List α} {k : Nat} {e : α} (h : l[k]? = some e) : l.take (k + 1) = l.take k ++ [e] := by
  obtain ⟨hk, he⟩ := List.getElem?_eq_some_iff.1 h
  rw [← List.take_append_getElem hk, he]
structure Aud where
  ack : List St
  fly : Bool
  fs : St
def lastA (l : List St) : St := l.getLastD st0
def saysA (a : Aud) : St := if a.fly then a.fs else lastA a.ack
def saysC (c : Option Cur) : St := match c with | none => st0 | some k => unP k.data
theorem inv_bootT {n N : Nat} {f : Fl} {c : Option Cur} (h : Inv n N f c) : bootT f = saysC c := by
  have hr := inv_read h
  unfold bootT
  cases c with
  | none => rw [if_neg (by rw [hr.2]; decide)]; rfl
  | some k => rw [if_pos hr.2, hr.1]; rfl
structure Wrote2 (n N : Nat) (x : Su) (c : Option Cur) (t : St) (p : Pw) : Prop where
  res : (writeE x t p = 26 ∧ writeX x t p = { x with ph := 2 } ∧ x.f.li ≤ N) ∨
    (writeE x t p = 0 ∧ ∃ g k, writeX x t p = { x with f := g, s := t } ∧ g.li = x.f.li ∧ k.data = pack t ∧ k.seq = seqOf c + 1 ∧ Inv n (N + 1) g (some k)) ∨
    (writeE x t p = 26 ∧ 0 ≤ p.cut ∧ ∃ g, writeX x t p = { x with f := g, ph := 3 } ∧ g.li = x.f.li ∧ (Inv n (N + 1) g c ∨ ∃ k, k.data = pack t ∧ k.seq = seqOf c + 1 ∧ Inv n (N + 1) g (some k)))
theorem inv_write {n N : Nat} {x : Su} {c : Option Cur} (h : Inv n N x.f c) (hN : N + 1 < 18446744073709551615) (t : St) (p : Pw) : Wrote2 n N x c t p := by
  rcases step_done h hN (pack t) p.cut p.mask (pack_lt64 t) with ⟨h4, _, hli⟩ | hD
  · obtain ⟨e1, e2⟩ := write_no (x := x) (t := t) (p := p) (by rw [h4]; decide)
    exact ⟨.inl ⟨e2, e1, hli⟩⟩
  · have hg : putG x.f (wStp t p) = playL x.f (plan x.f (pack t)).1 0 p.cut p.mask := rfl
    have hli := hD.li
    rw [← hg] at hli
    rcases hD.res with ⟨_, hn, c', hs, hda, hI'⟩ | ⟨h0, h1, hn, hrest⟩
    · rw [← hg] at hn hI'
      have ha := ack_true (s := wStp t p) hn hda hI'
      obtain ⟨e1, e2⟩ := write_ack (x := x) (t := t) (p := p) hD.ok ha
      exact ⟨.inr (.inl ⟨e2, _, c', e1, hli, hda, hs, hI'⟩)⟩
    · rw [← hg] at hn hrest
      have ha := ack_false (s := wStp t p) hn
      obtain ⟨e1, e2⟩ := write_off (x := x) (t := t) (p := p) hD.ok ha
      refine ⟨.inr (.inr ⟨e2, h0, _, e1, hli, ?_⟩)⟩
      rcases hrest with hI' | ⟨c', hs, hda, hI'⟩
      · exact .inl hI'
      · exact .inr ⟨c', hda, hs, hI'⟩
structure Fly (N : Nat) (x : Su) (a : Aud) : Prop where
  leg : legal x.s = true
  okf : FlOk x.f
  st : (x.f.a = [] ∧ x.f.b = []) ∨ ∃ n c, Inv n N x.f c
  is : x.ph ≠ 3 → x.s = bootT x.f
  now : bootT x.f = saysA a
structure Next (N : Nat) (x y : Su) (a b : Aud) (p : Pw) : Prop where
  fly : Fly (N + 1) y b
  un : p.cut = -1 → x.ph ≠ 3 → a.fly = false → y.ph ≠ 3 ∧ b.fly = false
def newF (n li : Int) : Fl :=
  if li < 0 ∨ 1000 < li then ⟨[], [], 0, 0, 0⟩ else if 1 ≤ n ∧ n ≤ 12 then fNew n.toNat li else ⟨[], [], 0, 0, li⟩
def beginF (n li : Int) : Fli := ⟨boot (newF n li), []⟩
theorem newF_ok (n li : Int) : FlOk (newF n li) := by
  unfold newF
  split
  · exact ⟨by decide, by decide, by decide, by decide, by decide⟩
  · rename_i h
    split
    · exact new_ok (by omega) (by omega)
    · exact ⟨(by decide : 0 ≤ 400), (by decide : 0 ≤ 400), by show li ≤ 9223372036854775807; omega, (by decide : (-9223372036854775808 : Int) ≤ 0), (by decide : (-9223372036854775808 : Int) ≤ 0)⟩
end Dw
end Go.Proofs.YtjibbchfndhhpaaGreatDoor
namespace Go.Proofs.YtjibbchfndhhpaaGreatDoor
open Go.RowKit Go.Shelf
attribute [local go_sem] Oper.semAt_some
theorem run_upd {P : Program} {T K E : TypeId} {r : Nat} {es : Array MapEntry} {clock : Nat} {k : Int} {v : Value} {w : World} (hT : P.underlying T = some (.map K E)) (hK : P.underlying K = some (.int .i64)) (hr : w.heap[r]? = some (.map es clock))
    (hn : Instr.findNow (.int .i64) (.int .i64 k) es.toList 0 = some none) :
    (Instr.mapUpdate T (.map (some r)) (.int .i64 k) v).run P w = .ok () (w.putObj r (.map (es.push { key := .int .i64 k, val := v, born := clock }) (clock + 1))) := by
  have h1 : (getObj r).run P w = .ok (.map es clock) w := by simp [getObj, Sem.run, hr]
  have h2 : ∀ o, (setObj r o).run P w = .ok () (w.putObj r o) := fun o => by simp [setObj, Sem.run, hr, World.putObj]
  have hc : ∀ b, (Instr.checkKey b 10000 K (.int .i64 k)).run P w = .ok () w := fun b => by
    show (Instr.checkKey b (9999 + 1) K (.int .i64 k)).run P w = _
    rw [Instr.checkKey]
    simp [Sem.run_bind, run_underlying hK w]
  simp [Instr.mapUpdate, Sem.run_bind, run_underlying hT w, run_underlying hK w, h1, h2, hc, Instr.findKey, hn]
theorem run_look {P : Program} {T K E : TypeId} {r : Nat} {es : Array MapEntry} {clock : Nat} {k : Int} {i : Nat} {v : Value} {w : World} (hT : P.underlying T = some (.map K E)) (hK : P.underlying K = some (.int .i64)) (hr : w.heap[r]? = some (.map es clock))
    (hn : Instr.findNow (.int .i64) (.int .i64 k) es.toList 0 = some (some (i, v))) :
    (Instr.lookup T (.map (some r)) (.int .i64 k) true).run P w = .ok (.tuple #[v, .bool true]) w := by
  have h1 : (getObj r).run P w = .ok (.map es clock) w := by simp [getObj, Sem.run, hr]
  have hc : ∀ b, (Instr.checkKey b 10000 K (.int .i64 k)).run P w = .ok () w := fun b => by
    show (Instr.checkKey b (9999 + 1) K (.int .i64 k)).run P w = _
    rw [Instr.checkKey]
    simp [Sem.run_bind, run_underlying hK w]
  simp [Instr.lookup, Sem.run_bind, run_underlying hT w, run_underlying hK w, h1, hc, Instr.findKey, hn]
theorem run_lookno {P : Program} {T K E : TypeId} {r : Nat} {es : Array MapEntry} {clock : Nat} {k : Int} {z : Value} {w : World} (hT : P.underlying T = some (.map K E)) (hK : P.underlying K = some (.int .i64)) (hr : w.heap[r]? = some (.map es clock))
    (hn : Instr.findNow (.int .i64) (.int .i64 k) es.toList 0 = some none) (hz : (zeroValue E).run P w = .ok z w) :
    (Instr.lookup T (.map (some r)) (.int .i64 k) true).run P w = .ok (.tuple #[z, .bool false]) w := by
  have h1 : (getObj r).run P w = .ok (.map es clock) w := by simp [getObj, Sem.run, hr]
  have hc : ∀ b, (Instr.checkKey b 10000 K (.int .i64 k)).run P w = .ok () w := fun b => by
    show (Instr.checkKey b (9999 + 1) K (.int .i64 k)).run P w = _
    rw [Instr.checkKey]
    simp [Sem.run_bind, run_underlying hK w]
  simp [Instr.lookup, Sem.run_bind, run_underlying hT w, run_underlying hK w, h1, hc, Instr.findKey, hn, hz]
theorem wpList_insert {P : Program} {w : World} {ops : Array Oper} {rest : List Oper} {o : Oper} {a : Act} {Q : Exit → Act → World → Prop} (hg : o.guard = none) (T : TypeId) (m k x : Operand) (hop : o.op = .insert T m k x)
    {r : Nat} {n : Int} {v : Value} {K E : TypeId} {es es' : Array MapEntry} {clock : Nat} (hm : a.eval m = .map (some r)) (hk : a.eval k = .int .i64 n) (hx : a.eval x = v)
    (hT : P.underlying T = some (.map K E)) (hK : P.underlying K = some (.int .i64)) (hr : w.heap[r]? = some (.map es clock)) (hn : Instr.findNow (.int .i64) (.int .i64 n) es.toList 0 = some none) (he : es.push { key := .int .i64 n, val := v, born := clock } = es')
    (h : wpList P ops Q rest (a.put o.dst undef) (w.putObj r (.map es' (clock + 1)))) : wpList P ops Q (o :: rest) a w := by
  refine wpList_plain hg fun KK hKK => ?_
  unfold Oper.wp
  have hl := run_upd (v := v) hT hK hr hn
  rw [he] at hl
  have e : (execOp a.eval o).run P w = .ok .skip (w.putObj r (.map es' (clock + 1))) := by
    unfold execOp
    rw [hop]
    simp only [hm, hk, hx]
    simp [hl, Result.andThen]
  rw [e]
  exact hKK _ _ h
theorem wpList_lookup {P : Program} {w : World} {ops : Array Oper} {rest : List Oper} {o : Oper} {a : Act} {Q : Exit → Act → World → Prop} (hg : o.guard = none) (T : TypeId) (m k : Operand) (hop : o.op = .lookup T m k true)
    {vm vk v : Value} (hm : a.eval m = vm) (hk : a.eval k = vk) (hl : (Instr.lookup T vm vk true).run P w = .ok v w)
    (h : wpList P ops Q rest (a.put o.dst v) w) : wpList P ops Q (o :: rest) a w := by
  refine wpList_plain hg fun KK hKK => ?_
  unfold Oper.wp
  have e : (execOp a.eval o).run P w = .ok (.value v) w := by
    unfold execOp
    rw [hop]
    simp only [hm, hk]
    simp [hl, Result.andThen]
  rw [e]
  exact hKK _ _ h
abbrev mth (g f : Nat) : Value := .func (.func f) #[.pointer (some ⟨g, 0, none⟩)] #[]
abbrev ent (g : Nat) (k : Int) (f b : Nat) : MapEntry := { key := .int .i64 k, val := mth g f, born := b }
abbrev es1 (g : Nat) : Array MapEntry := #[ent g 1 87 0]
abbrev es2 (g : Nat) : Array MapEntry := #[ent g 1 87 0, ent g 2 88 1]
abbrev es3 (g : Nat) : Array MapEntry := #[ent g 1 87 0, ent g 2 88 1, ent g 3 89 2]
abbrev es4 (g : Nat) : Array MapEntry := #[ent g 1 87 0, ent g 2 88 1, ent g 3 89 2, ent g 4 90 3]
abbrev es5 (g : Nat) : Array MapEntry := #[ent g 1 87 0, ent g 2 88 1, ent g 3 89 2, ent g 4 90 3, ent g 5 91 4]
abbrev es6 (g : Nat) : Array MapEntry := #[ent g 1 87 0, ent g 2 88 1, ent g 3 89 2, ent g 4 90 3, ent g 5 91 4, ent g 6 91 5]
theorem mapT : Tryz.prog.underlying 143 = some (.map 3 141) := Tryz.underlying143
theorem mapK : Tryz.prog.underlying 3 = some (.int .i64) := Tryz.underlying3
theorem delta_core (s : Dw.St) (c : Dw.Cmd) (F i : Nat) (T : Dw.St) (er : Int) (w : World) (hcf : ∀ args w, (callFunc F args).run Tryz.prog w = .ok (.enter F args) w)
    (hki : ∀ g, Instr.findNow (.int .i64) (.int .i64 c.ki) (es6 g).toList 0 = some (some (i, mth g F)))
    (HM : ∀ (g : Nat) (w' : World), w'.heap[g]? = some (.cells (stC s) 140 (0, 0)) → Calls Tryz.prog F #[.pointer (some ⟨g, 0, none⟩), cmV c] w' (CEnd T er g w')) :
    Calls Tryz.prog 53 #[stV s, cmV c] w fun e w' => e = .returned (.tuple #[stV (if er = 0 then T else s), .int .i64 er]) ∧ Below w.heap.size w w' := by
  have hmf : ∀ (fn : Fn) (first cap : Array Value) (w : World), (Instr.makeFunc fn first cap).run Tryz.prog w = .ok (.func fn first cap) w := fun _ _ _ _ => rfl
  have hmm : ∀ (t : TypeId) (w : World), (Instr.makeMap t none).run Tryz.prog w = .ok (.map (some w.heap.size)) (w.alloc (.map #[] 0)) := fun _ _ => rfl
  obtain ⟨V, hV⟩ : ∃ V, ((((w.alloc (.cells (stC s) 28)).alloc (.cells (cmC c) 67)).alloc (.cells Z6 28)).alloc (.cells (stC s) 140)).alloc (.map #[] 0) = V := ⟨_, rfl⟩
  obtain ⟨vz, vB, b0, b1, b2, b3, b4⟩ := alloc5 w _ _ _ _ _ V hV
  obtain ⟨M1, h1⟩ : ∃ M, V.putObj (w.heap.size + 4) (.map (es1 (w.heap.size + 3)) 1) = M := ⟨_, rfl⟩
  have k1 : KeepBut (fun k => k = w.heap.size + 4) V M1 := by rw [← h1]; exact (KeepBut.putObj _ rfl)
  have r1 : M1.heap[w.heap.size + 4]? = some (.map (es1 (w.heap.size + 3)) 1) := by rw [← h1]; exact World.putObj_heap_same (by have := vz; omega)
  obtain ⟨M2, h2⟩ : ∃ M, M1.putObj (w.heap.size + 4) (.map (es2 (w.heap.size + 3)) 2) = M := ⟨_, rfl⟩
  have k2 : KeepBut (fun k => k = w.heap.size + 4) V M2 := by rw [← h2]; exact k1.trans (KeepBut.putObj _ rfl)
  have r2 : M2.heap[w.heap.size + 4]? = some (.map (es2 (w.heap.size + 3)) 2) := by rw [← h2]; exact World.putObj_heap_same (by have := k1.size; omega)
  obtain ⟨M3, h3⟩ : ∃ M, M2.putObj (w.heap.size + 4) (.map (es3 (w.heap.size + 3)) 3) = M := ⟨_, rfl⟩
  have k3 : KeepBut (fun k => k = w.heap.size + 4) V M3 := by rw [← h3]; exact k2.trans (KeepBut.putObj _ rfl)
  have r3 : M3.heap[w.heap.size + 4]? = some (.map (es3 (w.heap.size + 3)) 3) := by rw [← h3]; exact World.putObj_heap_same (by have := k2.size; omega)
  obtain ⟨M4, h4⟩ : ∃ M, M3.putObj (w.heap.size + 4) (.map (es4 (w.heap.size + 3)) 4) = M := ⟨_, rfl⟩
  have k4 : KeepBut (fun k => k = w.heap.size + 4) V M4 := by rw [← h4]; exact k3.trans (KeepBut.putObj _ rfl)
  have r4 : M4.heap[w.heap.size + 4]? = some (.map (es4 (w.heap.size + 3)) 4) := by rw [← h4]; exact World.putObj_heap_same (by have := k3.size; omega)
  obtain ⟨M5, h5⟩ : ∃ M, M4.putObj (w.heap.size + 4) (.map (es5 (w.heap.size + 3)) 5) = M := ⟨_, rfl⟩
  have k5 : KeepBut (fun k => k = w.heap.size + 4) V M5 := by rw [← h5]; exact k4.trans (KeepBut.putObj _ rfl)
  have r5 : M5.heap[w.heap.size + 4]? = some (.map (es5 (w.heap.size + 3)) 5) := by rw [← h5]; exact World.putObj_heap_same (by have := k4.size; omega)
  obtain ⟨M6, h6⟩ : ∃ M, M5.putObj (w.heap.size + 4) (.map (es6 (w.heap.size + 3)) 6) = M := ⟨_, rfl⟩
  have k6 : KeepBut (fun k => k = w.heap.size + 4) V M6 := by rw [← h6]; exact k5.trans (KeepBut.putObj _ rfl)
  have r6 : M6.heap[w.heap.size + 4]? = some (.map (es6 (w.heap.size + 3)) 6) := by rw [← h6]; exact World.putObj_heap_same (by have := k5.size; omega)
  have hB := vB.trans (k6.below vB.size (fun k hk => by omega))
  have hLK : (Instr.lookup 143 (.map (some (w.heap.size + 4))) (.int .i64 c.ki) true).run Tryz.prog M6 = .ok (.tuple #[mth (w.heap.size + 3) F, .bool true]) M6 := run_look mapT mapK r6 (hki _)
  have e0 := (k6.block _ (block_lt b0) (by omega)).trans b0
  have e1 := (k6.block _ (block_lt b1) (by omega)).trans b1
  have e2 := (k6.block _ (block_lt b2) (by omega)).trans b2
  have e3 := (k6.block _ (block_lt b3) (by omega)).trans b3
  have HLK := Lib.hid hLK
  obtain ⟨x0, x1, -⟩ := cells4 e1
  clear hLK k1 k2 k3 k4 k5 k6 vB b1 b2 b3 r6
  go_enter Tryz.func53, Tryz.ntmps53
  go_wp2_with (first | (refine lb b0 rfl rfl rfl (by kernel_rfl) ?_) | (refine sb b0 rfl rfl rfl rfl (by kernel_rfl) ?_) | (refine wpList_insert rfl 143 _ _ _ rfl (es' := es1 (w.heap.size + 3)) rfl rfl rfl mapT mapK b4 (by rfl) (by rfl) ?_) | (refine wpList_insert rfl 143 _ _ _ rfl (es' := es2 (w.heap.size + 3)) rfl rfl rfl mapT mapK r1 (by rfl) (by rfl) ?_) | (refine wpList_insert rfl 143 _ _ _ rfl (es' := es3 (w.heap.size + 3)) rfl rfl rfl mapT mapK r2 (by rfl) (by rfl) ?_) | (refine wpList_insert rfl 143 _ _ _ rfl (es' := es4 (w.heap.size + 3)) rfl rfl rfl mapT mapK r3 (by rfl) (by rfl) ?_) | (refine wpList_insert rfl 143 _ _ _ rfl (es' := es5 (w.heap.size + 3)) rfl rfl rfl mapT mapK r4 (by rfl) (by rfl) ?_) | (refine wpList_insert rfl 143 _ _ _ rfl (es' := es6 (w.heap.size + 3)) rfl rfl rfl mapT mapK r5 (by rfl) (by rfl) ?_) | (refine wpList_lookup rfl 143 _ _ rfl rfl rfl HLK.out ?_) | (refine lb e1 rfl rfl rfl (by kernel_rfl) ?_) | (refine sb e1 rfl rfl rfl rfl (by kernel_rfl) ?_))
  refine (HM _ _ e3).mono ?_
  rintro e w7 ⟨rfl, hk, s', hs', hT⟩
  have f0 := (hk.block _ (block_lt e0) (by omega)).trans e0
  have f2 := (hk.block _ (block_lt e2) (by omega)).trans e2
  have hB7 := hB.trans (hk.below hB.size (fun k hk => by omega))
  clear hk HM e0 e1 e2 e3 x0 x1 hV h1 h2 h3 h4 h5 h6 HLK hki hcf
  by_cases her : er = 0
  · subst her
    obtain rfl := hT rfl
    go_wp2_with (first | (refine lp 28 0 (stC s') hs' rfl rfl rfl (by kernel_rfl) (by rfl) ?_) | (refine lb f2 rfl rfl rfl (by kernel_rfl) ?_) | (refine sb f2 rfl rfl rfl rfl (by kernel_rfl) ?_))
    refine bodyPost_ret (rct rfl (srh f2) (by rfl) (by kernel_rfl)) rfl ⟨?_, below_setRow hB7 (by omega) _⟩
    first | rfl | (rw [if_pos rfl]; rfl)
  · have her' : (er == 0) = false := by simpa using her
    go_wp2_with (first | (refine lb f0 rfl rfl rfl (by kernel_rfl) ?_) | (refine sb f0 rfl rfl rfl rfl (by kernel_rfl) ?_) | (refine lb f2 rfl rfl rfl (by kernel_rfl) ?_) | (refine sb f2 rfl rfl rfl rfl (by kernel_rfl) ?_))
    refine bodyPost_ret (rct rfl (srh f2) (by rfl) (by kernel_rfl)) rfl ⟨?_, below_setRow hB7 (by omega) _⟩
    first | (rw [if_neg her]; rfl) | rfl
theorem delta_none (s : Dw.St) (c : Dw.Cmd) (w : World)
    (hki : ∀ g, Instr.findNow (.int .i64) (.int .i64 c.ki) (es6 g).toList 0 = some none) :
    Calls Tryz.prog 53 #[stV s, cmV c] w fun e w' => e = .returned (.tuple #[stV s, .int .i64 1]) ∧ Below w.heap.size w w' := by
  have hmf : ∀ (fn : Fn) (first cap : Array Value) (w : World), (Instr.makeFunc fn first cap).run Tryz.prog w = .ok (.func fn first cap) w := fun _ _ _ _ => rfl
  have hmm : ∀ (t : TypeId) (w : World), (Instr.makeMap t none).run Tryz.prog w = .ok (.map (some w.heap.size)) (w.alloc (.map #[] 0)) := fun _ _ => rfl
  obtain ⟨V, hV⟩ : ∃ V, ((((w.alloc (.cells (stC s) 28)).alloc (.cells (cmC c) 67)).alloc (.cells Z6 28)).alloc (.cells (stC s) 140)).alloc (.map #[] 0) = V := ⟨_, rfl⟩
  obtain ⟨vz, vB, b0, b1, b2, b3, b4⟩ := alloc5 w _ _ _ _ _ V hV
  obtain ⟨M1, h1⟩ : ∃ M, V.putObj (w.heap.size + 4) (.map (es1 (w.heap.size + 3)) 1) = M := ⟨_, rfl⟩
  have k1 : KeepBut (fun k => k = w.heap.size + 4) V M1 := by rw [← h1]; exact (KeepBut.putObj _ rfl)
  have r1 : M1.heap[w.heap.size + 4]? = some (.map (es1 (w.heap.size + 3)) 1) := by rw [← h1]; exact World.putObj_heap_same (by have := vz; omega)
  obtain ⟨M2, h2⟩ : ∃ M, M1.putObj (w.heap.size + 4) (.map (es2 (w.heap.size + 3)) 2) = M := ⟨_, rfl⟩
  have k2 : KeepBut (fun k => k = w.heap.size + 4) V M2 := by rw [← h2]; exact k1.trans (KeepBut.putObj _ rfl)
  have r2 : M2.heap[w.heap.size + 4]? = some (.map (es2 (w.heap.size + 3)) 2) := by rw [← h2]; exact World.putObj_heap_same (by have := k1.size; omega)
  obtain ⟨M3, h3⟩ : ∃ M, M2.putObj (w.heap.size + 4) (.map (es3 (w.heap.size + 3)) 3) = M := ⟨_, rfl⟩
  have k3 : KeepBut (fun k => k = w.heap.size + 4) V M3 := by rw [← h3]; exact k2.trans (KeepBut.putObj _ rfl)
  have r3 : M3.heap[w.heap.size + 4]? = some (.map (es3 (w.heap.size + 3)) 3) := by rw [← h3]; exact World.putObj_heap_same (by have := k2.size; omega)
  obtain ⟨M4, h4⟩ : ∃ M, M3.putObj (w.heap.size + 4) (.map (es4 (w.heap.size + 3)) 4) = M := ⟨_, rfl⟩
  have k4 : KeepBut (fun k => k = w.heap.size + 4) V M4 := by rw [← h4]; exact k3.trans (KeepBut.putObj _ rfl)
  have r4 : M4.heap[w.heap.size + 4]? = some (.map (es4 (w.heap.size + 3)) 4) := by rw [← h4]; exact World.putObj_heap_same (by have := k3.size; omega)
  obtain ⟨M5, h5⟩ : ∃ M, M4.putObj (w.heap.size + 4) (.map (es5 (w.heap.size + 3)) 5) = M := ⟨_, rfl⟩
  have k5 : KeepBut (fun k => k = w.heap.size + 4) V M5 := by rw [← h5]; exact k4.trans (KeepBut.putObj _ rfl)
  have r5 : M5.heap[w.heap.size + 4]? = some (.map (es5 (w.heap.size + 3)) 5) := by rw [← h5]; exact World.putObj_heap_same (by have := k4.size; omega)
  obtain ⟨M6, h6⟩ : ∃ M, M5.putObj (w.heap.size + 4) (.map (es6 (w.heap.size + 3)) 6) = M := ⟨_, rfl⟩
  have k6 : KeepBut (fun k => k = w.heap.size + 4) V M6 := by rw [← h6]; exact k5.trans (KeepBut.putObj _ rfl)
  have r6 : M6.heap[w.heap.size + 4]? = some (.map (es6 (w.heap.size + 3)) 6) := by rw [← h6]; exact World.putObj_heap_same (by have := k5.size; omega)
  have hB := vB.trans (k6.below vB.size (fun k hk => by omega))
  have hLK : (Instr.lookup 143 (.map (some (w.heap.size + 4))) (.int .i64 c.ki) true).run Tryz.prog M6 = .ok (.tuple #[.nilFunc, .bool false]) M6 := run_lookno mapT mapK r6 (hki _) (by go_simp)
  have e0 := (k6.block _ (block_lt b0) (by omega)).trans b0
  have e1 := (k6.block _ (block_lt b1) (by omega)).trans b1
  have e2 := (k6.block _ (block_lt b2) (by omega)).trans b2
  have e3 := (k6.block _ (block_lt b3) (by omega)).trans b3
  have HLK := Lib.hid hLK
  obtain ⟨x0, x1, -⟩ := cells4 e1
  clear hLK k1 k2 k3 k4 k5 k6 vB b1 b2 b3 r6
  go_enter Tryz.func53, Tryz.ntmps53
  go_wp2_with (first | (refine lb b0 rfl rfl rfl (by kernel_rfl) ?_) | (refine sb b0 rfl rfl rfl rfl (by kernel_rfl) ?_) | (refine wpList_insert rfl 143 _ _ _ rfl (es' := es1 (w.heap.size + 3)) rfl rfl rfl mapT mapK b4 (by rfl) (by rfl) ?_) | (refine wpList_insert rfl 143 _ _ _ rfl (es' := es2 (w.heap.size + 3)) rfl rfl rfl mapT mapK r1 (by rfl) (by rfl) ?_) | (refine wpList_insert rfl 143 _ _ _ rfl (es' := es3 (w.heap.size + 3)) rfl rfl rfl mapT mapK r2 (by rfl) (by rfl) ?_) | (refine wpList_insert rfl 143 _ _ _ rfl (es' := es4 (w.heap.size + 3)) rfl rfl rfl mapT mapK r3 (by rfl) (by rfl) ?_) | (refine wpList_insert rfl 143 _ _ _ rfl (es' := es5 (w.heap.size + 3)) rfl rfl rfl mapT mapK r4 (by rfl) (by rfl) ?_) | (refine wpList_insert rfl 143 _ _ _ rfl (es' := es6 (w.heap.size + 3)) rfl rfl rfl mapT mapK r5 (by rfl) (by rfl) ?_) | (refine wpList_lookup rfl 143 _ _ rfl rfl rfl HLK.out ?_) | (refine lb e0 rfl rfl rfl (by kernel_rfl) ?_) | (refine sb e0 rfl rfl rfl rfl (by kernel_rfl) ?_) | (refine lb e2 rfl rfl rfl (by kernel_rfl) ?_) | (refine sb e2 rfl rfl rfl rfl (by kernel_rfl) ?_))
  refine bodyPost_ret (rct rfl (srh e2) (by rfl) (by kernel_rfl)) rfl ⟨?_, below_setRow hB (by omega) _⟩
  rfl
theorem delta_go (s : Dw.St) (hi : 0 ≤ s.iso ∧ s.iso ≤ 15) (c : Dw.Cmd) (h : c.ki = 1) (w : World) :
    Calls Tryz.prog 53 #[stV s, cmV c] w fun e w' => e = .returned (.tuple #[stV (Dw.deltaS s c), .int .i64 (Dw.deltaE s c)]) ∧ Below w.heap.size w w' := by
  have h1 : Dw.deltaE s c = Dw.goesE s c.n := by unfold Dw.deltaE; rw [if_pos h]
  have h2 : Dw.deltaS s c = if Dw.goesE s c.n = 0 then { s with mo := c.n } else s := by unfold Dw.deltaS; rw [h1]; unfold Dw.deltaT; rw [if_pos h]
  rw [h1, h2]
  exact delta_core s c 87 0 _ _ w (fun args w => by go_simp) (fun g => by rw [h]; rfl) (fun g w' hg => goes_any s hi c g w' hg)
theorem delta_arm (s : Dw.St) (hi : 0 ≤ s.iso ∧ s.iso ≤ 15) (c : Dw.Cmd) (h : c.ki = 2) (w : World) :
    Calls Tryz.prog 53 #[stV s, cmV c] w fun e w' => e = .returned (.tuple #[stV (Dw.deltaS s c), .int .i64 (Dw.deltaE s c)]) ∧ Below w.heap.size w w' := by
  have h0 : ¬ c.ki = 1 := by omega
  have h1 : Dw.deltaE s c = Dw.armE s := by unfold Dw.deltaE; rw [if_neg h0, if_pos h]
  have h2 : Dw.deltaS s c = if Dw.armE s = 0 then { s with ar := true, mo := 1 } else s := by unfold Dw.deltaS; rw [h1]; unfold Dw.deltaT; rw [if_neg h0, if_pos h]
  rw [h1, h2]
  exact delta_core s c 88 1 _ _ w (fun args w => by go_simp) (fun g => by rw [h]; rfl) (fun g w' hg => arm_any s hi c g w' hg)
end Go.Proofs.YtjibbchfndhhpaaGreatDoor
namespace Go.Proofs.YtjibbchfndhhpaaGreatDoor
open Go.RowKit Go.Shelf
namespace Dw
def g20 : Fl := ⟨ffs 72, ffs 72, 0, 0, 5⟩
abbrev arm20 : Cmd := ⟨2, 0, 0, 0⟩
abbrev go20 : Cmd := ⟨1, 2, 0, 0⟩
abbrev cut20 : Pw := ⟨0, []⟩
def y20 : Su := seen3 (boot g20) 1
def z20 : Su := commandX y20 arm20 whole
def u20 : Su := commandX z20 go20 cut20
theorem vote20 : voteI 0 0 0 = 1 := by decide +kernel
end Dw
end Go.Proofs.YtjibbchfndhhpaaGreatDoor
namespace Go.Proofs.YtjibbchfndhhpaaGreatDoor
open Go.RowKit Go.Shelf
namespace Dw
abbrev goT : Cmd := ⟨1, 2, 0, 0⟩
def xT : Su := seen3 (boot (newF 4 9)) 1
def aT : Su := commandX xT arm20 whole
def bT : Su := commandX aT goT whole
def yT : Su := seen3 (boot bT.f) 2
def zT : Su := seen3 (boot bT.f) 1
theorem evTa : commandE xT arm20 whole = 0 := by decide +kernel
theorem evTb : commandE aT goT whole = 0 := by decide +kernel
theorem evTc : yT.ph = 1 ∧ yT.s.mo = 2 ∧ yT.s.ar = true := by decide +kernel
theorem evTd : zT.ph = 1 ∧ zT.s.mo = 0 ∧ zT.s.ar = false := by decide +kernel
theorem voteT : voteI 4621819117588971520 4621819117588971520 0 = 2 := by decide +kernel
end Dw
end Go.Proofs.YtjibbchfndhhpaaGreatDoor
