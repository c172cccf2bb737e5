/- What the statement's proof stands on, part 26: PlainSup, Sup1, Sup2, Sup3, Sup4. -/
import Derived.Test.YtjibbchfndhhpaaGreatDoorRc5
import Derived.Test.YtjibbchfndhhpaaGreatDoorRc7
import Derived.Test.YtjibbchfndhhpaaGreatDoorRc10
import Derived.Test.YtjibbchfndhhpaaGreatDoorRc25
import Derived.Test.YtjibbchfndhhpaaGreatDoorRc17
import Derived.Test.YtjibbchfndhhpaaGreatDoorRc20
import Derived.Test.YtjibbchfndhhpaaGreatDoorRc22
set_option linter.unusedSimpArgs false
set_option linter.unusedVariables false
set_option maxRecDepth 100000
set_option maxHeartbeats 4000000
namespace Go.Proofs.YtjibbchfndhhpaaGreatDoor
open Go.RowKit Go.Shelf
namespace Dw
def fixE (x c : Nat) : Int := if nanB x then 12 else if fgt (absF x) c then 13 else 0
structure Cmd where
  ki : Int
  n : Int
  la : Nat
  lo : Nat
def goesE (s : St) (n : Int) : Int :=
  if wayB s.mo n = false then 20 else if s.ar = false ∧ n ≠ 0 then 22 else if s.ar = true ∧ n = 0 then 21 else if homeB n = true ∧ s.ho = false then 23 else if soundN s.iso < needsI n then 24 else 0
def armE (s : St) : Int := if s.ar = true then 21 else if soundN s.iso < 2 then 24 else 0
def disarmE (s : St) : Int := if s.ar = false then 22 else if s.mo ≠ 1 ∧ s.mo ≠ 5 then 20 else 0
def homeE (c : Cmd) : Int := if fixE c.la 4636033603912859648 ≠ 0 then fixE c.la 4636033603912859648 else fixE c.lo 4640537203540230144
def bitOn (iso n : Int) : Bool := decide (iso / 2 ^ n.toNat % 2 = 1)
def setOn (iso n : Int) : Int := if bitOn iso n then iso else iso + 2 ^ n.toNat
def setOff (iso n : Int) : Int := if bitOn iso n then iso - 2 ^ n.toNat else iso
def isoE (s : St) (n : Int) : Int := if n < 0 ∨ 3 < n then 1 else if bitOn s.iso n = false ∧ soundN s.iso - 1 < needsI s.mo then 24 else 0
def resE (n : Int) : Int := if n < 0 ∨ 3 < n then 1 else 0
def deltaE (s : St) (c : Cmd) : Int :=
  if c.ki = 1 then goesE s c.n else if c.ki = 2 then armE s else if c.ki = 3 then disarmE s else if c.ki = 4 then homeE c else if c.ki = 5 then isoE s c.n else if c.ki = 6 then resE c.n else 1
def deltaT (s : St) (c : Cmd) : St :=
  if c.ki = 1 then { s with mo := c.n } else if c.ki = 2 then { s with ar := true, mo := 1 } else if c.ki = 3 then { s with ar := false, mo := 0 }
  else if c.ki = 4 then { s with ho := true, la := fixV c.la, lo := fixV c.lo } else if c.ki = 5 then { s with iso := setOn s.iso c.n } else { s with iso := setOff s.iso c.n }
def deltaS (s : St) (c : Cmd) : St := if deltaE s c = 0 then deltaT s c else s
structure Pw where
  cut : Int
  mask : List UInt8
structure Su where
  f : Fl
  s : St
  ph : Int
  vo : Int
  n : Int
def bootT (f : Fl) : St := if readE f.a f.b = 0 then unP (readS f.a f.b).data else st0
def boot (f : Fl) : Su := ⟨f, bootT f, 0, 0, 0⟩
def kept (x : Su) : Bool := decide (readE x.f.a x.f.b = 0) && decide (pack x.s = (readS x.f.a x.f.b).data)
def wStp (t : St) (p : Pw) : Stp := ⟨pack t, p.cut, p.mask⟩
def writeX (x : Su) (t : St) (p : Pw) : Su :=
  if (plan x.f (pack t)).2 = 0 then (if ackB x.f (wStp t p) then { x with f := (putG x.f (wStp t p)).1, s := t } else { x with f := (putG x.f (wStp t p)).1, ph := 3 }) else { x with ph := 2 }
def writeE (x : Su) (t : St) (p : Pw) : Int := if (plan x.f (pack t)).2 = 0 ∧ ackB x.f (wStp t p) = true then 0 else 26
def refusedE (x : Su) (c : Cmd) : Int := if x.ph = 2 ∨ x.ph = 3 then 26 else if x.ph = 0 ∧ 1 ≤ c.ki ∧ c.ki ≤ 3 then 25 else deltaE x.s c
def commandX (x : Su) (c : Cmd) (p : Pw) : Su := if refusedE x c = 0 ∧ deltaT x.s c ≠ x.s then writeX x (deltaT x.s c) p else x
def commandE (x : Su) (c : Cmd) (p : Pw) : Int := if refusedE x c = 0 ∧ deltaT x.s c ≠ x.s then writeE x (deltaT x.s c) p else refusedE x c
def voted (x : Su) (v : Int) : Su := { x with vo := addV x.vo v, n := addN x.vo x.n v }
def sampleX (x : Su) (v : Int) (p : Pw) : Su :=
  if x.ph = 3 then x else
  let y := voted x v
  let d := verdC y.vo y.n
  if x.ph ≠ 0 ∨ d = 0 then y else
  let t := resolveS x.s d
  if t = x.s ∧ kept x = true then { y with ph := 1 } else
  if writeE y t p = 0 then { writeX y t p with ph := 1 } else writeX y t p
def sampleE (x : Su) (v : Int) (p : Pw) : Int :=
  if x.ph = 3 then 26 else
  let y := voted x v
  let d := verdC y.vo y.n
  if x.ph ≠ 0 ∨ d = 0 then 0 else
  let t := resolveS x.s d
  if t = x.s ∧ kept x = true then 0 else writeE y t p
end Dw
abbrev suC (x : Dw.Su) : Array Value := #[.string ⟨x.f.a.toArray⟩, .string ⟨x.f.b.toArray⟩, .int .i64 x.f.e0, .int .i64 x.f.e1, .int .i64 x.f.li, .int .i64 x.s.mo, .bool x.s.ar, .bool x.s.ho, .int .i64 x.s.la, .int .i64 x.s.lo, .int .i64 x.s.iso, .int .i64 x.ph, .int .i64 x.vo, .int .i64 x.n]
abbrev suV (x : Dw.Su) : Value := .agg #[.string ⟨x.f.a.toArray⟩, .string ⟨x.f.b.toArray⟩, .int .i64 x.f.e0, .int .i64 x.f.e1, .int .i64 x.f.li, .int .i64 x.s.mo, .bool x.s.ar, .bool x.s.ho, .int .i64 x.s.la, .int .i64 x.s.lo, .int .i64 x.s.iso, .int .i64 x.ph, .int .i64 x.vo, .int .i64 x.n]
abbrev cmC (c : Dw.Cmd) : Array Value := #[.int .i64 c.ki, .int .i64 c.n, .float .f64 c.la, .float .f64 c.lo]
abbrev cmV (c : Dw.Cmd) : Value := .agg #[.int .i64 c.ki, .int .i64 c.n, .float .f64 c.la, .float .f64 c.lo]
abbrev pwV (p : Dw.Pw) : Value := .agg #[.int .i64 p.cut, .string ⟨p.mask.toArray⟩]
end Go.Proofs.YtjibbchfndhhpaaGreatDoor
namespace Go.Proofs.YtjibbchfndhhpaaGreatDoor
open Go.RowKit Go.Shelf
attribute [local go_sem] Oper.semAt_some
abbrev stopP (n : Int) : PanicEntry := { v := .iface 98 (.agg #[.int .i64 n]), recovered := false }
abbrev stopR (n : Int) : PanicEntry := { v := .iface 98 (.agg #[.int .i64 n]), recovered := true }
theorem run_assert_struct {P : Program} (t xT : TypeId) (v : Value) (w : World) {d : TypeDesc} (h : P.underlying t = some d) (hd : (match d with | .struct _ => true | _ => false) = true) : (Instr.typeAssert (.iface t v) xT t true).run P w = .ok (.tuple #[v, .bool true]) w := by
  have e := run_underlying h w
  cases d <;> simp at hd <;> simp [Instr.typeAssert, Sem.run_bind, e]
theorem assert_stop (n : Int) (w : World) : (Instr.typeAssert (.iface 98 (.agg #[.int .i64 n])) 20 98 true).run Tryz.prog w = .ok (.tuple #[.agg #[.int .i64 n], .bool true]) w :=
  run_assert_struct _ _ _ _ Tryz.underlying98 rfl
theorem guard_idle (p : Addr) (w : World) :
    CallsD Tryz.prog 52 #[.pointer (some p)] .returning w fun e u' w' => e = .returned (.tuple #[]) ∧ u' = .returning ∧ w' = w := by
  refine callsD_of_wpS Tryz.func52 rfl fun c₀ cs hu => ?_
  apply wpS_seq
  apply wpS_region
  simp [wpOpsS, go_sem, recoverD, hu, Tryz.ntmps52, Exit.thenS]
  refine wpS_of_wp ?_
  rw [show #[Value.pointer (some p)] ++ (Array.replicate 14 undef).setIfInBounds 4 Value.nilIface = #[.pointer (some p), undef, undef, undef, undef, .nilIface, undef, undef, undef, undef, undef, undef, undef, undef, undef] from rfl]
  go_wp2_with fail
  cases c₀
  simp_all [bodyPostS, results, Tryz.results52]
theorem guard_stop (g : Nat) (n old : Int) (ty : TypeId) (older : List PanicEntry) (w : World) (h : w.heap[g]? = some (.cells #[.int .i64 old] ty (0, 0))) :
    CallsD Tryz.prog 52 #[.pointer (some ⟨g, 0, none⟩)] (.panicking (stopP n :: older)) w fun e u' w' => e = .returned (.tuple #[]) ∧ u' = .panicking (stopR n :: older) ∧ w'.heap[g]? = some (.cells #[.int .i64 n] ty (0, 0)) ∧ KeepBut (fun k => k = g) w w' := by
  have c0 := cells1 h
  refine callsD_of_wpS Tryz.func52 rfl fun c₀ cs hu => ?_
  apply wpS_seq
  apply wpS_region
  simp [wpOpsS, go_sem, recoverD, hu, Tryz.ntmps52, Exit.thenS]
  refine wpS_of_wp ?_
  rw [show #[Value.pointer (some ⟨g, 0, none⟩)] ++ (Array.replicate 14 undef).setIfInBounds 4 (.iface 98 (.agg #[.int .i64 n])) = #[.pointer (some ⟨g, 0, none⟩), undef, undef, undef, undef, .iface 98 (.agg #[.int .i64 n]), undef, undef, undef, undef, undef, undef, undef, undef, undef] from rfl]
  have hne : g ≠ w.heap.size := by have := block_lt h; omega
  have hz : w.frozen? ⟨g, 0, none⟩ = false := by simp [World.frozen?, h]
  have hta := fun n w => assert_stop n w
  have hA := hao w (.cells #[.int .i64 n] 98) h
  have c1 := cells1 hA
  have z1 := frozen0 hA 0
  have q1 := heap_setCell_same _ g 0 _ ty (.int .i64 n) hA
  change _ = some (Obj.cells #[.int .i64 n] _ _) at q1
  have qk : KeepBut (fun k => k = g) w ((w.alloc (.cells #[.int .i64 n] 98)).setCell ⟨g, 0, none⟩ (.int .i64 n)) := ((KeepBut.refl (fun k => k = g) w).alloc _).setCell (p := ⟨g, 0, none⟩) rfl _
  clear h hA c0 hz
  go_wp2_with fail
  cases c₀
  simp [bodyPostS, results, Tryz.results52, q1, qk]
abbrev pwC (p : Dw.Pw) : Array Value := #[.int .i64 p.cut, .string ⟨p.mask.toArray⟩]
abbrev flC (f : Dw.Fl) : Array Value := flashC f.a f.b f.e0 f.e1 f.li
def WEnd (x : Dw.Su) (t : Dw.St) (G : Dw.Fl) (ack : Bool) (er : Int) (g : Nat) (w : World) (e : Ending) (w' : World) : Prop :=
  KeepBut (fun k => k = g) w w' ∧
  ((¬ er = 0 ∧ e = .panicked [stopP 26] ∧ w'.heap[g]? = some (.cells (suC { x with ph := 2 }) 45 (0, 0))) ∨
   (er = 0 ∧ ack = false ∧ e = .panicked [stopP 26] ∧ w'.heap[g]? = some (.cells (suC { x with f := G, ph := 3 }) 45 (0, 0))) ∨
   (er = 0 ∧ ack = true ∧ e = .returned (.tuple #[]) ∧ w'.heap[g]? = some (.cells (suC { x with f := G, s := t }) 45 (0, 0))))
theorem write_core (x : Dw.Su) (t : Dw.St) (p : Dw.Pw) (G : Dw.Fl) (ack : Bool) (er : Int) (g : Nat) (w : World) (hn : NoneAt w) (_hgn : 0 ≠ g) (hg : w.heap[g]? = some (.cells (suC x) 45 (0, 0)))
    (hP : ∀ w, Calls Tryz.prog 93 #[stV t] w fun e w' => e = .returned (.int .u64 (Dw.pack t)) ∧ Below w.heap.size w w')
    (hJ : ∀ w, NoneAt w → Calls Tryz.prog 92 #[flV x.f, stpV (Dw.wStp t p)] w fun e w' => e = .returned (.tuple #[flV G, .bool ack, .int .i64 er]) ∧ Below w.heap.size w w') :
    Calls Tryz.prog 54 #[.pointer (some ⟨g, 0, none⟩), stV t, pwV p] w (WEnd x t G ack er g w) := by
  have hgl := block_lt hg
  obtain ⟨V, hV⟩ : ∃ V, (w.alloc (.cells (stC t) 28)).alloc (.cells (pwC p) 51) = V := ⟨_, rfl⟩
  have b0 : V.heap[w.heap.size]? = some (.cells (stC t) 28) := by rw [← hV]; exact heap_alloc2_old _ _ _
  have b1 : V.heap[w.heap.size + 1]? = some (.cells (pwC p) 51) := by rw [← hV]; exact heap_alloc2_new _ _ _
  have vB : Below w.heap.size w V := by rw [← hV]; exact ((Below.refl _ w).alloc (Nat.le_refl _) _).alloc (by simp) _
  have b2 := (vB.block g hgl).trans hg
  obtain ⟨f, s, ph, vo, nn⟩ := x
  obtain ⟨⟨x0, x1, x2, x3, x4⟩, -, -⟩ := cells14 b2
  obtain ⟨t0, t1, t2, t3, t4, t5⟩ := cells6 b0
  obtain ⟨p0, p1⟩ := cells2 b1
  have hNV := hn.next vB
  have HP := Lib.hid hP; have HJ := Lib.hid hJ
  obtain ⟨pd, hpd⟩ : ∃ pd, Dw.pack t = pd := ⟨_, rfl⟩
  unfold Dw.wStp at HJ
  rw [hpd] at HP HJ
  dsimp only at HP HJ x0 x1 x2 x3 x4 b2
  clear hP hJ hg hn hpd
  obtain ⟨tm, ta, th, tla, tlo, tis⟩ := t
  obtain ⟨cut, mask⟩ := p
  dsimp only at t0 t1 t2 t3 t4 t5 p0 p1 b0 b1 HP HJ
  go_enter Tryz.func54, Tryz.ntmps54
  go_wp2_with fail
  try rw [hV]
  clear hV
  refine RT.wp_letter2 (fun j => V.heap.size ≤ j) (fun k => decide (14 ≤ k)) [0, 1, 2, 3, 4, 5, 6, 7, 8, 9, 10, 11, 12, 13, 14, 15, 18] 16 17 19 (some 6) none (NewBlock V #[.string ⟨#[]⟩, .string ⟨#[]⟩, .int .i64 0, .int .i64 0, .int .i64 0] 41) (fun v w2 w' => ∃ b, v = .pointer (some ⟨b, 0, none⟩) ∧ RT.Stored w2 b (flC G) 41 w') rfl rfl rfl rfl (by kernel_rfl) (by kernel_rfl) (by kernel_rfl) rfl (fun v w2 A B h hk => by obtain ⟨b, e, h⟩ := h; exact ⟨b, e, h.keep hk⟩) ?_
  (apply RT.rat; (focus (intro w' w'' hk hk2; obtain ⟨k0,k1,k2,k3,k4,k5,k6,k7⟩ := look8 hk x0 x1 x2 x3 x4 t0 t1 t2; obtain ⟨k8,k9,k10,k11,k12⟩ := look5 hk t3 t4 t5 p0 p1; (iterate 5 (refine' RT.rv ?_ rfl rfl rfl (by go_simp; first | done | with_reducible rfl | exact rfl); try simp only [Act.put, List.setIfInBounds_toArray, List.set_cons_zero, List.set_cons_succ])); (refine' RT.rc ?_ (by exact rfl) (by exact rfl) (by exact rfl) (by go_simp; first | done | (constructor <;> with_reducible rfl) | with_reducible rfl) (by exact HP.out w'); try simp only [Act.put, List.setIfInBounds_toArray, List.set_cons_zero, List.set_cons_succ]); (iterate 5 (refine' RT.rv ?_ rfl rfl rfl (by go_simp; first | done | with_reducible rfl | exact rfl); try simp only [Act.put, List.setIfInBounds_toArray, List.set_cons_zero, List.set_cons_succ])); (refine' RT.rc ?_ (by exact rfl) (by exact rfl) (by exact rfl) (by go_simp; first | done | (constructor <;> with_reducible rfl) | with_reducible rfl) (by exact HJ.out w' (hNV.keep hk)); try simp only [Act.put, List.setIfInBounds_toArray, List.set_cons_zero, List.set_cons_succ]); (iterate 2 (refine' RT.rv ?_ rfl rfl rfl (by go_simp; first | done | with_reducible rfl | exact rfl); try simp only [Act.put, List.setIfInBounds_toArray, List.set_cons_zero, List.set_cons_succ])); (iterate 3 (refine' RT.rl ?_ rfl rfl rfl (by go_simp; first | done | with_reducible rfl | exact rfl); try simp only [Act.put, List.setIfInBounds_toArray, List.set_cons_zero, List.set_cons_succ])); (exact RT.rn))))
  refine RT.pl_nil ⟨rfl, sure_new (fun w' _ => by go_simp), ?_⟩
  rintro v W2 hk2 ⟨b, rfl, hb, hbc⟩
  refine ⟨rfl, RT.Stores.mono (fun k h => by rw [h]; exact hb) (fun w' h => ⟨b, rfl, h⟩) (RT.stb hbc rfl rfl rfl (by kernel_rfl)), ?_⟩
  rintro W3 ⟨b', hb', hst⟩
  obtain rfl : b = b' := by injection hb' with h; injection h with h; injection h with h
  obtain ⟨hk3, eb⟩ := hst
  clear hb'
  simp only [List.drop_succ_cons, List.drop_zero, List.setIfInBounds_toArray, List.set_cons_zero, List.set_cons_succ]
  have hbg : g ≠ b := by have := vB.size; omega
  have hb0 : w.heap.size ≠ b := by have := block_lt b0; omega
  have d0 := kpi hk2 b0
  have d2 := kpi hk2 b2
  have e0 := (hk3.block _ (block_lt d0) hb0).trans d0
  have e2 := (hk3.block _ (block_lt d2) hbg).trans d2
  have hBe : Below w.heap.size w W3 := by
    have h1 := vB.trans (hk2.whole.mono vB.size)
    exact h1.trans (hk3.below h1.size (fun k hk => by have := vB.size; omega))
  clear x0 x1 x2 x3 x4 t0 t1 t2 t3 t4 t5 p0 p1 hk2 d0 d2 HP HJ b0 b1 b2 vB hNV
  have hKe : KeepBut (fun k => k = g) w W3 := (keepB hBe).mono (fun _ _ h => h.elim)
  have hgw : w.heap.size ≠ g := by omega
  by_cases her : er = 0
  · subst her
    have e3 := setRow_heap W3 g _ (suC ⟨G, s, ph, vo, nn⟩) _ _ e2
    have f0 := (setRow_other W3 g w.heap.size (suC ⟨G, s, ph, vo, nn⟩) hgw).trans e0
    have hK3 := hKe.row (g := g) rfl (suC ⟨G, s, ph, vo, nn⟩)
    cases ack
    · have q := heap_setCell_same _ g 11 _ _ (.int .i64 3) e3
      change _ = some (Obj.cells (suC ⟨G, s, 3, vo, nn⟩) _ _) at q
      have hK4 := hK3.setCell (p := ⟨g, 11, none⟩) rfl (.int .i64 3)
      obtain ⟨-, -, c11, -⟩ := cells14 e3
      have z11 := frozen0 e3 11
      go_wp2_with (first | (refine lb eb rfl rfl rfl (by kernel_rfl) ?_) | (refine sb eb rfl rfl rfl rfl (by kernel_rfl) ?_) | (refine sp 41 0 (flC G) (suC ⟨G, s, ph, vo, nn⟩) e2 rfl rfl rfl rfl (by kernel_rfl) (by rfl) (by rfl) ?_))
      exact ⟨rfl, hK4, .inr (.inl ⟨rfl, rfl, rfl, q⟩)⟩
    · have q := setRow_heap _ g _ (suC ⟨G, ⟨tm, ta, th, tla, tlo, tis⟩, ph, vo, nn⟩) _ _ e3
      have hK4 := hK3.row (g := g) rfl (suC ⟨G, ⟨tm, ta, th, tla, tlo, tis⟩, ph, vo, nn⟩)
      go_wp2_with (first | (refine lb eb rfl rfl rfl (by kernel_rfl) ?_) | (refine sb eb rfl rfl rfl rfl (by kernel_rfl) ?_) | (refine sp 41 0 (flC G) (suC ⟨G, s, ph, vo, nn⟩) e2 rfl rfl rfl rfl (by kernel_rfl) (by rfl) (by rfl) ?_) | (refine lb f0 rfl rfl rfl (by kernel_rfl) ?_) | (refine sb f0 rfl rfl rfl rfl (by kernel_rfl) ?_) | (refine sp 28 5 (stC ⟨tm, ta, th, tla, tlo, tis⟩) (suC ⟨G, ⟨tm, ta, th, tla, tlo, tis⟩, ph, vo, nn⟩) e3 rfl rfl rfl rfl (by kernel_rfl) (by rfl) (by rfl) ?_))
      exact ⟨rfl, .tuple #[], by simp [results, Tryz.results54], hK4, .inr (.inr ⟨rfl, rfl, rfl, q⟩)⟩
  · have q := heap_setCell_same _ g 11 _ _ (.int .i64 2) e2
    change _ = some (Obj.cells (suC ⟨f, s, 2, vo, nn⟩) _ _) at q
    have hK4 := hKe.setCell (p := ⟨g, 11, none⟩) rfl (.int .i64 2)
    obtain ⟨-, -, c11, -⟩ := cells14 e2
    have z11 := frozen0 e2 11
    have her' : (er == 0) = false := by simpa using her
    go_wp2_with fail
    exact ⟨rfl, hK4, .inl ⟨her, rfl, q⟩⟩
theorem alloc5 (w : World) (o0 o1 o2 o3 o4 : Obj) (V : World) (h : ((((w.alloc o0).alloc o1).alloc o2).alloc o3).alloc o4 = V) :
    V.heap.size = w.heap.size + 5 ∧ Below w.heap.size w V ∧ V.heap[w.heap.size]? = some o0 ∧ V.heap[w.heap.size + 1]? = some o1 ∧ V.heap[w.heap.size + 2]? = some o2 ∧ V.heap[w.heap.size + 3]? = some o3 ∧ V.heap[w.heap.size + 4]? = some o4 := by
  subst h
  have s : ∀ (u : World) (o : Obj), (u.alloc o).heap.size = u.heap.size + 1 := fun u o => by simp
  have n : ∀ (u : World) (o : Obj), (u.alloc o).heap[u.heap.size]? = some o := fun u o => World.alloc_heap_new u o
  have a : ∀ (u : World) (o : Obj) (k : Nat), k < u.heap.size → (u.alloc o).heap[k]? = u.heap[k]? := fun u o k h => Below.heap_alloc _ _ _ h
  obtain ⟨-, hb, h0, h1, h2⟩ := alloc3 w o0 o1 o2 _ rfl
  have z3 : (((w.alloc o0).alloc o1).alloc o2).heap.size = w.heap.size + 3 := by simp
  generalize ((w.alloc o0).alloc o1).alloc o2 = U at *
  have z4 : (U.alloc o3).heap.size = w.heap.size + 4 := by rw [s, z3]
  refine ⟨by rw [s, z4], (hb.alloc hb.size _).alloc (by rw [z4]; omega) _, ?_, ?_, ?_, ?_, ?_⟩
  · rw [a _ _ _ (by omega), a _ _ _ (by omega)]; exact h0
  · rw [a _ _ _ (by omega), a _ _ _ (by omega)]; exact h1
  · rw [a _ _ _ (by omega), a _ _ _ (by omega)]; exact h2
  · rw [a _ _ _ (by omega), ← z3]; exact n _ _
  · rw [← z4]; exact n _ _
abbrev Z14 : Array Value := #[.string ⟨#[]⟩, .string ⟨#[]⟩, .int .i64 0, .int .i64 0, .int .i64 0, .int .i64 0, .bool false, .bool false, .int .i64 0, .int .i64 0, .int .i64 0, .int .i64 0, .int .i64 0, .int .i64 0]
theorem sup_results {fn : Func} (hr : fn.results = #[.cell 6 45, .cell 7 62]) {tmps : Array Value} {g1 g2 : Nat} (h6 : tmps.getD 6 undef = .pointer (some ⟨g1, 0, none⟩)) (h7 : tmps.getD 7 undef = .pointer (some ⟨g2, 0, none⟩))
    {x : Dw.Su} {e : Int} {w : World} (b1 : w.heap[g1]? = some (.cells (suC x) 45 (0, 0))) (b2 : w.heap[g2]? = some (.cells #[.int .i64 e] 62 (0, 0))) :
    (results fn tmps).run Tryz.prog w = .ok (.tuple #[suV x, .int .i64 e]) w := by
  have h6' : tmps[6]?.getD undef = .pointer (some ⟨g1, 0, none⟩) := by simpa using h6
  have h7' : tmps[7]?.getD undef = .pointer (some ⟨g2, 0, none⟩) := by simpa using h7
  have k5 := cells1 b2
  have l1 := run_loadVar_row (P := Tryz.prog) w g1 _ 45 (suC x) _ _ b1 Tryz.underlying45 rfl (by kernel_rfl)
  have l2 : (loadVar 62 ⟨g2, 0, none⟩).run Tryz.prog w = .ok (.int .i64 e) w := by simp [go_sem, k5]
  simp [results, hr, h6', h7', asAddr, l1, l2]
theorem leave_ok {fn : Func} (hr : fn.results = #[.cell 6 45, .cell 7 62]) {tmps : Array Value} {g1 g2 : Nat} (h6 : tmps.getD 6 undef = .pointer (some ⟨g1, 0, none⟩)) (h7 : tmps.getD 7 undef = .pointer (some ⟨g2, 0, none⟩))
    {x : Dw.Su} {e : Int} {w : World} (b1 : w.heap[g1]? = some (.cells (suC x) 45 (0, 0))) (b2 : w.heap[g2]? = some (.cells #[.int .i64 e] 62 (0, 0)))
    {R : Ending → World → Prop} {fv : Fn} {cap dargs : Array Value} (hi : (invoke (.fn fv cap) dargs).run Tryz.prog w = .ok (.enter 52 #[.pointer (some ⟨g2, 0, none⟩)]) w)
    (hR : R (.returned (.tuple #[suV x, .int .i64 e])) w) : Leaves Tryz.prog fn tmps R [{ target := .fn fv cap, args := dargs }] .returning w := by
  refine leaves_cons (by simp) hi ((guard_idle ⟨g2, 0, none⟩ w).mono ?_)
  rintro e' u' w'' ⟨rfl, rfl, rfl⟩
  exact ⟨_, sup_results hr h6 h7 b1 b2, hR⟩
theorem leave_stop {fn : Func} (hr : fn.results = #[.cell 6 45, .cell 7 62]) {tmps : Array Value} {g1 g2 : Nat} (h6 : tmps.getD 6 undef = .pointer (some ⟨g1, 0, none⟩)) (h7 : tmps.getD 7 undef = .pointer (some ⟨g2, 0, none⟩))
    {x : Dw.Su} {n old : Int} {w : World} (b1 : w.heap[g1]? = some (.cells (suC x) 45 (0, 0))) (b2 : w.heap[g2]? = some (.cells #[.int .i64 old] 62 (0, 0))) (hne : g1 ≠ g2)
    {R : Ending → World → Prop} {fv : Fn} {cap dargs : Array Value} (hi : (invoke (.fn fv cap) dargs).run Tryz.prog w = .ok (.enter 52 #[.pointer (some ⟨g2, 0, none⟩)]) w)
    (hR : ∀ w', KeepBut (fun k => k = g2) w w' → R (.returned (.tuple #[suV x, .int .i64 n])) w') : Leaves Tryz.prog fn tmps R [{ target := .fn fv cap, args := dargs }] (.panicking [stopP n]) w := by
  refine leaves_cons (by simp) hi ((guard_stop g2 n old _ [] w b2).mono ?_)
  rintro e' u' w'' ⟨rfl, rfl, hq, hk⟩
  exact ⟨_, sup_results hr h6 h7 ((hk.block g1 (block_lt b1) hne).trans b1) hq, hR _ hk⟩
def WOut (x : Dw.Su) (t : Dw.St) (p : Dw.Pw) (g : Nat) (w : World) (e : Ending) (w' : World) : Prop :=
  KeepBut (fun k => k = g) w w' ∧ w'.heap[g]? = some (.cells (suC (Dw.writeX x t p)) 45 (0, 0)) ∧
  ((Dw.writeE x t p = 0 ∧ e = .returned (.tuple #[])) ∨ (Dw.writeE x t p = 26 ∧ e = .panicked [stopP 26]))
theorem sup_write (x : Dw.Su) (t : Dw.St) (p : Dw.Pw) (hf : Dw.FlOk x.f) (ht : Dw.legal t = true) (g : Nat) (w : World) (hn : NoneAt w) (hgn : 0 ≠ g) (hg : w.heap[g]? = some (.cells (suC x) 45 (0, 0))) :
    Calls Tryz.prog 54 #[.pointer (some ⟨g, 0, none⟩), stV t, pwV p] w (WOut x t p g w) := by
  have hP := fun w => pack_any t ht w
  have hJ := fun w hn => put12_any x.f hf (Dw.wStp t p) (Dw.pack_lt64 t) w hn
  unfold putV at hJ
  have hd : (Dw.wStp t p).data = Dw.pack t := rfl
  rw [hd] at hJ
  by_cases h0 : (Dw.plan x.f (Dw.pack t)).2 = 0
  · rw [if_pos h0] at hJ
    refine (write_core x t p (Dw.putG x.f (Dw.wStp t p)).1 (Dw.ackB x.f (Dw.wStp t p)) 0 g w hn hgn hg hP hJ).mono ?_
    rintro e w' ⟨hk, ⟨h, -⟩ | ⟨-, ha, rfl, hq⟩ | ⟨-, ha, rfl, hq⟩⟩
    · exact absurd rfl h
    · refine ⟨hk, ?_, .inr ⟨?_, rfl⟩⟩
      · unfold Dw.writeX; rw [if_pos h0, if_neg (by rw [ha]; decide)]; exact hq
      · unfold Dw.writeE; rw [if_neg (by rw [ha]; simp)]
    · refine ⟨hk, ?_, .inl ⟨?_, rfl⟩⟩
      · unfold Dw.writeX; rw [if_pos h0, if_pos ha]; exact hq
      · unfold Dw.writeE; rw [if_pos ⟨h0, ha⟩]
  · rw [if_neg h0] at hJ
    refine (write_core x t p x.f false _ g w hn hgn hg hP hJ).mono ?_
    rintro e w' ⟨hk, ⟨-, rfl, hq⟩ | ⟨h, -⟩ | ⟨h, -⟩⟩
    · refine ⟨hk, ?_, .inr ⟨?_, rfl⟩⟩
      · unfold Dw.writeX; rw [if_neg h0]; exact hq
      · unfold Dw.writeE; rw [if_neg (fun h => h0 h.1)]
    · exact absurd h h0
    · exact absurd h h0
end Go.Proofs.YtjibbchfndhhpaaGreatDoor
namespace Go.Proofs.YtjibbchfndhhpaaGreatDoor
open Go.RowKit Go.Shelf
attribute [local go_sem] Oper.semAt_some
namespace Dw
theorem ofS_lt (s : List UInt8) (i : Int) : (ofS s i).data < 18446744073709551616 := by
  unfold ofS
  split
  · exact (lastN_lt s _).2
  · decide
theorem readS_lt (a b : List UInt8) : (readS a b).data < 18446744073709551616 := by
  unfold readS
  split
  · decide
  · unfold best
    (repeat' split) <;> exact ofS_lt _ _
end Dw
theorem skept_any (x : Dw.Su) (hf : Dw.FlOk x.f) (hl : Dw.legal x.s = true) (w : World) (hn : NoneAt w) :
    Calls Tryz.prog 98 #[suV x] w fun e w' => e = .returned (.bool (Dw.kept x)) ∧ Below w.heap.size w w' := by
  have hB := (Below.refl w.heap.size w).alloc (Nat.le_refl _) (.cells (suC x) 45)
  have hC := han w (.cells (suC x) 45)
  obtain ⟨f, s, ph, vo, nn⟩ := x
  have HP := Lib.hid (fun w => pack_any s hl w)
  have HR := Lib.hid (fun w hn => read_any f.a f.b hf.a hf.b f.e0 f.e1 f.li w hn)
  have HK := Lib.hid (show Dw.kept ⟨f, s, ph, vo, nn⟩ = (decide (Dw.readE f.a f.b = 0) && decide (Dw.pack s = (Dw.readS f.a f.b).data)) from rfl)
  have hE2 := Dw.readE_two f.a f.b
  generalize Dw.kept ⟨f, s, ph, vo, nn⟩ = K at *
  generalize Dw.readE f.a f.b = er at *
  obtain ⟨⟨pb, pg, pq, pd⟩, hS⟩ : ∃ p, Dw.readS f.a f.b = p := ⟨_, rfl⟩
  rw [hS] at HK HR
  generalize Dw.pack s = pk at *
  clear hS hf hl
  have hNV := hn.next hB
  dsimp only at hC HK
  obtain ⟨x0, x1, -⟩ := cells14 hC
  obtain ⟨x00, x01, x02, x03, x04⟩ := x0
  go_enter Tryz.func98, Tryz.ntmps98
  go_wp2_with (first | (refine lp 41 0 (flC f) hC rfl rfl rfl (by kernel_rfl) (by rfl) ?_))
  refine cb (HR.out _ hNV) fun w1 hb => ?_
  have hC1 := kp hb hC
  replace hB := tr hB hb
  clear hb hC x00 x01 x02 x03 x04 x1 hNV hn HR
  have b4 := han w1 (.cells #[.int .i64 pb, .int .u64 pg, .int .u64 pq, .int .u64 pd] 106)
  have b1 := hao w1 (.cells #[.int .i64 pb, .int .u64 pg, .int .u64 pq, .int .u64 pd] 106) hC1
  replace hB := hB.alloc hB.size (.cells #[.int .i64 pb, .int .u64 pg, .int .u64 pq, .int .u64 pd] 106)
  obtain ⟨W, hW⟩ : ∃ W, w1.alloc (.cells #[.int .i64 pb, .int .u64 pg, .int .u64 pq, .int .u64 pd] 106) = W := ⟨_, rfl⟩
  rw [hW] at b4 b1 hB
  clear hC1
  obtain ⟨-, ⟨x5, x6, x7, x8, x9, x10⟩, -⟩ := cells14 b1
  obtain ⟨q0, q1, q2, q3⟩ := cells4 b4
  go_wp2_with fail
  try rw [hW]
  clear hW
  rcases hE2 with rfl | rfl
  · refine wp_pure [0,1,2,3,4,5,6,7,8,9] 10 (by kernel_rfl) (by kernel_rfl) rfl ?_
    (apply rat; (focus (intro w' hk; obtain ⟨k0,k1,k2,k3,k4,k5,k6⟩ := look7 hk x5 x6 x7 x8 x9 x10 q3; repeat' (first | exact rn | ((first | refine' rv ?_ rfl rfl (by go_simp; first | done | with_reducible rfl | exact rfl) | refine' rc ?_ (by exact rfl) (by exact rfl) (by go_simp; first | done | (constructor <;> with_reducible rfl) | with_reducible rfl) (by exact HP.out w') | refine' rs ?_ rfl rfl); try simp only [Act.put, List.setIfInBounds_toArray, List.set_cons_zero, List.set_cons_succ])))))
    intro w2 hk2
    simp only [List.drop_succ_cons, List.drop_zero]
    replace hB := hB.trans (hk2.whole.mono hB.size)
    clear hk2 x5 x6 x7 x8 x9 x10 q0 q1 q2 q3 b1 b4
    go_wp2_with fail
    go_ret
    refine ⟨ret_bool ?_, hB⟩
    rw [HK.out, Bool.eq_iff_iff]
    simp
    try omega
  · refine wp_pure [0,1,2,3,4,5,6,7,8,9] 10 (by kernel_rfl) (by kernel_rfl) rfl ?_
    (apply rat; (focus (intro w' hk; repeat' (first | exact rn | ((first | refine' rv ?_ rfl rfl (by go_simp; first | done | with_reducible rfl | exact rfl) | refine' rc ?_ (by exact rfl) (by exact rfl) (by go_simp; first | done | (constructor <;> with_reducible rfl) | with_reducible rfl) (by exact HP.out w') | refine' rs ?_ rfl rfl); try simp only [Act.put, List.setIfInBounds_toArray, List.set_cons_zero, List.set_cons_succ])))))
    intro w2 hk2
    simp only [List.drop_succ_cons, List.drop_zero]
    replace hB := hB.trans (hk2.whole.mono hB.size)
    clear hk2 x5 x6 x7 x8 x9 x10 q0 q1 q2 q3 b1 b4
    go_wp2_with fail
    go_ret
    refine ⟨ret_bool ?_, hB⟩
    rw [HK.out]
    simp
theorem boot_any (f : Dw.Fl) (hf : Dw.FlOk f) (w : World) (hn : NoneAt w) :
    Calls Tryz.prog 25 #[flV f] w fun e w' => e = .returned (suV (Dw.boot f)) ∧ Below w.heap.size w w' := by
  obtain ⟨V, hV⟩ : ∃ V, (w.alloc (.cells (flC f) 41)).alloc (.cells Z14 45) = V := ⟨_, rfl⟩
  have b0 : V.heap[w.heap.size]? = some (.cells (flC f) 41) := by rw [← hV]; exact heap_alloc2_old _ _ _
  have b1 : V.heap[w.heap.size + 1]? = some (.cells Z14 45) := by rw [← hV]; exact heap_alloc2_new _ _ _
  have hB : Below w.heap.size w V := by rw [← hV]; exact ((Below.refl _ w).alloc (Nat.le_refl _) _).alloc (by simp) _
  have HR := Lib.hid (fun w hn => read_any f.a f.b hf.a hf.b f.e0 f.e1 f.li w hn)
  have HT := Lib.hid (show Dw.boot f = ⟨f, if Dw.readE f.a f.b = 0 then Dw.unP (Dw.readS f.a f.b).data else Dw.st0, 0, 0, 0⟩ from rfl)
  have hE2 := Dw.readE_two f.a f.b
  have hlt := Dw.readS_lt f.a f.b
  have HD := Lib.hid (fun w => default_any w)
  generalize Dw.boot f = X at *
  generalize Dw.readE f.a f.b = er at *
  obtain ⟨⟨pb, pg, pq, pd⟩, hS⟩ : ∃ p, Dw.readS f.a f.b = p := ⟨_, rfl⟩
  rw [hS] at HT HR hlt
  dsimp only at HT hlt
  have HU := Lib.hid (fun w => unpack_any pd hlt w)
  have hbad : Dw.unE pd = 0 ∨ (Dw.unE pd = 13 ∧ Dw.unP pd = Dw.st0) := by
    unfold Dw.unE Dw.unP
    cases Dw.unOk pd
    · exact .inr ⟨rfl, rfl⟩
    · exact .inl rfl
  clear hS hlt
  obtain ⟨x0, x1, x2, x3, x4⟩ := cells5 b0
  go_enter Tryz.func25, Tryz.ntmps25
  go_wp2_with fail
  try rw [hV]
  clear hV
  refine wp_letter [0, 1, 2] 3 4 (NewBlock V Z14 45) rfl (by kernel_rfl) (by kernel_rfl) rfl (fun v A B h hk => h.keep hk) ?_
  (apply rat; (focus (intro w' hk; obtain ⟨k0,k1,k2,k3,k4⟩ := look5 hk x0 x1 x2 x3 x4; repeat' (first | exact rn | ((first | refine' rv ?_ rfl rfl (by go_simp; first | done | with_reducible rfl | exact rfl) | refine' rc ?_ (by exact rfl) (by exact rfl) (by go_simp; first | done | (constructor <;> with_reducible rfl) | with_reducible rfl) (by exact HD.out w') | refine' rs ?_ rfl rfl); try simp only [Act.put, List.setIfInBounds_toArray, List.set_cons_zero, List.set_cons_succ])))))
  refine ⟨rfl, sure_new (fun w' _ => by go_simp), ?_⟩
  rintro v W2 hk2 ⟨b, rfl, hb, hbc⟩
  simp only [List.drop_succ_cons, List.drop_zero, List.setIfInBounds_toArray]
  have hb1 : w.heap.size + 1 ≠ b := by have := block_lt b1; omega
  have hb0 : w.heap.size ≠ b := by have := block_lt b0; omega
  have hwb : w.heap.size ≤ b := by have := hB.size; omega
  replace b0 := (setRow_other W2 b w.heap.size (suC ⟨f, Dw.st0, 0, 0, 0⟩) hb0).trans (kpi hk2 b0)
  replace b1 := (setRow_other W2 b (w.heap.size + 1) (suC ⟨f, Dw.st0, 0, 0, 0⟩) hb1).trans (kpi hk2 b1)
  have b3 := setRow_heap W2 b _ (suC ⟨f, Dw.st0, 0, 0, 0⟩) _ _ hbc
  replace hB := below_setRow (hB.trans (hk2.whole.mono hB.size)) hwb (suC ⟨f, Dw.st0, 0, 0, 0⟩)
  clear x0 x1 x2 x3 x4 hk2 HD
  go_wp2_with (first | (refine lb hbc rfl rfl rfl (by kernel_rfl) ?_) | (refine sb hbc rfl rfl rfl rfl (by kernel_rfl) ?_) | (refine lb b0 rfl rfl rfl (by kernel_rfl) ?_) | (refine sb b0 rfl rfl rfl rfl (by kernel_rfl) ?_))
  refine cb (HR.out _ (hn.next hB)) fun w1 hb' => ?_
  replace b1 := kp hb' b1
  replace b3 := kp hb' b3
  replace hB := hB.trans (hb'.mono hB.size)
  clear hb' b0 HR hbc
  have b4 := han w1 (.cells #[.int .i64 pb, .int .u64 pg, .int .u64 pq, .int .u64 pd] 106)
  replace b1 := hao w1 (.cells #[.int .i64 pb, .int .u64 pg, .int .u64 pq, .int .u64 pd] 106) b1
  replace b3 := hao w1 (.cells #[.int .i64 pb, .int .u64 pg, .int .u64 pq, .int .u64 pd] 106) b3
  replace hB := hB.alloc hB.size (.cells #[.int .i64 pb, .int .u64 pg, .int .u64 pq, .int .u64 pd] 106)
  obtain ⟨W, hW⟩ : ∃ W, w1.alloc (.cells #[.int .i64 pb, .int .u64 pg, .int .u64 pq, .int .u64 pd] 106) = W := ⟨_, rfl⟩
  rw [hW] at b4 b1 b3 hB
  obtain ⟨q0, q1, q2, q3⟩ := cells4 b4
  rcases hE2 with rfl | rfl
  · go_wp2_with fail
    refine cb (HU.out _) fun w2 hb' => ?_
    replace b1 := kp hb' b1
    replace b3 := kp hb' b3
    replace hB := hB.trans (hb'.mono hB.size)
    clear hb' b4 q0 q1 q2 q3 HU hW
    have hT : X = ⟨f, Dw.unP pd, 0, 0, 0⟩ := by rw [HT.out]; rfl
    generalize hu : Dw.unP pd = U at *
    have b5 := han w2 (.cells (stC U) 28)
    replace b1 := hao w2 (.cells (stC U) 28) b1
    replace b3 := hao w2 (.cells (stC U) 28) b3
    replace hB := hB.alloc hB.size (.cells (stC U) 28)
    generalize hue : Dw.unE pd = E at *
    rcases hbad with rfl | ⟨rfl, rfl⟩
    · have r1 := (setRow_other _ b (w.heap.size + 1) (suC ⟨f, U, 0, 0, 0⟩) hb1).trans b1
      have r3 := setRow_heap _ b _ (suC ⟨f, U, 0, 0, 0⟩) _ _ b3
      have hB3 := below_setRow hB hwb (suC ⟨f, U, 0, 0, 0⟩)
      go_wp2_with (first | (refine lb b5 rfl rfl rfl (by kernel_rfl) ?_) | (refine sb b5 rfl rfl rfl rfl (by kernel_rfl) ?_) | (refine sp 28 5 (stC U) (suC ⟨f, U, 0, 0, 0⟩) b3 rfl rfl rfl rfl (by kernel_rfl) (by rfl) (by rfl) ?_) | (refine lb r3 rfl rfl rfl (by kernel_rfl) ?_) | (refine sb r3 rfl rfl rfl rfl (by kernel_rfl) ?_) | (refine lb r1 rfl rfl rfl (by kernel_rfl) ?_) | (refine sb r1 rfl rfl rfl rfl (by kernel_rfl) ?_))
      exact bodyPost_ret (rcr rfl (srh r1) (by rfl) (by kernel_rfl)) rfl ⟨by rw [hT], below_setRow hB3 (by omega) _⟩
    · go_wp2_with (first | (refine lb b3 rfl rfl rfl (by kernel_rfl) ?_) | (refine sb b3 rfl rfl rfl rfl (by kernel_rfl) ?_) | (refine lb b1 rfl rfl rfl (by kernel_rfl) ?_) | (refine sb b1 rfl rfl rfl rfl (by kernel_rfl) ?_))
      exact bodyPost_ret (rcr rfl (srh b1) (by rfl) (by kernel_rfl)) rfl ⟨by rw [hT], below_setRow hB (by omega) _⟩
  · have hT : X = ⟨f, Dw.st0, 0, 0, 0⟩ := by rw [HT.out]; rfl
    clear HU q0 q1 q2 q3
    go_wp2_with (first | (refine lb b3 rfl rfl rfl (by kernel_rfl) ?_) | (refine sb b3 rfl rfl rfl rfl (by kernel_rfl) ?_) | (refine lb b1 rfl rfl rfl (by kernel_rfl) ?_) | (refine sb b1 rfl rfl rfl rfl (by kernel_rfl) ?_))
    exact bodyPost_ret (rcr rfl (srh b1) (by rfl) (by kernel_rfl)) rfl ⟨by rw [hT], below_setRow hB (by omega) _⟩
end Go.Proofs.YtjibbchfndhhpaaGreatDoor
