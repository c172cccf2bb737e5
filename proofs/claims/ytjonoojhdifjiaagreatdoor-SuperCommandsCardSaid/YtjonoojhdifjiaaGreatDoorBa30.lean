/- What the statement's proof stands on, part 30: Sup3, Sup4, Cmd1, Cmd2. -/
import Derived.Test.YtjonoojhdifjiaaGreatDoorBa29
import Derived.Test.YtjonoojhdifjiaaGreatDoorBa20
import Derived.Test.YtjonoojhdifjiaaGreatDoorBa25
import Derived.Test.YtjonoojhdifjiaaGreatDoorBa5
import Derived.Test.YtjonoojhdifjiaaGreatDoorBa26
import Derived.Test.YtjonoojhdifjiaaGreatDoorBa23
set_option linter.unusedSimpArgs false
set_option linter.unusedVariables false
set_option maxRecDepth 100000
set_option maxHeartbeats 4000000
namespace Go.Proofs.YtjonoojhdifjiaaGreatDoor
open Go.RowKit Go.Shelf
attribute [local go_sem] Oper.semAt_some
theorem alloc5 (w : World) (o0 o1 o2 o3 o4 : Obj) (V : World) (h : ((((w.alloc o0).alloc o1).alloc o2).alloc o3).alloc o4 = V) :
    V.heap.size = w.heap.size + 5 ∧ Below w.heap.size w V ∧ V.heap[w.heap.size]? = some o0 ∧ V.heap[w.heap.size + 1]? = some o1 ∧ V.heap[w.heap.size + 2]? = some o2 ∧ V.heap[w.heap.size + 3]? = some o3 ∧ V.heap[w.heap.size + 4]? = some o4 := by
  subst h
  have s : ∀ (u : World) (o : Obj), (u.alloc o).heap.size = u.heap.size + 1 := fun u o => by simp
  have n : ∀ (u : World) (o : Obj), (u.alloc o).heap[u.heap.size]? = some o := fun u o => World.alloc_heap_new u o
  have a : ∀ (u : World) (o : Obj) (k : Nat), k < u.heap.size → (u.alloc o).heap[k]? = u.heap[k]? := fun u o k h => Below.heap_alloc _ _ _ h
  obtain ⟨-, hb, h0, h1, h2⟩ := alloc3 w o0 o1 o2 _ rfl
  have z3 : (((w.alloc o0).alloc o1).alloc o2).heap.size = w.heap.size + 3 := by simp
  generalize ((w.alloc o0).alloc o1).alloc o2 = U at *
  have z4 : (U.alloc o3).heap.size = w.heap.size + 4 := by rw [s, z3]
  refine ⟨by rw [s, z4], (hb.alloc hb.size _).alloc (by rw [z4]; omega) _, ?_, ?_, ?_, ?_, ?_⟩
  · rw [a _ _ _ (by omega), a _ _ _ (by omega)]; exact h0
  · rw [a _ _ _ (by omega), a _ _ _ (by omega)]; exact h1
  · rw [a _ _ _ (by omega), a _ _ _ (by omega)]; exact h2
  · rw [a _ _ _ (by omega), ← z3]; exact n _ _
  · rw [← z4]; exact n _ _
abbrev Z14 : Array Value := #[.string ⟨#[]⟩, .string ⟨#[]⟩, .int .i64 0, .int .i64 0, .int .i64 0, .int .i64 0, .bool false, .bool false, .int .i64 0, .int .i64 0, .int .i64 0, .int .i64 0, .int .i64 0, .int .i64 0]
theorem sup_results {fn : Func} (hr : fn.results = #[.cell 6 35, .cell 7 50]) {tmps : Array Value} {g1 g2 : Nat} (h6 : tmps.getD 6 undef = .pointer (some ⟨g1, 0, none⟩)) (h7 : tmps.getD 7 undef = .pointer (some ⟨g2, 0, none⟩))
    {x : Dw.Su} {e : Int} {w : World} (b1 : w.heap[g1]? = some (.cells (suC x) 35 (0, 0))) (b2 : w.heap[g2]? = some (.cells #[.int .i64 e] 50 (0, 0))) :
    (results fn tmps).run Tryz.prog w = .ok (.tuple #[suV x, .int .i64 e]) w := by
  have h6' : tmps[6]?.getD undef = .pointer (some ⟨g1, 0, none⟩) := by simpa using h6
  have h7' : tmps[7]?.getD undef = .pointer (some ⟨g2, 0, none⟩) := by simpa using h7
  have k5 := cells1 b2
  have l1 := run_loadVar_row (P := Tryz.prog) w g1 _ 35 (suC x) _ _ b1 Tryz.underlying35 rfl (by kernel_rfl)
  have l2 : (loadVar 50 ⟨g2, 0, none⟩).run Tryz.prog w = .ok (.int .i64 e) w := by simp [go_sem, k5]
  simp [results, hr, h6', h7', asAddr, l1, l2]
theorem leave_ok {fn : Func} (hr : fn.results = #[.cell 6 35, .cell 7 50]) {tmps : Array Value} {g1 g2 : Nat} (h6 : tmps.getD 6 undef = .pointer (some ⟨g1, 0, none⟩)) (h7 : tmps.getD 7 undef = .pointer (some ⟨g2, 0, none⟩))
    {x : Dw.Su} {e : Int} {w : World} (b1 : w.heap[g1]? = some (.cells (suC x) 35 (0, 0))) (b2 : w.heap[g2]? = some (.cells #[.int .i64 e] 50 (0, 0)))
    {R : Ending → World → Prop} {fv : Fn} {cap dargs : Array Value} (hi : (invoke (.fn fv cap) dargs).run Tryz.prog w = .ok (.enter 47 #[.pointer (some ⟨g2, 0, none⟩)]) w)
    (hR : R (.returned (.tuple #[suV x, .int .i64 e])) w) : Leaves Tryz.prog fn tmps R [{ target := .fn fv cap, args := dargs }] .returning w := by
  refine leaves_cons (by simp) hi ((guard_idle ⟨g2, 0, none⟩ w).mono ?_)
  rintro e' u' w'' ⟨rfl, rfl, rfl⟩
  exact ⟨_, sup_results hr h6 h7 b1 b2, hR⟩
theorem leave_stop {fn : Func} (hr : fn.results = #[.cell 6 35, .cell 7 50]) {tmps : Array Value} {g1 g2 : Nat} (h6 : tmps.getD 6 undef = .pointer (some ⟨g1, 0, none⟩)) (h7 : tmps.getD 7 undef = .pointer (some ⟨g2, 0, none⟩))
    {x : Dw.Su} {n old : Int} {w : World} (b1 : w.heap[g1]? = some (.cells (suC x) 35 (0, 0))) (b2 : w.heap[g2]? = some (.cells #[.int .i64 old] 50 (0, 0))) (hne : g1 ≠ g2)
    {R : Ending → World → Prop} {fv : Fn} {cap dargs : Array Value} (hi : (invoke (.fn fv cap) dargs).run Tryz.prog w = .ok (.enter 47 #[.pointer (some ⟨g2, 0, none⟩)]) w)
    (hR : ∀ w', KeepBut (fun k => k = g2) w w' → R (.returned (.tuple #[suV x, .int .i64 n])) w') : Leaves Tryz.prog fn tmps R [{ target := .fn fv cap, args := dargs }] (.panicking [stopP n]) w := by
  refine leaves_cons (by simp) hi ((guard_stop g2 n old _ [] w b2).mono ?_)
  rintro e' u' w'' ⟨rfl, rfl, hq, hk⟩
  exact ⟨_, sup_results hr h6 h7 ((hk.block g1 (block_lt b1) hne).trans b1) hq, hR _ hk⟩
def WOut (x : Dw.Su) (t : Dw.St) (p : Dw.Pw) (g : Nat) (w : World) (e : Ending) (w' : World) : Prop :=
  KeepBut (fun k => k = g) w w' ∧ w'.heap[g]? = some (.cells (suC (Dw.writeX x t p)) 35 (0, 0)) ∧
  ((Dw.writeE x t p = 0 ∧ e = .returned (.tuple #[])) ∨ (Dw.writeE x t p = 26 ∧ e = .panicked [stopP 26]))
theorem sup_write (x : Dw.Su) (t : Dw.St) (p : Dw.Pw) (hf : Dw.FlOk x.f) (ht : Dw.legal t = true) (g : Nat) (w : World) (hn : NoneAt w) (hgn : 0 ≠ g) (hg : w.heap[g]? = some (.cells (suC x) 35 (0, 0))) :
    Calls Tryz.prog 48 #[.pointer (some ⟨g, 0, none⟩), stV t, pwV p] w (WOut x t p g w) := by
  have hP := fun w => pack_any t ht w
  have hJ := fun w hn => put12_any x.f hf (Dw.wStp t p) (Dw.pack_lt64 t) w hn
  unfold putV at hJ
  have hd : (Dw.wStp t p).data = Dw.pack t := rfl
  rw [hd] at hJ
  by_cases h0 : (Dw.plan x.f (Dw.pack t)).2 = 0
  · rw [if_pos h0] at hJ
    refine (write_core x t p (Dw.putG x.f (Dw.wStp t p)).1 (Dw.ackB x.f (Dw.wStp t p)) 0 g w hn hgn hg hP hJ).mono ?_
    rintro e w' ⟨hk, ⟨h, -⟩ | ⟨-, ha, rfl, hq⟩ | ⟨-, ha, rfl, hq⟩⟩
    · exact absurd rfl h
    · refine ⟨hk, ?_, .inr ⟨?_, rfl⟩⟩
      · unfold Dw.writeX; rw [if_pos h0, if_neg (by rw [ha]; decide)]; exact hq
      · unfold Dw.writeE; rw [if_neg (by rw [ha]; simp)]
    · refine ⟨hk, ?_, .inl ⟨?_, rfl⟩⟩
      · unfold Dw.writeX; rw [if_pos h0, if_pos ha]; exact hq
      · unfold Dw.writeE; rw [if_pos ⟨h0, ha⟩]
  · rw [if_neg h0] at hJ
    refine (write_core x t p x.f false _ g w hn hgn hg hP hJ).mono ?_
    rintro e w' ⟨hk, ⟨-, rfl, hq⟩ | ⟨h, -⟩ | ⟨h, -⟩⟩
    · refine ⟨hk, ?_, .inr ⟨?_, rfl⟩⟩
      · unfold Dw.writeX; rw [if_neg h0]; exact hq
      · unfold Dw.writeE; rw [if_neg (fun h => h0 h.1)]
    · exact absurd h h0
    · exact absurd h h0
theorem swrite_any (x : Dw.Su) (t : Dw.St) (p : Dw.Pw) (hf : Dw.FlOk x.f) (ht : Dw.legal t = true) (w : World) (hn : NoneAt w) :
    Calls Tryz.prog 24 #[suV x, stV t, pwV p] w fun e w' => e = .returned (.tuple #[suV (Dw.writeX x t p), .int .i64 (Dw.writeE x t p)]) ∧ Below w.heap.size w w' := by
  obtain ⟨V, hV⟩ : ∃ V, ((((w.alloc (.cells (suC x) 35)).alloc (.cells (stC t) 27)).alloc (.cells (pwC p) 49)).alloc (.cells Z14 35)).alloc (.cells #[.int .i64 0] 50) = V := ⟨_, rfl⟩
  obtain ⟨vz, vB, b0, b1, b2, b3, b4⟩ := alloc5 w _ _ _ _ _ V hV
  have e3 := setRow_heap V (w.heap.size + 3) _ (suC x) _ _ b3
  have e1 := (setRow_other V (w.heap.size + 3) (w.heap.size + 1) (suC x) (by omega)).trans b1
  have e2 := (setRow_other V (w.heap.size + 3) (w.heap.size + 2) (suC x) (by omega)).trans b2
  have e4 := (setRow_other V (w.heap.size + 3) (w.heap.size + 4) (suC x) (by omega)).trans b4
  have hB := below_setRow vB (show w.heap.size ≤ w.heap.size + 3 by omega) (suC x)
  have hng := hn.pos
  go_enter_defers Tryz.func24, Tryz.ntmps24
  go_wp2_with (first | (refine lb b0 rfl rfl rfl (by kernel_rfl) ?_) | (refine sb b0 rfl rfl rfl rfl (by kernel_rfl) ?_) | (refine lb b3 rfl rfl rfl (by kernel_rfl) ?_) | (refine sb b3 rfl rfl rfl rfl (by kernel_rfl) ?_) | (refine lb e1 rfl rfl rfl (by kernel_rfl) ?_) | (refine sb e1 rfl rfl rfl rfl (by kernel_rfl) ?_) | (refine lb e2 rfl rfl rfl (by kernel_rfl) ?_) | (refine sb e2 rfl rfl rfl rfl (by kernel_rfl) ?_))
  refine (sup_write x t p hf ht (w.heap.size + 3) _ (hn.next hB) (by omega) e3).mono ?_
  rintro e w1 ⟨hk, hq, ⟨he, rfl⟩ | ⟨he, rfl⟩⟩
  · have f4 := (hk.block _ (block_lt e4) (by omega)).trans e4
    replace hB := hB.trans (hk.below hB.size (fun k hk => by omega))
    have q1 := setRow_heap w1 (w.heap.size + 3) _ (suC (Dw.writeX x t p)) _ _ hq
    have q4 := (setRow_other w1 (w.heap.size + 3) (w.heap.size + 4) (suC (Dw.writeX x t p)) (by omega)).trans f4
    have c4 := cells1 f4
    have d4 := cells1 q4
    have z4 := frozen0 q4 0
    have r4 := heap_setCell_same _ (w.heap.size + 4) 0 _ _ (.int .i64 0) q4
    change _ = some (Obj.cells #[.int .i64 0] _ _) at r4
    have r1 := (heap_setCell_other _ ⟨w.heap.size + 4, 0, none⟩ (w.heap.size + 3) (.int .i64 0) (by simp)).trans q1
    have hB' := (below_setRow hB (show w.heap.size ≤ w.heap.size + 3 by omega) (suC (Dw.writeX x t p))).setCell (p := ⟨w.heap.size + 4, 0, none⟩) (by simp) (.int .i64 0)
    clear hk e1 e2 e3 e4 b0 b1 b2 b3 b4 vB hV
    go_wp2_with (first | (refine lb hq rfl rfl rfl (by kernel_rfl) ?_) | (refine sb hq rfl rfl rfl rfl (by kernel_rfl) ?_))
    refine leave_ok rfl (by rfl) (by rfl) r1 r4 (by simp [go_sem]) ⟨by rw [he], hB'⟩
  · have f4 := (hk.block _ (block_lt e4) (by omega)).trans e4
    replace hB := hB.trans (hk.below hB.size (fun k hk => by omega))
    clear hk e1 e2 e3 e4 b0 b1 b2 b3 b4 vB hV
    go_wp2_with fail
    refine leave_stop rfl (by rfl) (by rfl) hq f4 (by omega) (by simp [go_sem]) (fun w' hk => ⟨by rw [he], hB.trans (hk.below hB.size (fun k hk => by omega))⟩)
end Go.Proofs.YtjonoojhdifjiaaGreatDoor
namespace Go.Proofs.YtjonoojhdifjiaaGreatDoor
open Go.RowKit Go.Shelf
attribute [local go_sem] Oper.semAt_some
namespace Dw
theorem ofS_lt (s : List UInt8) (i : Int) : (ofS s i).data < 18446744073709551616 := by
  unfold ofS
  split
  · exact (lastN_lt s _).2
  · decide
theorem readS_lt (a b : List UInt8) : (readS a b).data < 18446744073709551616 := by
  unfold readS
  split
  · decide
  · unfold best
    (repeat' split) <;> exact ofS_lt _ _
end Dw
theorem skept_any (x : Dw.Su) (hf : Dw.FlOk x.f) (hl : Dw.legal x.s = true) (w : World) (hn : NoneAt w) :
    Calls Tryz.prog 20 #[suV x] w fun e w' => e = .returned (.bool (Dw.kept x)) ∧ Below w.heap.size w w' := by
  have hB := (Below.refl w.heap.size w).alloc (Nat.le_refl _) (.cells (suC x) 35)
  have hC := han w (.cells (suC x) 35)
  obtain ⟨f, s, ph, vo, nn⟩ := x
  have HP := Lib.hid (fun w => pack_any s hl w)
  have HR := Lib.hid (fun w hn => read_any f.a f.b hf.a hf.b f.e0 f.e1 f.li w hn)
  have HK := Lib.hid (show Dw.kept ⟨f, s, ph, vo, nn⟩ = (decide (Dw.readE f.a f.b = 0) && decide (Dw.pack s = (Dw.readS f.a f.b).data)) from rfl)
  have hE2 := Dw.readE_two f.a f.b
  generalize Dw.kept ⟨f, s, ph, vo, nn⟩ = K at *
  generalize Dw.readE f.a f.b = er at *
  obtain ⟨⟨pb, pg, pq, pd⟩, hS⟩ : ∃ p, Dw.readS f.a f.b = p := ⟨_, rfl⟩
  rw [hS] at HK HR
  generalize Dw.pack s = pk at *
  clear hS hf hl
  have hNV := hn.next hB
  dsimp only at hC HK
  obtain ⟨x0, x1, -⟩ := cells14 hC
  obtain ⟨x00, x01, x02, x03, x04⟩ := x0
  go_enter Tryz.func20, Tryz.ntmps20
  go_wp2_with (first | (refine lp 25 0 (flC f) hC rfl rfl rfl (by kernel_rfl) (by rfl) ?_))
  refine cb (HR.out _ hNV) fun w1 hb => ?_
  have hC1 := kp hb hC
  replace hB := tr hB hb
  clear hb hC x00 x01 x02 x03 x04 x1 hNV hn HR
  have b4 := han w1 (.cells #[.int .i64 pb, .int .u64 pg, .int .u64 pq, .int .u64 pd] 93)
  have b1 := hao w1 (.cells #[.int .i64 pb, .int .u64 pg, .int .u64 pq, .int .u64 pd] 93) hC1
  replace hB := hB.alloc hB.size (.cells #[.int .i64 pb, .int .u64 pg, .int .u64 pq, .int .u64 pd] 93)
  obtain ⟨W, hW⟩ : ∃ W, w1.alloc (.cells #[.int .i64 pb, .int .u64 pg, .int .u64 pq, .int .u64 pd] 93) = W := ⟨_, rfl⟩
  rw [hW] at b4 b1 hB
  clear hC1
  obtain ⟨-, ⟨x5, x6, x7, x8, x9, x10⟩, -⟩ := cells14 b1
  obtain ⟨q0, q1, q2, q3⟩ := cells4 b4
  go_wp2_with fail
  try rw [hW]
  clear hW
  rcases hE2 with rfl | rfl
  · refine wp_pure [0,1,2,3,4,5,6,7,8,9] 10 (by kernel_rfl) (by kernel_rfl) rfl ?_
    (apply rat; (focus (intro w' hk; obtain ⟨k0,k1,k2,k3,k4,k5,k6⟩ := look7 hk x5 x6 x7 x8 x9 x10 q3; repeat' (first | exact rn | ((first | refine' rv ?_ rfl rfl (by go_simp; first | done | with_reducible rfl | exact rfl) | refine' rc ?_ (by exact rfl) (by exact rfl) (by go_simp; first | done | (constructor <;> with_reducible rfl) | with_reducible rfl) (by exact HP.out w') | refine' rs ?_ rfl rfl); try simp only [Act.put, List.setIfInBounds_toArray, List.set_cons_zero, List.set_cons_succ])))))
    intro w2 hk2
    simp only [List.drop_succ_cons, List.drop_zero]
    replace hB := hB.trans (hk2.whole.mono hB.size)
    clear hk2 x5 x6 x7 x8 x9 x10 q0 q1 q2 q3 b1 b4
    go_wp2_with fail
    go_ret
    refine ⟨ret_bool ?_, hB⟩
    rw [HK.out, Bool.eq_iff_iff]
    simp
    try omega
  · refine wp_pure [0,1,2,3,4,5,6,7,8,9] 10 (by kernel_rfl) (by kernel_rfl) rfl ?_
    (apply rat; (focus (intro w' hk; repeat' (first | exact rn | ((first | refine' rv ?_ rfl rfl (by go_simp; first | done | with_reducible rfl | exact rfl) | refine' rc ?_ (by exact rfl) (by exact rfl) (by go_simp; first | done | (constructor <;> with_reducible rfl) | with_reducible rfl) (by exact HP.out w') | refine' rs ?_ rfl rfl); try simp only [Act.put, List.setIfInBounds_toArray, List.set_cons_zero, List.set_cons_succ])))))
    intro w2 hk2
    simp only [List.drop_succ_cons, List.drop_zero]
    replace hB := hB.trans (hk2.whole.mono hB.size)
    clear hk2 x5 x6 x7 x8 x9 x10 q0 q1 q2 q3 b1 b4
    go_wp2_with fail
    go_ret
    refine ⟨ret_bool ?_, hB⟩
    rw [HK.out]
    simp
theorem boot_any (f : Dw.Fl) (hf : Dw.FlOk f) (w : World) (hn : NoneAt w) :
    Calls Tryz.prog 16 #[flV f] w fun e w' => e = .returned (suV (Dw.boot f)) ∧ Below w.heap.size w w' := by
  obtain ⟨V, hV⟩ : ∃ V, (w.alloc (.cells (flC f) 25)).alloc (.cells Z14 35) = V := ⟨_, rfl⟩
  have b0 : V.heap[w.heap.size]? = some (.cells (flC f) 25) := by rw [← hV]; exact heap_alloc2_old _ _ _
  have b1 : V.heap[w.heap.size + 1]? = some (.cells Z14 35) := by rw [← hV]; exact heap_alloc2_new _ _ _
  have hB : Below w.heap.size w V := by rw [← hV]; exact ((Below.refl _ w).alloc (Nat.le_refl _) _).alloc (by simp) _
  have HR := Lib.hid (fun w hn => read_any f.a f.b hf.a hf.b f.e0 f.e1 f.li w hn)
  have HT := Lib.hid (show Dw.boot f = ⟨f, if Dw.readE f.a f.b = 0 then Dw.unP (Dw.readS f.a f.b).data else Dw.st0, 0, 0, 0⟩ from rfl)
  have hE2 := Dw.readE_two f.a f.b
  have hlt := Dw.readS_lt f.a f.b
  have HD := Lib.hid (fun w => default_any w)
  generalize Dw.boot f = X at *
  generalize Dw.readE f.a f.b = er at *
  obtain ⟨⟨pb, pg, pq, pd⟩, hS⟩ : ∃ p, Dw.readS f.a f.b = p := ⟨_, rfl⟩
  rw [hS] at HT HR hlt
  dsimp only at HT hlt
  have HU := Lib.hid (fun w => unpack_any pd hlt w)
  have hbad : Dw.unE pd = 0 ∨ (Dw.unE pd = 13 ∧ Dw.unP pd = Dw.st0) := by
    unfold Dw.unE Dw.unP
    cases Dw.unOk pd
    · exact .inr ⟨rfl, rfl⟩
    · exact .inl rfl
  clear hS hlt
  obtain ⟨x0, x1, x2, x3, x4⟩ := cells5 b0
  go_enter Tryz.func16, Tryz.ntmps16
  go_wp2_with fail
  try rw [hV]
  clear hV
  refine wp_letter [0, 1, 2] 3 4 (NewBlock V Z14 35) rfl (by kernel_rfl) (by kernel_rfl) rfl (fun v A B h hk => h.keep hk) ?_
  (apply rat; (focus (intro w' hk; obtain ⟨k0,k1,k2,k3,k4⟩ := look5 hk x0 x1 x2 x3 x4; repeat' (first | exact rn | ((first | refine' rv ?_ rfl rfl (by go_simp; first | done | with_reducible rfl | exact rfl) | refine' rc ?_ (by exact rfl) (by exact rfl) (by go_simp; first | done | (constructor <;> with_reducible rfl) | with_reducible rfl) (by exact HD.out w') | refine' rs ?_ rfl rfl); try simp only [Act.put, List.setIfInBounds_toArray, List.set_cons_zero, List.set_cons_succ])))))
  refine ⟨rfl, sure_new (fun w' _ => by go_simp), ?_⟩
  rintro v W2 hk2 ⟨b, rfl, hb, hbc⟩
  simp only [List.drop_succ_cons, List.drop_zero, List.setIfInBounds_toArray]
  have hb1 : w.heap.size + 1 ≠ b := by have := block_lt b1; omega
  have hb0 : w.heap.size ≠ b := by have := block_lt b0; omega
  have hwb : w.heap.size ≤ b := by have := hB.size; omega
  replace b0 := (setRow_other W2 b w.heap.size (suC ⟨f, Dw.st0, 0, 0, 0⟩) hb0).trans (kpi hk2 b0)
  replace b1 := (setRow_other W2 b (w.heap.size + 1) (suC ⟨f, Dw.st0, 0, 0, 0⟩) hb1).trans (kpi hk2 b1)
  have b3 := setRow_heap W2 b _ (suC ⟨f, Dw.st0, 0, 0, 0⟩) _ _ hbc
  replace hB := below_setRow (hB.trans (hk2.whole.mono hB.size)) hwb (suC ⟨f, Dw.st0, 0, 0, 0⟩)
  clear x0 x1 x2 x3 x4 hk2 HD
  go_wp2_with (first | (refine lb hbc rfl rfl rfl (by kernel_rfl) ?_) | (refine sb hbc rfl rfl rfl rfl (by kernel_rfl) ?_) | (refine lb b0 rfl rfl rfl (by kernel_rfl) ?_) | (refine sb b0 rfl rfl rfl rfl (by kernel_rfl) ?_))
  refine cb (HR.out _ (hn.next hB)) fun w1 hb' => ?_
  replace b1 := kp hb' b1
  replace b3 := kp hb' b3
  replace hB := hB.trans (hb'.mono hB.size)
  clear hb' b0 HR hbc
  have b4 := han w1 (.cells #[.int .i64 pb, .int .u64 pg, .int .u64 pq, .int .u64 pd] 93)
  replace b1 := hao w1 (.cells #[.int .i64 pb, .int .u64 pg, .int .u64 pq, .int .u64 pd] 93) b1
  replace b3 := hao w1 (.cells #[.int .i64 pb, .int .u64 pg, .int .u64 pq, .int .u64 pd] 93) b3
  replace hB := hB.alloc hB.size (.cells #[.int .i64 pb, .int .u64 pg, .int .u64 pq, .int .u64 pd] 93)
  obtain ⟨W, hW⟩ : ∃ W, w1.alloc (.cells #[.int .i64 pb, .int .u64 pg, .int .u64 pq, .int .u64 pd] 93) = W := ⟨_, rfl⟩
  rw [hW] at b4 b1 b3 hB
  obtain ⟨q0, q1, q2, q3⟩ := cells4 b4
  rcases hE2 with rfl | rfl
  · go_wp2_with fail
    refine cb (HU.out _) fun w2 hb' => ?_
    replace b1 := kp hb' b1
    replace b3 := kp hb' b3
    replace hB := hB.trans (hb'.mono hB.size)
    clear hb' b4 q0 q1 q2 q3 HU hW
    have hT : X = ⟨f, Dw.unP pd, 0, 0, 0⟩ := by rw [HT.out]; rfl
    generalize hu : Dw.unP pd = U at *
    have b5 := han w2 (.cells (stC U) 27)
    replace b1 := hao w2 (.cells (stC U) 27) b1
    replace b3 := hao w2 (.cells (stC U) 27) b3
    replace hB := hB.alloc hB.size (.cells (stC U) 27)
    generalize hue : Dw.unE pd = E at *
    rcases hbad with rfl | ⟨rfl, rfl⟩
    · have r1 := (setRow_other _ b (w.heap.size + 1) (suC ⟨f, U, 0, 0, 0⟩) hb1).trans b1
      have r3 := setRow_heap _ b _ (suC ⟨f, U, 0, 0, 0⟩) _ _ b3
      have hB3 := below_setRow hB hwb (suC ⟨f, U, 0, 0, 0⟩)
      go_wp2_with (first | (refine lb b5 rfl rfl rfl (by kernel_rfl) ?_) | (refine sb b5 rfl rfl rfl rfl (by kernel_rfl) ?_) | (refine sp 27 5 (stC U) (suC ⟨f, U, 0, 0, 0⟩) b3 rfl rfl rfl rfl (by kernel_rfl) (by rfl) (by rfl) ?_) | (refine lb r3 rfl rfl rfl (by kernel_rfl) ?_) | (refine sb r3 rfl rfl rfl rfl (by kernel_rfl) ?_) | (refine lb r1 rfl rfl rfl (by kernel_rfl) ?_) | (refine sb r1 rfl rfl rfl rfl (by kernel_rfl) ?_))
      exact bodyPost_ret (rcr rfl (srh r1) (by rfl) (by kernel_rfl)) rfl ⟨by rw [hT], below_setRow hB3 (by omega) _⟩
    · go_wp2_with (first | (refine lb b3 rfl rfl rfl (by kernel_rfl) ?_) | (refine sb b3 rfl rfl rfl rfl (by kernel_rfl) ?_) | (refine lb b1 rfl rfl rfl (by kernel_rfl) ?_) | (refine sb b1 rfl rfl rfl rfl (by kernel_rfl) ?_))
      exact bodyPost_ret (rcr rfl (srh b1) (by rfl) (by kernel_rfl)) rfl ⟨by rw [hT], below_setRow hB (by omega) _⟩
  · have hT : X = ⟨f, Dw.st0, 0, 0, 0⟩ := by rw [HT.out]; rfl
    clear HU q0 q1 q2 q3
    go_wp2_with (first | (refine lb b3 rfl rfl rfl (by kernel_rfl) ?_) | (refine sb b3 rfl rfl rfl rfl (by kernel_rfl) ?_) | (refine lb b1 rfl rfl rfl (by kernel_rfl) ?_) | (refine sb b1 rfl rfl rfl rfl (by kernel_rfl) ?_))
    exact bodyPost_ret (rcr rfl (srh b1) (by rfl) (by kernel_rfl)) rfl ⟨by rw [hT], below_setRow hB (by omega) _⟩
end Go.Proofs.YtjonoojhdifjiaaGreatDoor
namespace Go.Proofs.YtjonoojhdifjiaaGreatDoor
open Go.RowKit Go.Shelf
attribute [local go_sem] Oper.semAt_some
theorem first2_any (a0 a1 : Bool) (e0 e1 : Int) (b : Nat) (ty : TypeId) (w : World) (h : w.heap[b]? = some (.cells #[.bool a0, .int .i64 e0, .bool a1, .int .i64 e1] ty (0, 0))) :
    Calls Tryz.prog 124 #[.slice (some ⟨b, 0, none⟩) 2 2] w fun e w' => e = .returned (.int .i64 (if a0 = false then e0 else if a1 = false then e1 else 0)) ∧ Below w.heap.size w w' := by
  generalize hR : (if a0 = false then e0 else if a1 = false then e1 else 0) = R
  have HR := Lib.hid hR
  clear hR
  have hlt := block_lt h
  have H := Lib.hid h
  clear h
  go_enter Tryz.func124, Tryz.ntmps124
  go_wp2_with fail
  go_loopw [7] (fun i wr => ∃ j : Nat, j ≤ 2 ∧ i = .int .i64 j ∧ (1 ≤ j → a0 = true) ∧ (2 ≤ j → a1 = true) ∧ Below w.heap.size w wr) (fun i _ => 2 - (intOf i).toNat)
  case atStart => exact ⟨0, Nat.zero_le _, rfl, by omega, by omega, Below.refl _ _⟩
  case round =>
    obtain ⟨j, hj, rfl, h0, h1, hB⟩ := hrel
    have hc := (hB.block b hlt).trans H.out
    rcases (by omega : j = 0 ∨ j = 1 ∨ j = 2) with rfl | rfl | rfl
    · have c0 : wr.cell? ⟨b, 0, none⟩ = some (.bool a0) := by simp [cell_of_row _ _ _ _ _ _ hc]
      have c1 : wr.cell? ⟨b, 1, none⟩ = some (.int .i64 e0) := by simp [cell_of_row _ _ _ _ _ _ hc]
      have hB1 := hB.alloc hB.size (.cells #[.bool a0, .int .i64 e0] 204)
      clear hc
      have H0 := Lib.hid h0
      clear h0 h1
      cases a0
      · go_wp2_with fail
        go_ret
        refine ⟨?_, hB1⟩
        rw [← HR.out]
        (try rw [H0.out (by decide)]) <;> rfl
      · go_wp2_with fail
        go_roundw
        case rel => exact ⟨0 + 1, by decide, rfl, fun hx => by first | trivial | rfl | exact H0.out (by decide), fun hx => by first | trivial | rfl | exact absurd hx (by decide), hB1⟩
        case measure => first | done | (simp [intOf]; done) | (simp [intOf]; omega)
    · have c0 : wr.cell? ⟨b, 2, none⟩ = some (.bool a1) := by simp [cell_of_row _ _ _ _ _ _ hc]
      have c1 : wr.cell? ⟨b, 3, none⟩ = some (.int .i64 e1) := by simp [cell_of_row _ _ _ _ _ _ hc]
      have hB1 := hB.alloc hB.size (.cells #[.bool a1, .int .i64 e1] 204)
      clear hc
      have H0 := Lib.hid h0
      clear h0 h1
      cases a1
      · go_wp2_with fail
        go_ret
        refine ⟨?_, hB1⟩
        rw [← HR.out]
        (try rw [H0.out (by decide)]) <;> rfl
      · go_wp2_with fail
        go_roundw
        case rel => exact ⟨1 + 1, by decide, rfl, fun hx => by first | trivial | rfl | exact H0.out (by decide), fun hx => by first | trivial | rfl | exact absurd hx (by decide), hB1⟩
        case measure => first | done | (simp [intOf]; done) | (simp [intOf]; omega)
    · have H0 := Lib.hid h0; have H1 := Lib.hid h1
      clear h0 h1 hc
      go_wp2_with fail
      go_ret
      refine ⟨?_, hB⟩
      rw [← HR.out, H0.out (by decide), H1.out (by decide)]
      rfl
theorem first5_any (a0 a1 a2 a3 a4 : Bool) (e0 e1 e2 e3 e4 : Int) (b : Nat) (ty : TypeId) (w : World) (h : w.heap[b]? = some (.cells #[.bool a0, .int .i64 e0, .bool a1, .int .i64 e1, .bool a2, .int .i64 e2, .bool a3, .int .i64 e3, .bool a4, .int .i64 e4] ty (0, 0))) :
    Calls Tryz.prog 124 #[.slice (some ⟨b, 0, none⟩) 5 5] w fun e w' => e = .returned (.int .i64 (if a0 = false then e0 else if a1 = false then e1 else if a2 = false then e2 else if a3 = false then e3 else if a4 = false then e4 else 0)) ∧ Below w.heap.size w w' := by
  generalize hR : (if a0 = false then e0 else if a1 = false then e1 else if a2 = false then e2 else if a3 = false then e3 else if a4 = false then e4 else 0) = R
  have HR := Lib.hid hR
  clear hR
  have hlt := block_lt h
  have H := Lib.hid h
  clear h
  go_enter Tryz.func124, Tryz.ntmps124
  go_wp2_with fail
  go_loopw [7] (fun i wr => ∃ j : Nat, j ≤ 5 ∧ i = .int .i64 j ∧ ((1 ≤ j → a0 = true) ∧ (2 ≤ j → a1 = true) ∧ (3 ≤ j → a2 = true) ∧ (4 ≤ j → a3 = true) ∧ (5 ≤ j → a4 = true)) ∧ Below w.heap.size w wr) (fun i _ => 5 - (intOf i).toNat)
  case atStart => exact ⟨0, Nat.zero_le _, rfl, ⟨by omega, by omega, by omega, by omega, by omega⟩, Below.refl _ _⟩
  case round =>
    obtain ⟨j, hj, rfl, ⟨h0, h1, h2, h3, h4⟩, hB⟩ := hrel
    have hc := (hB.block b hlt).trans H.out
    rcases (by omega : j = 0 ∨ j = 1 ∨ j = 2 ∨ j = 3 ∨ j = 4 ∨ j = 5) with rfl | rfl | rfl | rfl | rfl | rfl
    · have c0 : wr.cell? ⟨b, 0, none⟩ = some (.bool a0) := by simp [cell_of_row _ _ _ _ _ _ hc]
      have c1 : wr.cell? ⟨b, 1, none⟩ = some (.int .i64 e0) := by simp [cell_of_row _ _ _ _ _ _ hc]
      have hB1 := hB.alloc hB.size (.cells #[.bool a0, .int .i64 e0] 204)
      clear hc
      have H0 := Lib.hid h0; have H1 := Lib.hid h1; have H2 := Lib.hid h2; have H3 := Lib.hid h3
      clear h0 h1 h2 h3 h4
      cases a0
      · go_wp2_with fail
        go_ret
        refine ⟨?_, hB1⟩
        rw [← HR.out]
        (try rw [H0.out (by decide)]) <;> (try rw [H1.out (by decide)]) <;> (try rw [H2.out (by decide)]) <;> (try rw [H3.out (by decide)]) <;> rfl
      · go_wp2_with fail
        go_roundw
        case rel => exact ⟨0 + 1, by decide, rfl, ⟨fun hx => by first | trivial | rfl | exact H0.out (by decide) | exact absurd hx (by decide), fun hx => by first | trivial | rfl | exact H1.out (by decide) | exact absurd hx (by decide), fun hx => by first | trivial | rfl | exact H2.out (by decide) | exact absurd hx (by decide), fun hx => by first | trivial | rfl | exact H3.out (by decide) | exact absurd hx (by decide), fun hx => by first | trivial | rfl | exact absurd hx (by decide)⟩, hB1⟩
        case measure => first | done | (simp [intOf]; done) | (simp [intOf]; omega)
    · have c0 : wr.cell? ⟨b, 2, none⟩ = some (.bool a1) := by simp [cell_of_row _ _ _ _ _ _ hc]
      have c1 : wr.cell? ⟨b, 3, none⟩ = some (.int .i64 e1) := by simp [cell_of_row _ _ _ _ _ _ hc]
      have hB1 := hB.alloc hB.size (.cells #[.bool a1, .int .i64 e1] 204)
      clear hc
      have H0 := Lib.hid h0; have H1 := Lib.hid h1; have H2 := Lib.hid h2; have H3 := Lib.hid h3
      clear h0 h1 h2 h3 h4
      cases a1
      · go_wp2_with fail
        go_ret
        refine ⟨?_, hB1⟩
        rw [← HR.out]
        (try rw [H0.out (by decide)]) <;> (try rw [H1.out (by decide)]) <;> (try rw [H2.out (by decide)]) <;> (try rw [H3.out (by decide)]) <;> rfl
      · go_wp2_with fail
        go_roundw
        case rel => exact ⟨1 + 1, by decide, rfl, ⟨fun hx => by first | trivial | rfl | exact H0.out (by decide) | exact absurd hx (by decide), fun hx => by first | trivial | rfl | exact H1.out (by decide) | exact absurd hx (by decide), fun hx => by first | trivial | rfl | exact H2.out (by decide) | exact absurd hx (by decide), fun hx => by first | trivial | rfl | exact H3.out (by decide) | exact absurd hx (by decide), fun hx => by first | trivial | rfl | exact absurd hx (by decide)⟩, hB1⟩
        case measure => first | done | (simp [intOf]; done) | (simp [intOf]; omega)
    · have c0 : wr.cell? ⟨b, 4, none⟩ = some (.bool a2) := by simp [cell_of_row _ _ _ _ _ _ hc]
      have c1 : wr.cell? ⟨b, 5, none⟩ = some (.int .i64 e2) := by simp [cell_of_row _ _ _ _ _ _ hc]
      have hB1 := hB.alloc hB.size (.cells #[.bool a2, .int .i64 e2] 204)
      clear hc
      have H0 := Lib.hid h0; have H1 := Lib.hid h1; have H2 := Lib.hid h2; have H3 := Lib.hid h3
      clear h0 h1 h2 h3 h4
      cases a2
      · go_wp2_with fail
        go_ret
        refine ⟨?_, hB1⟩
        rw [← HR.out]
        (try rw [H0.out (by decide)]) <;> (try rw [H1.out (by decide)]) <;> (try rw [H2.out (by decide)]) <;> (try rw [H3.out (by decide)]) <;> rfl
      · go_wp2_with fail
        go_roundw
        case rel => exact ⟨2 + 1, by decide, rfl, ⟨fun hx => by first | trivial | rfl | exact H0.out (by decide) | exact absurd hx (by decide), fun hx => by first | trivial | rfl | exact H1.out (by decide) | exact absurd hx (by decide), fun hx => by first | trivial | rfl | exact H2.out (by decide) | exact absurd hx (by decide), fun hx => by first | trivial | rfl | exact H3.out (by decide) | exact absurd hx (by decide), fun hx => by first | trivial | rfl | exact absurd hx (by decide)⟩, hB1⟩
        case measure => first | done | (simp [intOf]; done) | (simp [intOf]; omega)
    · have c0 : wr.cell? ⟨b, 6, none⟩ = some (.bool a3) := by simp [cell_of_row _ _ _ _ _ _ hc]
      have c1 : wr.cell? ⟨b, 7, none⟩ = some (.int .i64 e3) := by simp [cell_of_row _ _ _ _ _ _ hc]
      have hB1 := hB.alloc hB.size (.cells #[.bool a3, .int .i64 e3] 204)
      clear hc
      have H0 := Lib.hid h0; have H1 := Lib.hid h1; have H2 := Lib.hid h2; have H3 := Lib.hid h3
      clear h0 h1 h2 h3 h4
      cases a3
      · go_wp2_with fail
        go_ret
        refine ⟨?_, hB1⟩
        rw [← HR.out]
        (try rw [H0.out (by decide)]) <;> (try rw [H1.out (by decide)]) <;> (try rw [H2.out (by decide)]) <;> (try rw [H3.out (by decide)]) <;> rfl
      · go_wp2_with fail
        go_roundw
        case rel => exact ⟨3 + 1, by decide, rfl, ⟨fun hx => by first | trivial | rfl | exact H0.out (by decide) | exact absurd hx (by decide), fun hx => by first | trivial | rfl | exact H1.out (by decide) | exact absurd hx (by decide), fun hx => by first | trivial | rfl | exact H2.out (by decide) | exact absurd hx (by decide), fun hx => by first | trivial | rfl | exact H3.out (by decide) | exact absurd hx (by decide), fun hx => by first | trivial | rfl | exact absurd hx (by decide)⟩, hB1⟩
        case measure => first | done | (simp [intOf]; done) | (simp [intOf]; omega)
    · have c0 : wr.cell? ⟨b, 8, none⟩ = some (.bool a4) := by simp [cell_of_row _ _ _ _ _ _ hc]
      have c1 : wr.cell? ⟨b, 9, none⟩ = some (.int .i64 e4) := by simp [cell_of_row _ _ _ _ _ _ hc]
      have hB1 := hB.alloc hB.size (.cells #[.bool a4, .int .i64 e4] 204)
      clear hc
      have H0 := Lib.hid h0; have H1 := Lib.hid h1; have H2 := Lib.hid h2; have H3 := Lib.hid h3
      clear h0 h1 h2 h3 h4
      cases a4
      · go_wp2_with fail
        go_ret
        refine ⟨?_, hB1⟩
        rw [← HR.out]
        (try rw [H0.out (by decide)]) <;> (try rw [H1.out (by decide)]) <;> (try rw [H2.out (by decide)]) <;> (try rw [H3.out (by decide)]) <;> rfl
      · go_wp2_with fail
        go_roundw
        case rel => exact ⟨4 + 1, by decide, rfl, ⟨fun hx => by first | trivial | rfl | exact H0.out (by decide) | exact absurd hx (by decide), fun hx => by first | trivial | rfl | exact H1.out (by decide) | exact absurd hx (by decide), fun hx => by first | trivial | rfl | exact H2.out (by decide) | exact absurd hx (by decide), fun hx => by first | trivial | rfl | exact H3.out (by decide) | exact absurd hx (by decide), fun hx => by first | trivial | rfl | exact absurd hx (by decide)⟩, hB1⟩
        case measure => first | done | (simp [intOf]; done) | (simp [intOf]; omega)
    · have H0 := Lib.hid h0; have H1 := Lib.hid h1; have H2 := Lib.hid h2; have H3 := Lib.hid h3; have H4 := Lib.hid h4
      clear h0 h1 h2 h3 h4 hc
      go_wp2_with fail
      go_ret
      refine ⟨?_, hB⟩
      rw [← HR.out, H0.out (by decide), H1.out (by decide), H2.out (by decide), H3.out (by decide), H4.out (by decide)]
      rfl
theorem enough_any (s : Dw.St) (hi : 0 ≤ s.iso ∧ s.iso ≤ 15) (n : Int) (g : Nat) (w : World) (hg : w.heap[g]? = some (.cells (stC s) 151 (0, 0))) :
    Calls Tryz.prog 126 #[.pointer (some ⟨g, 0, none⟩), .int .i64 n] w fun e w' => e = .returned (.bool (decide (n ≤ Dw.soundN s.iso))) ∧ Below w.heap.size w w' := by
  have HS := Lib.hid (fun w => sound_any s hi w)
  generalize Dw.soundN s.iso = m at *
  go_enter Tryz.func126, Tryz.ntmps126
  go_wp2_with (first | (refine lp 27 0 (stC s) hg rfl rfl rfl (by kernel_rfl) (by rfl) ?_))
  refine cb (HS.out _) fun w1 hb => ?_
  clear hg
  go_wp2_with fail
  go_ret
  exact ⟨by first | rfl | simp, hb⟩
def CEnd (T : Dw.St) (er : Int) (g : Nat) (w : World) (e : Ending) (w' : World) : Prop :=
  e = .returned (.int .i64 er) ∧ KeepBut (fun k => k = g) w w' ∧ ∃ s', w'.heap[g]? = some (.cells (stC s') 151 (0, 0)) ∧ (er = 0 → s' = T)
theorem arm_any (s : Dw.St) (hi : 0 ≤ s.iso ∧ s.iso ≤ 15) (c : Dw.Cmd) (g : Nat) (w : World) (hg : w.heap[g]? = some (.cells (stC s) 151 (0, 0))) :
    Calls Tryz.prog 85 #[.pointer (some ⟨g, 0, none⟩), cmV c] w (CEnd { s with ar := true, mo := 1 } (Dw.armE s) g w) := by
  have hB := (Below.refl w.heap.size w).alloc (Nat.le_refl _) (.cells (cmC c) 65)
  have hg1 := (hB.block g (block_lt hg)).trans hg
  have hgl := block_lt hg
  have HE := Lib.hid (fun w h => enough_any s hi 2 g w h)
  have HR := Lib.hid (show Dw.armE s = if (!s.ar) = false then 21 else if decide (2 ≤ Dw.soundN s.iso) = false then 24 else 0 from by
    unfold Dw.armE; cases s.ar <;> simp)
  generalize Dw.armE s = R at *
  generalize decide (2 ≤ Dw.soundN s.iso) = en at *
  obtain ⟨c0, c1, -⟩ := cells6 hg1
  clear hg
  go_enter Tryz.func85, Tryz.ntmps85
  go_wp2_with fail
  generalize w.alloc _ = V at *
  refine wp_letterD [0,1,2,3,4,5,6,7,8,9] 10 11 (some 16) (NewRows V #[.bool (!s.ar), .int .i64 21, .bool en, .int .i64 24] 2 204) rfl rfl (by kernel_rfl) (by kernel_rfl) rfl (fun v A B h hk => h.keep hk) ?_
  (apply rat; (focus (intro w' hk; have k1 := look hk c1; repeat' (first | exact rn | ((first | refine' rv ?_ rfl rfl (by go_simp; first | done | with_reducible rfl | exact rfl) | refine' rc ?_ (by exact rfl) (by exact rfl) (by go_simp; first | done | (constructor <;> with_reducible rfl) | with_reducible rfl) (by exact HE.out w' (kpi hk hg1)) | refine' rs ?_ rfl rfl); try simp only [Act.put, List.setIfInBounds_toArray, List.set_cons_zero, List.set_cons_succ])))))
  refine ⟨rfl, sure_rows (fun w' _ => by go_simp), ?_⟩
  rintro v W2 hk2 ⟨b, rfl, hb, hbc⟩
  simp only [List.drop_succ_cons, List.drop_zero, List.setIfInBounds_toArray, List.set_cons_zero, List.set_cons_succ]
  have hg2 := kpi hk2 hg1
  replace hB := hB.trans (hk2.whole.mono hB.size)
  clear hk2 hg1 c0 c1 HE
  go_wp2_with fail
  refine (first2_any _ _ _ _ b _ _ hbc).mono ?_
  rintro e w3 ⟨he, hb3⟩
  rw [← HR.out] at he
  subst he
  have hg3 := kp hb3 hg2
  replace hB := tr hB hb3
  clear hb3 hg2 hbc
  have q0 := heap_setCell_same w3 g 1 _ _ (.bool true) hg3
  change _ = some (Obj.cells (stC { s with ar := true }) _ _) at q0
  have q1 := heap_setCell_same _ g 0 _ _ (.int .i64 1) q0
  change _ = some (Obj.cells (stC { s with ar := true, mo := 1 }) _ _) at q1
  have hK := (((keepB hB).mono (fun _ _ h => h.elim) : KeepBut (fun k => k = g) w w3).setCell (p := ⟨g, 1, none⟩) rfl (.bool true)).setCell (p := ⟨g, 0, none⟩) rfl (.int .i64 1)
  obtain ⟨c0, c1, -⟩ := cells6 hg3
  obtain ⟨d0, d1, -⟩ := cells6 q0
  have z0 := frozen0 hg3 1
  have z1 := frozen0 q0 0
  go_wp2_with fail
  go_ret
  exact ⟨rfl, hK, _, q1, fun _ => rfl⟩
theorem goes_ff (mo la lo iso : Int) (hi : 0 ≤ iso ∧ iso ≤ 15) (ki n : Int) (cla clo : Nat) (g : Nat) (w : World) (hg : w.heap[g]? = some (.cells (stC ⟨mo, false, false, la, lo, iso⟩) 151 (0, 0))) :
    Calls Tryz.prog 84 #[.pointer (some ⟨g, 0, none⟩), cmV ⟨ki, n, cla, clo⟩] w (CEnd ⟨n, false, false, la, lo, iso⟩ (Dw.goesE ⟨mo, false, false, la, lo, iso⟩ n) g w) := by
  have hB := (Below.refl w.heap.size w).alloc (Nat.le_refl _) (.cells (cmC ⟨ki, n, cla, clo⟩) 65)
  have hC := han w (.cells (cmC ⟨ki, n, cla, clo⟩) 65)
  have hg1 := (hB.block g (block_lt hg)).trans hg
  have hgl := block_lt hg
  have HE := Lib.hid (fun m w h => enough_any ⟨mo, false, false, la, lo, iso⟩ hi m g w h)
  have HW := Lib.hid (fun w => way_any mo n w)
  have HN := Lib.hid (fun w => needs_any n w)
  have HH := Lib.hid (fun w => home_any n w)
  obtain ⟨z, hz⟩ : ∃ z, (n == 0) = z := ⟨_, rfl⟩
  have hz' : (n != 0) = !z := by rw [← hz]; rfl
  obtain ⟨hm, hhm⟩ : ∃ z, Dw.homeB n = z := ⟨_, rfl⟩
  have hr : Dw.goesE ⟨mo, false, false, la, lo, iso⟩ n = if Dw.wayB mo n = false then 20 else if z = false then 22 else if true = false then 21 else if (!hm) = false then 23 else if decide (Dw.needsI n ≤ Dw.soundN iso) = false then 24 else 0 := by
    unfold Dw.goesE
    dsimp only
    subst hz
    rw [hhm]
    rcases Int.lt_or_le (Dw.soundN iso) (Dw.needsI n) with hq | hq
    · have hq2 : ¬ Dw.needsI n ≤ Dw.soundN iso := by omega
      by_cases hn : n = 0 <;> cases hm <;> simp [*] <;> omega
    · have hq2 : ¬ Dw.soundN iso < Dw.needsI n := by omega
      by_cases hn : n = 0 <;> cases hm <;> simp [*] <;> omega
  have HR := Lib.hid hr
  rw [hhm] at HH
  dsimp only at HE
  generalize Dw.goesE ⟨mo, false, false, la, lo, iso⟩ n = R at *
  generalize Dw.wayB mo n = wv at *
  generalize Dw.needsI n = nd at *
  generalize hen : decide (nd ≤ Dw.soundN iso) = en at *
  have HE := Lib.hid (fun w h => hen ▸ HE.out nd w h)
  obtain ⟨c0, c1, c2, -⟩ := cells6 hg1
  obtain ⟨k0, k1, -⟩ := cells4 hC
  clear hg hC hr hhm hen
  go_enter Tryz.func84, Tryz.ntmps84
  go_wp2_with fail
  generalize w.alloc _ = V at *
  refine wp_letterD [0,1,2,3,4,5,6,7,8,9,10,11,12,13,14,15,16,17,18,19,20,21,22,23,24,25,26,27,28,29,30,31,32,33,34,35,36,37,38,39,40,41,42,43,44,45,46,47,48,49] 50 51 (some 56) (NewRows V #[.bool wv, .int .i64 20, .bool z, .int .i64 22, .bool true, .int .i64 21, .bool (!hm), .int .i64 23, .bool en, .int .i64 24] 5 204) rfl rfl (by kernel_rfl) (by kernel_rfl) rfl (fun v A B h hk => h.keep hk) ?_
  (apply rat; (focus (intro w' hk; obtain ⟨q0,q1,q2,q3⟩ := look4 hk c0 c1 c2 k1; repeat' (first | exact rn | ((first | refine' rv ?_ rfl rfl (by go_simp; first | done | with_reducible rfl | exact rfl) | refine' rc ?_ (by exact rfl) (by exact rfl) (by go_simp; first | done | (constructor <;> with_reducible rfl) | with_reducible rfl) (by first | first | exact HW.out w' | exact HN.out w' | exact HH.out w' | exact HE.out w' (kpi hk hg1)) | refine' rs ?_ rfl rfl); try simp only [Act.put, List.setIfInBounds_toArray, List.set_cons_zero, List.set_cons_succ])))))
  refine ⟨rfl, sure_rows (fun w' _ => by go_simp), ?_⟩
  rintro v W2 hk2 ⟨b, rfl, hb, hbc⟩
  simp only [List.drop_succ_cons, List.drop_zero, List.setIfInBounds_toArray, List.set_cons_zero, List.set_cons_succ]
  have hg2 := kpi hk2 hg1
  have k3 := look hk2 k1
  replace hB := hB.trans (hk2.whole.mono hB.size)
  clear hk2 hg1 c0 c1 c2 k0 k1 HE HW HN HH hz hz'
  go_wp2_with fail
  refine (first5_any _ _ _ _ _ _ _ _ _ _ b _ _ hbc).mono ?_
  rintro e w3 ⟨he, hb3⟩
  rw [← HR.out] at he
  subst he
  have hg3 := kp hb3 hg2
  have k4 := (hb3.cell (lt_of_cell k3)).trans k3
  replace hB := tr hB hb3
  clear hb3 hg2 hbc k3
  have q0 := heap_setCell_same w3 g 0 _ _ (.int .i64 n) hg3
  change _ = some (Obj.cells (stC ⟨n, false, false, la, lo, iso⟩) _ _) at q0
  have hK := ((keepB hB).mono (fun _ _ h => h.elim) : KeepBut (fun k => k = g) w w3).setCell (p := ⟨g, 0, none⟩) rfl (.int .i64 n)
  obtain ⟨c0, -⟩ := cells6 hg3
  have z0 := frozen0 hg3 0
  go_wp2_with fail
  go_ret
  exact ⟨rfl, hK, _, q0, fun _ => rfl⟩
theorem goes_ft (mo la lo iso : Int) (hi : 0 ≤ iso ∧ iso ≤ 15) (ki n : Int) (cla clo : Nat) (g : Nat) (w : World) (hg : w.heap[g]? = some (.cells (stC ⟨mo, false, true, la, lo, iso⟩) 151 (0, 0))) :
    Calls Tryz.prog 84 #[.pointer (some ⟨g, 0, none⟩), cmV ⟨ki, n, cla, clo⟩] w (CEnd ⟨n, false, true, la, lo, iso⟩ (Dw.goesE ⟨mo, false, true, la, lo, iso⟩ n) g w) := by
  have hB := (Below.refl w.heap.size w).alloc (Nat.le_refl _) (.cells (cmC ⟨ki, n, cla, clo⟩) 65)
  have hC := han w (.cells (cmC ⟨ki, n, cla, clo⟩) 65)
  have hg1 := (hB.block g (block_lt hg)).trans hg
  have hgl := block_lt hg
  have HE := Lib.hid (fun m w h => enough_any ⟨mo, false, true, la, lo, iso⟩ hi m g w h)
  have HW := Lib.hid (fun w => way_any mo n w)
  have HN := Lib.hid (fun w => needs_any n w)
  have HH := Lib.hid (fun w => home_any n w)
  obtain ⟨z, hz⟩ : ∃ z, (n == 0) = z := ⟨_, rfl⟩
  have hz' : (n != 0) = !z := by rw [← hz]; rfl
  obtain ⟨hm, hhm⟩ : ∃ z, Dw.homeB n = z := ⟨_, rfl⟩
  have hr : Dw.goesE ⟨mo, false, true, la, lo, iso⟩ n = if Dw.wayB mo n = false then 20 else if z = false then 22 else if true = false then 21 else if true = false then 23 else if decide (Dw.needsI n ≤ Dw.soundN iso) = false then 24 else 0 := by
    unfold Dw.goesE
    dsimp only
    subst hz
    rw [hhm]
    rcases Int.lt_or_le (Dw.soundN iso) (Dw.needsI n) with hq | hq
    · have hq2 : ¬ Dw.needsI n ≤ Dw.soundN iso := by omega
      by_cases hn : n = 0 <;> cases hm <;> simp [*] <;> omega
    · have hq2 : ¬ Dw.soundN iso < Dw.needsI n := by omega
      by_cases hn : n = 0 <;> cases hm <;> simp [*] <;> omega
  have HR := Lib.hid hr
  rw [hhm] at HH
  dsimp only at HE
  generalize Dw.goesE ⟨mo, false, true, la, lo, iso⟩ n = R at *
  generalize Dw.wayB mo n = wv at *
  generalize Dw.needsI n = nd at *
  generalize hen : decide (nd ≤ Dw.soundN iso) = en at *
  have HE := Lib.hid (fun w h => hen ▸ HE.out nd w h)
  obtain ⟨c0, c1, c2, -⟩ := cells6 hg1
  obtain ⟨k0, k1, -⟩ := cells4 hC
  clear hg hC hr hhm hen
  go_enter Tryz.func84, Tryz.ntmps84
  go_wp2_with fail
  generalize w.alloc _ = V at *
  refine wp_letterD [0,1,2,3,4,5,6,7,8,9,10,11,12,13,14,15,16,17,18,19,20,21,22,23,24,25,26,27,28,29,30,31,32,33,34,35,36,37,38,39,40,41,42,43,44,45,46,47,48,49] 50 51 (some 56) (NewRows V #[.bool wv, .int .i64 20, .bool z, .int .i64 22, .bool true, .int .i64 21, .bool true, .int .i64 23, .bool en, .int .i64 24] 5 204) rfl rfl (by kernel_rfl) (by kernel_rfl) rfl (fun v A B h hk => h.keep hk) ?_
  (apply rat; (focus (intro w' hk; obtain ⟨q0,q1,q2,q3⟩ := look4 hk c0 c1 c2 k1; repeat' (first | exact rn | ((first | refine' rv ?_ rfl rfl (by go_simp; first | done | with_reducible rfl | exact rfl) | refine' rc ?_ (by exact rfl) (by exact rfl) (by go_simp; first | done | (constructor <;> with_reducible rfl) | with_reducible rfl) (by first | first | exact HW.out w' | exact HN.out w' | exact HH.out w' | exact HE.out w' (kpi hk hg1)) | refine' rs ?_ rfl rfl); try simp only [Act.put, List.setIfInBounds_toArray, List.set_cons_zero, List.set_cons_succ])))))
  refine ⟨rfl, sure_rows (fun w' _ => by go_simp), ?_⟩
  rintro v W2 hk2 ⟨b, rfl, hb, hbc⟩
  simp only [List.drop_succ_cons, List.drop_zero, List.setIfInBounds_toArray, List.set_cons_zero, List.set_cons_succ]
  have hg2 := kpi hk2 hg1
  have k3 := look hk2 k1
  replace hB := hB.trans (hk2.whole.mono hB.size)
  clear hk2 hg1 c0 c1 c2 k0 k1 HE HW HN HH hz hz'
  go_wp2_with fail
  refine (first5_any _ _ _ _ _ _ _ _ _ _ b _ _ hbc).mono ?_
  rintro e w3 ⟨he, hb3⟩
  rw [← HR.out] at he
  subst he
  have hg3 := kp hb3 hg2
  have k4 := (hb3.cell (lt_of_cell k3)).trans k3
  replace hB := tr hB hb3
  clear hb3 hg2 hbc k3
  have q0 := heap_setCell_same w3 g 0 _ _ (.int .i64 n) hg3
  change _ = some (Obj.cells (stC ⟨n, false, true, la, lo, iso⟩) _ _) at q0
  have hK := ((keepB hB).mono (fun _ _ h => h.elim) : KeepBut (fun k => k = g) w w3).setCell (p := ⟨g, 0, none⟩) rfl (.int .i64 n)
  obtain ⟨c0, -⟩ := cells6 hg3
  have z0 := frozen0 hg3 0
  go_wp2_with fail
  go_ret
  exact ⟨rfl, hK, _, q0, fun _ => rfl⟩
theorem goes_tf (mo la lo iso : Int) (hi : 0 ≤ iso ∧ iso ≤ 15) (ki n : Int) (cla clo : Nat) (g : Nat) (w : World) (hg : w.heap[g]? = some (.cells (stC ⟨mo, true, false, la, lo, iso⟩) 151 (0, 0))) :
    Calls Tryz.prog 84 #[.pointer (some ⟨g, 0, none⟩), cmV ⟨ki, n, cla, clo⟩] w (CEnd ⟨n, true, false, la, lo, iso⟩ (Dw.goesE ⟨mo, true, false, la, lo, iso⟩ n) g w) := by
  have hB := (Below.refl w.heap.size w).alloc (Nat.le_refl _) (.cells (cmC ⟨ki, n, cla, clo⟩) 65)
  have hC := han w (.cells (cmC ⟨ki, n, cla, clo⟩) 65)
  have hg1 := (hB.block g (block_lt hg)).trans hg
  have hgl := block_lt hg
  have HE := Lib.hid (fun m w h => enough_any ⟨mo, true, false, la, lo, iso⟩ hi m g w h)
  have HW := Lib.hid (fun w => way_any mo n w)
  have HN := Lib.hid (fun w => needs_any n w)
  have HH := Lib.hid (fun w => home_any n w)
  obtain ⟨z, hz⟩ : ∃ z, (n == 0) = z := ⟨_, rfl⟩
  have hz' : (n != 0) = !z := by rw [← hz]; rfl
  obtain ⟨hm, hhm⟩ : ∃ z, Dw.homeB n = z := ⟨_, rfl⟩
  have hr : Dw.goesE ⟨mo, true, false, la, lo, iso⟩ n = if Dw.wayB mo n = false then 20 else if true = false then 22 else if (!z) = false then 21 else if (!hm) = false then 23 else if decide (Dw.needsI n ≤ Dw.soundN iso) = false then 24 else 0 := by
    unfold Dw.goesE
    dsimp only
    subst hz
    rw [hhm]
    rcases Int.lt_or_le (Dw.soundN iso) (Dw.needsI n) with hq | hq
    · have hq2 : ¬ Dw.needsI n ≤ Dw.soundN iso := by omega
      by_cases hn : n = 0 <;> cases hm <;> simp [*] <;> omega
    · have hq2 : ¬ Dw.soundN iso < Dw.needsI n := by omega
      by_cases hn : n = 0 <;> cases hm <;> simp [*] <;> omega
  have HR := Lib.hid hr
  rw [hhm] at HH
  dsimp only at HE
  generalize Dw.goesE ⟨mo, true, false, la, lo, iso⟩ n = R at *
  generalize Dw.wayB mo n = wv at *
  generalize Dw.needsI n = nd at *
  generalize hen : decide (nd ≤ Dw.soundN iso) = en at *
  have HE := Lib.hid (fun w h => hen ▸ HE.out nd w h)
  obtain ⟨c0, c1, c2, -⟩ := cells6 hg1
  obtain ⟨k0, k1, -⟩ := cells4 hC
  clear hg hC hr hhm hen
  go_enter Tryz.func84, Tryz.ntmps84
  go_wp2_with fail
  generalize w.alloc _ = V at *
  refine wp_letterD [0,1,2,3,4,5,6,7,8,9,10,11,12,13,14,15,16,17,18,19,20,21,22,23,24,25,26,27,28,29,30,31,32,33,34,35,36,37,38,39,40,41,42,43,44,45,46,47,48,49] 50 51 (some 56) (NewRows V #[.bool wv, .int .i64 20, .bool true, .int .i64 22, .bool (!z), .int .i64 21, .bool (!hm), .int .i64 23, .bool en, .int .i64 24] 5 204) rfl rfl (by kernel_rfl) (by kernel_rfl) rfl (fun v A B h hk => h.keep hk) ?_
  (apply rat; (focus (intro w' hk; obtain ⟨q0,q1,q2,q3⟩ := look4 hk c0 c1 c2 k1; repeat' (first | exact rn | ((first | refine' rv ?_ rfl rfl (by go_simp; first | done | with_reducible rfl | exact rfl) | refine' rc ?_ (by exact rfl) (by exact rfl) (by go_simp; first | done | (constructor <;> with_reducible rfl) | with_reducible rfl) (by first | first | exact HW.out w' | exact HN.out w' | exact HH.out w' | exact HE.out w' (kpi hk hg1)) | refine' rs ?_ rfl rfl); try simp only [Act.put, List.setIfInBounds_toArray, List.set_cons_zero, List.set_cons_succ])))))
  refine ⟨rfl, sure_rows (fun w' _ => by go_simp), ?_⟩
  rintro v W2 hk2 ⟨b, rfl, hb, hbc⟩
  simp only [List.drop_succ_cons, List.drop_zero, List.setIfInBounds_toArray, List.set_cons_zero, List.set_cons_succ]
  have hg2 := kpi hk2 hg1
  have k3 := look hk2 k1
  replace hB := hB.trans (hk2.whole.mono hB.size)
  clear hk2 hg1 c0 c1 c2 k0 k1 HE HW HN HH hz hz'
  go_wp2_with fail
  refine (first5_any _ _ _ _ _ _ _ _ _ _ b _ _ hbc).mono ?_
  rintro e w3 ⟨he, hb3⟩
  rw [← HR.out] at he
  subst he
  have hg3 := kp hb3 hg2
  have k4 := (hb3.cell (lt_of_cell k3)).trans k3
  replace hB := tr hB hb3
  clear hb3 hg2 hbc k3
  have q0 := heap_setCell_same w3 g 0 _ _ (.int .i64 n) hg3
  change _ = some (Obj.cells (stC ⟨n, true, false, la, lo, iso⟩) _ _) at q0
  have hK := ((keepB hB).mono (fun _ _ h => h.elim) : KeepBut (fun k => k = g) w w3).setCell (p := ⟨g, 0, none⟩) rfl (.int .i64 n)
  obtain ⟨c0, -⟩ := cells6 hg3
  have z0 := frozen0 hg3 0
  go_wp2_with fail
  go_ret
  exact ⟨rfl, hK, _, q0, fun _ => rfl⟩
theorem goes_tt (mo la lo iso : Int) (hi : 0 ≤ iso ∧ iso ≤ 15) (ki n : Int) (cla clo : Nat) (g : Nat) (w : World) (hg : w.heap[g]? = some (.cells (stC ⟨mo, true, true, la, lo, iso⟩) 151 (0, 0))) :
    Calls Tryz.prog 84 #[.pointer (some ⟨g, 0, none⟩), cmV ⟨ki, n, cla, clo⟩] w (CEnd ⟨n, true, true, la, lo, iso⟩ (Dw.goesE ⟨mo, true, true, la, lo, iso⟩ n) g w) := by
  have hB := (Below.refl w.heap.size w).alloc (Nat.le_refl _) (.cells (cmC ⟨ki, n, cla, clo⟩) 65)
  have hC := han w (.cells (cmC ⟨ki, n, cla, clo⟩) 65)
  have hg1 := (hB.block g (block_lt hg)).trans hg
  have hgl := block_lt hg
  have HE := Lib.hid (fun m w h => enough_any ⟨mo, true, true, la, lo, iso⟩ hi m g w h)
  have HW := Lib.hid (fun w => way_any mo n w)
  have HN := Lib.hid (fun w => needs_any n w)
  have HH := Lib.hid (fun w => home_any n w)
  obtain ⟨z, hz⟩ : ∃ z, (n == 0) = z := ⟨_, rfl⟩
  have hz' : (n != 0) = !z := by rw [← hz]; rfl
  obtain ⟨hm, hhm⟩ : ∃ z, Dw.homeB n = z := ⟨_, rfl⟩
  have hr : Dw.goesE ⟨mo, true, true, la, lo, iso⟩ n = if Dw.wayB mo n = false then 20 else if true = false then 22 else if (!z) = false then 21 else if true = false then 23 else if decide (Dw.needsI n ≤ Dw.soundN iso) = false then 24 else 0 := by
    unfold Dw.goesE
    dsimp only
    subst hz
    rw [hhm]
    rcases Int.lt_or_le (Dw.soundN iso) (Dw.needsI n) with hq | hq
    · have hq2 : ¬ Dw.needsI n ≤ Dw.soundN iso := by omega
      by_cases hn : n = 0 <;> cases hm <;> simp [*] <;> omega
    · have hq2 : ¬ Dw.soundN iso < Dw.needsI n := by omega
      by_cases hn : n = 0 <;> cases hm <;> simp [*] <;> omega
  have HR := Lib.hid hr
  rw [hhm] at HH
  dsimp only at HE
  generalize Dw.goesE ⟨mo, true, true, la, lo, iso⟩ n = R at *
  generalize Dw.wayB mo n = wv at *
  generalize Dw.needsI n = nd at *
  generalize hen : decide (nd ≤ Dw.soundN iso) = en at *
  have HE := Lib.hid (fun w h => hen ▸ HE.out nd w h)
  obtain ⟨c0, c1, c2, -⟩ := cells6 hg1
  obtain ⟨k0, k1, -⟩ := cells4 hC
  clear hg hC hr hhm hen
  go_enter Tryz.func84, Tryz.ntmps84
  go_wp2_with fail
  generalize w.alloc _ = V at *
  refine wp_letterD [0,1,2,3,4,5,6,7,8,9,10,11,12,13,14,15,16,17,18,19,20,21,22,23,24,25,26,27,28,29,30,31,32,33,34,35,36,37,38,39,40,41,42,43,44,45,46,47,48,49] 50 51 (some 56) (NewRows V #[.bool wv, .int .i64 20, .bool true, .int .i64 22, .bool (!z), .int .i64 21, .bool true, .int .i64 23, .bool en, .int .i64 24] 5 204) rfl rfl (by kernel_rfl) (by kernel_rfl) rfl (fun v A B h hk => h.keep hk) ?_
  (apply rat; (focus (intro w' hk; obtain ⟨q0,q1,q2,q3⟩ := look4 hk c0 c1 c2 k1; repeat' (first | exact rn | ((first | refine' rv ?_ rfl rfl (by go_simp; first | done | with_reducible rfl | exact rfl) | refine' rc ?_ (by exact rfl) (by exact rfl) (by go_simp; first | done | (constructor <;> with_reducible rfl) | with_reducible rfl) (by first | first | exact HW.out w' | exact HN.out w' | exact HH.out w' | exact HE.out w' (kpi hk hg1)) | refine' rs ?_ rfl rfl); try simp only [Act.put, List.setIfInBounds_toArray, List.set_cons_zero, List.set_cons_succ])))))
  refine ⟨rfl, sure_rows (fun w' _ => by go_simp), ?_⟩
  rintro v W2 hk2 ⟨b, rfl, hb, hbc⟩
  simp only [List.drop_succ_cons, List.drop_zero, List.setIfInBounds_toArray, List.set_cons_zero, List.set_cons_succ]
  have hg2 := kpi hk2 hg1
  have k3 := look hk2 k1
  replace hB := hB.trans (hk2.whole.mono hB.size)
  clear hk2 hg1 c0 c1 c2 k0 k1 HE HW HN HH hz hz'
  go_wp2_with fail
  refine (first5_any _ _ _ _ _ _ _ _ _ _ b _ _ hbc).mono ?_
  rintro e w3 ⟨he, hb3⟩
  rw [← HR.out] at he
  subst he
  have hg3 := kp hb3 hg2
  have k4 := (hb3.cell (lt_of_cell k3)).trans k3
  replace hB := tr hB hb3
  clear hb3 hg2 hbc k3
  have q0 := heap_setCell_same w3 g 0 _ _ (.int .i64 n) hg3
  change _ = some (Obj.cells (stC ⟨n, true, true, la, lo, iso⟩) _ _) at q0
  have hK := ((keepB hB).mono (fun _ _ h => h.elim) : KeepBut (fun k => k = g) w w3).setCell (p := ⟨g, 0, none⟩) rfl (.int .i64 n)
  obtain ⟨c0, -⟩ := cells6 hg3
  have z0 := frozen0 hg3 0
  go_wp2_with fail
  go_ret
  exact ⟨rfl, hK, _, q0, fun _ => rfl⟩
theorem goes_any (s : Dw.St) (hi : 0 ≤ s.iso ∧ s.iso ≤ 15) (c : Dw.Cmd) (g : Nat) (w : World) (hg : w.heap[g]? = some (.cells (stC s) 151 (0, 0))) :
    Calls Tryz.prog 84 #[.pointer (some ⟨g, 0, none⟩), cmV c] w (CEnd { s with mo := c.n } (Dw.goesE s c.n) g w) := by
  obtain ⟨mo, ar, ho, la, lo, iso⟩ := s
  obtain ⟨ki, n, cla, clo⟩ := c
  cases ar <;> cases ho
  · exact goes_ff mo la lo iso hi ki n cla clo g w hg
  · exact goes_ft mo la lo iso hi ki n cla clo g w hg
  · exact goes_tf mo la lo iso hi ki n cla clo g w hg
  · exact goes_tt mo la lo iso hi ki n cla clo g w hg
end Go.Proofs.YtjonoojhdifjiaaGreatDoor
