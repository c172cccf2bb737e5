/- What the statement's proof stands on, part 34: Sup4, PlainLaw20, Ev20, PlainMod20. -/
import Derived.Test.YtjiejbkfaigikaaGreatDoorBc31
import Derived.Test.YtjiejbkfaigikaaGreatDoorBc30
import Derived.Test.YtjiejbkfaigikaaGreatDoorBc33
import Derived.Test.YtjiejbkfaigikaaGreatDoorBc32
import Derived.Test.YtjiejbkfaigikaaGreatDoorBc13
set_option linter.unusedSimpArgs false
set_option linter.unusedVariables false
set_option maxRecDepth 100000
set_option maxHeartbeats 4000000
namespace Go.Proofs.YtjiejbkfaigikaaGreatDoor
open Go.RowKit Go.Shelf
attribute [local go_sem] Oper.semAt_some
namespace Dw
theorem ofS_lt (s : List UInt8) (i : Int) : (ofS s i).data < 18446744073709551616 := by
  unfold ofS
  split
  · exact (lastN_lt s _).2
  · decide
theorem readS_lt (a b : List UInt8) : (readS a b).data < 18446744073709551616 := by
  unfold readS
  split
  · decide
  · unfold best
    (repeat' split) <;> exact ofS_lt _ _
end Dw
theorem skept_any (x : Dw.Su) (hf : Dw.FlOk x.f) (hl : Dw.legal x.s = true) (w : World) (hn : NoneAt w) :
    Calls Tryz.prog 33 #[suV x] w fun e w' => e = .returned (.bool (Dw.kept x)) ∧ Below w.heap.size w w' := by
  have hB := (Below.refl w.heap.size w).alloc (Nat.le_refl _) (.cells (suC x) 31)
  have hC := han w (.cells (suC x) 31)
  obtain ⟨f, s, ph, vo, nn⟩ := x
  have HP := Lib.hid (fun w => pack_any s hl w)
  have HR := Lib.hid (fun w hn => read_any f.a f.b hf.a hf.b f.e0 f.e1 f.li w hn)
  have HK := Lib.hid (show Dw.kept ⟨f, s, ph, vo, nn⟩ = (decide (Dw.readE f.a f.b = 0) && decide (Dw.pack s = (Dw.readS f.a f.b).data)) from rfl)
  have hE2 := Dw.readE_two f.a f.b
  generalize Dw.kept ⟨f, s, ph, vo, nn⟩ = K at *
  generalize Dw.readE f.a f.b = er at *
  obtain ⟨⟨pb, pg, pq, pd⟩, hS⟩ : ∃ p, Dw.readS f.a f.b = p := ⟨_, rfl⟩
  rw [hS] at HK HR
  generalize Dw.pack s = pk at *
  clear hS hf hl
  have hNV := hn.next hB
  dsimp only at hC HK
  obtain ⟨x0, x1, -⟩ := cells14 hC
  obtain ⟨x00, x01, x02, x03, x04⟩ := x0
  go_enter Tryz.func33, Tryz.ntmps33
  go_wp2_with (first | (refine lp 25 0 (flC f) hC rfl rfl rfl (by kernel_rfl) (by rfl) ?_))
  refine cb (HR.out _ hNV) fun w1 hb => ?_
  have hC1 := kp hb hC
  replace hB := tr hB hb
  clear hb hC x00 x01 x02 x03 x04 x1 hNV hn HR
  have b4 := han w1 (.cells #[.int .i64 pb, .int .u64 pg, .int .u64 pq, .int .u64 pd] 135)
  have b1 := hao w1 (.cells #[.int .i64 pb, .int .u64 pg, .int .u64 pq, .int .u64 pd] 135) hC1
  replace hB := hB.alloc hB.size (.cells #[.int .i64 pb, .int .u64 pg, .int .u64 pq, .int .u64 pd] 135)
  obtain ⟨W, hW⟩ : ∃ W, w1.alloc (.cells #[.int .i64 pb, .int .u64 pg, .int .u64 pq, .int .u64 pd] 135) = W := ⟨_, rfl⟩
  rw [hW] at b4 b1 hB
  clear hC1
  obtain ⟨-, ⟨x5, x6, x7, x8, x9, x10⟩, -⟩ := cells14 b1
  obtain ⟨q0, q1, q2, q3⟩ := cells4 b4
  go_wp2_with fail
  try rw [hW]
  clear hW
  rcases hE2 with rfl | rfl
  · refine wp_pure [0,1,2,3,4,5,6,7,8,9] 10 (by kernel_rfl) (by kernel_rfl) rfl ?_
    (apply rat; (focus (intro w' hk; obtain ⟨k0,k1,k2,k3,k4,k5,k6⟩ := look7 hk x5 x6 x7 x8 x9 x10 q3; repeat' (first | exact rn | ((first | refine' rv ?_ rfl rfl (by go_simp; first | done | with_reducible rfl | exact rfl) | refine' rc ?_ (by exact rfl) (by exact rfl) (by go_simp; first | done | (constructor <;> with_reducible rfl) | with_reducible rfl) (by exact HP.out w') | refine' rs ?_ rfl rfl); try simp only [Act.put, List.setIfInBounds_toArray, List.set_cons_zero, List.set_cons_succ])))))
    intro w2 hk2
    simp only [List.drop_succ_cons, List.drop_zero]
    replace hB := hB.trans (hk2.whole.mono hB.size)
    clear hk2 x5 x6 x7 x8 x9 x10 q0 q1 q2 q3 b1 b4
    go_wp2_with fail
    go_ret
    refine ⟨ret_bool ?_, hB⟩
    rw [HK.out, Bool.eq_iff_iff]
    simp
    try omega
  · refine wp_pure [0,1,2,3,4,5,6,7,8,9] 10 (by kernel_rfl) (by kernel_rfl) rfl ?_
    (apply rat; (focus (intro w' hk; repeat' (first | exact rn | ((first | refine' rv ?_ rfl rfl (by go_simp; first | done | with_reducible rfl | exact rfl) | refine' rc ?_ (by exact rfl) (by exact rfl) (by go_simp; first | done | (constructor <;> with_reducible rfl) | with_reducible rfl) (by exact HP.out w') | refine' rs ?_ rfl rfl); try simp only [Act.put, List.setIfInBounds_toArray, List.set_cons_zero, List.set_cons_succ])))))
    intro w2 hk2
    simp only [List.drop_succ_cons, List.drop_zero]
    replace hB := hB.trans (hk2.whole.mono hB.size)
    clear hk2 x5 x6 x7 x8 x9 x10 q0 q1 q2 q3 b1 b4
    go_wp2_with fail
    go_ret
    refine ⟨ret_bool ?_, hB⟩
    rw [HK.out]
    simp
theorem boot_any (f : Dw.Fl) (hf : Dw.FlOk f) (w : World) (hn : NoneAt w) :
    Calls Tryz.prog 24 #[flV f] w fun e w' => e = .returned (suV (Dw.boot f)) ∧ Below w.heap.size w w' := by
  obtain ⟨V, hV⟩ : ∃ V, (w.alloc (.cells (flC f) 25)).alloc (.cells Z14 31) = V := ⟨_, rfl⟩
  have b0 : V.heap[w.heap.size]? = some (.cells (flC f) 25) := by rw [← hV]; exact heap_alloc2_old _ _ _
  have b1 : V.heap[w.heap.size + 1]? = some (.cells Z14 31) := by rw [← hV]; exact heap_alloc2_new _ _ _
  have hB : Below w.heap.size w V := by rw [← hV]; exact ((Below.refl _ w).alloc (Nat.le_refl _) _).alloc (by simp) _
  have HR := Lib.hid (fun w hn => read_any f.a f.b hf.a hf.b f.e0 f.e1 f.li w hn)
  have HT := Lib.hid (show Dw.boot f = ⟨f, if Dw.readE f.a f.b = 0 then Dw.unP (Dw.readS f.a f.b).data else Dw.st0, 0, 0, 0⟩ from rfl)
  have hE2 := Dw.readE_two f.a f.b
  have hlt := Dw.readS_lt f.a f.b
  have HD := Lib.hid (fun w => default_any w)
  generalize Dw.boot f = X at *
  generalize Dw.readE f.a f.b = er at *
  obtain ⟨⟨pb, pg, pq, pd⟩, hS⟩ : ∃ p, Dw.readS f.a f.b = p := ⟨_, rfl⟩
  rw [hS] at HT HR hlt
  dsimp only at HT hlt
  have HU := Lib.hid (fun w => unpack_any pd hlt w)
  have hbad : Dw.unE pd = 0 ∨ (Dw.unE pd = 13 ∧ Dw.unP pd = Dw.st0) := by
    unfold Dw.unE Dw.unP
    cases Dw.unOk pd
    · exact .inr ⟨rfl, rfl⟩
    · exact .inl rfl
  clear hS hlt
  obtain ⟨x0, x1, x2, x3, x4⟩ := cells5 b0
  go_enter Tryz.func24, Tryz.ntmps24
  go_wp2_with fail
  try rw [hV]
  clear hV
  refine wp_letter [0, 1, 2] 3 4 (NewBlock V Z14 31) rfl (by kernel_rfl) (by kernel_rfl) rfl (fun v A B h hk => h.keep hk) ?_
  (apply rat; (focus (intro w' hk; obtain ⟨k0,k1,k2,k3,k4⟩ := look5 hk x0 x1 x2 x3 x4; repeat' (first | exact rn | ((first | refine' rv ?_ rfl rfl (by go_simp; first | done | with_reducible rfl | exact rfl) | refine' rc ?_ (by exact rfl) (by exact rfl) (by go_simp; first | done | (constructor <;> with_reducible rfl) | with_reducible rfl) (by exact HD.out w') | refine' rs ?_ rfl rfl); try simp only [Act.put, List.setIfInBounds_toArray, List.set_cons_zero, List.set_cons_succ])))))
  refine ⟨rfl, sure_new (fun w' _ => by go_simp), ?_⟩
  rintro v W2 hk2 ⟨b, rfl, hb, hbc⟩
  simp only [List.drop_succ_cons, List.drop_zero, List.setIfInBounds_toArray]
  have hb1 : w.heap.size + 1 ≠ b := by have := block_lt b1; omega
  have hb0 : w.heap.size ≠ b := by have := block_lt b0; omega
  have hwb : w.heap.size ≤ b := by have := hB.size; omega
  replace b0 := (setRow_other W2 b w.heap.size (suC ⟨f, Dw.st0, 0, 0, 0⟩) hb0).trans (kpi hk2 b0)
  replace b1 := (setRow_other W2 b (w.heap.size + 1) (suC ⟨f, Dw.st0, 0, 0, 0⟩) hb1).trans (kpi hk2 b1)
  have b3 := setRow_heap W2 b _ (suC ⟨f, Dw.st0, 0, 0, 0⟩) _ _ hbc
  replace hB := below_setRow (hB.trans (hk2.whole.mono hB.size)) hwb (suC ⟨f, Dw.st0, 0, 0, 0⟩)
  clear x0 x1 x2 x3 x4 hk2 HD
  go_wp2_with (first | (refine lb hbc rfl rfl rfl (by kernel_rfl) ?_) | (refine sb hbc rfl rfl rfl rfl (by kernel_rfl) ?_) | (refine lb b0 rfl rfl rfl (by kernel_rfl) ?_) | (refine sb b0 rfl rfl rfl rfl (by kernel_rfl) ?_))
  refine cb (HR.out _ (hn.next hB)) fun w1 hb' => ?_
  replace b1 := kp hb' b1
  replace b3 := kp hb' b3
  replace hB := hB.trans (hb'.mono hB.size)
  clear hb' b0 HR hbc
  have b4 := han w1 (.cells #[.int .i64 pb, .int .u64 pg, .int .u64 pq, .int .u64 pd] 135)
  replace b1 := hao w1 (.cells #[.int .i64 pb, .int .u64 pg, .int .u64 pq, .int .u64 pd] 135) b1
  replace b3 := hao w1 (.cells #[.int .i64 pb, .int .u64 pg, .int .u64 pq, .int .u64 pd] 135) b3
  replace hB := hB.alloc hB.size (.cells #[.int .i64 pb, .int .u64 pg, .int .u64 pq, .int .u64 pd] 135)
  obtain ⟨W, hW⟩ : ∃ W, w1.alloc (.cells #[.int .i64 pb, .int .u64 pg, .int .u64 pq, .int .u64 pd] 135) = W := ⟨_, rfl⟩
  rw [hW] at b4 b1 b3 hB
  obtain ⟨q0, q1, q2, q3⟩ := cells4 b4
  rcases hE2 with rfl | rfl
  · go_wp2_with fail
    refine cb (HU.out _) fun w2 hb' => ?_
    replace b1 := kp hb' b1
    replace b3 := kp hb' b3
    replace hB := hB.trans (hb'.mono hB.size)
    clear hb' b4 q0 q1 q2 q3 HU hW
    have hT : X = ⟨f, Dw.unP pd, 0, 0, 0⟩ := by rw [HT.out]; rfl
    generalize hu : Dw.unP pd = U at *
    have b5 := han w2 (.cells (stC U) 27)
    replace b1 := hao w2 (.cells (stC U) 27) b1
    replace b3 := hao w2 (.cells (stC U) 27) b3
    replace hB := hB.alloc hB.size (.cells (stC U) 27)
    generalize hue : Dw.unE pd = E at *
    rcases hbad with rfl | ⟨rfl, rfl⟩
    · have r1 := (setRow_other _ b (w.heap.size + 1) (suC ⟨f, U, 0, 0, 0⟩) hb1).trans b1
      have r3 := setRow_heap _ b _ (suC ⟨f, U, 0, 0, 0⟩) _ _ b3
      have hB3 := below_setRow hB hwb (suC ⟨f, U, 0, 0, 0⟩)
      go_wp2_with (first | (refine lb b5 rfl rfl rfl (by kernel_rfl) ?_) | (refine sb b5 rfl rfl rfl rfl (by kernel_rfl) ?_) | (refine sp 27 5 (stC U) (suC ⟨f, U, 0, 0, 0⟩) b3 rfl rfl rfl rfl (by kernel_rfl) (by rfl) (by rfl) ?_) | (refine lb r3 rfl rfl rfl (by kernel_rfl) ?_) | (refine sb r3 rfl rfl rfl rfl (by kernel_rfl) ?_) | (refine lb r1 rfl rfl rfl (by kernel_rfl) ?_) | (refine sb r1 rfl rfl rfl rfl (by kernel_rfl) ?_))
      exact bodyPost_ret (rcr rfl (srh r1) (by rfl) (by kernel_rfl)) rfl ⟨by rw [hT], below_setRow hB3 (by omega) _⟩
    · go_wp2_with (first | (refine lb b3 rfl rfl rfl (by kernel_rfl) ?_) | (refine sb b3 rfl rfl rfl rfl (by kernel_rfl) ?_) | (refine lb b1 rfl rfl rfl (by kernel_rfl) ?_) | (refine sb b1 rfl rfl rfl rfl (by kernel_rfl) ?_))
      exact bodyPost_ret (rcr rfl (srh b1) (by rfl) (by kernel_rfl)) rfl ⟨by rw [hT], below_setRow hB (by omega) _⟩
  · have hT : X = ⟨f, Dw.st0, 0, 0, 0⟩ := by rw [HT.out]; rfl
    clear HU q0 q1 q2 q3
    go_wp2_with (first | (refine lb b3 rfl rfl rfl (by kernel_rfl) ?_) | (refine sb b3 rfl rfl rfl rfl (by kernel_rfl) ?_) | (refine lb b1 rfl rfl rfl (by kernel_rfl) ?_) | (refine sb b1 rfl rfl rfl rfl (by kernel_rfl) ?_))
    exact bodyPost_ret (rcr rfl (srh b1) (by rfl) (by kernel_rfl)) rfl ⟨by rw [hT], below_setRow hB (by omega) _⟩
end Go.Proofs.YtjiejbkfaigikaaGreatDoor
namespace Go.Proofs.YtjiejbkfaigikaaGreatDoor
open Go.RowKit Go.Shelf
namespace Dw
abbrev whole : Pw := ⟨-1, []⟩
theorem refused_two {x : Su} {c : Cmd} (h : x.ph = 2 ∨ x.ph = 3) : refusedE x c = 26 := by unfold refusedE; rw [if_pos h]
theorem refused_else {x : Su} {c : Cmd} (h : ¬ (x.ph = 2 ∨ x.ph = 3)) (h2 : ¬ (x.ph = 0 ∧ 1 ≤ c.ki ∧ c.ki ≤ 3)) : refusedE x c = deltaE x.s c := by unfold refusedE; rw [if_neg h, if_neg h2]
theorem sample_off {x : Su} (h : x.ph = 3) (v : Int) (p : Pw) : sampleX x v p = x ∧ sampleE x v p = 26 := by
  unfold sampleX sampleE
  rw [if_pos h, if_pos h]
  exact ⟨rfl, rfl⟩
theorem sample_still {x : Su} (h : x.ph ≠ 3) {v : Int} (p : Pw) (h2 : x.ph ≠ 0 ∨ verdC (addV x.vo v) (addN x.vo x.n v) = 0) : sampleX x v p = voted x v ∧ sampleE x v p = 0 := by
  have h2' : x.ph ≠ 0 ∨ verdC (voted x v).vo (voted x v).n = 0 := h2
  unfold sampleX sampleE
  rw [if_neg h, if_neg h]
  dsimp only
  rw [if_pos h2', if_pos h2']
  exact ⟨rfl, rfl⟩
theorem sample_kept {x : Su} (h : x.ph = 0) {v d : Int} (p : Pw) (hd : verdC (addV x.vo v) (addN x.vo x.n v) = d) (h0 : d ≠ 0) (ht : resolveS x.s d = x.s) (hk : kept x = true) :
    sampleX x v p = { voted x v with ph := 1 } ∧ sampleE x v p = 0 := by
  have hd' : verdC (voted x v).vo (voted x v).n = d := hd
  have hno : ¬ (x.ph ≠ 0 ∨ d = 0) := by rintro (q | q); exact q h; exact h0 q
  refine ⟨?_, ?_⟩
  · unfold sampleX
    rw [if_neg (show ¬ x.ph = 3 by omega)]
    dsimp only
    rw [hd', if_neg hno, if_pos ⟨ht, hk⟩]
  · unfold sampleE
    rw [if_neg (show ¬ x.ph = 3 by omega)]
    dsimp only
    rw [hd', if_neg hno, if_pos ⟨ht, hk⟩]
theorem sample_writes {x : Su} (h : x.ph = 0) {v d : Int} (p : Pw) (hd : verdC (addV x.vo v) (addN x.vo x.n v) = d) (h0 : d ≠ 0) (hk : ¬ (resolveS x.s d = x.s ∧ kept x = true)) :
    sampleX x v p = (if writeE (voted x v) (resolveS x.s d) p = 0 then { writeX (voted x v) (resolveS x.s d) p with ph := 1 } else writeX (voted x v) (resolveS x.s d) p) ∧ sampleE x v p = writeE (voted x v) (resolveS x.s d) p := by
  have hd' : verdC (voted x v).vo (voted x v).n = d := hd
  have hno : ¬ (x.ph ≠ 0 ∨ d = 0) := by rintro (q | q); exact q h; exact h0 q
  refine ⟨?_, ?_⟩
  · unfold sampleX
    rw [if_neg (show ¬ x.ph = 3 by omega)]
    dsimp only
    rw [hd', if_neg hno, if_neg hk]
  · unfold sampleE
    rw [if_neg (show ¬ x.ph = 3 by omega)]
    dsimp only
    rw [hd', if_neg hno, if_neg hk]
theorem sampleX_ok {x : Su} (h : FlOk x.f) (v : Int) (p : Pw) : FlOk (sampleX x v p).f := by
  by_cases h3 : x.ph = 3
  · rw [(sample_off h3 v p).1]; exact h
  by_cases h2 : x.ph ≠ 0 ∨ verdC (addV x.vo v) (addN x.vo x.n v) = 0
  · rw [(sample_still h3 p h2).1]; exact h
  · have h0 : x.ph = 0 := Decidable.byContradiction fun q => h2 (.inl q)
    have hd : verdC (addV x.vo v) (addN x.vo x.n v) ≠ 0 := fun q => h2 (.inr q)
    by_cases hk : resolveS x.s (verdC (addV x.vo v) (addN x.vo x.n v)) = x.s ∧ kept x = true
    · rw [(sample_kept h0 p rfl hd hk.1 hk.2).1]; exact h
    · rw [(sample_writes h0 p rfl hd hk).1]
      split
      · exact write_okf (x := voted x v) h _ _
      · exact write_okf (x := voted x v) h _ _
theorem sample_legal {x : Su} (h : legal x.s = true) (v : Int) (p : Pw) : legal (sampleX x v p).s = true := by
  by_cases h3 : x.ph = 3
  · rw [(sample_off h3 v p).1]; exact h
  by_cases h2 : x.ph ≠ 0 ∨ verdC (addV x.vo v) (addN x.vo x.n v) = 0
  · rw [(sample_still h3 p h2).1]; exact h
  · have h0 : x.ph = 0 := Decidable.byContradiction fun q => h2 (.inl q)
    have hd : verdC (addV x.vo v) (addN x.vo x.n v) ≠ 0 := fun q => h2 (.inr q)
    by_cases hk : resolveS x.s (verdC (addV x.vo v) (addN x.vo x.n v)) = x.s ∧ kept x = true
    · rw [(sample_kept h0 p rfl hd hk.1 hk.2).1]; exact h
    · rw [(sample_writes h0 p rfl hd hk).1]
      split
      · exact write_legal (x := voted x v) h (resolve_legal h _) p
      · exact write_legal (x := voted x v) h (resolve_legal h _) p
theorem boot_legal (f : Fl) : legal (boot f).s = true := by
  show legal (bootT f) = true
  unfold bootT
  split
  · exact unP_legal _
  · exact legal0
def seen3 (x : Su) (v : Int) : Su := sampleX (sampleX (sampleX x v whole) v whole) v whole
theorem two_votes {x : Su} (hp : x.ph = 0) (hv0 : x.vo = 0) {v : Int} (hv : v = 1 ∨ v = 2) :
    sampleX (sampleX x v whole) v whole = { x with vo := v, n := 2 } := by
  have a1 : addV x.vo v = v := by unfold addV; rw [if_pos hv]
  have a2 : addN x.vo x.n v = 1 := by unfold addN; rw [if_pos hv, hv0, if_neg (by omega)]
  have b1 : addV v v = v := by unfold addV; rw [if_pos hv]
  have b2 : addN v 1 v = 2 := by unfold addN; rw [if_pos hv, if_pos rfl, if_neg (by decide), if_neg (by decide)]; rfl
  have e1 : sampleX x v whole = { x with vo := v, n := 1 } := by
    rw [(sample_still (by omega) whole (.inr (by rw [a1, a2]; unfold verdC; rw [if_neg (by omega)]))).1]
    unfold voted
    rw [a1, a2]
  rw [e1]
  rw [(sample_still (x := { x with vo := v, n := 1 }) (by show x.ph ≠ 3; omega) whole (.inr (by show verdC (addV v v) (addN v 1 v) = 0; rw [b1, b2]; unfold verdC; rw [if_neg (by omega)]))).1]
  unfold voted
  dsimp only
  rw [b1, b2]
theorem third_vote {v : Int} (hv : v = 1 ∨ v = 2) : addV v v = v ∧ addN v 2 v = 3 ∧ verdC v 3 = v := by
  refine ⟨by unfold addV; rw [if_pos hv], by unfold addN; rw [if_pos hv, if_pos rfl, if_neg (by decide), if_neg (by decide)]; rfl, ?_⟩
  unfold verdC
  rw [if_pos ⟨by decide, hv⟩]
theorem kept_of {x : Su} (h1 : readE x.f.a x.f.b = 0) (h2 : (readS x.f.a x.f.b).data = pack x.s) : kept x = true := by
  unfold kept
  rw [h1, h2]
  simp
structure Steady (n N : Nat) (x : Su) (k : Cur) : Prop where
  inv : Inv n N x.f (some k)
  data : k.data = pack x.s
  leg : legal x.s = true
  ok : FlOk x.f
theorem inv_boot {n N : Nat} {f : Fl} {k : Cur} {t : St} (h : Inv n N f (some k)) (hd : k.data = pack t) (ht : legal t = true) : boot f = ⟨f, t, 0, 0, 0⟩ := by
  obtain ⟨r1, r2⟩ := inv_read h
  unfold boot bootT
  rw [if_pos r2, r1, hd, unP_pack ht]
theorem steady_boot {n N : Nat} {x : Su} {k : Cur} (h : Steady n N x k) : boot x.f = ⟨x.f, x.s, 0, 0, 0⟩ := inv_boot h.inv h.data h.leg
theorem steady_kept {n N : Nat} {x : Su} {k : Cur} (h : Steady n N x k) : kept x = true := by
  obtain ⟨r1, r2⟩ := inv_read h.inv
  exact kept_of r2 (by rw [r1]; exact h.data)
theorem steady_mono {n N M : Nat} {x : Su} {k : Cur} (h : Steady n N x k) (hm : N ≤ M) : Steady n M x k := ⟨inv_mono h.inv hm, h.data, h.leg, h.ok⟩
theorem steady_of {n N : Nat} {x y : Su} {k : Cur} (h : Steady n N x k) (hf : y.f = x.f) (hs : y.s = x.s) : Steady n N y k := ⟨hf ▸ h.inv, by rw [hs]; exact h.data, by rw [hs]; exact h.leg, hf ▸ h.ok⟩
structure Wrote (n N : Nat) (x : Su) (k : Cur) (t : St) (p : Pw) : Prop where
  res : (writeE x t p = 26 ∧ writeX x t p = { x with ph := 2 } ∧ x.f.li ≤ N) ∨
    (writeE x t p = 0 ∧ (∃ g, writeX x t p = { x with f := g, s := t }) ∧ (writeX x t p).f.li = x.f.li ∧ ∃ k', Steady n (N + 1) (writeX x t p) k') ∨
    (writeE x t p = 26 ∧ 0 ≤ p.cut ∧ (∃ g, writeX x t p = { x with f := g, ph := 3 }) ∧ (writeX x t p).f.li = x.f.li ∧ ∃ k', Inv n (N + 1) (writeX x t p).f (some k') ∧ (k'.data = pack x.s ∨ k'.data = pack t))
theorem steady_write {n N : Nat} {x : Su} {k : Cur} (h : Steady n N x k) (hN : N + 1 < 18446744073709551615) {t : St} (ht : legal t = true) (p : Pw) : Wrote n N x k t p := by
  have hr : Rel ⟨x.f, 1, pack x.s, false, 0⟩ (some k) := ⟨by show (0 : Int) ≤ 1; decide, .inr ⟨rfl, .inr ⟨by show (0 : Int) < 1; decide, k, rfl, h.data⟩⟩⟩
  have hok := write_okf h.ok t p
  rcases step_done h.inv hN (pack t) p.cut p.mask (pack_lt64 t) with ⟨h4, _, hli⟩ | hD
  · obtain ⟨e1, e2⟩ := write_no (x := x) (t := t) (p := p) (by rw [h4]; decide)
    exact ⟨.inl ⟨e2, e1, hli⟩⟩
  · have hg : putG x.f (wStp t p) = playL x.f (plan x.f (pack t)).1 0 p.cut p.mask := rfl
    have hli := hD.li
    rw [← hg] at hli
    rcases hD.res with ⟨_, hn, c', _, hda, hI'⟩ | ⟨h0, h1, hn, hrest⟩
    · rw [← hg] at hn hI'
      have ha := ack_true (s := wStp t p) hn hda hI'
      obtain ⟨e1, e2⟩ := write_ack (x := x) (t := t) (p := p) hD.ok ha
      refine ⟨.inr (.inl ⟨e2, ⟨_, e1⟩, by rw [e1]; exact hli, c', ?_⟩)⟩
      rw [e1] at hok ⊢
      exact ⟨hI', hda, ht, hok⟩
    · rw [← hg] at hn
      have ha := ack_false (s := wStp t p) hn
      obtain ⟨e1, e2⟩ := write_off (x := x) (t := t) (p := p) hD.ok ha
      refine ⟨.inr (.inr ⟨e2, h0, ⟨_, e1⟩, by rw [e1]; exact hli, ?_⟩)⟩
      rw [e1]
      rcases hrest with hI' | ⟨c', _, hda, hI'⟩
      · exact ⟨k, hI', .inl h.data⟩
      · exact ⟨c', hI', .inr hda⟩
structure Cmded (n N : Nat) (x : Su) (c : Cmd) : Prop where
  nx : ∃ k, Steady n (N + 1) (commandX x c whole) k
  li : (commandX x c whole).f.li = x.f.li
  res : (x.ph = 2 ∧ commandX x c whole = x ∧ commandE x c whole = 26) ∨
    (x.ph = 1 ∧ (commandX x c whole).ph = 1 ∧ (commandX x c whole).s = deltaS x.s c ∧ commandE x c whole = deltaE x.s c) ∨
    (x.ph = 1 ∧ x.f.li ≤ N ∧ commandX x c whole = { x with ph := 2 } ∧ commandE x c whole = 26)
theorem steady_command {n N : Nat} {x : Su} {k : Cur} (h : Steady n N x k) (hN : N + 1 < 18446744073709551615) (hp : x.ph = 1 ∨ x.ph = 2) (c : Cmd) : Cmded n N x c := by
  have hm := steady_mono h (Nat.le_succ N)
  rcases hp with hp | hp
  · have hr : refusedE x c = deltaE x.s c := refused_else (by omega) (by omega)
    by_cases h0 : deltaE x.s c = 0
    · by_cases ht : deltaT x.s c = x.s
      · have e1 : commandX x c whole = x := by unfold commandX; rw [if_neg (fun q => q.2 ht)]
        have e2 : commandE x c whole = deltaE x.s c := by unfold commandE; rw [if_neg (fun q => q.2 ht), hr]
        refine ⟨⟨k, by rw [e1]; exact hm⟩, by rw [e1], .inr (.inl ⟨hp, by rw [e1]; exact hp, by rw [e1, deltaS_ok h0, ht], e2⟩)⟩
      · have e1 : commandX x c whole = writeX x (deltaT x.s c) whole := by unfold commandX; rw [if_pos ⟨hr.trans h0, ht⟩]
        have e2 : commandE x c whole = writeE x (deltaT x.s c) whole := by unfold commandE; rw [if_pos ⟨hr.trans h0, ht⟩]
        rcases (steady_write h hN (delta_legal h.leg h0) whole).res with ⟨w1, w2, w3⟩ | ⟨w1, ⟨g, w2⟩, w3, w4⟩ | ⟨_, w0, _⟩
        · refine ⟨⟨k, by rw [e1, w2]; exact steady_of hm rfl rfl⟩, by rw [e1, w2], .inr (.inr ⟨hp, w3, by rw [e1, w2], by rw [e2, w1]⟩)⟩
        · refine ⟨by rw [e1]; exact w4, by rw [e1]; exact w3, .inr (.inl ⟨hp, by rw [e1, w2]; exact hp, by rw [e1, w2, deltaS_ok h0], by rw [e2, w1, h0]⟩)⟩
        · exact absurd w0 (by decide)
    · obtain ⟨e1, e2⟩ := command_refused (x := x) (c := c) whole (by rw [hr]; exact h0)
      refine ⟨⟨k, by rw [e1]; exact hm⟩, by rw [e1], .inr (.inl ⟨hp, by rw [e1]; exact hp, by rw [e1, deltaS_no h0], by rw [e2, hr]⟩)⟩
  · have hr : refusedE x c = 26 := refused_two (.inl hp)
    obtain ⟨e1, e2⟩ := command_refused (x := x) (c := c) whole (by rw [hr]; decide)
    exact ⟨⟨k, by rw [e1]; exact hm⟩, by rw [e1], .inl ⟨hp, e1, by rw [e2, hr]⟩⟩
def stood (f : Fl) : Su := seen3 (boot f) 1
theorem boot_new {n : Nat} (h1 : 1 ≤ n) (h2 : n ≤ 12) (li : Int) : boot (fNew n li) = ⟨fNew n li, st0, 0, 0, 0⟩ := by
  obtain ⟨r1, r2⟩ := inv_read (new_inv h1 h2 li)
  unfold boot bootT
  rw [if_neg (by rw [r2]; decide)]
theorem resolve1 : resolveS st0 1 = st0 := by decide
theorem stood_new {n : Nat} (h1 : 1 ≤ n) (h2 : n ≤ 12) {li : Int} (hl : 1 ≤ li) (hl2 : li ≤ 1000) :
    (stood (fNew n li)).ph = 1 ∧ (stood (fNew n li)).s = st0 ∧ (stood (fNew n li)).f.li = li ∧ ∃ k, Steady n 1 (stood (fNew n li)) k := by
  have hb := boot_new h1 h2 li
  have hI := new_inv h1 h2 li
  obtain ⟨r1, r2⟩ := inv_read hI
  obtain ⟨c1, c2, c3⟩ := third_vote (v := 1) (.inl rfl)
  have e2 := two_votes (x := boot (fNew n li)) rfl rfl (v := 1) (.inl rfl)
  have es : stood (fNew n li) = sampleX { boot (fNew n li) with vo := 1, n := 2 } 1 whole := by unfold stood seen3; rw [e2]
  rw [hb] at es
  dsimp only at es
  have hk : ¬ (resolveS st0 1 = st0 ∧ kept ⟨fNew n li, st0, 0, 1, 2⟩ = true) := by
    rintro ⟨_, q⟩
    unfold kept at q
    rw [r2] at q
    exact absurd q (by simp)
  obtain ⟨w1, -⟩ := sample_writes (x := ⟨fNew n li, st0, 0, 1, 2⟩) rfl (v := 1) (d := 1) whole (by rw [c1, c2, c3]) (by decide) hk
  rw [w1, resolve1] at es
  have hvo : voted ⟨fNew n li, st0, 0, 1, 2⟩ 1 = ⟨fNew n li, st0, 0, 1, 3⟩ := by unfold voted; dsimp only; rw [c1, c2]
  rw [hvo] at es
  rcases step_done hI (by decide) (pack st0) (-1) [] (pack_lt64 st0) with ⟨_, _, hli⟩ | hD
  · exact absurd hli (by show ¬ li ≤ ((0 : Nat) : Int); omega)
  · have hg : putG (fNew n li) (wStp st0 whole) = playL (fNew n li) (plan (fNew n li) (pack st0)).1 0 (-1) [] := rfl
    rcases hD.res with ⟨_, hn, c', _, hda, hI'⟩ | ⟨h0, _⟩
    · have hli := hD.li
      rw [← hg] at hn hI' hli
      have ha := ack_true (s := wStp st0 whole) hn hda hI'
      obtain ⟨e1, e2⟩ := write_ack (x := ⟨fNew n li, st0, 0, 1, 3⟩) (t := st0) (p := whole) hD.ok ha
      have hok := write_okf (x := ⟨fNew n li, st0, 0, 1, 3⟩) (new_ok h2 hl2) st0 whole
      rw [if_pos e2] at es
      rw [e1] at es hok
      rw [es]
      exact ⟨rfl, rfl, hli, c', ⟨hI', hda, legal0, hok⟩⟩
    · exact absurd h0 (by decide)
end Dw
end Go.Proofs.YtjiejbkfaigikaaGreatDoor
namespace Go.Proofs.YtjiejbkfaigikaaGreatDoor
open Go.RowKit Go.Shelf
namespace Dw
def g20 : Fl := ⟨ffs 72, ffs 72, 0, 0, 5⟩
abbrev arm20 : Cmd := ⟨2, 0, 0, 0⟩
abbrev go20 : Cmd := ⟨1, 2, 0, 0⟩
abbrev cut20 : Pw := ⟨0, []⟩
def y20 : Su := seen3 (boot g20) 1
def z20 : Su := commandX y20 arm20 whole
def u20 : Su := commandX z20 go20 cut20
def v20 : Su := seen3 (boot u20.f) 2
theorem ok20 : FlOk g20 := ⟨by rw [g20, ffs_length]; omega, by rw [g20, ffs_length]; omega, by decide, by decide, by decide⟩
theorem ev20a : commandE (boot g20) arm20 whole = 25 := by decide +kernel
theorem ev20b : y20.ph = 1 ∧ kept y20 = true := by decide +kernel
theorem ev20c : commandE y20 arm20 whole = 0 ∧ z20.s.ar = true := by decide +kernel
theorem ev20d : commandE z20 go20 cut20 = 26 ∧ u20.ph = 3 := by decide +kernel
theorem ev20e : v20.ph = 1 ∧ v20.s = ⟨1, true, false, 0, 0, 0⟩ := by decide +kernel
theorem vote20 : voteI 0 0 0 = 1 := by decide +kernel
theorem vote20b : voteI 4621819117588971520 0 4602678819172646912 = 2 := by decide +kernel
end Dw
end Go.Proofs.YtjiejbkfaigikaaGreatDoor
namespace Go.Proofs.YtjiejbkfaigikaaGreatDoor
open Go.RowKit Go.Shelf
namespace Dw
structure Goes (n k : Nat) (li : Int) (x : Su) : Prop where
  ph : x.ph = 1 ∨ x.ph = 2
  li : x.f.li = li
  st : ∃ c, Steady n (k + 1) x c
variable {n k : Nat} {li : Int} {x : Su}
theorem Goes.ok (h : Goes n k li x) : FlOk x.f := by obtain ⟨_, h⟩ := h.st; exact h.ok
theorem Goes.leg (h : Goes n k li x) : legal x.s = true := by obtain ⟨_, h⟩ := h.st; exact h.leg
theorem Goes.kept (h : Goes n k li x) : Dw.kept x = true := by obtain ⟨_, h⟩ := h.st; exact steady_kept h
theorem Goes.boot (h : Goes n k li x) : Dw.boot x.f = ⟨x.f, x.s, 0, 0, 0⟩ := by obtain ⟨_, h⟩ := h.st; exact steady_boot h
theorem goes_stood (h1 : 1 ≤ n) (h2 : n ≤ 12) (hl : 1 ≤ li) (hl2 : li ≤ 1000) : Goes n 0 li (stood (fNew n li)) ∧ (stood (fNew n li)).ph = 1 ∧ (stood (fNew n li)).s = st0 := by
  obtain ⟨a, b, c, d⟩ := stood_new h1 h2 hl hl2
  exact ⟨⟨.inl a, c, d⟩, a, b⟩
theorem goes_next (h : Goes n k li x) (hk : k ≤ 1000) (c : Cmd) : Goes n (k + 1) li (commandX x c whole) := by
  obtain ⟨q, hs⟩ := h.st
  have hc := steady_command hs (by omega) h.ph c
  refine ⟨?_, hc.li.trans h.li, hc.nx⟩
  rcases hc.res with ⟨a, b, _⟩ | ⟨_, b, _⟩ | ⟨_, _, b, _⟩
  · rw [b]; exact .inr a
  · exact .inl b
  · rw [b]; exact .inr rfl
theorem goes_failed (h : Goes n k li x) (hp : x.ph = 2) (c : Cmd) : commandX x c whole = x ∧ commandE x c whole = 26 := by
  have hr : refusedE x c = 26 := refused_two (.inl hp)
  obtain ⟨e1, e2⟩ := command_refused (x := x) (c := c) whole (by rw [hr]; decide)
  exact ⟨e1, e2.trans hr⟩
theorem goes_read (h : Goes n k li x) : (readS x.f.a x.f.b).data = pack x.s ∧ readE x.f.a x.f.b = 0 := by
  obtain ⟨c, hs⟩ := h.st
  obtain ⟨r1, r2⟩ := inv_read hs.inv
  exact ⟨by rw [r1]; exact hs.data, r2⟩
theorem crash_no (h : Goes n k li x) (c : Cmd) (p : Pw) (hr : deltaE x.s c ≠ 0 ∨ x.ph ≠ 1) : commandX x c p = x ∧ (Dw.boot x.f).s = x.s ∧ commandE x c p ≠ 0 := by
  have hr' : refusedE x c ≠ 0 := by
    rcases h.ph with q | q
    · rw [refused_else (by omega) (by omega)]; exact hr.resolve_right (fun h => h q)
    · rw [refused_two (.inl q)]; decide
  obtain ⟨e1, e2⟩ := command_refused (x := x) (c := c) p hr'
  exact ⟨e1, by rw [h.boot], by rw [e2]; exact hr'⟩
theorem crash_yes (h : Goes n k li x) (hk : k ≤ 1000) (c : Cmd) (p : Pw) (h0 : deltaE x.s c = 0) (hp : x.ph = 1) :
    ((Dw.boot (commandX x c p).f).s = x.s ∨ (Dw.boot (commandX x c p).f).s = deltaS x.s c) ∧ (commandE x c p ≠ 0 ∨ (Dw.boot (commandX x c p).f).s = deltaS x.s c) := by
  obtain ⟨q, hs⟩ := h.st
  have hr : refusedE x c = deltaE x.s c := refused_else (by omega) (by omega)
  have hd : deltaS x.s c = deltaT x.s c := deltaS_ok h0
  have hle : legal (deltaT x.s c) = true := delta_legal h.leg h0
  by_cases ht : deltaT x.s c = x.s
  · have e1 : commandX x c p = x := by unfold commandX; rw [if_neg (fun q => q.2 ht)]
    rw [e1, h.boot, hd, ht]
    exact ⟨.inl rfl, .inr rfl⟩
  · have e1 : commandX x c p = writeX x (deltaT x.s c) p := by unfold commandX; rw [if_pos ⟨hr.trans h0, ht⟩]
    have e2 : commandE x c p = writeE x (deltaT x.s c) p := by unfold commandE; rw [if_pos ⟨hr.trans h0, ht⟩]
    rw [e1, e2, hd]
    rcases (steady_write hs (by omega) hle p).res with ⟨w1, w2, _⟩ | ⟨_, ⟨g, w2⟩, _, c', w4⟩ | ⟨w1, _, ⟨g, w2⟩, _, c', w4, w5⟩
    · rw [w1, w2]
      have hb : (Dw.boot x.f).s = x.s := by rw [h.boot]
      exact ⟨.inl hb, .inl (by decide)⟩
    · have hb := steady_boot w4
      have hs' : (writeX x (deltaT x.s c) p).s = deltaT x.s c := by rw [w2]
      rw [hs'] at hb
      rw [hb]
      exact ⟨.inr rfl, .inr rfl⟩
    · rcases w5 with w5 | w5
      · rw [inv_boot w4 w5 h.leg, w1]; exact ⟨.inl rfl, .inl (by decide)⟩
      · rw [inv_boot w4 w5 hle, w1]; exact ⟨.inr rfl, .inr rfl⟩
theorem command_ok (h : Goes n k li x) (c : Cmd) (p : Pw) : FlOk (commandX x c p).f := by
  unfold commandX
  split
  · exact write_okf h.ok _ _
  · exact h.ok
end Dw
end Go.Proofs.YtjiejbkfaigikaaGreatDoor
