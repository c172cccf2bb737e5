/- What the statement's proof stands on, part 20: Flash, Flash2, Erase. -/
import Derived.Test.YtjibbchfndhhpaaGreatDoorRc18
import Derived.Test.YtjibbchfndhhpaaGreatDoorRc19
import Derived.Defers
import Derived.Recover
set_option linter.unusedSimpArgs false
set_option linter.unusedVariables false
set_option maxRecDepth 100000
set_option maxHeartbeats 4000000
namespace Go.Proofs.YtjibbchfndhhpaaGreatDoor
open Go.RowKit Go.Shelf
attribute [local go_sem] Oper.semAt_some
abbrev flV (f : Dw.Fl) : Value := flashV f.a f.b f.e0 f.e1 f.li
theorem caught_idle (p : Addr) (w : World) :
    CallsD Tryz.prog 218 #[.pointer (some p)] .returning w fun e u' w' => e = .returned (.tuple #[]) ∧ u' = .returning ∧ w' = w := by
  refine callsD_of_wpS Tryz.func218 rfl fun c₀ cs hu => ?_
  apply wpS_seq
  apply wpS_region
  simp [wpOpsS, go_sem, recoverD, hu, Tryz.ntmps218, Exit.thenS]
  apply wpS_seq
  apply wpS_region
  simp [wpOpsS, go_sem, Exit.thenS]
  refine wpS_cond (t := false) (by simp [Act.eval, Array.replicate]) ?_
  simp only [Bool.false_eq_true, if_false]
  refine wpS_of_wp (wp_skip ?_)
  cases c₀
  simp_all [bodyPostS, results, Tryz.results218]
theorem cutA (f : Dw.Fl) (at_ n : Nat) (h : at_ + n ≤ (f.a).length) (hl : (f.a).length ≤ 100000) (w : World) :
    Calls Tryz.prog 219 #[flV f, .int .i64 0, .int .i64 at_, .int .i64 n] w fun e w' => e = .returned (.tuple #[.string ⟨((f.a).take at_).toArray⟩, .string ⟨(Dw.sub (f.a) at_ n).toArray⟩, .string ⟨((f.a).drop (at_ + n)).toArray⟩]) ∧ Below w.heap.size w w' := by
  have e0 : bits BinOp.andNot IntKind.i64 0 1 = 0 := by decide
  have hB := (Below.refl w.heap.size w).alloc (Nat.le_refl _) (.cells (flashC f.a f.b f.e0 f.e1 f.li) 41)
  have hF := han w (.cells (flashC f.a f.b f.e0 f.e1 f.li) 41)
  obtain ⟨c0, c1, c2, c3, c4⟩ := cells5 hF
  have i1 : ¬ (at_ : Int) < 0 := by omega
  have i2 : ¬ (n : Int) < 0 := by omega
  have i3 : ¬ ((f.a).length : Int) < (at_ : Int) := by omega
  have i4 : IntKind.i64.wrap (((f.a).length : Int) - (at_ : Int)) = ((f.a).length : Int) - (at_ : Int) := IntWalk.i64_in _ (by omega)
  have i5 : ¬ ((f.a).length : Int) - (at_ : Int) < (n : Int) := by omega
  have i6 : IntKind.i64.wrap ((at_ : Int) + (n : Int)) = (at_ : Int) + (n : Int) := IntWalk.i64_in _ (by omega)
  have i7 : (at_ : Int) + (n : Int) ≤ ((f.a).length : Int) := by omega
  have i8 : ((at_ : Int) + (n : Int)).toNat = at_ + n := by omega
  have i9 : (0 : Int) ≤ (at_ : Int) + (n : Int) := by omega
  have i10 : (at_ : Int) ≤ ((f.a).length : Int) := by omega
  have i11 : (at_ : Int) ≤ (at_ : Int) + (n : Int) := by omega
  have x1 : (⟨(f.a).toArray⟩ : ByteArray).extract 0 at_ = ⟨((f.a).take at_).toArray⟩ := by rw [bs_extract, List.drop_zero]
  have x2 : (⟨(f.a).toArray⟩ : ByteArray).extract at_ (at_ + n) = ⟨(Dw.sub (f.a) at_ n).toArray⟩ := by rw [bs_extract, List.drop_take, Nat.add_sub_cancel_left]; rfl
  have x3 : (⟨(f.a).toArray⟩ : ByteArray).extract (at_ + n) (f.a).length = ⟨((f.a).drop (at_ + n)).toArray⟩ := by rw [bs_extract, List.take_length]
  go_enter Tryz.func219, Tryz.ntmps219
  go_wp2_with fail
  generalize w.alloc _ = W at *
  clear c0 c1 c2 c3 c4 hF
  refine wp_pure [0,1,2,3,4,5,6,7,8,9,10,11,12,13,14,15,16] 17 (by kernel_rfl) (by kernel_rfl) rfl ?_
  (apply rat; (focus (intro w' hk; repeat' (first | exact rn | ((first | refine' rv ?_ rfl rfl (by go_simp; first | done | with_reducible rfl | exact rfl) | refine' rs ?_ rfl rfl); try simp only [Act.put, List.setIfInBounds_toArray, List.set_cons_zero, List.set_cons_succ])))))
  intro w2 hk2
  simp only [List.drop_succ_cons, List.drop_zero]
  go_wp2_with fail
  exact bodyPost_ret (results_tmp3 rfl _ _ _) rfl ⟨rfl, hB.trans (hk2.whole.mono hB.size)⟩
theorem cutB (f : Dw.Fl) (at_ n : Nat) (h : at_ + n ≤ (f.b).length) (hl : (f.b).length ≤ 100000) (w : World) :
    Calls Tryz.prog 219 #[flV f, .int .i64 1, .int .i64 at_, .int .i64 n] w fun e w' => e = .returned (.tuple #[.string ⟨((f.b).take at_).toArray⟩, .string ⟨(Dw.sub (f.b) at_ n).toArray⟩, .string ⟨((f.b).drop (at_ + n)).toArray⟩]) ∧ Below w.heap.size w w' := by
  have e0 : bits BinOp.andNot IntKind.i64 1 1 = 0 := by decide
  have hB := (Below.refl w.heap.size w).alloc (Nat.le_refl _) (.cells (flashC f.a f.b f.e0 f.e1 f.li) 41)
  have hF := han w (.cells (flashC f.a f.b f.e0 f.e1 f.li) 41)
  obtain ⟨c0, c1, c2, c3, c4⟩ := cells5 hF
  have i1 : ¬ (at_ : Int) < 0 := by omega
  have i2 : ¬ (n : Int) < 0 := by omega
  have i3 : ¬ ((f.b).length : Int) < (at_ : Int) := by omega
  have i4 : IntKind.i64.wrap (((f.b).length : Int) - (at_ : Int)) = ((f.b).length : Int) - (at_ : Int) := IntWalk.i64_in _ (by omega)
  have i5 : ¬ ((f.b).length : Int) - (at_ : Int) < (n : Int) := by omega
  have i6 : IntKind.i64.wrap ((at_ : Int) + (n : Int)) = (at_ : Int) + (n : Int) := IntWalk.i64_in _ (by omega)
  have i7 : (at_ : Int) + (n : Int) ≤ ((f.b).length : Int) := by omega
  have i8 : ((at_ : Int) + (n : Int)).toNat = at_ + n := by omega
  have i9 : (0 : Int) ≤ (at_ : Int) + (n : Int) := by omega
  have i10 : (at_ : Int) ≤ ((f.b).length : Int) := by omega
  have i11 : (at_ : Int) ≤ (at_ : Int) + (n : Int) := by omega
  have x1 : (⟨(f.b).toArray⟩ : ByteArray).extract 0 at_ = ⟨((f.b).take at_).toArray⟩ := by rw [bs_extract, List.drop_zero]
  have x2 : (⟨(f.b).toArray⟩ : ByteArray).extract at_ (at_ + n) = ⟨(Dw.sub (f.b) at_ n).toArray⟩ := by rw [bs_extract, List.drop_take, Nat.add_sub_cancel_left]; rfl
  have x3 : (⟨(f.b).toArray⟩ : ByteArray).extract (at_ + n) (f.b).length = ⟨((f.b).drop (at_ + n)).toArray⟩ := by rw [bs_extract, List.take_length]
  go_enter Tryz.func219, Tryz.ntmps219
  go_wp2_with fail
  generalize w.alloc _ = W at *
  clear c0 c1 c2 c3 c4 hF
  refine wp_pure [0,1,2,3,4,5,6,7,8,9,10,11,12,13,14,15,16] 17 (by kernel_rfl) (by kernel_rfl) rfl ?_
  (apply rat; (focus (intro w' hk; repeat' (first | exact rn | ((first | refine' rv ?_ rfl rfl (by go_simp; first | done | with_reducible rfl | exact rfl) | refine' rs ?_ rfl rfl); try simp only [Act.put, List.setIfInBounds_toArray, List.set_cons_zero, List.set_cons_succ])))))
  intro w2 hk2
  simp only [List.drop_succ_cons, List.drop_zero]
  go_wp2_with fail
  exact bodyPost_ret (results_tmp3 rfl _ _ _) rfl ⟨rfl, hB.trans (hk2.whole.mono hB.size)⟩
theorem even_bits (a b : Nat) (ha : a % 2 = 0) (hb : b % 2 = 0) (ha2 : a < 9223372036854775808) (hb2 : b < 9223372036854775808) : bits BinOp.and IntKind.i64 (bits BinOp.or IntKind.i64 (a : Int) (b : Int)) 1 = 0 := by
  have e : bits BinOp.or IntKind.i64 (a : Int) (b : Int) = ((a ||| b : Nat) : Int) := by
    show IntKind.i64.wrap ((BitVec.ofInt 64 (a : Int) ||| BitVec.ofInt 64 (b : Int)).toNat : Int) = _
    rw [BitVec.ofInt_natCast, BitVec.ofInt_natCast, BitVec.toNat_or, BitVec.toNat_ofNat, BitVec.toNat_ofNat, Nat.mod_eq_of_lt (Nat.lt_trans ha2 (by decide)), Nat.mod_eq_of_lt (Nat.lt_trans hb2 (by decide))]
    have : a ||| b < 2 ^ 63 := Nat.or_lt_two_pow (by simpa using ha2) (by simpa using hb2)
    exact IntWalk.i64_in _ (by omega)
  have hlt : a ||| b < 9223372036854775808 := by simpa using Nat.or_lt_two_pow (n := 63) (by simpa using ha2) (by simpa using hb2)
  have hm : (a ||| b) % 2 = 0 := by
    have := Nat.or_mod_two_pow (a := a) (b := b) (n := 1)
    simp only [Nat.pow_one, ha, hb] at this
    simpa using this
  rw [e]
  show IntKind.i64.wrap ((BitVec.ofInt 64 ((a ||| b : Nat) : Int) &&& BitVec.ofInt 64 1).toNat : Int) = _
  rw [BitVec.ofInt_natCast, BitVec.toNat_and, BitVec.toNat_ofNat, Nat.mod_eq_of_lt (Nat.lt_trans hlt (by decide)), show (BitVec.ofInt 64 1).toNat = 1 from rfl, Nat.and_one_is_mod, hm]
  decide
theorem alloc3 (w : World) (o0 o1 o2 : Obj) (V : World) (h : (((w.alloc o0).alloc o1).alloc o2) = V) :
    V.heap.size = w.heap.size + 3 ∧ Below w.heap.size w V ∧ V.heap[w.heap.size]? = some o0 ∧ V.heap[w.heap.size + 1]? = some o1 ∧ V.heap[w.heap.size + 2]? = some o2 := by
  subst h
  have s : ∀ (u : World) (o : Obj), (u.alloc o).heap.size = u.heap.size + 1 := fun u o => by simp
  have n : ∀ (u : World) (o : Obj), (u.alloc o).heap[u.heap.size]? = some o := fun u o => World.alloc_heap_new u o
  have a : ∀ (u : World) (o : Obj) (k : Nat), k < u.heap.size → (u.alloc o).heap[k]? = u.heap[k]? := fun u o k h => Below.heap_alloc _ _ _ h
  refine ⟨by simp, (((Below.refl _ w).alloc (by omega) _).alloc (by simp) _).alloc (by simp; omega) _, ?_, ?_, ?_⟩
  · rw [a _ _ _ (by rw [s, s]; omega), a _ _ _ (by rw [s]; omega), n]
  · rw [a _ _ _ (by rw [s, s]; omega)]
    have := n (w.alloc o0) o1
    rwa [s] at this
  · have := n ((w.alloc o0).alloc o1) o2
    rwa [s, s] at this
theorem programA (f : Dw.Fl) (at_ : Nat) (data : List UInt8) (h : at_ + data.length ≤ (f.a).length) (hl : (f.a).length ≤ 400) (he : at_ % 2 = 0) (hd : data.length % 2 = 0) (w : World) :
    Calls Tryz.prog 194 #[flV f, .int .i64 0, .int .i64 at_, .string ⟨data.toArray⟩] w fun e w' => e = .returned (.tuple #[flV (Dw.doOp f ⟨1, 0, at_, data⟩), .int .i64 0]) ∧ Below w.heap.size w w' := by
  have hpar := even_bits at_ data.length he hd (by omega) (by omega)
  obtain ⟨V, hV⟩ : ∃ V, ((w.alloc (.cells (flashC f.a f.b f.e0 f.e1 f.li) 41)).alloc (.cells (flashC [] [] 0 0 0) 41)).alloc (.cells #[.int .i64 0] 62) = V := ⟨_, rfl⟩
  obtain ⟨vz, vB, b0, b1, b2⟩ := alloc3 w _ _ _ V hV
  have HO := Lib.hid (show flV (Dw.doOp f ⟨1, 0, at_, data⟩) = flV ((f.put 0 (Dw.over (f.a) at_ (Dw.andB (Dw.sub (f.a) at_ data.length) data))).wearN 0 0) from rfl)
  obtain ⟨c0, c1, c2, c3, c4⟩ := cells5 b0
  go_enter_defers Tryz.func194, Tryz.ntmps194
  go_wp2_with (refine sb b1 rfl rfl rfl rfl (by kernel_rfl) ?_; have d0 := (setRow_other V (w.heap.size + 1) w.heap.size (flashC f.a f.b f.e0 f.e1 f.li) (by omega)).trans b0; have d2 := (setRow_other V (w.heap.size + 1) (w.heap.size + 2) (flashC f.a f.b f.e0 f.e1 f.li) (by omega)).trans b2; have d1 := setRow_heap V (w.heap.size + 1) _ (flashC f.a f.b f.e0 f.e1 f.li) _ _ b1; have hB := below_setRow vB (show w.heap.size ≤ w.heap.size + 1 by omega) (flashC f.a f.b f.e0 f.e1 f.li); generalize World.setRow V _ _ = W1 at *; clear c0 c1 c2 c3 c4 hV vz vB b0 b1 b2; obtain ⟨c0, c1, c2, c3, c4⟩ := cells5 d0)
  refine cb (cutA f at_ data.length h (by omega) _) fun w1 hb => ?_
  replace d0 := kp hb d0
  replace d1 := kp hb d1
  replace d2 := kp hb d2
  replace hB := tr hB hb
  clear hb c0 c1 c2 c3 c4
  have lA : ((f.a).take at_).length ≤ 400 := by rw [List.length_take]; omega
  have lZ : ((f.a).drop (at_ + data.length)).length ≤ 400 := by rw [List.length_drop]; omega
  have lS : (Dw.sub (f.a) at_ data.length).length ≤ 400 := by rw [Dw.sub_length _ _ _ h]; omega
  have lM : (Dw.andB (Dw.sub (f.a) at_ data.length) data).length ≤ 400 := by rw [Dw.andB_length]; exact lS
  have lMd : (Dw.andB (Dw.sub (f.a) at_ data.length) data).length = data.length := by rw [Dw.andB_length, Dw.sub_length _ _ _ h]
  have hov : Dw.over (f.a) at_ (Dw.andB (Dw.sub (f.a) at_ data.length) data) = (f.a).take at_ ++ (Dw.andB (Dw.sub (f.a) at_ data.length) data ++ (f.a).drop (at_ + data.length)) := by unfold Dw.over; rw [lMd]
  rw [hov] at HO
  generalize (f.a).take at_ = A at *
  generalize (f.a).drop (at_ + data.length) = Z at *
  generalize Dw.sub (f.a) at_ data.length = S at *
  clear lMd hov
  go_wp2_with fail
  refine (and_any S data lS _).mono ?_
  generalize Dw.andB S data = M at *
  have j1 : ¬ 9223372036854775807 < A.length + M.length := by omega
  have j2 : ¬ 9223372036854775807 < A.length + M.length + Z.length := by omega
  rintro e w2 ⟨rfl, hb⟩
  replace d0 := kp hb d0
  replace d1 := kp hb d1
  replace d2 := kp hb d2
  replace hB := tr hB hb
  obtain ⟨c0, c1, c2, c3, c4⟩ := cells5 d1
  have f1 := frozen0 d1 0
  clear hb
  go_wp2_with fail
  rw [show ((⟨A.toArray⟩ : ByteArray) ++ ⟨M.toArray⟩ ++ ⟨Z.toArray⟩) = ⟨(A ++ (M ++ Z)).toArray⟩ from by rw [bs_append, bs_append, List.append_assoc]]
  have q1 := heap_setCell_same w2 (w.heap.size + 1) 0 _ 41 (.string ⟨(A ++ (M ++ Z)).toArray⟩) d1
  change _ = some (Obj.cells (flashC (A ++ (M ++ Z)) f.b f.e0 f.e1 f.li) _ _) at q1
  have q2 := (heap_setCell_other w2 ⟨w.heap.size + 1, 0, none⟩ (w.heap.size + 2) (.string ⟨(A ++ (M ++ Z)).toArray⟩) (by simp)).trans d2
  have hB3 := hB.setCell (p := ⟨w.heap.size + 1, 0, none⟩) (by simp) (.string ⟨(A ++ (M ++ Z)).toArray⟩)
  generalize World.setCell w2 _ _ = W3 at *
  clear c0 c1 c2 c3 c4 f1 d0 d1 d2 hB
  obtain ⟨c0, c1, c2, c3, c4⟩ := cells5 q1
  have c5 := cells1 q2
  refine wp_pure [0, 1, 2, 3] 4 (by kernel_rfl) (by kernel_rfl) rfl ?_
  repeat' (first | (refine pl_value (v := ?_) rfl rfl ?_ ?_; rotate_left 1; (focus (intro w' hk; obtain ⟨k0,k1,k2,k3,k4,k5⟩ := look6 hk c0 c1 c2 c3 c4 c5; go_simp; (first | done | with_reducible rfl | exact rfl))); (try simp only [Act.put, List.setIfInBounds_toArray, List.set_cons_zero, List.set_cons_succ])))
  refine RS.pl_same rfl rfl (fun w' hk => RS.same_block 41 (.tmp 8) (.tmp 41) rfl rfl rfl (kpi hk q1) (by kernel_rfl) (by simp [Value.oneCell'])) ?_
  refine RS.pl_same rfl rfl (fun w' hk => ⟨w'.setCell ⟨w.heap.size + 2, 0, none⟩ (.int .i64 0), ?_, RS.keep_setCell (kpi hk q2)⟩) ?_
  · have k5 := look hk c5
    have g5 := frozen0 (kpi hk q2) 0
    go_simp
  refine pl_nil ?_
  intro w4 hk4
  simp only [List.drop_succ_cons, List.drop_zero]
  have r1 := kpi hk4 q1
  have r2 := kpi hk4 q2
  have hB4 := hB3.trans (hk4.whole.mono hB3.size)
  clear c0 c1 c2 c3 c4 c5 q1 q2 hB3
  simp only [Act.put]
  go_wp2_with fail
  refine leaves_cons (f := 218) (args := #[.pointer (some ⟨w.heap.size + 2, 0, none⟩)]) (by simp) (by simp [go_sem]) ?_
  refine (caught_idle _ _).mono ?_
  rintro e u' w'' ⟨rfl, rfl, rfl⟩
  refine ⟨.tuple #[flashV (A ++ (M ++ Z)) f.b f.e0 f.e1 f.li, .int .i64 0], ?_, ?_⟩
  · obtain ⟨c0, c1, c2, c3, c4⟩ := cells5 r1
    have k5 := cells1 r2
    simp [results, Tryz.results194, asAddr, go_sem, c0, c1, c2, c3, c4, k5]
  · exact ⟨by rw [HO.out]; simp [Dw.Fl.put, Dw.Fl.wearN], hB4⟩
theorem programB (f : Dw.Fl) (at_ : Nat) (data : List UInt8) (h : at_ + data.length ≤ (f.b).length) (hl : (f.b).length ≤ 400) (he : at_ % 2 = 0) (hd : data.length % 2 = 0) (w : World) :
    Calls Tryz.prog 194 #[flV f, .int .i64 1, .int .i64 at_, .string ⟨data.toArray⟩] w fun e w' => e = .returned (.tuple #[flV (Dw.doOp f ⟨1, 1, at_, data⟩), .int .i64 0]) ∧ Below w.heap.size w w' := by
  have hpar := even_bits at_ data.length he hd (by omega) (by omega)
  obtain ⟨V, hV⟩ : ∃ V, ((w.alloc (.cells (flashC f.a f.b f.e0 f.e1 f.li) 41)).alloc (.cells (flashC [] [] 0 0 0) 41)).alloc (.cells #[.int .i64 0] 62) = V := ⟨_, rfl⟩
  obtain ⟨vz, vB, b0, b1, b2⟩ := alloc3 w _ _ _ V hV
  have HO := Lib.hid (show flV (Dw.doOp f ⟨1, 1, at_, data⟩) = flV ((f.put 1 (Dw.over (f.b) at_ (Dw.andB (Dw.sub (f.b) at_ data.length) data))).wearN 1 0) from rfl)
  obtain ⟨c0, c1, c2, c3, c4⟩ := cells5 b0
  go_enter_defers Tryz.func194, Tryz.ntmps194
  go_wp2_with (refine sb b1 rfl rfl rfl rfl (by kernel_rfl) ?_; have d0 := (setRow_other V (w.heap.size + 1) w.heap.size (flashC f.a f.b f.e0 f.e1 f.li) (by omega)).trans b0; have d2 := (setRow_other V (w.heap.size + 1) (w.heap.size + 2) (flashC f.a f.b f.e0 f.e1 f.li) (by omega)).trans b2; have d1 := setRow_heap V (w.heap.size + 1) _ (flashC f.a f.b f.e0 f.e1 f.li) _ _ b1; have hB := below_setRow vB (show w.heap.size ≤ w.heap.size + 1 by omega) (flashC f.a f.b f.e0 f.e1 f.li); generalize World.setRow V _ _ = W1 at *; clear c0 c1 c2 c3 c4 hV vz vB b0 b1 b2; obtain ⟨c0, c1, c2, c3, c4⟩ := cells5 d0)
  refine cb (cutB f at_ data.length h (by omega) _) fun w1 hb => ?_
  replace d0 := kp hb d0
  replace d1 := kp hb d1
  replace d2 := kp hb d2
  replace hB := tr hB hb
  clear hb c0 c1 c2 c3 c4
  have lA : ((f.b).take at_).length ≤ 400 := by rw [List.length_take]; omega
  have lZ : ((f.b).drop (at_ + data.length)).length ≤ 400 := by rw [List.length_drop]; omega
  have lS : (Dw.sub (f.b) at_ data.length).length ≤ 400 := by rw [Dw.sub_length _ _ _ h]; omega
  have lM : (Dw.andB (Dw.sub (f.b) at_ data.length) data).length ≤ 400 := by rw [Dw.andB_length]; exact lS
  have lMd : (Dw.andB (Dw.sub (f.b) at_ data.length) data).length = data.length := by rw [Dw.andB_length, Dw.sub_length _ _ _ h]
  have hov : Dw.over (f.b) at_ (Dw.andB (Dw.sub (f.b) at_ data.length) data) = (f.b).take at_ ++ (Dw.andB (Dw.sub (f.b) at_ data.length) data ++ (f.b).drop (at_ + data.length)) := by unfold Dw.over; rw [lMd]
  rw [hov] at HO
  generalize (f.b).take at_ = A at *
  generalize (f.b).drop (at_ + data.length) = Z at *
  generalize Dw.sub (f.b) at_ data.length = S at *
  clear lMd hov
  go_wp2_with fail
  refine (and_any S data lS _).mono ?_
  generalize Dw.andB S data = M at *
  have j1 : ¬ 9223372036854775807 < A.length + M.length := by omega
  have j2 : ¬ 9223372036854775807 < A.length + M.length + Z.length := by omega
  rintro e w2 ⟨rfl, hb⟩
  replace d0 := kp hb d0
  replace d1 := kp hb d1
  replace d2 := kp hb d2
  replace hB := tr hB hb
  obtain ⟨c0, c1, c2, c3, c4⟩ := cells5 d1
  have f1 := frozen0 d1 1
  clear hb
  go_wp2_with fail
  rw [show ((⟨A.toArray⟩ : ByteArray) ++ ⟨M.toArray⟩ ++ ⟨Z.toArray⟩) = ⟨(A ++ (M ++ Z)).toArray⟩ from by rw [bs_append, bs_append, List.append_assoc]]
  have q1 := heap_setCell_same w2 (w.heap.size + 1) 1 _ 41 (.string ⟨(A ++ (M ++ Z)).toArray⟩) d1
  change _ = some (Obj.cells (flashC f.a (A ++ (M ++ Z)) f.e0 f.e1 f.li) _ _) at q1
  have q2 := (heap_setCell_other w2 ⟨w.heap.size + 1, 1, none⟩ (w.heap.size + 2) (.string ⟨(A ++ (M ++ Z)).toArray⟩) (by simp)).trans d2
  have hB3 := hB.setCell (p := ⟨w.heap.size + 1, 1, none⟩) (by simp) (.string ⟨(A ++ (M ++ Z)).toArray⟩)
  generalize World.setCell w2 _ _ = W3 at *
  clear c0 c1 c2 c3 c4 f1 d0 d1 d2 hB
  obtain ⟨c0, c1, c2, c3, c4⟩ := cells5 q1
  have c5 := cells1 q2
  refine wp_pure [0, 1, 2, 3] 4 (by kernel_rfl) (by kernel_rfl) rfl ?_
  repeat' (first | (refine pl_value (v := ?_) rfl rfl ?_ ?_; rotate_left 1; (focus (intro w' hk; obtain ⟨k0,k1,k2,k3,k4,k5⟩ := look6 hk c0 c1 c2 c3 c4 c5; go_simp; (first | done | with_reducible rfl | exact rfl))); (try simp only [Act.put, List.setIfInBounds_toArray, List.set_cons_zero, List.set_cons_succ])))
  refine RS.pl_same rfl rfl (fun w' hk => RS.same_block 41 (.tmp 8) (.tmp 41) rfl rfl rfl (kpi hk q1) (by kernel_rfl) (by simp [Value.oneCell'])) ?_
  refine RS.pl_same rfl rfl (fun w' hk => ⟨w'.setCell ⟨w.heap.size + 2, 0, none⟩ (.int .i64 0), ?_, RS.keep_setCell (kpi hk q2)⟩) ?_
  · have k5 := look hk c5
    have g5 := frozen0 (kpi hk q2) 0
    go_simp
  refine pl_nil ?_
  intro w4 hk4
  simp only [List.drop_succ_cons, List.drop_zero]
  have r1 := kpi hk4 q1
  have r2 := kpi hk4 q2
  have hB4 := hB3.trans (hk4.whole.mono hB3.size)
  clear c0 c1 c2 c3 c4 c5 q1 q2 hB3
  simp only [Act.put]
  go_wp2_with fail
  refine leaves_cons (f := 218) (args := #[.pointer (some ⟨w.heap.size + 2, 0, none⟩)]) (by simp) (by simp [go_sem]) ?_
  refine (caught_idle _ _).mono ?_
  rintro e u' w'' ⟨rfl, rfl, rfl⟩
  refine ⟨.tuple #[flashV f.a (A ++ (M ++ Z)) f.e0 f.e1 f.li, .int .i64 0], ?_, ?_⟩
  · obtain ⟨c0, c1, c2, c3, c4⟩ := cells5 r1
    have k5 := cells1 r2
    simp [results, Tryz.results194, asAddr, go_sem, c0, c1, c2, c3, c4, k5]
  · exact ⟨by rw [HO.out]; simp [Dw.Fl.put, Dw.Fl.wearN], hB4⟩
theorem eraseA (f : Dw.Fl) (hl : (f.a).length ≤ 400) (hw : IntKind.i64.wrap (f.e0 + 1) = f.e0 + 1) (hlt : f.e0 < f.li) (at_ : Nat) (data : List UInt8) (w : World) :
    Calls Tryz.prog 195 #[flV f, .int .i64 0] w fun e w' => e = .returned (.tuple #[flV (Dw.doOp f ⟨2, 0, at_, data⟩), .int .i64 0]) ∧ Below w.heap.size w w' := by
  obtain ⟨V, hV⟩ : ∃ V, ((w.alloc (.cells (flashC f.a f.b f.e0 f.e1 f.li) 41)).alloc (.cells (flashC [] [] 0 0 0) 41)).alloc (.cells #[.int .i64 0] 62) = V := ⟨_, rfl⟩
  obtain ⟨vz, vB, b0, b1, b2⟩ := alloc3 w _ _ _ V hV
  have HO := Lib.hid (show flV (Dw.doOp f ⟨2, 0, at_, data⟩) = flashV (Dw.ffs f.a.length) f.b (f.e0 + 1) f.e1 f.li from rfl)
  obtain ⟨c0, c1, c2, c3, c4⟩ := cells5 b0
  have hge : ¬ f.li ≤ f.e0 := by omega
  go_enter_defers Tryz.func195, Tryz.ntmps195
  go_wp2_with (refine sb b1 rfl rfl rfl rfl (by kernel_rfl) ?_; have d0 := (setRow_other V (w.heap.size + 1) w.heap.size (flashC f.a f.b f.e0 f.e1 f.li) (by omega)).trans b0; have d2 := (setRow_other V (w.heap.size + 1) (w.heap.size + 2) (flashC f.a f.b f.e0 f.e1 f.li) (by omega)).trans b2; have d1 := setRow_heap V (w.heap.size + 1) _ (flashC f.a f.b f.e0 f.e1 f.li) _ _ b1; have hB := below_setRow vB (show w.heap.size ≤ w.heap.size + 1 by omega) (flashC f.a f.b f.e0 f.e1 f.li); generalize World.setRow V _ _ = W1 at *; clear c0 c1 c2 c3 c4 hV vz vB b0 b1 b2; obtain ⟨c0, c1, c2, c3, c4⟩ := cells5 d0)
  refine cb (cutA f 0 0 (Nat.zero_le _) (by omega) _) fun w1 hb => ?_
  replace d0 := kp hb d0
  replace d1 := kp hb d1
  replace d2 := kp hb d2
  replace hB := tr hB hb
  clear hb c0 c1 c2 c3 c4
  obtain ⟨c0, c1, c2, c3, c4⟩ := cells5 d0
  go_wp2_with fail
  refine wp_pure [0,1,2,3,4,5,6] 7 (by kernel_rfl) (by kernel_rfl) rfl ?_
  (apply rat; (focus (intro w' hk; obtain ⟨k2,k4⟩ := look2 hk c2 c4; repeat' (first | exact rn | ((first | refine' rv ?_ rfl rfl (by go_simp; first | done | with_reducible rfl | exact rfl) | refine' rs ?_ rfl rfl); try simp only [Act.put, List.setIfInBounds_toArray, List.set_cons_zero, List.set_cons_succ])))))
  intro w2 hk2
  simp only [List.drop_succ_cons, List.drop_zero]
  replace d0 := kpi hk2 d0
  replace d1 := kpi hk2 d1
  replace d2 := kpi hk2 d2
  replace hB := hB.trans (hk2.whole.mono hB.size)
  clear hk2 c0 c1 c2 c3 c4
  obtain ⟨c0, c1, c2, c3, c4⟩ := cells5 d0
  go_wp2_with fail
  refine cb (repeat_ff (f.a).length (by omega) _) fun w3 hb => ?_
  replace d1 := kp hb d1
  replace d2 := kp hb d2
  replace hB := tr hB hb
  clear hb c0 c1 c2 c3 c4 d0
  obtain ⟨c0, c1, c2, c3, c4⟩ := cells5 d1
  have f0 := frozen0 d1
  have f1 := f0 0
  have f2 := f0 2
  clear f0
  go_wp2_with fail
  have p1 := heap_setCell_same w3 (w.heap.size + 1) 0 _ 41 (.string ⟨(Dw.ffs (f.a).length).toArray⟩) d1
  have q1 := heap_setCell_same _ (w.heap.size + 1) 2 _ 41 (.int .i64 (f.e0 + 1)) p1
  change _ = some (Obj.cells (flashC (Dw.ffs f.a.length) f.b (f.e0 + 1) f.e1 f.li) _ _) at q1
  have p2 := (heap_setCell_other w3 ⟨w.heap.size + 1, 0, none⟩ (w.heap.size + 2) (.string ⟨(Dw.ffs (f.a).length).toArray⟩) (by simp)).trans d2
  have q2 := (heap_setCell_other _ ⟨w.heap.size + 1, 2, none⟩ (w.heap.size + 2) (.int .i64 (f.e0 + 1)) (by simp)).trans p2
  have hB3 := (hB.setCell (p := ⟨w.heap.size + 1, 0, none⟩) (by simp) (.string ⟨(Dw.ffs (f.a).length).toArray⟩)).setCell (p := ⟨w.heap.size + 1, 2, none⟩) (by simp) (.int .i64 (f.e0 + 1))
  clear p1 p2
  generalize World.setCell (World.setCell w3 _ _) _ _ = W3 at *
  clear c0 c1 c2 c3 c4 f1 f2 d1 d2 hB
  obtain ⟨c0, c1, c2, c3, c4⟩ := cells5 q1
  have c5 := cells1 q2
  refine wp_pure [0, 1, 2, 3] 4 (by kernel_rfl) (by kernel_rfl) rfl ?_
  repeat' (first | (refine pl_value (v := ?_) rfl rfl ?_ ?_; rotate_left 1; (focus (intro w' hk; obtain ⟨k0,k1,k2,k3,k4,k5⟩ := look6 hk c0 c1 c2 c3 c4 c5; go_simp; (first | done | with_reducible rfl | exact rfl))); (try simp only [Act.put, List.setIfInBounds_toArray, List.set_cons_zero, List.set_cons_succ])))
  refine RS.pl_same rfl rfl (fun w' hk => RS.same_block 41 (.tmp 4) (.tmp 34) rfl rfl rfl (kpi hk q1) (by kernel_rfl) (by simp [Value.oneCell'])) ?_
  refine RS.pl_same rfl rfl (fun w' hk => ⟨w'.setCell ⟨w.heap.size + 2, 0, none⟩ (.int .i64 0), ?_, RS.keep_setCell (kpi hk q2)⟩) ?_
  · have k5 := look hk c5
    have g5 := frozen0 (kpi hk q2) 0
    go_simp
  refine pl_nil ?_
  intro w4 hk4
  simp only [List.drop_succ_cons, List.drop_zero]
  have r1 := kpi hk4 q1
  have r2 := kpi hk4 q2
  have hB4 := hB3.trans (hk4.whole.mono hB3.size)
  clear c0 c1 c2 c3 c4 c5 q1 q2 hB3
  simp only [Act.put]
  go_wp2_with fail
  refine leaves_cons (f := 218) (args := #[.pointer (some ⟨w.heap.size + 2, 0, none⟩)]) (by simp) (by simp [go_sem]) ?_
  refine (caught_idle _ _).mono ?_
  rintro e u' w'' ⟨rfl, rfl, rfl⟩
  refine ⟨.tuple #[flashV (Dw.ffs f.a.length) f.b (f.e0 + 1) f.e1 f.li, .int .i64 0], ?_, ?_⟩
  · obtain ⟨c0, c1, c2, c3, c4⟩ := cells5 r1
    have k5 := cells1 r2
    simp [results, Tryz.results195, asAddr, go_sem, c0, c1, c2, c3, c4, k5]
  · exact ⟨by rw [HO.out], hB4⟩
theorem eraseB (f : Dw.Fl) (hl : (f.b).length ≤ 400) (hw : IntKind.i64.wrap (f.e1 + 1) = f.e1 + 1) (hlt : f.e1 < f.li) (at_ : Nat) (data : List UInt8) (w : World) :
    Calls Tryz.prog 195 #[flV f, .int .i64 1] w fun e w' => e = .returned (.tuple #[flV (Dw.doOp f ⟨2, 1, at_, data⟩), .int .i64 0]) ∧ Below w.heap.size w w' := by
  obtain ⟨V, hV⟩ : ∃ V, ((w.alloc (.cells (flashC f.a f.b f.e0 f.e1 f.li) 41)).alloc (.cells (flashC [] [] 0 0 0) 41)).alloc (.cells #[.int .i64 0] 62) = V := ⟨_, rfl⟩
  obtain ⟨vz, vB, b0, b1, b2⟩ := alloc3 w _ _ _ V hV
  have HO := Lib.hid (show flV (Dw.doOp f ⟨2, 1, at_, data⟩) = flashV f.a (Dw.ffs f.b.length) f.e0 (f.e1 + 1) f.li from rfl)
  obtain ⟨c0, c1, c2, c3, c4⟩ := cells5 b0
  have hge : ¬ f.li ≤ f.e1 := by omega
  go_enter_defers Tryz.func195, Tryz.ntmps195
  go_wp2_with (refine sb b1 rfl rfl rfl rfl (by kernel_rfl) ?_; have d0 := (setRow_other V (w.heap.size + 1) w.heap.size (flashC f.a f.b f.e0 f.e1 f.li) (by omega)).trans b0; have d2 := (setRow_other V (w.heap.size + 1) (w.heap.size + 2) (flashC f.a f.b f.e0 f.e1 f.li) (by omega)).trans b2; have d1 := setRow_heap V (w.heap.size + 1) _ (flashC f.a f.b f.e0 f.e1 f.li) _ _ b1; have hB := below_setRow vB (show w.heap.size ≤ w.heap.size + 1 by omega) (flashC f.a f.b f.e0 f.e1 f.li); generalize World.setRow V _ _ = W1 at *; clear c0 c1 c2 c3 c4 hV vz vB b0 b1 b2; obtain ⟨c0, c1, c2, c3, c4⟩ := cells5 d0)
  refine cb (cutB f 0 0 (Nat.zero_le _) (by omega) _) fun w1 hb => ?_
  replace d0 := kp hb d0
  replace d1 := kp hb d1
  replace d2 := kp hb d2
  replace hB := tr hB hb
  clear hb c0 c1 c2 c3 c4
  obtain ⟨c0, c1, c2, c3, c4⟩ := cells5 d0
  go_wp2_with fail
  refine wp_pure [0,1,2,3,4,5,6] 7 (by kernel_rfl) (by kernel_rfl) rfl ?_
  (apply rat; (focus (intro w' hk; obtain ⟨k3,k4⟩ := look2 hk c3 c4; repeat' (first | exact rn | ((first | refine' rv ?_ rfl rfl (by go_simp; first | done | with_reducible rfl | exact rfl) | refine' rs ?_ rfl rfl); try simp only [Act.put, List.setIfInBounds_toArray, List.set_cons_zero, List.set_cons_succ])))))
  intro w2 hk2
  simp only [List.drop_succ_cons, List.drop_zero]
  replace d0 := kpi hk2 d0
  replace d1 := kpi hk2 d1
  replace d2 := kpi hk2 d2
  replace hB := hB.trans (hk2.whole.mono hB.size)
  clear hk2 c0 c1 c2 c3 c4
  obtain ⟨c0, c1, c2, c3, c4⟩ := cells5 d0
  go_wp2_with fail
  refine cb (repeat_ff (f.b).length (by omega) _) fun w3 hb => ?_
  replace d1 := kp hb d1
  replace d2 := kp hb d2
  replace hB := tr hB hb
  clear hb c0 c1 c2 c3 c4 d0
  obtain ⟨c0, c1, c2, c3, c4⟩ := cells5 d1
  have f0 := frozen0 d1
  have f1 := f0 1
  have f2 := f0 3
  clear f0
  go_wp2_with fail
  have p1 := heap_setCell_same w3 (w.heap.size + 1) 1 _ 41 (.string ⟨(Dw.ffs (f.b).length).toArray⟩) d1
  have q1 := heap_setCell_same _ (w.heap.size + 1) 3 _ 41 (.int .i64 (f.e1 + 1)) p1
  change _ = some (Obj.cells (flashC f.a (Dw.ffs f.b.length) f.e0 (f.e1 + 1) f.li) _ _) at q1
  have p2 := (heap_setCell_other w3 ⟨w.heap.size + 1, 1, none⟩ (w.heap.size + 2) (.string ⟨(Dw.ffs (f.b).length).toArray⟩) (by simp)).trans d2
  have q2 := (heap_setCell_other _ ⟨w.heap.size + 1, 3, none⟩ (w.heap.size + 2) (.int .i64 (f.e1 + 1)) (by simp)).trans p2
  have hB3 := (hB.setCell (p := ⟨w.heap.size + 1, 1, none⟩) (by simp) (.string ⟨(Dw.ffs (f.b).length).toArray⟩)).setCell (p := ⟨w.heap.size + 1, 3, none⟩) (by simp) (.int .i64 (f.e1 + 1))
  clear p1 p2
  generalize World.setCell (World.setCell w3 _ _) _ _ = W3 at *
  clear c0 c1 c2 c3 c4 f1 f2 d1 d2 hB
  obtain ⟨c0, c1, c2, c3, c4⟩ := cells5 q1
  have c5 := cells1 q2
  refine wp_pure [0, 1, 2, 3] 4 (by kernel_rfl) (by kernel_rfl) rfl ?_
  repeat' (first | (refine pl_value (v := ?_) rfl rfl ?_ ?_; rotate_left 1; (focus (intro w' hk; obtain ⟨k0,k1,k2,k3,k4,k5⟩ := look6 hk c0 c1 c2 c3 c4 c5; go_simp; (first | done | with_reducible rfl | exact rfl))); (try simp only [Act.put, List.setIfInBounds_toArray, List.set_cons_zero, List.set_cons_succ])))
  refine RS.pl_same rfl rfl (fun w' hk => RS.same_block 41 (.tmp 4) (.tmp 34) rfl rfl rfl (kpi hk q1) (by kernel_rfl) (by simp [Value.oneCell'])) ?_
  refine RS.pl_same rfl rfl (fun w' hk => ⟨w'.setCell ⟨w.heap.size + 2, 0, none⟩ (.int .i64 0), ?_, RS.keep_setCell (kpi hk q2)⟩) ?_
  · have k5 := look hk c5
    have g5 := frozen0 (kpi hk q2) 0
    go_simp
  refine pl_nil ?_
  intro w4 hk4
  simp only [List.drop_succ_cons, List.drop_zero]
  have r1 := kpi hk4 q1
  have r2 := kpi hk4 q2
  have hB4 := hB3.trans (hk4.whole.mono hB3.size)
  clear c0 c1 c2 c3 c4 c5 q1 q2 hB3
  simp only [Act.put]
  go_wp2_with fail
  refine leaves_cons (f := 218) (args := #[.pointer (some ⟨w.heap.size + 2, 0, none⟩)]) (by simp) (by simp [go_sem]) ?_
  refine (caught_idle _ _).mono ?_
  rintro e u' w'' ⟨rfl, rfl, rfl⟩
  refine ⟨.tuple #[flashV f.a (Dw.ffs f.b.length) f.e0 (f.e1 + 1) f.li, .int .i64 0], ?_, ?_⟩
  · obtain ⟨c0, c1, c2, c3, c4⟩ := cells5 r1
    have k5 := cells1 r2
    simp [results, Tryz.results195, asAddr, go_sem, c0, c1, c2, c3, c4, k5]
  · exact ⟨by rw [HO.out], hB4⟩
end Go.Proofs.YtjibbchfndhhpaaGreatDoor
