/- What the statement's proof stands on, part 44: OffA21, OffB21, OffC21, Off21, Reps21, Flips21. -/
import Derived.Test.YtnaokijcggbfdaaGreatDoorBe42
import Derived.Test.YtnaokijcggbfdaaGreatDoorBe36
import Derived.Test.YtnaokijcggbfdaaGreatDoorBe35
import Derived.Test.YtnaokijcggbfdaaGreatDoorBe43
import Derived.Test.YtnaokijcggbfdaaGreatDoorBe41
set_option linter.unusedSimpArgs false
set_option linter.unusedVariables false
set_option maxRecDepth 100000
set_option maxHeartbeats 4000000
namespace Go.Proofs.YtnaokijcggbfdaaGreatDoor
open Go.RowKit Go.Shelf
attribute [local go_sem] Oper.semAt_some
theorem off21_one (n li : Nat) (hn8 : n < 256) (hl8 : li < 256) (l : List Dw.En) (v : Value) (e : Dw.En) (w : World) (hv : EnsAt w v l) (he : enOk e) (hki : e.ki = 1) (hn : NoneAt w) :
    Calls Tryz.prog 8 #[.int .u8 n, .int .u8 li, v, enV e] w fun e w' => e = .returned (.bool true) ∧ Below w.heap.size w w' := by
  have HKI := Lib.hid hki
  clear hki
  have HV := Lib.hid hv
  have HE := Lib.hid he
  obtain ⟨V, hV⟩ : ∃ V, w.alloc (.cells (enC e) 77) = V := ⟨_, rfl⟩
  have bE : V.heap[w.heap.size]? = some (.cells (enC e) 77) := by rw [← hV]; exact han _ _
  have hB : Below w.heap.size w V := by rw [← hV]; exact (Below.refl _ w).alloc (Nat.le_refl _) _
  have a1 : IntKind.i64.wrap (n : Int) = (n : Int) := IntWalk.i64_in _ (by omega)
  have a2 : Int.tmod (n : Int) 13 = ((n % 13 : Nat) : Int) := rfl
  have a3 : IntKind.i64.wrap (li : Int) = (li : Int) := IntWalk.i64_in _ (by omega)
  have a4 : IntKind.i64.wrap ((n % 13 : Nat) : Int) = ((n % 13 : Nat) : Int) := IntWalk.i64_in _ (by omega)
  clear hv he
  go_enter Tryz.func8, Tryz.ntmps8
  go_wp2_with fail
  try rw [hV]
  clear hV
  refine (long21_any l v _ (HV.out.next hB)).mono ?_
  rintro en w1 ⟨⟨b, rfl, hlb⟩, hb⟩
  replace hB := tr hB hb
  replace bE := kp hb bE
  clear hb
  cases b with
  | true =>
    go_wp2_with fail
    refine (shown21_any _ (hn.next hB)).mono ?_
    rintro en wy ⟨rfl, hb⟩
    replace hB := tr hB hb
    clear hb
    go_wp2_with fail
    go_ret
    exact ⟨rfl, hB⟩
  | false =>
  have HL := Lib.hid (hlb rfl)
  clear hlb
  go_wp2_with (first | (refine lbo bE rfl rfl rfl (by kernel_rfl) ?_))
  refine (long21_any [e] _ _ (row_one HE.out (han _ _))).mono ?_
  rintro en w2 ⟨⟨b2, rfl, -⟩, hb⟩
  have ha := (Below.refl w1.heap.size w1).alloc (Nat.le_refl _) (.cells (enC e) 77)
  replace hB := tr (tr hB ha) hb
  replace bE := kp hb (kp ha bE)
  clear hb ha
  cases b2 with
  | true =>
    go_wp2_with fail
    refine (shown21_any _ (hn.next hB)).mono ?_
    rintro en wy ⟨rfl, hb⟩
    replace hB := tr hB hb
    clear hb
    go_wp2_with fail
    go_ret
    exact ⟨rfl, hB⟩
  | false =>
  go_wp2_with fail
  refine (shown21_any _ (hn.next hB)).mono ?_
  rintro en w2 ⟨rfl, hb⟩
  replace hB := tr hB hb
  replace bE := kp hb bE
  clear hb
  go_wp2_with fail
  refine (begin_any _ _ _ (hn.next hB)).mono ?_
  rintro en w3 ⟨rfl, hb⟩
  replace hB := tr hB hb
  replace bE := kp hb bE
  clear hb
  generalize hN : ((n : Int) % 13) = N
  generalize hI : (li : Int) = I
  clear a1 a2 a3 a4 hN hI hn8 hl8
  have HR := Lib.hid (fun w hn hv => frun_any (Dw.beginF N I) l (Dw.newF_ok N I) (Dw.boot_legal _) (by have := HL.out; omega) (Nat.zero_le _) (.slice none 0 0) v w hn (World.ownsRow_nil _ _ _ _) hv)
  have hok : Dw.FlOk (Dw.runF (Dw.beginF N I) l).x.f := Dw.runF_ok _ _ (Dw.newF_ok N I)
  have hleg : Dw.legal (Dw.runF (Dw.beginF N I) l).x.s = true := Dw.runF_legal _ _ (Dw.boot_legal _)
  have hlen : (Dw.runF (Dw.beginF N I) l).out.length ≤ 1000 := by
    have h1 := Dw.out_le l (Dw.beginF N I)
    have h2 := HL.out
    have h3 : (Dw.beginF N I).out.length = 0 := rfl
    omega
  generalize Dw.runF (Dw.beginF N I) l = G at *
  go_wp2_with fail
  refine (HR.out _ (hn.next hB) (HV.out.next hB)).mono ?_
  rintro en w4 ⟨⟨v4, rfl, hr4⟩, hb⟩
  replace hB := tr hB hb
  replace bE := kp hb bE
  clear hb HR HV HL
  obtain ⟨p4, q4, rfl⟩ := reps_shape hr4
  obtain ⟨⟨F, gs, gph, gvo, gn⟩, go⟩ := G
  obtain ⟨V1, hV1⟩ : ∃ V, w4.alloc (.cells (fliC ⟨F, gs, gph, gvo, gn⟩ (.slice p4 go.length q4)) 64) = V := ⟨_, rfl⟩
  have b9 : V1.heap[w4.heap.size]? = some (.cells (fliC ⟨F, gs, gph, gvo, gn⟩ (.slice p4 go.length q4)) 64) := by rw [← hV1]; exact han _ _
  have hb : Below w4.heap.size w4 V1 := by rw [← hV1]; exact (Below.refl _ w4).alloc (Nat.le_refl _) _
  replace hB := tr hB hb
  replace bE := kp hb bE
  have hr4' := reps_next hr4 hb
  have HV1 := Lib.hid hV1
  have p11 := (cells15 b9).2.2.1
  obtain ⟨ki, c, va, vb, vc, p, at_⟩ := e
  have k0 : V1.cell? ⟨w.heap.size, 0, none⟩ = some (.int .i64 ki) := by rw [cell_of_row _ _ 0 _ _ _ bE]; rfl
  clear hV1 hb hr4
  have hki : ki = 1 := HKI.out
  subst hki
  clear HKI
  by_cases hph : gph = 3
  · subst hph
    obtain ⟨hx, hr⟩ := Dw.off_step (x := ⟨F, gs, 3, gvo, gn⟩) (e := ⟨1, c, va, vb, vc, p, at_⟩) rfl (by first | exact .inl rfl | exact .inr rfl)
    have ho : (Dw.stepF ⟨⟨F, gs, 3, gvo, gn⟩, go⟩ ⟨1, c, va, vb, vc, p, at_⟩).out = go ++ [⟨26, 3, gs⟩] := by rw [← hr]; rfl
    have HS := Lib.hid (fun v w hn hv => fstep_any ⟨⟨F, gs, 3, gvo, gn⟩, go⟩ ⟨1, c, va, vb, vc, p, at_⟩ hok hleg HE.out (Nat.le_trans hlen (by decide)) v w hn hv)
    rw [ho, Dw.stepF_x] at HS
    simp only [hx] at HS
    have hlen' : (go ++ [(⟨26, 3, gs⟩ : Dw.Rep)]).length = go.length + 1 := by simp
    have hN1 : go.length ≤ 1000 := hlen
    obtain ⟨m, hm⟩ : ∃ m, (go ++ [(⟨26, 3, gs⟩ : Dw.Rep)]).length = m := ⟨_, rfl⟩
    have HO1 := Lib.hid hm
    have HM := Lib.hid (hm.symm.trans hlen')
    clear hx hr ho hok hleg hlen hlen' hm
    go_wp2_with (first | (refine nb rfl rfl rfl rfl (by go_simp; first | done | with_reducible rfl | exact rfl) rfl rfl (by kernel_rfl) ?_; rw [HV1.out]) | (refine lb b9 rfl rfl rfl (by kernel_rfl) ?_) | (refine lb bE rfl rfl rfl (by kernel_rfl) ?_))
    clear p11 k0 HV1
    refine (HS.out _ _ (hn.next hB) hr4').mono ?_
    rintro en w5 ⟨⟨v5, rfl, hr5⟩, hb⟩
    replace hB := tr hB hb
    replace b9 := kp hb b9
    clear hb HS hr4' bE
    obtain ⟨-, ⟨-, h0⟩ | ⟨q, cap, cur, rfl, -⟩⟩ := id hr5
    · rw [HO1.out, HM.out] at h0; cases h0
    rw [HO1.out] at hr5 ⊢
    obtain ⟨V2, hV2⟩ : ∃ V, w5.alloc (.cells (fliC ⟨F, gs, 3, gvo, gn⟩ (.slice (some ⟨q, 0, none⟩) m cap)) 64) = V := ⟨_, rfl⟩
    have b8 : V2.heap[w5.heap.size]? = some (.cells (fliC ⟨F, gs, 3, gvo, gn⟩ (.slice (some ⟨q, 0, none⟩) m cap)) 64) := by rw [← hV2]; exact han _ _
    have hb : Below w5.heap.size w5 V2 := by rw [← hV2]; exact (Below.refl _ w5).alloc (Nat.le_refl _) _
    replace hB := tr hB hb
    replace b9 := kp hb b9
    obtain ⟨ao2, cap2, he2, -, -, hc⟩ := (slAt_own hr5).next hb
    injection he2 with h1 h2 h3
    clear h2
    subst h1; subst h3
    have hc8 : ∀ i u, (repC ⟨26, 3, gs⟩).toList[i]? = some u → V2.cell? ⟨q, go.length * 8 + i, none⟩ = some u := fun i u hi => by
      have h1 := hc _ rfl (go.length * 8 + i) u (by rw [repCells_snoc, List.getElem?_append_right (by rw [repCells_len]; omega), repCells_len, show go.length * 8 + i - go.length * 8 = i by omega]; exact hi)
      rw [addr0] at h1
      exact h1
    have HV2 := Lib.hid hV2
    clear hV2 hb hr5 hc
    go_wp2_with (first | (refine nb rfl rfl rfl rfl (by go_simp; first | done | with_reducible rfl | exact rfl) rfl rfl (by kernel_rfl) ?_; rw [HV2.out]))
    clear HV2
    obtain rfl := HM.out
    obtain ⟨⟨y0, y1, y2, y3, y4⟩, ⟨y5, y6, y7, y8, y9, y10⟩, y11, y12, y13, y14⟩ := cells15 b8
    obtain ⟨⟨z0, z1, z2, z3, z4⟩, ⟨z5, z6, z7, z8, z9, z10⟩, z11, z12, z13, z14⟩ := cells15 b9
    have e1 : IntKind.i64.wrap ((go.length : Int) + 1) = (go.length : Int) + 1 := IntWalk.i64_in _ (by omega)
    have e2 : wrap64 ((go.length : Int) + 1) = (go.length : Int) + 1 := IntWalk.wrap64_in _ (by omega)
    have e3 : ((go.length + 1 : Nat) : Int) = (go.length : Int) + 1 := by omega
    have e4 : (0 : Int) ≤ (go.length : Int) := by omega
    have e5 : (go.length : Int) < (go.length : Int) + 1 := by omega
    clear b8 b9
    refine wp_pure [0, 1, 2, 3, 4, 5, 6, 7, 8, 9, 10, 11, 12, 13, 14, 15, 16, 17, 18, 19, 20, 21, 22, 23, 24, 25, 26, 27, 28, 29] 30 (by kernel_rfl) (by kernel_rfl) rfl ?_
    (apply rat; (focus (intro w' hk; obtain ⟨j0,j1,j2,j3,j4,j5,j6,j7⟩ := look8 hk y0 y1 y2 y3 y4 y5 y6 y7; obtain ⟨j8,j9,j10,j11,j12,j13,j14,k0⟩ := look8 hk y8 y9 y10 y11 y12 y13 y14 z0; obtain ⟨k1,k2,k3,k4,k5,k6,k7,k8⟩ := look8 hk z1 z2 z3 z4 z5 z6 z7 z8; obtain ⟨k9,k10,k11,k12,k13,k14⟩ := look6 hk z9 z10 z11 z12 z13 z14; (iterate 4 (refine' rv ?_ rfl rfl (by go_simp; first | done | with_reducible rfl | exact rfl); try simp only [Act.put, List.setIfInBounds_toArray, List.set_cons_zero, List.set_cons_succ])); (refine' rv ?_ rfl rfl (by exact exec_bin rfl rfl rfl (su_self ⟨F, gs, 3, gvo, gn⟩ _ _ w')); try simp only [Act.put, List.setIfInBounds_toArray, List.set_cons_zero, List.set_cons_succ]); (iterate 17 (refine' rv ?_ rfl rfl (by go_simp; first | done | with_reducible rfl | exact rfl); try simp only [Act.put, List.setIfInBounds_toArray, List.set_cons_zero, List.set_cons_succ])); (refine' rv ?_ rfl rfl (by exact exec_cells (b := q) (off := go.length * 8) (repC ⟨26, 3, gs⟩) (fun i u hi => look hk (hc8 i u hi)) rfl rfl (by kernel_rfl)); try simp only [Act.put, List.setIfInBounds_toArray, List.set_cons_zero, List.set_cons_succ]); (iterate 4 (refine' rv ?_ rfl rfl (by go_simp; first | done | with_reducible rfl | exact rfl); try simp only [Act.put, List.setIfInBounds_toArray, List.set_cons_zero, List.set_cons_succ])); (refine' rv ?_ rfl rfl (by exact exec_bin rfl rfl rfl (rep_self ⟨26, 3, gs⟩ _ _ w')); try simp only [Act.put, List.setIfInBounds_toArray, List.set_cons_zero, List.set_cons_succ]); (iterate 2 (refine' rv ?_ rfl rfl (by go_simp; first | done | with_reducible rfl | exact rfl); try simp only [Act.put, List.setIfInBounds_toArray, List.set_cons_zero, List.set_cons_succ])); (exact rn))))
    intro w9 hk9
    simp only [List.drop_succ_cons, List.drop_zero]
    go_wp2_with fail
    go_ret
    exact ⟨rfl, hB.trans (hk9.whole.mono hB.size)⟩
  · have b1 : (gph != 3) = true := by simp [hph]
    go_wp2_with (first | (refine nb rfl rfl rfl rfl (by go_simp; first | done | with_reducible rfl | exact rfl) rfl rfl (by kernel_rfl) ?_; rw [HV1.out]))
    go_ret
    exact ⟨rfl, hB⟩
theorem off21_two (n li : Nat) (hn8 : n < 256) (hl8 : li < 256) (l : List Dw.En) (v : Value) (e : Dw.En) (w : World) (hv : EnsAt w v l) (he : enOk e) (hki : e.ki = 2) (hn : NoneAt w) :
    Calls Tryz.prog 8 #[.int .u8 n, .int .u8 li, v, enV e] w fun e w' => e = .returned (.bool true) ∧ Below w.heap.size w w' := by
  have HKI := Lib.hid hki
  clear hki
  have HV := Lib.hid hv
  have HE := Lib.hid he
  obtain ⟨V, hV⟩ : ∃ V, w.alloc (.cells (enC e) 77) = V := ⟨_, rfl⟩
  have bE : V.heap[w.heap.size]? = some (.cells (enC e) 77) := by rw [← hV]; exact han _ _
  have hB : Below w.heap.size w V := by rw [← hV]; exact (Below.refl _ w).alloc (Nat.le_refl _) _
  have a1 : IntKind.i64.wrap (n : Int) = (n : Int) := IntWalk.i64_in _ (by omega)
  have a2 : Int.tmod (n : Int) 13 = ((n % 13 : Nat) : Int) := rfl
  have a3 : IntKind.i64.wrap (li : Int) = (li : Int) := IntWalk.i64_in _ (by omega)
  have a4 : IntKind.i64.wrap ((n % 13 : Nat) : Int) = ((n % 13 : Nat) : Int) := IntWalk.i64_in _ (by omega)
  clear hv he
  go_enter Tryz.func8, Tryz.ntmps8
  go_wp2_with fail
  try rw [hV]
  clear hV
  refine (long21_any l v _ (HV.out.next hB)).mono ?_
  rintro en w1 ⟨⟨b, rfl, hlb⟩, hb⟩
  replace hB := tr hB hb
  replace bE := kp hb bE
  clear hb
  cases b with
  | true =>
    go_wp2_with fail
    refine (shown21_any _ (hn.next hB)).mono ?_
    rintro en wy ⟨rfl, hb⟩
    replace hB := tr hB hb
    clear hb
    go_wp2_with fail
    go_ret
    exact ⟨rfl, hB⟩
  | false =>
  have HL := Lib.hid (hlb rfl)
  clear hlb
  go_wp2_with (first | (refine lbo bE rfl rfl rfl (by kernel_rfl) ?_))
  refine (long21_any [e] _ _ (row_one HE.out (han _ _))).mono ?_
  rintro en w2 ⟨⟨b2, rfl, -⟩, hb⟩
  have ha := (Below.refl w1.heap.size w1).alloc (Nat.le_refl _) (.cells (enC e) 77)
  replace hB := tr (tr hB ha) hb
  replace bE := kp hb (kp ha bE)
  clear hb ha
  cases b2 with
  | true =>
    go_wp2_with fail
    refine (shown21_any _ (hn.next hB)).mono ?_
    rintro en wy ⟨rfl, hb⟩
    replace hB := tr hB hb
    clear hb
    go_wp2_with fail
    go_ret
    exact ⟨rfl, hB⟩
  | false =>
  go_wp2_with fail
  refine (shown21_any _ (hn.next hB)).mono ?_
  rintro en w2 ⟨rfl, hb⟩
  replace hB := tr hB hb
  replace bE := kp hb bE
  clear hb
  go_wp2_with fail
  refine (begin_any _ _ _ (hn.next hB)).mono ?_
  rintro en w3 ⟨rfl, hb⟩
  replace hB := tr hB hb
  replace bE := kp hb bE
  clear hb
  generalize hN : ((n : Int) % 13) = N
  generalize hI : (li : Int) = I
  clear a1 a2 a3 a4 hN hI hn8 hl8
  have HR := Lib.hid (fun w hn hv => frun_any (Dw.beginF N I) l (Dw.newF_ok N I) (Dw.boot_legal _) (by have := HL.out; omega) (Nat.zero_le _) (.slice none 0 0) v w hn (World.ownsRow_nil _ _ _ _) hv)
  have hok : Dw.FlOk (Dw.runF (Dw.beginF N I) l).x.f := Dw.runF_ok _ _ (Dw.newF_ok N I)
  have hleg : Dw.legal (Dw.runF (Dw.beginF N I) l).x.s = true := Dw.runF_legal _ _ (Dw.boot_legal _)
  have hlen : (Dw.runF (Dw.beginF N I) l).out.length ≤ 1000 := by
    have h1 := Dw.out_le l (Dw.beginF N I)
    have h2 := HL.out
    have h3 : (Dw.beginF N I).out.length = 0 := rfl
    omega
  generalize Dw.runF (Dw.beginF N I) l = G at *
  go_wp2_with fail
  refine (HR.out _ (hn.next hB) (HV.out.next hB)).mono ?_
  rintro en w4 ⟨⟨v4, rfl, hr4⟩, hb⟩
  replace hB := tr hB hb
  replace bE := kp hb bE
  clear hb HR HV HL
  obtain ⟨p4, q4, rfl⟩ := reps_shape hr4
  obtain ⟨⟨F, gs, gph, gvo, gn⟩, go⟩ := G
  obtain ⟨V1, hV1⟩ : ∃ V, w4.alloc (.cells (fliC ⟨F, gs, gph, gvo, gn⟩ (.slice p4 go.length q4)) 64) = V := ⟨_, rfl⟩
  have b9 : V1.heap[w4.heap.size]? = some (.cells (fliC ⟨F, gs, gph, gvo, gn⟩ (.slice p4 go.length q4)) 64) := by rw [← hV1]; exact han _ _
  have hb : Below w4.heap.size w4 V1 := by rw [← hV1]; exact (Below.refl _ w4).alloc (Nat.le_refl _) _
  replace hB := tr hB hb
  replace bE := kp hb bE
  have hr4' := reps_next hr4 hb
  have HV1 := Lib.hid hV1
  have p11 := (cells15 b9).2.2.1
  obtain ⟨ki, c, va, vb, vc, p, at_⟩ := e
  have k0 : V1.cell? ⟨w.heap.size, 0, none⟩ = some (.int .i64 ki) := by rw [cell_of_row _ _ 0 _ _ _ bE]; rfl
  clear hV1 hb hr4
  have hki : ki = 2 := HKI.out
  subst hki
  clear HKI
  by_cases hph : gph = 3
  · subst hph
    obtain ⟨hx, hr⟩ := Dw.off_step (x := ⟨F, gs, 3, gvo, gn⟩) (e := ⟨2, c, va, vb, vc, p, at_⟩) rfl (by first | exact .inl rfl | exact .inr rfl)
    have ho : (Dw.stepF ⟨⟨F, gs, 3, gvo, gn⟩, go⟩ ⟨2, c, va, vb, vc, p, at_⟩).out = go ++ [⟨26, 3, gs⟩] := by rw [← hr]; rfl
    have HS := Lib.hid (fun v w hn hv => fstep_any ⟨⟨F, gs, 3, gvo, gn⟩, go⟩ ⟨2, c, va, vb, vc, p, at_⟩ hok hleg HE.out (Nat.le_trans hlen (by decide)) v w hn hv)
    rw [ho, Dw.stepF_x] at HS
    simp only [hx] at HS
    have hlen' : (go ++ [(⟨26, 3, gs⟩ : Dw.Rep)]).length = go.length + 1 := by simp
    have hN1 : go.length ≤ 1000 := hlen
    obtain ⟨m, hm⟩ : ∃ m, (go ++ [(⟨26, 3, gs⟩ : Dw.Rep)]).length = m := ⟨_, rfl⟩
    have HO1 := Lib.hid hm
    have HM := Lib.hid (hm.symm.trans hlen')
    clear hx hr ho hok hleg hlen hlen' hm
    go_wp2_with (first | (refine nb rfl rfl rfl rfl (by go_simp; first | done | with_reducible rfl | exact rfl) rfl rfl (by kernel_rfl) ?_; rw [HV1.out]) | (refine lb b9 rfl rfl rfl (by kernel_rfl) ?_) | (refine lb bE rfl rfl rfl (by kernel_rfl) ?_))
    clear p11 k0 HV1
    refine (HS.out _ _ (hn.next hB) hr4').mono ?_
    rintro en w5 ⟨⟨v5, rfl, hr5⟩, hb⟩
    replace hB := tr hB hb
    replace b9 := kp hb b9
    clear hb HS hr4' bE
    obtain ⟨-, ⟨-, h0⟩ | ⟨q, cap, cur, rfl, -⟩⟩ := id hr5
    · rw [HO1.out, HM.out] at h0; cases h0
    rw [HO1.out] at hr5 ⊢
    obtain ⟨V2, hV2⟩ : ∃ V, w5.alloc (.cells (fliC ⟨F, gs, 3, gvo, gn⟩ (.slice (some ⟨q, 0, none⟩) m cap)) 64) = V := ⟨_, rfl⟩
    have b8 : V2.heap[w5.heap.size]? = some (.cells (fliC ⟨F, gs, 3, gvo, gn⟩ (.slice (some ⟨q, 0, none⟩) m cap)) 64) := by rw [← hV2]; exact han _ _
    have hb : Below w5.heap.size w5 V2 := by rw [← hV2]; exact (Below.refl _ w5).alloc (Nat.le_refl _) _
    replace hB := tr hB hb
    replace b9 := kp hb b9
    obtain ⟨ao2, cap2, he2, -, -, hc⟩ := (slAt_own hr5).next hb
    injection he2 with h1 h2 h3
    clear h2
    subst h1; subst h3
    have hc8 : ∀ i u, (repC ⟨26, 3, gs⟩).toList[i]? = some u → V2.cell? ⟨q, go.length * 8 + i, none⟩ = some u := fun i u hi => by
      have h1 := hc _ rfl (go.length * 8 + i) u (by rw [repCells_snoc, List.getElem?_append_right (by rw [repCells_len]; omega), repCells_len, show go.length * 8 + i - go.length * 8 = i by omega]; exact hi)
      rw [addr0] at h1
      exact h1
    have HV2 := Lib.hid hV2
    clear hV2 hb hr5 hc
    go_wp2_with (first | (refine nb rfl rfl rfl rfl (by go_simp; first | done | with_reducible rfl | exact rfl) rfl rfl (by kernel_rfl) ?_; rw [HV2.out]))
    clear HV2
    obtain rfl := HM.out
    obtain ⟨⟨y0, y1, y2, y3, y4⟩, ⟨y5, y6, y7, y8, y9, y10⟩, y11, y12, y13, y14⟩ := cells15 b8
    obtain ⟨⟨z0, z1, z2, z3, z4⟩, ⟨z5, z6, z7, z8, z9, z10⟩, z11, z12, z13, z14⟩ := cells15 b9
    have e1 : IntKind.i64.wrap ((go.length : Int) + 1) = (go.length : Int) + 1 := IntWalk.i64_in _ (by omega)
    have e2 : wrap64 ((go.length : Int) + 1) = (go.length : Int) + 1 := IntWalk.wrap64_in _ (by omega)
    have e3 : ((go.length + 1 : Nat) : Int) = (go.length : Int) + 1 := by omega
    have e4 : (0 : Int) ≤ (go.length : Int) := by omega
    have e5 : (go.length : Int) < (go.length : Int) + 1 := by omega
    clear b8 b9
    refine wp_pure [0, 1, 2, 3, 4, 5, 6, 7, 8, 9, 10, 11, 12, 13, 14, 15, 16, 17, 18, 19, 20, 21, 22, 23, 24, 25, 26, 27, 28, 29] 30 (by kernel_rfl) (by kernel_rfl) rfl ?_
    (apply rat; (focus (intro w' hk; obtain ⟨j0,j1,j2,j3,j4,j5,j6,j7⟩ := look8 hk y0 y1 y2 y3 y4 y5 y6 y7; obtain ⟨j8,j9,j10,j11,j12,j13,j14,k0⟩ := look8 hk y8 y9 y10 y11 y12 y13 y14 z0; obtain ⟨k1,k2,k3,k4,k5,k6,k7,k8⟩ := look8 hk z1 z2 z3 z4 z5 z6 z7 z8; obtain ⟨k9,k10,k11,k12,k13,k14⟩ := look6 hk z9 z10 z11 z12 z13 z14; (iterate 4 (refine' rv ?_ rfl rfl (by go_simp; first | done | with_reducible rfl | exact rfl); try simp only [Act.put, List.setIfInBounds_toArray, List.set_cons_zero, List.set_cons_succ])); (refine' rv ?_ rfl rfl (by exact exec_bin rfl rfl rfl (su_self ⟨F, gs, 3, gvo, gn⟩ _ _ w')); try simp only [Act.put, List.setIfInBounds_toArray, List.set_cons_zero, List.set_cons_succ]); (iterate 17 (refine' rv ?_ rfl rfl (by go_simp; first | done | with_reducible rfl | exact rfl); try simp only [Act.put, List.setIfInBounds_toArray, List.set_cons_zero, List.set_cons_succ])); (refine' rv ?_ rfl rfl (by exact exec_cells (b := q) (off := go.length * 8) (repC ⟨26, 3, gs⟩) (fun i u hi => look hk (hc8 i u hi)) rfl rfl (by kernel_rfl)); try simp only [Act.put, List.setIfInBounds_toArray, List.set_cons_zero, List.set_cons_succ]); (iterate 4 (refine' rv ?_ rfl rfl (by go_simp; first | done | with_reducible rfl | exact rfl); try simp only [Act.put, List.setIfInBounds_toArray, List.set_cons_zero, List.set_cons_succ])); (refine' rv ?_ rfl rfl (by exact exec_bin rfl rfl rfl (rep_self ⟨26, 3, gs⟩ _ _ w')); try simp only [Act.put, List.setIfInBounds_toArray, List.set_cons_zero, List.set_cons_succ]); (iterate 2 (refine' rv ?_ rfl rfl (by go_simp; first | done | with_reducible rfl | exact rfl); try simp only [Act.put, List.setIfInBounds_toArray, List.set_cons_zero, List.set_cons_succ])); (exact rn))))
    intro w9 hk9
    simp only [List.drop_succ_cons, List.drop_zero]
    go_wp2_with fail
    go_ret
    exact ⟨rfl, hB.trans (hk9.whole.mono hB.size)⟩
  · have b1 : (gph != 3) = true := by simp [hph]
    go_wp2_with (first | (refine nb rfl rfl rfl rfl (by go_simp; first | done | with_reducible rfl | exact rfl) rfl rfl (by kernel_rfl) ?_; rw [HV1.out]))
    go_ret
    exact ⟨rfl, hB⟩
theorem off21_no (n li : Nat) (hn8 : n < 256) (hl8 : li < 256) (l : List Dw.En) (v : Value) (e : Dw.En) (w : World) (hv : EnsAt w v l) (he : enOk e) (h1 : e.ki ≠ 1) (h2 : e.ki ≠ 2) (hn : NoneAt w) :
    Calls Tryz.prog 8 #[.int .u8 n, .int .u8 li, v, enV e] w fun e w' => e = .returned (.bool true) ∧ Below w.heap.size w w' := by
  have H1 := Lib.hid h1; have H2 := Lib.hid h2
  clear h1 h2
  have HV := Lib.hid hv
  have HE := Lib.hid he
  obtain ⟨V, hV⟩ : ∃ V, w.alloc (.cells (enC e) 77) = V := ⟨_, rfl⟩
  have bE : V.heap[w.heap.size]? = some (.cells (enC e) 77) := by rw [← hV]; exact han _ _
  have hB : Below w.heap.size w V := by rw [← hV]; exact (Below.refl _ w).alloc (Nat.le_refl _) _
  have a1 : IntKind.i64.wrap (n : Int) = (n : Int) := IntWalk.i64_in _ (by omega)
  have a2 : Int.tmod (n : Int) 13 = ((n % 13 : Nat) : Int) := rfl
  have a3 : IntKind.i64.wrap (li : Int) = (li : Int) := IntWalk.i64_in _ (by omega)
  have a4 : IntKind.i64.wrap ((n % 13 : Nat) : Int) = ((n % 13 : Nat) : Int) := IntWalk.i64_in _ (by omega)
  clear hv he
  go_enter Tryz.func8, Tryz.ntmps8
  go_wp2_with fail
  try rw [hV]
  clear hV
  refine (long21_any l v _ (HV.out.next hB)).mono ?_
  rintro en w1 ⟨⟨b, rfl, hlb⟩, hb⟩
  replace hB := tr hB hb
  replace bE := kp hb bE
  clear hb
  cases b with
  | true =>
    go_wp2_with fail
    refine (shown21_any _ (hn.next hB)).mono ?_
    rintro en wy ⟨rfl, hb⟩
    replace hB := tr hB hb
    clear hb
    go_wp2_with fail
    go_ret
    exact ⟨rfl, hB⟩
  | false =>
  have HL := Lib.hid (hlb rfl)
  clear hlb
  go_wp2_with (first | (refine lbo bE rfl rfl rfl (by kernel_rfl) ?_))
  refine (long21_any [e] _ _ (row_one HE.out (han _ _))).mono ?_
  rintro en w2 ⟨⟨b2, rfl, -⟩, hb⟩
  have ha := (Below.refl w1.heap.size w1).alloc (Nat.le_refl _) (.cells (enC e) 77)
  replace hB := tr (tr hB ha) hb
  replace bE := kp hb (kp ha bE)
  clear hb ha
  cases b2 with
  | true =>
    go_wp2_with fail
    refine (shown21_any _ (hn.next hB)).mono ?_
    rintro en wy ⟨rfl, hb⟩
    replace hB := tr hB hb
    clear hb
    go_wp2_with fail
    go_ret
    exact ⟨rfl, hB⟩
  | false =>
  go_wp2_with fail
  refine (shown21_any _ (hn.next hB)).mono ?_
  rintro en w2 ⟨rfl, hb⟩
  replace hB := tr hB hb
  replace bE := kp hb bE
  clear hb
  go_wp2_with fail
  refine (begin_any _ _ _ (hn.next hB)).mono ?_
  rintro en w3 ⟨rfl, hb⟩
  replace hB := tr hB hb
  replace bE := kp hb bE
  clear hb
  generalize hN : ((n : Int) % 13) = N
  generalize hI : (li : Int) = I
  clear a1 a2 a3 a4 hN hI hn8 hl8
  have HR := Lib.hid (fun w hn hv => frun_any (Dw.beginF N I) l (Dw.newF_ok N I) (Dw.boot_legal _) (by have := HL.out; omega) (Nat.zero_le _) (.slice none 0 0) v w hn (World.ownsRow_nil _ _ _ _) hv)
  have hok : Dw.FlOk (Dw.runF (Dw.beginF N I) l).x.f := Dw.runF_ok _ _ (Dw.newF_ok N I)
  have hleg : Dw.legal (Dw.runF (Dw.beginF N I) l).x.s = true := Dw.runF_legal _ _ (Dw.boot_legal _)
  have hlen : (Dw.runF (Dw.beginF N I) l).out.length ≤ 1000 := by
    have h1 := Dw.out_le l (Dw.beginF N I)
    have h2 := HL.out
    have h3 : (Dw.beginF N I).out.length = 0 := rfl
    omega
  generalize Dw.runF (Dw.beginF N I) l = G at *
  go_wp2_with fail
  refine (HR.out _ (hn.next hB) (HV.out.next hB)).mono ?_
  rintro en w4 ⟨⟨v4, rfl, hr4⟩, hb⟩
  replace hB := tr hB hb
  replace bE := kp hb bE
  clear hb HR HV HL
  obtain ⟨p4, q4, rfl⟩ := reps_shape hr4
  obtain ⟨⟨F, gs, gph, gvo, gn⟩, go⟩ := G
  obtain ⟨V1, hV1⟩ : ∃ V, w4.alloc (.cells (fliC ⟨F, gs, gph, gvo, gn⟩ (.slice p4 go.length q4)) 64) = V := ⟨_, rfl⟩
  have b9 : V1.heap[w4.heap.size]? = some (.cells (fliC ⟨F, gs, gph, gvo, gn⟩ (.slice p4 go.length q4)) 64) := by rw [← hV1]; exact han _ _
  have hb : Below w4.heap.size w4 V1 := by rw [← hV1]; exact (Below.refl _ w4).alloc (Nat.le_refl _) _
  replace hB := tr hB hb
  replace bE := kp hb bE
  have hr4' := reps_next hr4 hb
  have HV1 := Lib.hid hV1
  have p11 := (cells15 b9).2.2.1
  obtain ⟨ki, c, va, vb, vc, p, at_⟩ := e
  have k0 : V1.cell? ⟨w.heap.size, 0, none⟩ = some (.int .i64 ki) := by rw [cell_of_row _ _ 0 _ _ _ bE]; rfl
  clear hV1 hb hr4
  have b1 : (ki != 1) = true := by simpa using H1.out
  have b2 : (ki != 2) = true := by simpa using H2.out
  clear H1 H2
  by_cases hph : gph = 3
  · subst hph
    go_wp2_with (first | (refine nb rfl rfl rfl rfl (by go_simp; first | done | with_reducible rfl | exact rfl) rfl rfl (by kernel_rfl) ?_; rw [HV1.out]))
    go_ret
    exact ⟨rfl, hB⟩
  · have b3 : (gph != 3) = true := by simp [hph]
    go_wp2_with (first | (refine nb rfl rfl rfl rfl (by go_simp; first | done | with_reducible rfl | exact rfl) rfl rfl (by kernel_rfl) ?_; rw [HV1.out]))
    go_ret
    exact ⟨rfl, hB⟩
end Go.Proofs.YtnaokijcggbfdaaGreatDoor
namespace Go.Proofs.YtnaokijcggbfdaaGreatDoor
open Go.RowKit Go.Shelf
theorem off21_any (n li : Nat) (hn8 : n < 256) (hl8 : li < 256) (l : List Dw.En) (v : Value) (e : Dw.En) (w : World) (hv : EnsAt w v l) (he : enOk e) (hn : NoneAt w) :
    Calls Tryz.prog 8 #[.int .u8 n, .int .u8 li, v, enV e] w fun e w' => e = .returned (.bool true) ∧ Below w.heap.size w w' := by
  by_cases h1 : e.ki = 1
  · exact off21_one n li hn8 hl8 l v e w hv he h1 hn
  by_cases h2 : e.ki = 2
  · exact off21_two n li hn8 hl8 l v e w hv he h2 hn
  · exact off21_no n li hn8 hl8 l v e w hv he h1 h2 hn
end Go.Proofs.YtnaokijcggbfdaaGreatDoor
namespace Go.Proofs.YtnaokijcggbfdaaGreatDoor
open Go.RowKit Go.Shelf
attribute [local go_sem] Oper.semAt_some
theorem replies21_any (n li : Nat) (hn8 : n < 256) (hl8 : li < 256) (l : List Dw.En) (v : Value) (w : World) (hv : EnsAt w v l) (hn : NoneAt w) :
    Calls Tryz.prog 7 #[.int .u8 n, .int .u8 li, v] w fun e w' => e = .returned (.bool true) ∧ Below w.heap.size w w' := by
  have hB := Below.refl w.heap.size w
  have HV := Lib.hid hv
  obtain ⟨sa, cap, rfl, -, -⟩ := id hv
  have hll : (0 : Int) ≤ (l.length : Int) := by omega
  have a1 : IntKind.i64.wrap (n : Int) = (n : Int) := IntWalk.i64_in _ (by omega)
  have a2 : Int.tmod (n : Int) 13 = ((n % 13 : Nat) : Int) := rfl
  have a3 : IntKind.i64.wrap (li : Int) = (li : Int) := IntWalk.i64_in _ (by omega)
  have a4 : IntKind.i64.wrap ((n % 13 : Nat) : Int) = ((n % 13 : Nat) : Int) := IntWalk.i64_in _ (by omega)
  clear hv
  go_enter Tryz.func7, Tryz.ntmps7
  go_wp2_with fail
  refine (long21_any l _ _ HV.out).mono ?_
  rintro e w1 ⟨⟨b, rfl, hlb⟩, hb⟩
  replace hB := tr hB hb
  clear hb
  cases b with
  | true =>
    go_wp2_with fail
    refine (shown21_any _ (hn.next hB)).mono ?_
    rintro en wy ⟨rfl, hb⟩
    replace hB := tr hB hb
    clear hb
    go_wp2_with fail
    go_ret
    exact ⟨rfl, hB⟩
  | false =>
  have HL := Lib.hid (hlb rfl)
  clear hlb
  go_wp2_with fail
  refine (shown21_any _ (hn.next hB)).mono ?_
  rintro en wy ⟨rfl, hb⟩
  replace hB := tr hB hb
  clear hb
  go_wp2_with fail
  refine cb (begin_any _ _ _ (hn.next hB)) fun w3 hb => ?_
  replace hB := tr hB hb
  clear hb
  generalize hN : ((n : Int) % 13) = N
  generalize hI : (li : Int) = I
  clear a1 a2 a3 a4 hN hI hn8 hl8
  obtain ⟨G, hG⟩ : ∃ G, Dw.beginF N I = G := ⟨_, rfl⟩
  have HOK := Lib.hid (show Dw.FlOk G.x.f by rw [← hG]; exact Dw.newF_ok N I)
  have HLE := Lib.hid (show Dw.legal G.x.s = true by rw [← hG]; exact Dw.boot_legal _)
  have HG0 := Lib.hid (show G.out = [] by rw [← hG]; rfl)
  rw [hG]
  clear hG
  obtain ⟨gF, hgF⟩ : ∃ g, w3.heap.size = g := ⟨_, rfl⟩
  obtain ⟨V1, hV1⟩ : ∃ V, w3.alloc (.cells (fliC G.x (.slice none 0 0)) 64) = V := ⟨_, rfl⟩
  have bF : V1.heap[gF]? = some (.cells (fliC G.x (.slice none 0 0)) 64) := by rw [← hV1, ← hgF]; exact han _ _
  have hb : Below w3.heap.size w3 V1 := by rw [← hV1]; exact (Below.refl _ w3).alloc (Nat.le_refl _) _
  have hgw : w.heap.size ≤ gF := by rw [← hgF]; exact hB.size
  replace hB := tr hB hb
  have HV1 := Lib.hid hV1; have HGF := Lib.hid hgF
  clear hV1 hb hgF
  go_wp2_with (first | (refine nb rfl rfl rfl rfl (by go_simp; first | done | with_reducible rfl | exact rfl) rfl rfl (by kernel_rfl) ?_; rw [HV1.out, HGF.out]))
  clear HV1 HGF
  go_loopw [8, 9] (fun x y wr => ∃ (k : Nat) (g : Dw.Fli) (v' : Value), k ≤ l.length ∧ x = .int .i64 (g.out.length : Nat) ∧ y = .int .i64 k ∧ g = Dw.runF G (l.take k) ∧ Dw.LastIs g ∧ g.out.length ≤ k ∧ wr.heap[gF]? = some (.cells (fliC g.x v') 64 (0, 0)) ∧ RepsAt wr v' g.out ∧ Below w.heap.size w wr) (fun _ y _ => l.length - (intOf y).toNat)
  case atStart => exact ⟨0, G, _, Nat.zero_le _, by rw [HG0.out]; rfl, rfl, rfl, .inl HG0.out, by rw [HG0.out]; exact Nat.le_refl _, bF, by rw [HG0.out]; exact World.ownsRow_nil _ _ _ _, hB⟩
  case round =>
    clear bF hB
    obtain ⟨k, g, v', hk, rfl, rfl, hg, hla, hgk, bF, hR, hB⟩ := hrel
    obtain ⟨p0, q0, rfl⟩ := reps_shape hR
    by_cases hlt : k < l.length
    · have hlt' : (k : Int) < (l.length : Int) := by omega
      obtain ⟨e, hce⟩ : ∃ e, l[k]? = some e := ⟨l[k], List.getElem?_eq_getElem hlt⟩
      obtain ⟨he, bb, off, hsa, kc⟩ := EnsAt.get (HV.out.next hB) hce
      subst hsa
      have hgo : Dw.FlOk g.x.f := by rw [hg]; exact Dw.runF_ok _ _ HOK.out
      have hgl : Dw.legal g.x.s = true := by rw [hg]; exact Dw.runF_legal _ _ HLE.out
      have hk60 : k ≤ 60 := by have := HL.out; omega
      have HG := Lib.hid (show Dw.stepF g e = Dw.runF G (l.take (k + 1)) by rw [hg]; exact (Dw.run_take hce).symm)
      have HLA := Lib.hid (Dw.last_step hla e)
      have HS := Lib.hid (fun w hn hv => fstep_any g e hgo hgl he (by omega) (.slice p0 g.out.length q0) w hn hv)
      have HR := Lib.hid hR; have HBF := Lib.hid bF; have HB := Lib.hid hB; have HN := Lib.hid (hn.next hB)
      have HCE := Lib.hid hce
      have HKC := Lib.hid kc
      clear hg hla hgo hgl hce hR bF hB kc
      go_wp2_with fail
      refine wp_letters [0, 1, 2, 3, 4] [5] 6 (by kernel_rfl) (by kernel_rfl) (by kernel_rfl) rfl ?_
      (apply rat; (focus (intro w' hk; (refine' rv ?_ rfl rfl (by exact exec_cells (fliC g.x (.slice p0 g.out.length q0)) (cells_of (kpi hk HBF.out)) rfl rfl (by kernel_rfl)); try simp only [Act.put, List.setIfInBounds_toArray, List.set_cons_zero, List.set_cons_succ]); (iterate 3 (refine' rv ?_ rfl rfl (by go_simp; first | done | with_reducible rfl | exact rfl); try simp only [Act.put, List.setIfInBounds_toArray, List.set_cons_zero, List.set_cons_succ])); (refine' rv ?_ rfl rfl (by exact exec_cells (enC e) (fun i u hi => look hk (HKC.out i u hi)) rfl rfl (by kernel_rfl)); try simp only [Act.put, List.setIfInBounds_toArray, List.set_cons_zero, List.set_cons_succ]); (exact rn))))
      refine ll_call (f := ?_) (args := ?_) rfl rfl ?_ ?_
      rotate_left 2
      · intro w' hk
        go_simp
        first | done | (constructor <;> with_reducible rfl) | with_reducible rfl
      intro w5 hk5
      refine (HS.out w5 (HN.out.next hk5.whole) (reps_next HR.out hk5.whole)).mono ?_
      rintro en w6 ⟨⟨v6, rfl, hr6⟩, hb6⟩
      refine ⟨_, rfl, KeepBut.of_below' hb6, ?_⟩
      intro w7 hk7
      obtain ⟨p6, q6, rfl⟩ := reps_shape hr6
      have bF7 := kpi hk7 (kp hb6 (kpi hk5 HBF.out))
      have hr7 := reps_next hr6 hk7.whole
      have hB7 := ((HB.out.trans (hk5.whole.mono HB.out.size)).trans (hb6.mono (by have := HB.out.size; have := hk5.size; omega))).trans (hk7.whole.mono (by have := HB.out.size; have := hk5.size; have := hb6.size; omega))
      clear hk5 hb6 hk7 hr6 HS HR HBF HB HN HKC
      change wpList _ _ _ [_] _ _
      (try simp only [Act.put, List.setIfInBounds_toArray, List.set_cons_zero, List.set_cons_succ])
      have HT := Lib.hid (show Dw.isK e = true → (Dw.stepF g e).out.length = g.out.length + 1 by intro h; unfold Dw.stepF; rw [if_pos h]; simp)
      have HF := Lib.hid (show Dw.isK e = false → Dw.stepF g e = g by intro h; unfold Dw.stepF; rw [h]; rfl)
      generalize Dw.stepF g e = g2 at *
      obtain ⟨⟨gf, gs, gph, gvo, gn⟩, go⟩ := g2
      have hrW := reps_row hr7 bF7 (fliC ⟨gf, gs, gph, gvo, gn⟩ (.slice p6 go.length q6))
      have bW := srh (c' := fliC ⟨gf, gs, gph, gvo, gn⟩ (.slice p6 go.length q6)) bF7
      have hBW := below_setRow hB7 hgw (fliC ⟨gf, gs, gph, gvo, gn⟩ (.slice p6 go.length q6))
      refine sb (c' := fliC ⟨gf, gs, gph, gvo, gn⟩ (.slice p6 go.length q6)) bF7 rfl rfl rfl rfl (by kernel_rfl) ?_
      obtain ⟨W, hW⟩ : ∃ W, w7.setRow gF (fliC ⟨gf, gs, gph, gvo, gn⟩ (.slice p6 go.length q6)) = W := ⟨_, rfl⟩
      rw [hW] at hrW bW hBW ⊢
      clear hW bF7 hr7 hB7
      (try simp only [Act.put, List.setIfInBounds_toArray, List.set_cons_zero, List.set_cons_succ])
      obtain ⟨-, bb', off', hsa', kc⟩ := EnsAt.get (HV.out.next hBW) HCE.out
      cases hsa'
      have k0 : W.cell? ⟨bb, off + k * 11, none⟩ = some (.int .i64 e.ki) := kc 0 _ rfl
      obtain ⟨-, ⟨y5, y6, y7, y8, y9, y10⟩, y11, -, -, y14⟩ := cells15 bW
      have HBW := Lib.hid bW; have HRW := Lib.hid hrW; have HBB := Lib.hid hBW; have HLA2 := Lib.hid HLA.out
      have HGK := Lib.hid hgk
      clear bW hBW kc HCE hgk
      rcases HLA.out with h0 | ⟨o, r, ho, hrp, hrs⟩
      · have h0 : go = [] := h0
        subst h0
        have hK : Dw.isK e = false := by
          cases h : Dw.isK e
          · rfl
          · have := HT.out h; cases this
        have hg2 := HF.out hK
        subst hg2
        have HM := Lib.hid (show ([] : List Dw.Rep).length = 0 from rfl)
        rw [show (((Dw.Fli.mk ⟨gf, gs, gph, gvo, gn⟩ ([] : List Dw.Rep)).out.length : Nat) : Int) = 0 from rfl]
        clear HT HF HLA hrW y5 y6 y7 y8 y9 y10 y11
        unfold Dw.isK at hK
        by_cases c1 : 1 ≤ e.ki
        · have c4 : ¬ e.ki ≤ 4 := by simp [c1] at hK; omega
          clear hK
          go_wp2_with fail
          refine reg_swap (ops := opsR 11 Tryz.f7) ?_ (by kernel_rfl)
          refine reps_zero y14 ?_
          intro v51 v52 v53 v54 v55 v56 v57 v58 v59 v60 v61 v62 v63 v64 v65 v66 v67 v68 v69 v70 v71 v72 v73 v74 v75 v76 v77 v78 v79 v80 v81 v82 v83 v84 w9 hk9
          clear y14
          go_wp2_with fail
          go_roundw
          case rel => exact ⟨k + 1, ⟨⟨gf, gs, gph, gvo, gn⟩, []⟩, _, hlt, rfl, by go_num, HG.out, HLA2.out, Nat.zero_le _, kpi hk9 HBW.out, reps_next HRW.out hk9.whole, HBB.out.trans (hk9.whole.mono HBB.out.size)⟩
          case measure => first | done | (simp [intOf]; done) | (simp [intOf]; omega)
        · clear hK
          go_wp2_with fail
          refine reg_swap (ops := opsR 11 Tryz.f7) ?_ (by kernel_rfl)
          refine reps_zero y14 ?_
          intro v51 v52 v53 v54 v55 v56 v57 v58 v59 v60 v61 v62 v63 v64 v65 v66 v67 v68 v69 v70 v71 v72 v73 v74 v75 v76 v77 v78 v79 v80 v81 v82 v83 v84 w9 hk9
          clear y14
          go_wp2_with fail
          go_roundw
          case rel => exact ⟨k + 1, ⟨⟨gf, gs, gph, gvo, gn⟩, []⟩, _, hlt, rfl, by go_num, HG.out, HLA2.out, Nat.zero_le _, kpi hk9 HBW.out, reps_next HRW.out hk9.whole, HBB.out.trans (hk9.whole.mono HBB.out.size)⟩
          case measure => first | done | (simp [intOf]; done) | (simp [intOf]; omega)
      · have ho : go = o ++ [r] := ho
        have hrp : r.ph = gph := hrp
        have hrs : r.s = gs := hrs
        obtain ⟨K, hK⟩ : ∃ K, o.length = K := ⟨_, rfl⟩
        have hgo1 : go.length = K + 1 := by rw [ho]; simp [hK]
        obtain ⟨-, ⟨-, h0⟩ | ⟨q, cap', cur, he6, -⟩⟩ := id hrW
        · rw [hgo1] at h0; cases h0
        injection he6 with h1 h2 h3
        clear h2 h3
        subst h1
        obtain ⟨ao2, cap2, he2, -, -, hc⟩ := slAt_own hrW
        injection he2 with h1 h2 h3
        clear h2
        subst h1
        have hc8 : ∀ i u, (repC r).toList[i]? = some u → W.cell? ⟨q, K * 8 + i, none⟩ = some u := fun i u hi => by
          have h1 := hc _ rfl (K * 8 + i) u (by rw [ho, repCells_snoc, List.getElem?_append_right (by rw [repCells_len, hK]; omega), repCells_len, hK, show K * 8 + i - K * 8 = i by omega]; exact hi)
          rw [addr0] at h1
          exact h1
        have d1 : W.cell? ⟨q, K * 8 + 1, none⟩ = some (.int .i64 gph) := by rw [← hrp]; exact hc8 1 _ rfl
        have d2 : W.cell? ⟨q, K * 8 + 2, none⟩ = some (.int .i64 gs.mo) := by rw [← hrs]; exact hc8 2 _ rfl
        have d3 : W.cell? ⟨q, K * 8 + 2 + 1, none⟩ = some (.bool gs.ar) := by rw [← hrs]; exact hc8 3 _ rfl
        have d4 : W.cell? ⟨q, K * 8 + 2 + 2, none⟩ = some (.bool gs.ho) := by rw [← hrs]; exact hc8 4 _ rfl
        have d5 : W.cell? ⟨q, K * 8 + 2 + 3, none⟩ = some (.int .i64 gs.la) := by rw [← hrs]; exact hc8 5 _ rfl
        have d6 : W.cell? ⟨q, K * 8 + 2 + 4, none⟩ = some (.int .i64 gs.lo) := by rw [← hrs]; exact hc8 6 _ rfl
        have d7 : W.cell? ⟨q, K * 8 + 2 + 5, none⟩ = some (.int .i64 gs.iso) := by rw [← hrs]; exact hc8 7 _ rfl
        have HM := Lib.hid hgo1
        rw [hgo1] at y14
        have hHK : go.length ≤ k + 1 := by
          have h5 := HGK.out
          rcases Bool.eq_false_or_eq_true (Dw.isK e) with h | h
          · have h3 : go.length = g.out.length + 1 := HT.out h
            omega
          · have h3 := HF.out h
            have h4 : go.length = g.out.length := by rw [← h3]
            omega
        have hKk : K ≤ 60 := by omega
        have HMK := Lib.hid hHK
        clear hHK
        have E1 := Lib.hid (show IntKind.i64.wrap ((K : Int) + 1) = (K : Int) + 1 from IntWalk.i64_in _ (by omega))
        have E2 := Lib.hid (show wrap64 ((K : Int) + 1) = (K : Int) + 1 from IntWalk.wrap64_in _ (by omega))
        clear ho hrp hrs hc hc8 HLA hrW hgo1 hK
        by_cases c1 : 1 ≤ e.ki
        · by_cases c4 : e.ki ≤ 4
          · have hNK : ((g.out.length : Nat) : Int) = (K : Int) := by
              have h3 : go.length = g.out.length + 1 := HT.out (by unfold Dw.isK; simp [c1, c4])
              have := HM.out; omega
            rw [hNK]
            clear hNK HT HF
            have e1 := E1.out; have e2 := E2.out
            go_wp2_with fail
            clear e1 e2
            refine reg_swap (ops := opsR 11 Tryz.f7) ?_ (by kernel_rfl)
            refine reps_pos hKk y5 y6 y7 y8 y9 y10 y11 y14 d1 d2 d3 d4 d5 d6 d7 ?_
            intro v51 v52 v53 v54 v55 v56 v57 v58 v59 v60 v61 v62 v63 v64 v65 v66 v67 v68 v69 v70 v71 v72 v73 v74 v75 v76 v77 v78 v79 v80 v81 v82 v83 v84 w9 hk9
            clear y5 y6 y7 y8 y9 y10 y11 y14 d1 d2 d3 d4 d5 d6 d7
            go_wp2_with fail
            go_roundw
            case rel => exact ⟨k + 1, ⟨⟨gf, gs, gph, gvo, gn⟩, go⟩, _, hlt, by rw [show ((go.length : Nat) : Int) = (K : Int) + 1 by have := HM.out; omega], by go_num, HG.out, HLA2.out, HMK.out, kpi hk9 HBW.out, reps_next HRW.out hk9.whole, HBB.out.trans (hk9.whole.mono HBB.out.size)⟩
            case measure => first | done | (simp [intOf]; done) | (simp [intOf]; omega)
          · have hNK : ((g.out.length : Nat) : Int) = (K : Int) + 1 := by
              have h3 := HF.out (by unfold Dw.isK; simp [c4])
              have h4 : go.length = g.out.length := by rw [← h3]
              have := HM.out; omega
            rw [hNK]
            clear hNK HT HF
            have e1 := E1.out; have e2 := E2.out
            go_wp2_with fail
            clear e1 e2
            refine reg_swap (ops := opsR 11 Tryz.f7) ?_ (by kernel_rfl)
            refine reps_pos hKk y5 y6 y7 y8 y9 y10 y11 y14 d1 d2 d3 d4 d5 d6 d7 ?_
            intro v51 v52 v53 v54 v55 v56 v57 v58 v59 v60 v61 v62 v63 v64 v65 v66 v67 v68 v69 v70 v71 v72 v73 v74 v75 v76 v77 v78 v79 v80 v81 v82 v83 v84 w9 hk9
            clear y5 y6 y7 y8 y9 y10 y11 y14 d1 d2 d3 d4 d5 d6 d7
            go_wp2_with fail
            go_roundw
            case rel => exact ⟨k + 1, ⟨⟨gf, gs, gph, gvo, gn⟩, go⟩, _, hlt, by rw [show ((go.length : Nat) : Int) = (K : Int) + 1 by have := HM.out; omega], by go_num, HG.out, HLA2.out, HMK.out, kpi hk9 HBW.out, reps_next HRW.out hk9.whole, HBB.out.trans (hk9.whole.mono HBB.out.size)⟩
            case measure => first | done | (simp [intOf]; done) | (simp [intOf]; omega)
        · have hNK : ((g.out.length : Nat) : Int) = (K : Int) + 1 := by
            have h3 := HF.out (by unfold Dw.isK; simp [c1])
            have h4 : go.length = g.out.length := by rw [← h3]
            have := HM.out; omega
          rw [hNK]
          clear hNK HT HF
          have e1 := E1.out; have e2 := E2.out
          go_wp2_with fail
          clear e1 e2
          refine reg_swap (ops := opsR 11 Tryz.f7) ?_ (by kernel_rfl)
          refine reps_pos hKk y5 y6 y7 y8 y9 y10 y11 y14 d1 d2 d3 d4 d5 d6 d7 ?_
          intro v51 v52 v53 v54 v55 v56 v57 v58 v59 v60 v61 v62 v63 v64 v65 v66 v67 v68 v69 v70 v71 v72 v73 v74 v75 v76 v77 v78 v79 v80 v81 v82 v83 v84 w9 hk9
          clear y5 y6 y7 y8 y9 y10 y11 y14 d1 d2 d3 d4 d5 d6 d7
          go_wp2_with fail
          go_roundw
          case rel => exact ⟨k + 1, ⟨⟨gf, gs, gph, gvo, gn⟩, go⟩, _, hlt, by rw [show ((go.length : Nat) : Int) = (K : Int) + 1 by have := HM.out; omega], by go_num, HG.out, HLA2.out, HMK.out, kpi hk9 HBW.out, reps_next HRW.out hk9.whole, HBB.out.trans (hk9.whole.mono HBB.out.size)⟩
          case measure => first | done | (simp [intOf]; done) | (simp [intOf]; omega)
    · have hge : ¬ (k : Int) < (l.length : Int) := by omega
      have HB := Lib.hid hB
      clear hB
      go_wp2_with fail
      go_ret
      exact ⟨rfl, HB.out⟩
theorem flips21_any (f : Dw.Fl) (k : Int) (hk : -9223372036854775808 ≤ k ∧ k ≤ 9223372036854775807) (hr : Dw.FlR f) (w : World) (hn : NoneAt w) :
    Calls Tryz.prog 6 #[flV f, .int .i64 k] w fun e w' => e = .returned (.bool true) ∧ Below w.heap.size w w' := by
  obtain ⟨V, hV⟩ : ∃ V, w.alloc (.cells (flC f) 25) = V := ⟨_, rfl⟩
  have bF : V.heap[w.heap.size]? = some (.cells (flC f) 25) := by rw [← hV]; exact han _ _
  have hB : Below w.heap.size w V := by rw [← hV]; exact (Below.refl _ w).alloc (Nat.le_refl _) _
  obtain ⟨c0, c1, -⟩ := cells5 bF
  by_cases g1 : 400 < f.a.length
  · have q1 : (400 : Int) < (f.a.length : Int) := by omega
    clear hk hr g1
    go_enter Tryz.func6, Tryz.ntmps6
    go_wp2_with fail
    try rw [hV]
    refine (shown21_any _ (hn.next hB)).mono ?_
    rintro en wy ⟨rfl, hb⟩
    replace hB := tr hB hb
    replace bF := kp hb bF
    clear hb
    go_wp2_with fail
    go_ret
    exact ⟨rfl, hB⟩
  have q1 : ¬ (400 : Int) < (f.a.length : Int) := by omega
  by_cases g2 : 400 < f.b.length
  · have q2 : (400 : Int) < (f.b.length : Int) := by omega
    clear hk hr g1 g2
    go_enter Tryz.func6, Tryz.ntmps6
    go_wp2_with fail
    try rw [hV]
    refine (shown21_any _ (hn.next hB)).mono ?_
    rintro en wy ⟨rfl, hb⟩
    replace hB := tr hB hb
    replace bF := kp hb bF
    clear hb
    go_wp2_with fail
    go_ret
    exact ⟨rfl, hB⟩
  have q2 : ¬ (400 : Int) < (f.b.length : Int) := by omega
  have hok : Dw.FlOk f := Dw.flOk_of hr (by unfold Dw.big; simp; omega)
  obtain ⟨F2, hF2⟩ : ∃ F, Dw.flip f k = F := ⟨_, rfl⟩
  have hok2 : Dw.FlOk F2 := by rw [← hF2]; exact Dw.flip_ok hok k
  have hback : Dw.flip F2 k = f := by rw [← hF2]; exact Dw.flip_flip f k
  have HF1 := Lib.hid (fun w => flip_any f hok k hk w)
  have HF2 := Lib.hid (fun w => flip_any F2 hok2 k hk w)
  have HRF := Lib.hid (fun w => rflip_any f hok k hk w)
  rw [hF2] at HF1 HRF
  rw [hback] at HF2
  have HE : ∃ b, (¬ (0 : Int) ≤ k ∧ b = false ∨ ∃ i : Nat, (0 : Int) ≤ k ∧ Int.tdiv k 8 = (i : Int) ∧ IntKind.i64.wrap (i : Int) = (i : Int) ∧ decide ((i : Int) < (f.a.length : Int) + (f.b.length : Int)) = b) ∧ Hid (Dw.flE F2 f = !b) := by
    by_cases h0 : k < 0
    · refine ⟨false, .inl ⟨by omega, rfl⟩, ?_⟩
      have h1 : F2 = f := by rw [← hF2]; exact Dw.flip_neg f h0
      exact Lib.hid ((Dw.flE_iff F2 f).2 h1)
    · obtain ⟨i, m, e8, m8, hm8, d1, d2, d3, d4, hi60⟩ := quo8 k h0 hk.2
      have h0' : (0 : Int) ≤ k := by clear d1 d2 d3 d4; omega
      clear d3 d4 hm8 m8
      refine ⟨_, .inr ⟨i, h0', d1, d2, rfl⟩, ?_⟩
      clear d1 d2 hk
      by_cases hin : i < f.a.length + f.b.length
      · have h1 : F2 ≠ f := by rw [← hF2]; exact Dw.flip_ne h0' (by omega)
        have h2 : Dw.flE F2 f = false := by
          cases q : Dw.flE F2 f
          · rfl
          · exact absurd ((Dw.flE_iff F2 f).1 q) h1
        have h3 : decide ((i : Int) < (f.a.length : Int) + (f.b.length : Int)) = true := decide_eq_true (by omega)
        rw [h3]
        exact Lib.hid h2
      · have h1 : F2 = f := by rw [← hF2]; exact Dw.flip_out (.inr (by omega))
        have h3 : decide ((i : Int) < (f.a.length : Int) + (f.b.length : Int)) = false := decide_eq_false (by omega)
        rw [h3]
        exact Lib.hid ((Dw.flE_iff F2 f).2 h1)
  obtain ⟨b, hcase, HE⟩ := HE
  have e1 : IntKind.i64.wrap ((f.a.length : Int) + (f.b.length : Int)) = (f.a.length : Int) + (f.b.length : Int) := by clear hk; exact IntWalk.i64_in _ (by omega)
  have e2 : wrap64 ((f.a.length : Int) + (f.b.length : Int)) = (f.a.length : Int) + (f.b.length : Int) := by clear hk e1; exact IntWalk.wrap64_in _ (by omega)
  have HC := Lib.hid hcase; have E1 := Lib.hid e1; have E2 := Lib.hid e2
  clear hF2 hback hk hr g1 g2 hok hok2 hcase e1 e2
  go_enter Tryz.func6, Tryz.ntmps6
  go_wp2_with fail
  try rw [hV]
  clear hV c0 c1
  refine (shown21_any _ (hn.next hB)).mono ?_
  rintro en wy ⟨rfl, hb⟩
  replace hB := tr hB hb
  replace bF := kp hb bF
  clear hb
  go_wp2_with (first | (refine lb bF rfl rfl rfl (by kernel_rfl) ?_))
  refine cb (HF1.out _) fun w2 hb => ?_
  replace bF := kp hb bF; replace hB := tr hB hb
  clear hb HF1
  obtain ⟨V2, hV2⟩ : ∃ V, w2.alloc (.cells (flC F2) 25) = V := ⟨_, rfl⟩
  have bG : V2.heap[w2.heap.size]? = some (.cells (flC F2) 25) := by rw [← hV2]; exact han _ _
  have hb : Below w2.heap.size w2 V2 := by rw [← hV2]; exact (Below.refl _ w2).alloc (Nat.le_refl _) _
  replace bF := kp hb bF; replace hB := tr hB hb
  have HX := Lib.hid (cells5 bF)
  have HY := Lib.hid (cells5 bG)
  have HB := Lib.hid hB
  clear hb bF bG hB q1 q2
  rcases HC.out with ⟨h0, rfl⟩ | ⟨i, h0, d1, d2, hb⟩
  · clear HC E1 E2
    go_wp2_with fail
    refine reg_swap (n := 5) (ops := opsR 5 Tryz.f6) ?_ (by kernel_rfl)
    refine flips_r5 HX.out.1 HX.out.2.1 HX.out.2.2.1 HX.out.2.2.2.1 HX.out.2.2.2.2 HY.out.1 HY.out.2.1 HY.out.2.2.1 HY.out.2.2.2.1 HY.out.2.2.2.2 HRF HF2 HE ?_
    intro v43 v44 v45 v46 v47 v48 v49 v50 v51 v52 v53 v54 v55 v56 v57 v58 v59 v60 v61 v62 w9 hk9
    go_wp2_with fail
    go_ret
    exact ⟨rfl, HB.out.trans (hk9.whole.mono HB.out.size)⟩
  · have e1 := E1.out; have e2 := E2.out; have x0 := HX.out.1; have x1 := HX.out.2.1
    clear HC E1 E2
    go_wp2_with fail
    clear e1 e2 x0 x1 d1 d2
    subst hb
    refine reg_swap (n := 5) (ops := opsR 5 Tryz.f6) ?_ (by kernel_rfl)
    refine flips_r5 HX.out.1 HX.out.2.1 HX.out.2.2.1 HX.out.2.2.2.1 HX.out.2.2.2.2 HY.out.1 HY.out.2.1 HY.out.2.2.1 HY.out.2.2.2.1 HY.out.2.2.2.2 HRF HF2 HE ?_
    intro v43 v44 v45 v46 v47 v48 v49 v50 v51 v52 v53 v54 v55 v56 v57 v58 v59 v60 v61 v62 w9 hk9
    go_wp2_with fail
    go_ret
    exact ⟨rfl, HB.out.trans (hk9.whole.mono HB.out.size)⟩
end Go.Proofs.YtnaokijcggbfdaaGreatDoor
