/- What the statement's proof stands on, part 37: Law20, Stood20, Shown20, Show20, LawB20, Nb, Nq. -/
import Derived.Test.YtnaokijcggbfdaaGreatDoorBg31
import Derived.Test.YtnaokijcggbfdaaGreatDoorBg34
import Derived.Test.YtnaokijcggbfdaaGreatDoorBg36
import Derived.Test.YtnaokijcggbfdaaGreatDoorBg30
import Derived.Test.YtnaokijcggbfdaaGreatDoorBg18
import Derived.Test.YtnaokijcggbfdaaGreatDoorBg21
set_option linter.unusedSimpArgs false
set_option linter.unusedVariables false
set_option maxRecDepth 100000
set_option maxHeartbeats 4000000
namespace Go.Proofs.YtnaokijcggbfdaaGreatDoor
open Go.RowKit Go.Shelf
attribute [local go_sem] Oper.semAt_some
theorem scommand_any (x : Dw.Su) (c : Dw.Cmd) (p : Dw.Pw) (hf : Dw.FlOk x.f) (hl : Dw.legal x.s = true) (hla : c.la < 18446744073709551616) (hlo : c.lo < 18446744073709551616) (w : World) (hn : NoneAt w) :
    Calls Tryz.prog 12 #[suV x, cmV c, pwV p] w fun e w' => e = .returned (.tuple #[suV (Dw.commandX x c p), .int .i64 (Dw.commandE x c p)]) ∧ Below w.heap.size w w' :=
  scommand_core x c p hf w hn (fun w => delta_any x.s (Dw.legal_iso hl) c hla hlo w) (fun _ => Dw.deltaS_legal hl c)
abbrev wholeV : Value := .agg #[.int .i64 (-1), .string ⟨#[]⟩]
theorem whole20_any (w : World) :
    Calls Tryz.prog 20 #[] w fun e w' => e = .returned wholeV ∧ Below w.heap.size w w' := by
  have hB := (Below.refl w.heap.size w).alloc (Nat.le_refl _) (.cells #[.int .i64 0, .string ⟨#[]⟩] 36)
  have b0 := han w (.cells #[.int .i64 0, .string ⟨#[]⟩] 36)
  go_enter Tryz.func20, Tryz.ntmps20
  go_wp2_with (first | (refine lb b0 rfl rfl rfl (by kernel_rfl) ?_) | (refine sb b0 rfl rfl rfl rfl (by kernel_rfl) ?_))
  exact bodyPost_ret (rcr rfl (srh b0) (by rfl) (by kernel_rfl)) rfl ⟨rfl, below_setRow hB (Nat.le_refl _) _⟩
theorem big20_any (f : Dw.Fl) (w : World) :
    Calls Tryz.prog 14 #[flV f] w fun e w' => e = .returned (.bool (Dw.big f.a f.b)) ∧ Below w.heap.size w w' := by
  obtain ⟨a, b, e0, e1, li⟩ := f
  have hB := (Below.refl w.heap.size w).alloc (Nat.le_refl _) (.cells (flashC a b e0 e1 li) 25)
  have HG := Lib.hid (show Dw.big a b = decide (400 < a.length ∨ 400 < b.length) from rfl)
  by_cases h : 400 < a.length
  · have h' : (400 : Int) < (a.length : Int) := by omega
    go_enter Tryz.func14, Tryz.ntmps14
    go_wp2_with fail
    go_ret
    exact ⟨by rw [HG.out]; simp [h], hB⟩
  · have h' : ¬ (400 : Int) < (a.length : Int) := by omega
    by_cases h2 : 400 < b.length
    · have h2' : (400 : Int) < (b.length : Int) := by omega
      go_enter Tryz.func14, Tryz.ntmps14
      go_wp2_with fail
      go_ret
      exact ⟨by rw [HG.out]; simp [h, h2], hB⟩
    · have h2' : ¬ (400 : Int) < (b.length : Int) := by omega
      go_enter Tryz.func14, Tryz.ntmps14
      go_wp2_with fail
      go_ret
      exact ⟨by rw [HG.out]; simp [h, h2], hB⟩
theorem legal20_any (x : Dw.Su) (w : World) :
    Calls Tryz.prog 10 #[suV x] w fun e w' => e = .returned (.bool (!Dw.big x.f.a x.f.b && Dw.legal x.s)) ∧ Below w.heap.size w w' := by
  have hB := (Below.refl w.heap.size w).alloc (Nat.le_refl _) (.cells (suC x) 31)
  have b0 := han w (.cells (suC x) 31)
  have HG := Lib.hid (fun w => big20_any x.f w)
  have HL := Lib.hid (fun w => rlegal_any x.s w)
  generalize Dw.big x.f.a x.f.b = bg at *
  generalize Dw.legal x.s = lg at *
  obtain ⟨xf, xs, ph, vo, n⟩ := x
  dsimp only at *
  go_enter Tryz.func10, Tryz.ntmps10
  go_wp2_with (first | (refine lp 25 0 (flC xf) b0 rfl rfl rfl (by kernel_rfl) (by rfl) ?_))
  refine cb (HG.out _) fun w1 hb => ?_
  replace b0 := kp hb b0
  replace hB := tr hB hb
  clear hb HG
  cases bg
  · go_wp2_with (first | (refine wpList_load_part_on rfl 27 _ rfl 5 (stC xs) rfl b0 Tryz.underlying27 rfl (by kernel_rfl) (by rfl) ?_))
    refine cb (HL.out _) fun w2 hb => ?_
    replace hB := tr hB hb
    clear hb HL b0
    go_wp2_with fail
    go_ret
    exact ⟨rfl, hB⟩
  · clear HL
    go_wp2_with fail
    go_ret
    exact ⟨rfl, hB⟩
namespace Dw
def suEq (a b : Su) : Bool := decide (a.f.a = b.f.a ∧ a.f.b = b.f.b ∧ a.f.e0 = b.f.e0 ∧ a.f.e1 = b.f.e1 ∧ a.f.li = b.f.li ∧ a.s = b.s ∧ a.ph = b.ph ∧ a.vo = b.vo ∧ a.n = b.n)
theorem suEq_iff (a b : Su) : suEq a b = true ↔ a = b := by
  obtain ⟨⟨_, _, _, _, _⟩, _, _, _, _⟩ := a
  obtain ⟨⟨_, _, _, _, _⟩, _, _, _, _⟩ := b
  unfold suEq
  simp [and_assoc]
theorem suEq_refl (a : Su) : suEq a a = true := (suEq_iff a a).2 rfl
end Dw
theorem ba_list (x y : List UInt8) : ((⟨x.toArray⟩ : ByteArray) == ⟨y.toArray⟩) = decide (x = y) := by
  rw [ba_tl]
  refine decide_eq_decide.2 ?_
  rw [ByteArray.toList_mk, ByteArray.toList_mk]
theorem suEq_parts (a b : Dw.Su) : Dw.suEq a b = decide (a.f.a = b.f.a ∧ a.f.b = b.f.b ∧ a.f.e0 = b.f.e0 ∧ a.f.e1 = b.f.e1 ∧ a.f.li = b.f.li ∧ (a.s.mo = b.s.mo ∧ a.s.ar = b.s.ar ∧ a.s.ho = b.s.ho ∧ a.s.la = b.s.la ∧ a.s.lo = b.s.lo ∧ a.s.iso = b.s.iso) ∧ a.ph = b.ph ∧ a.vo = b.vo ∧ a.n = b.n) := by
  unfold Dw.suEq
  exact decide_eq_decide.2 (by rw [st_dec])
theorem su_eq (x y : Operand) (a b : Dw.Su) (w : World) : (do eqGuard .eql 31 x y (suV a) (suV b); binOp .eql 31 (suV a) (suV b) : Sem Value).run Tryz.prog w = .ok (.bool (Dw.suEq a b)) w := by
  rw [suEq_parts]
  go_simp
  simp only [ba_list]
  by_cases q0 : a.n = b.n
  rotate_left
  · simp [q0]
  by_cases q1 : a.vo = b.vo
  rotate_left
  · simp [q1]
  by_cases q2 : a.ph = b.ph
  rotate_left
  · simp [q2]
  by_cases q3 : a.s.iso = b.s.iso
  rotate_left
  · simp [q3]
  by_cases q4 : a.s.lo = b.s.lo
  rotate_left
  · simp [q4]
  by_cases q5 : a.s.la = b.s.la
  rotate_left
  · simp [q5]
  by_cases q6 : a.s.ho = b.s.ho
  rotate_left
  · simp [q6]
  by_cases q7 : a.s.ar = b.s.ar
  rotate_left
  · simp [q7]
  by_cases q8 : a.s.mo = b.s.mo
  rotate_left
  · simp [q8]
  by_cases q9 : a.f.li = b.f.li
  rotate_left
  · simp [q9]
  by_cases q10 : a.f.e1 = b.f.e1
  rotate_left
  · simp [q10]
  by_cases q11 : a.f.e0 = b.f.e0
  rotate_left
  · simp [q11]
  by_cases q12 : a.f.b = b.f.b
  rotate_left
  · simp [q12]
  by_cases q13 : a.f.a = b.f.a
  rotate_left
  · simp [q13]
  simp [q0, q1, q2, q3, q4, q5, q6, q7, q8, q9, q10, q11, q12, q13]
theorem su_neq (x y : Operand) (a b : Dw.Su) (w : World) : (do eqGuard .neq 31 x y (suV a) (suV b); binOp .neq 31 (suV a) (suV b) : Sem Value).run Tryz.prog w = .ok (.bool (!Dw.suEq a b)) w := by
  rw [suEq_parts]
  go_simp
  simp only [ba_list]
  by_cases q0 : a.n = b.n
  rotate_left
  · simp [q0]
  by_cases q1 : a.vo = b.vo
  rotate_left
  · simp [q1]
  by_cases q2 : a.ph = b.ph
  rotate_left
  · simp [q2]
  by_cases q3 : a.s.iso = b.s.iso
  rotate_left
  · simp [q3]
  by_cases q4 : a.s.lo = b.s.lo
  rotate_left
  · simp [q4]
  by_cases q5 : a.s.la = b.s.la
  rotate_left
  · simp [q5]
  by_cases q6 : a.s.ho = b.s.ho
  rotate_left
  · simp [q6]
  by_cases q7 : a.s.ar = b.s.ar
  rotate_left
  · simp [q7]
  by_cases q8 : a.s.mo = b.s.mo
  rotate_left
  · simp [q8]
  by_cases q9 : a.f.li = b.f.li
  rotate_left
  · simp [q9]
  by_cases q10 : a.f.e1 = b.f.e1
  rotate_left
  · simp [q10]
  by_cases q11 : a.f.e0 = b.f.e0
  rotate_left
  · simp [q11]
  by_cases q12 : a.f.b = b.f.b
  rotate_left
  · simp [q12]
  by_cases q13 : a.f.a = b.f.a
  rotate_left
  · simp [q13]
  simp [q0, q1, q2, q3, q4, q5, q6, q7, q8, q9, q10, q11, q12, q13]
end Go.Proofs.YtnaokijcggbfdaaGreatDoor
namespace Go.Proofs.YtnaokijcggbfdaaGreatDoor
open Go.RowKit Go.Shelf
attribute [local go_sem] Oper.semAt_some
namespace Dw
def itS (x : Su) (v : Int) : Nat → Su
  | 0 => x
  | k + 1 => sampleX (itS x v k) v whole
theorem itS_three (x : Su) (v : Int) : seen3 x v = itS x v 3 := rfl
theorem itS_zero (x : Su) (v : Int) : x = itS x v 0 := rfl
theorem itS_succ (x : Su) (v : Int) (k : Nat) : itS x v (k + 1) = sampleX (itS x v k) v whole := rfl
theorem itS_ok {x : Su} (v : Int) (h : FlOk x.f) : ∀ k, FlOk (itS x v k).f
  | 0 => h
  | k + 1 => sampleX_ok (itS_ok v h k) v whole
theorem itS_legal {x : Su} (v : Int) (h : legal x.s = true) : ∀ k, legal (itS x v k).s = true
  | 0 => h
  | k + 1 => sample_legal (itS_legal v h k) v whole
end Dw
theorem sampleV (x : Dw.Su) (a b c : Nat) (hs : b < 18446744073709551616) (v : Int) (hv : Dw.voteI a b c = v) (hf : Dw.FlOk x.f) (hl : Dw.legal x.s = true) (w : World) (hn : NoneAt w) :
    Calls Tryz.prog 19 #[suV x, smV a b c, wholeV] w fun e w' => e = .returned (.tuple #[suV (Dw.sampleX x v Dw.whole), .int .i64 (Dw.sampleE x v Dw.whole)]) ∧ Below w.heap.size w w' := by
  rw [← hv]
  exact ssample_any x a b c hs Dw.whole hf hl w hn
theorem stood20_any (f : Dw.Fl) (hf : Dw.FlOk f) (w : World) (hn : NoneAt w) :
    Calls Tryz.prog 39 #[flV f] w fun e w' => e = .returned (suV (Dw.seen3 (Dw.boot f) 1)) ∧ Below w.heap.size w w' := by
  obtain ⟨V, hV⟩ : ∃ V, (w.alloc (.cells (flC f) 25)).alloc (.cells Z14 31) = V := ⟨_, rfl⟩
  have b0 : V.heap[w.heap.size]? = some (.cells (flC f) 25) := by rw [← hV]; exact heap_alloc2_old _ _ _
  have b1 : V.heap[w.heap.size + 1]? = some (.cells Z14 31) := by rw [← hV]; exact heap_alloc2_new _ _ _
  have hB : Below w.heap.size w V := by rw [← hV]; exact ((Below.refl _ w).alloc (Nat.le_refl _) _).alloc (by simp) _
  have HW := Lib.hid (fun w => whole20_any w)
  have HBt := Lib.hid (fun w hn => boot_any f hf w hn)
  have hok : Dw.FlOk (Dw.boot f).f := hf
  have hle := Dw.boot_legal f
  generalize Dw.boot f = X0 at *
  have HS := Lib.hid (fun (j : Nat) (_ : j < 3) w hn => sampleV (Dw.itS X0 1 j) 0 0 0 (by decide) 1 Dw.vote20 (Dw.itS_ok 1 hok j) (Dw.itS_legal 1 hle j) w hn)
  have HI := Lib.hid (Dw.itS_succ X0 1)
  have HE := Lib.hid (Dw.itS_three X0 1)
  have h0 := Dw.itS_zero X0 1
  clear hok hle
  generalize Dw.seen3 X0 1 = R at *
  generalize Dw.itS X0 1 = I at *
  rw [h0] at HBt
  clear h0
  go_enter Tryz.func39, Tryz.ntmps39
  go_wp2_with (first | (refine lb b0 rfl rfl rfl (by kernel_rfl) ?_) | (refine sb b0 rfl rfl rfl rfl (by kernel_rfl) ?_))
  refine cb (HBt.out _ (hn.next hB)) fun w1 hb => ?_
  replace b1 := kp hb b1
  replace hB := tr hB hb
  clear hb hV b0 HBt
  have hg := block_lt b1
  have b3 := han w1 (.cells (suC (I 0)) 31)
  replace b1 := hao w1 (.cells (suC (I 0)) 31) b1
  replace hB := hB.alloc hB.size (.cells (suC (I 0)) 31)
  obtain ⟨g, hgg⟩ : ∃ g, w1.heap.size = g := ⟨_, rfl⟩
  obtain ⟨W1, hW1⟩ : ∃ W, w1.alloc (.cells (suC (I 0)) 31) = W := ⟨_, rfl⟩
  rw [hW1] at b1 b3 hB
  rw [hgg] at b3 hg
  go_wp2_with fail
  clear hW1 hgg
  go_loopw [4] (fun i wr => ∃ j : Nat, j ≤ 3 ∧ i = .int .i64 j ∧ wr.heap[g]? = some (.cells (suC (I j)) 31 (0, 0)) ∧ wr.heap[w.heap.size + 1]? = some (.cells Z14 31 (0, 0)) ∧ Below w.heap.size w wr) (fun i _ => 3 - (intOf i).toNat)
  case atStart => exact ⟨0, Nat.zero_le _, rfl, b3, b1, hB⟩
  case round =>
    clear b1 b3 hB
    obtain ⟨j, hj, rfl, b3, b1, hB⟩ := hrel
    have hN := hn.next hB
    obtain ⟨⟨x0, x1, x2, x3, x4⟩, ⟨x5, x6, x7, x8, x9, x10⟩, x11, x12, x13⟩ := cells14 b3
    rcases (by omega : j = 0 ∨ j = 1 ∨ j = 2 ∨ j = 3) with rfl | rfl | rfl | rfl
    · have HS0 := Lib.hid (fun w hn => HS.out 0 (by decide) w hn)
      have hi := HI.out 0
      rw [← hi] at HS0
      clear HS hi HI
      obtain ⟨Y, hY⟩ : ∃ Y, I 1 = Y := ⟨_, rfl⟩
      rw [hY] at HS0
      have HY := Lib.hid hY
      generalize I 0 = X at *
      clear hY
      have HN := Lib.hid hN; have HB := Lib.hid hB; have H1 := Lib.hid b1; have H3 := Lib.hid b3
      clear hN hB b1 b3
      go_wp2_with fail
      refine RT.wp_letter (fun k => k = g) (fun k => decide (6 ≤ k)) [0, 1, 2, 3, 4, 5, 6] 7 8 (RT.Stored wr g (suC Y) 31) rfl (by kernel_rfl) (by kernel_rfl) rfl (fun A B h hk => h.keep hk) ?_
      (apply RT.rat; (focus (intro w' w'' hk hk2; obtain ⟨k0,k1,k2,k3,k4,k5,k6,k7⟩ := look8 hk x0 x1 x2 x3 x4 x5 x6 x7; obtain ⟨k8,k9,k10,k11,k12,k13⟩ := look6 hk x8 x9 x10 x11 x12 x13; repeat' (first | exact RT.rn | ((first | refine' RT.rv ?_ rfl rfl rfl (by go_simp; first | done | with_reducible rfl | exact rfl) | refine' RT.rc ?_ (by exact rfl) (by exact rfl) (by exact rfl) (by go_simp; first | done | (constructor <;> with_reducible rfl) | with_reducible rfl) (by first | exact HW.out w' | exact HS0.out w' (HN.out.keep hk)) | refine' RT.rl ?_ rfl rfl rfl (by go_simp; first | done | with_reducible rfl | exact rfl) | refine' RT.rs ?_ rfl rfl); try simp only [Act.put, List.setIfInBounds_toArray, List.set_cons_zero, List.set_cons_succ])))))
      refine RT.pl_nil ⟨rfl, RT.stb H3.out rfl rfl rfl (by kernel_rfl), ?_⟩
      rintro W5 ⟨hk5, hX⟩
      have b1 := (hk5.block _ (block_lt H1.out) (by omega)).trans H1.out
      have hB := HB.out.trans (hk5.below HB.out.size (fun k hk => by omega))
      simp only [List.drop_succ_cons, List.drop_zero]
      clear hk5 x0 x1 x2 x3 x4 x5 x6 x7 x8 x9 x10 x11 x12 x13 HN HB H1 H3
      have H1 := Lib.hid b1; have HX := Lib.hid hX; have HB := Lib.hid hB
      clear b1 hX hB
      go_wp2_with fail
      go_roundw
      case rel => exact ⟨1, by decide, rfl, by rw [HY.out]; exact HX.out, H1.out, HB.out⟩
      case measure => first | done | (simp [intOf]; done) | (simp [intOf]; omega)
    · have HS0 := Lib.hid (fun w hn => HS.out 1 (by decide) w hn)
      have hi := HI.out 1
      rw [← hi] at HS0
      clear HS hi HI
      obtain ⟨Y, hY⟩ : ∃ Y, I 2 = Y := ⟨_, rfl⟩
      rw [hY] at HS0
      have HY := Lib.hid hY
      generalize I 1 = X at *
      clear hY
      have HN := Lib.hid hN; have HB := Lib.hid hB; have H1 := Lib.hid b1; have H3 := Lib.hid b3
      clear hN hB b1 b3
      go_wp2_with fail
      refine RT.wp_letter (fun k => k = g) (fun k => decide (6 ≤ k)) [0, 1, 2, 3, 4, 5, 6] 7 8 (RT.Stored wr g (suC Y) 31) rfl (by kernel_rfl) (by kernel_rfl) rfl (fun A B h hk => h.keep hk) ?_
      (apply RT.rat; (focus (intro w' w'' hk hk2; obtain ⟨k0,k1,k2,k3,k4,k5,k6,k7⟩ := look8 hk x0 x1 x2 x3 x4 x5 x6 x7; obtain ⟨k8,k9,k10,k11,k12,k13⟩ := look6 hk x8 x9 x10 x11 x12 x13; repeat' (first | exact RT.rn | ((first | refine' RT.rv ?_ rfl rfl rfl (by go_simp; first | done | with_reducible rfl | exact rfl) | refine' RT.rc ?_ (by exact rfl) (by exact rfl) (by exact rfl) (by go_simp; first | done | (constructor <;> with_reducible rfl) | with_reducible rfl) (by first | exact HW.out w' | exact HS0.out w' (HN.out.keep hk)) | refine' RT.rl ?_ rfl rfl rfl (by go_simp; first | done | with_reducible rfl | exact rfl) | refine' RT.rs ?_ rfl rfl); try simp only [Act.put, List.setIfInBounds_toArray, List.set_cons_zero, List.set_cons_succ])))))
      refine RT.pl_nil ⟨rfl, RT.stb H3.out rfl rfl rfl (by kernel_rfl), ?_⟩
      rintro W5 ⟨hk5, hX⟩
      have b1 := (hk5.block _ (block_lt H1.out) (by omega)).trans H1.out
      have hB := HB.out.trans (hk5.below HB.out.size (fun k hk => by omega))
      simp only [List.drop_succ_cons, List.drop_zero]
      clear hk5 x0 x1 x2 x3 x4 x5 x6 x7 x8 x9 x10 x11 x12 x13 HN HB H1 H3
      have H1 := Lib.hid b1; have HX := Lib.hid hX; have HB := Lib.hid hB
      clear b1 hX hB
      go_wp2_with fail
      go_roundw
      case rel => exact ⟨2, by decide, rfl, by rw [HY.out]; exact HX.out, H1.out, HB.out⟩
      case measure => first | done | (simp [intOf]; done) | (simp [intOf]; omega)
    · have HS0 := Lib.hid (fun w hn => HS.out 2 (by decide) w hn)
      have hi := HI.out 2
      rw [← hi] at HS0
      clear HS hi HI
      obtain ⟨Y, hY⟩ : ∃ Y, I 3 = Y := ⟨_, rfl⟩
      rw [hY] at HS0
      have HY := Lib.hid hY
      generalize I 2 = X at *
      clear hY
      have HN := Lib.hid hN; have HB := Lib.hid hB; have H1 := Lib.hid b1; have H3 := Lib.hid b3
      clear hN hB b1 b3
      go_wp2_with fail
      refine RT.wp_letter (fun k => k = g) (fun k => decide (6 ≤ k)) [0, 1, 2, 3, 4, 5, 6] 7 8 (RT.Stored wr g (suC Y) 31) rfl (by kernel_rfl) (by kernel_rfl) rfl (fun A B h hk => h.keep hk) ?_
      (apply RT.rat; (focus (intro w' w'' hk hk2; obtain ⟨k0,k1,k2,k3,k4,k5,k6,k7⟩ := look8 hk x0 x1 x2 x3 x4 x5 x6 x7; obtain ⟨k8,k9,k10,k11,k12,k13⟩ := look6 hk x8 x9 x10 x11 x12 x13; repeat' (first | exact RT.rn | ((first | refine' RT.rv ?_ rfl rfl rfl (by go_simp; first | done | with_reducible rfl | exact rfl) | refine' RT.rc ?_ (by exact rfl) (by exact rfl) (by exact rfl) (by go_simp; first | done | (constructor <;> with_reducible rfl) | with_reducible rfl) (by first | exact HW.out w' | exact HS0.out w' (HN.out.keep hk)) | refine' RT.rl ?_ rfl rfl rfl (by go_simp; first | done | with_reducible rfl | exact rfl) | refine' RT.rs ?_ rfl rfl); try simp only [Act.put, List.setIfInBounds_toArray, List.set_cons_zero, List.set_cons_succ])))))
      refine RT.pl_nil ⟨rfl, RT.stb H3.out rfl rfl rfl (by kernel_rfl), ?_⟩
      rintro W5 ⟨hk5, hX⟩
      have b1 := (hk5.block _ (block_lt H1.out) (by omega)).trans H1.out
      have hB := HB.out.trans (hk5.below HB.out.size (fun k hk => by omega))
      simp only [List.drop_succ_cons, List.drop_zero]
      clear hk5 x0 x1 x2 x3 x4 x5 x6 x7 x8 x9 x10 x11 x12 x13 HN HB H1 H3
      have H1 := Lib.hid b1; have HX := Lib.hid hX; have HB := Lib.hid hB
      clear b1 hX hB
      go_wp2_with fail
      go_roundw
      case rel => exact ⟨3, by decide, rfl, by rw [HY.out]; exact HX.out, H1.out, HB.out⟩
      case measure => first | done | (simp [intOf]; done) | (simp [intOf]; omega)
    · have hE := HE.out
      clear HS HI HE
      generalize I 3 = Y at *
      subst hE
      go_wp2_with (first | (refine lb b3 rfl rfl rfl (by kernel_rfl) ?_) | (refine sb b3 rfl rfl rfl rfl (by kernel_rfl) ?_) | (refine lb b1 rfl rfl rfl (by kernel_rfl) ?_) | (refine sb b1 rfl rfl rfl rfl (by kernel_rfl) ?_))
      exact bodyPost_ret (rcr rfl (srh b1) (by rfl) (by kernel_rfl)) rfl ⟨rfl, below_setRow hB (by omega) _⟩
end Go.Proofs.YtnaokijcggbfdaaGreatDoor
namespace Go.Proofs.YtnaokijcggbfdaaGreatDoor
open Go.RowKit Go.Shelf
attribute [local go_sem] Oper.semAt_some
theorem shown20_walk (F : Dw.Fl) (X X1 Y Z U : Dw.Su) (I : Nat → Dw.Su) (EE : Nat → Int) (w : World) (hn : NoneAt w)
    (hnew : ∀ w, Calls Tryz.prog 38 #[.int .i64 72, .int .i64 5] w fun e w' => e = .returned (flV F) ∧ Below w.heap.size w w')
    (hboot : ∀ w, NoneAt w → Calls Tryz.prog 15 #[flV F] w fun e w' => e = .returned (suV X) ∧ Below w.heap.size w w')
    (hc1 : ∀ w, NoneAt w → Calls Tryz.prog 12 #[suV X, cmV ⟨2, 0, 0, 0⟩, wholeV] w fun e w' => e = .returned (.tuple #[suV X1, .int .i64 25]) ∧ Below w.heap.size w w')
    (hst : ∀ w, NoneAt w → Calls Tryz.prog 39 #[flV F] w fun e w' => e = .returned (suV Y) ∧ Below w.heap.size w w')
    (hc2 : ∀ w, NoneAt w → Calls Tryz.prog 12 #[suV Y, cmV ⟨2, 0, 0, 0⟩, wholeV] w fun e w' => e = .returned (.tuple #[suV Z, .int .i64 0]) ∧ Below w.heap.size w w')
    (hc3 : ∀ w, NoneAt w → Calls Tryz.prog 12 #[suV Z, cmV ⟨1, 2, 0, 0⟩, .agg #[.int .i64 0, .string ⟨#[]⟩]] w fun e w' => e = .returned (.tuple #[suV U, .int .i64 26]) ∧ Below w.heap.size w w')
    (hb2 : ∀ w, NoneAt w → Calls Tryz.prog 15 #[flV U.f] w fun e w' => e = .returned (suV (I 0)) ∧ Below w.heap.size w w')
    (hsm : ∀ j, j < 3 → ∀ w, NoneAt w → Calls Tryz.prog 19 #[suV (I j), smV 4621819117588971520 0 4602678819172646912, wholeV] w fun e w' => e = .returned (.tuple #[suV (I (j + 1)), .int .i64 (EE j)]) ∧ Below w.heap.size w w')
    (hkp : ∀ w, NoneAt w → Calls Tryz.prog 40 #[suV Y] w fun e w' => e = .returned (.bool true) ∧ Below w.heap.size w w')
    (yph : Y.ph = 1) (zar : Z.s.ar = true) (uph : U.ph = 3) (vph : (I 3).ph = 1) (vs : (I 3).s = ⟨1, true, false, 0, 0, 0⟩) :
    Calls Tryz.prog 11 #[] w fun e w' => e = .returned (.bool true) ∧ Below w.heap.size w w' := by
  obtain ⟨yf, ys, yp, yv, yn⟩ := Y
  obtain ⟨zf, ⟨zm, za, zh, zla, zlo, zi⟩, zp, zv, zn⟩ := Z
  obtain ⟨uf, us, up, uv, un⟩ := U
  dsimp only at yph zar uph hb2
  subst yph; subst zar; subst uph
  have VPH := Lib.hid vph; have VS := Lib.hid vs
  clear vph vs
  have HNEW := Lib.hid hnew; have HBOOT := Lib.hid hboot; have HC1 := Lib.hid hc1; have HST := Lib.hid hst; have HC2 := Lib.hid hc2; have HC3 := Lib.hid hc3; have HB2 := Lib.hid hb2; have HSM := Lib.hid hsm; have HKP := Lib.hid hkp
  have HW := Lib.hid (fun w => whole20_any w)
  clear hnew hboot hc1 hst hc2 hc3 hb2 hsm hkp
  have hB := Below.refl w.heap.size w
  go_enter Tryz.func11, Tryz.ntmps11
  go_wp2_with fail
  refine cb (HNEW.out _) fun w1 hb => ?_
  replace hB := tr hB hb
  clear hb
  go_wp2_with fail
  refine cb (HBOOT.out _ (hn.next hB)) fun w2 hb => ?_
  replace hB := tr hB hb
  clear hb
  have bx := han w2 (.cells (suC X) 31)
  replace hB := hB.alloc hB.size (.cells (suC X) 31)
  obtain ⟨gx, hgx⟩ : ∃ g, w2.heap.size = g := ⟨_, rfl⟩
  obtain ⟨W2, hW2⟩ : ∃ W, w2.alloc (.cells (suC X) 31) = W := ⟨_, rfl⟩
  rw [hW2] at bx hB
  rw [hgx] at bx
  obtain ⟨⟨x0, x1, x2, x3, x4⟩, ⟨x5, x6, x7, x8, x9, x10⟩, x11, x12, x13⟩ := cells14 bx
  go_wp2_with fail
  clear hW2 hgx
  refine RT.wp_letter2 (fun j => W2.heap.size ≤ j) (fun k => decide (6 ≤ k)) [0, 1, 2, 3, 4, 5, 6] 7 8 9 (some 2) none (NewBlock W2 Z14 31) (fun v w2 w' => ∃ b, v = .pointer (some ⟨b, 0, none⟩) ∧ RT.Stored w2 b (suC X1) 31 w') rfl rfl rfl rfl (by kernel_rfl) (by kernel_rfl) (by kernel_rfl) rfl (fun v w2 A B h hk => by obtain ⟨b, e, h⟩ := h; exact ⟨b, e, h.keep hk⟩) ?_
  (apply RT.rat; (focus (intro w' w'' hk hk2; obtain ⟨k0,k1,k2,k3,k4,k5,k6,k7⟩ := look8 hk x0 x1 x2 x3 x4 x5 x6 x7; obtain ⟨k8,k9,k10,k11,k12,k13⟩ := look6 hk x8 x9 x10 x11 x12 x13; repeat' (first | exact RT.rn | ((first | refine' RT.rv ?_ rfl rfl rfl (by go_simp; first | done | with_reducible rfl | exact rfl) | refine' RT.rc ?_ (by exact rfl) (by exact rfl) (by exact rfl) (by go_simp; first | done | (constructor <;> with_reducible rfl) | with_reducible rfl) (by first | exact HW.out w' | exact HC1.out w' ((hn.next hB).keep hk)) | refine' RT.rl ?_ rfl rfl rfl (by go_simp; first | done | with_reducible rfl | exact rfl) | refine' RT.rs ?_ rfl rfl); try simp only [Act.put, List.setIfInBounds_toArray, List.set_cons_zero, List.set_cons_succ])))))
  refine RT.pl_nil ⟨rfl, sure_new (fun w' _ => by go_simp), ?_⟩
  rintro v W3 hk2 ⟨b, rfl, hb, hbc⟩
  refine ⟨rfl, RT.Stores.mono (fun k h => by rw [h]; exact hb) (fun w' h => ⟨b, rfl, h⟩) (RT.stb hbc rfl rfl rfl (by kernel_rfl)), ?_⟩
  rintro W4 ⟨b', hb', hst⟩
  obtain rfl : b = b' := by injection hb' with h; injection h with h; injection h with h
  obtain ⟨hk3, eb⟩ := hst
  clear hb' eb hbc
  simp only [List.drop_succ_cons, List.drop_zero, List.setIfInBounds_toArray, List.set_cons_zero, List.set_cons_succ]
  have hwb : w.heap.size ≤ b := by have := hB.size; omega
  replace hB := hB.trans (hk2.whole.mono hB.size)
  replace hB := hB.trans (hk3.below hB.size (fun k hk => by omega))
  clear hk2 hk3 x0 x1 x2 x3 x4 x5 x6 x7 x8 x9 x10 x11 x12 x13 bx hb HC1 HBOOT hwb
  go_wp2_with fail
  refine cb (HNEW.out _) fun w5 hb => ?_
  replace hB := tr hB hb
  clear hb
  go_wp2_with fail
  refine cb (HST.out _ (hn.next hB)) fun w6 hb => ?_
  replace hB := tr hB hb
  clear hb HNEW HST
  have bY := han w6 (.cells (suC ⟨yf, ys, 1, yv, yn⟩) 31)
  replace hB := hB.alloc hB.size (.cells (suC ⟨yf, ys, 1, yv, yn⟩) 31)
  obtain ⟨gy, hgy⟩ : ∃ g, w6.heap.size = g := ⟨_, rfl⟩
  obtain ⟨W6, hW6⟩ : ∃ W, w6.alloc (.cells (suC ⟨yf, ys, 1, yv, yn⟩) 31) = W := ⟨_, rfl⟩
  rw [hW6] at bY hB
  rw [hgy] at bY
  obtain ⟨⟨x0, x1, x2, x3, x4⟩, ⟨x5, x6, x7, x8, x9, x10⟩, x11, x12, x13⟩ := cells14 bY
  have HY := Lib.hid bY
  clear bY
  go_wp2_with fail
  clear hW6 hgy
  refine RT.wp_letter2 (fun j => W6.heap.size ≤ j) (fun k => decide (6 ≤ k)) [0, 1, 2, 3, 4, 5, 6] 7 8 9 (some 5) none (NewBlock W6 Z14 31) (fun v w2 w' => ∃ b, v = .pointer (some ⟨b, 0, none⟩) ∧ RT.Stored w2 b (suC ⟨zf, ⟨zm, true, zh, zla, zlo, zi⟩, zp, zv, zn⟩) 31 w') rfl rfl rfl rfl (by kernel_rfl) (by kernel_rfl) (by kernel_rfl) rfl (fun v w2 A B h hk => by obtain ⟨b, e, h⟩ := h; exact ⟨b, e, h.keep hk⟩) ?_
  (apply RT.rat; (focus (intro w' w'' hk hk2; obtain ⟨k0,k1,k2,k3,k4,k5,k6,k7⟩ := look8 hk x0 x1 x2 x3 x4 x5 x6 x7; obtain ⟨k8,k9,k10,k11,k12,k13⟩ := look6 hk x8 x9 x10 x11 x12 x13; repeat' (first | exact RT.rn | ((first | refine' RT.rv ?_ rfl rfl rfl (by go_simp; first | done | with_reducible rfl | exact rfl) | refine' RT.rc ?_ (by exact rfl) (by exact rfl) (by exact rfl) (by go_simp; first | done | (constructor <;> with_reducible rfl) | with_reducible rfl) (by first | exact HW.out w' | exact HC2.out w' ((hn.next hB).keep hk)) | refine' RT.rl ?_ rfl rfl rfl (by go_simp; first | done | with_reducible rfl | exact rfl) | refine' RT.rs ?_ rfl rfl); try simp only [Act.put, List.setIfInBounds_toArray, List.set_cons_zero, List.set_cons_succ])))))
  refine RT.pl_nil ⟨rfl, sure_new (fun w' _ => by go_simp), ?_⟩
  rintro v W7 hk2 ⟨bz, rfl, hb, hbc⟩
  refine ⟨rfl, RT.Stores.mono (fun k h => by rw [h]; exact hb) (fun w' h => ⟨bz, rfl, h⟩) (RT.stb hbc rfl rfl rfl (by kernel_rfl)), ?_⟩
  rintro W8 ⟨b', hb', hst⟩
  obtain rfl : bz = b' := by injection hb' with h; injection h with h; injection h with h
  obtain ⟨hk3, hZ⟩ := hst
  clear hb' hbc
  simp only [List.drop_succ_cons, List.drop_zero, List.setIfInBounds_toArray, List.set_cons_zero, List.set_cons_succ]
  have hwb : w.heap.size ≤ bz := by have := hB.size; omega
  have hyl := block_lt HY.out
  have hY7 := (hk2.block _ hyl id).trans HY.out
  have hY := (hk3.block _ (block_lt hY7) (by omega)).trans hY7
  replace hB := hB.trans (hk2.whole.mono hB.size)
  replace hB := hB.trans (hk3.below hB.size (fun k hk => by omega))
  clear hk2 hk3 x0 x1 x2 x3 x4 x5 x6 x7 x8 x9 x10 x11 x12 x13 hb HC2 HY hY7 hyl
  have HYh := Lib.hid hY
  clear hY
  go_wp2_with (first | (refine lb hZ rfl rfl rfl (by kernel_rfl) ?_) | (refine sb hZ rfl rfl rfl rfl (by kernel_rfl) ?_))
  refine cb (HC3.out _ (hn.next hB)) fun w9 hb => ?_
  have hY := kp hb HYh.out
  replace hZ := kp hb hZ
  replace hB := tr hB hb
  clear hb HC3 HYh
  have bU := han w9 (.cells (suC ⟨uf, us, 3, uv, un⟩) 31)
  replace hY := hao w9 (.cells (suC ⟨uf, us, 3, uv, un⟩) 31) hY
  replace hZ := hao w9 (.cells (suC ⟨uf, us, 3, uv, un⟩) 31) hZ
  replace hB := hB.alloc hB.size (.cells (suC ⟨uf, us, 3, uv, un⟩) 31)
  obtain ⟨gu, hgu⟩ : ∃ g, w9.heap.size = g := ⟨_, rfl⟩
  obtain ⟨W9, hW9⟩ : ∃ W, w9.alloc (.cells (suC ⟨uf, us, 3, uv, un⟩) 31) = W := ⟨_, rfl⟩
  rw [hW9] at bU hY hZ hB
  rw [hgu] at bU
  have HYh := Lib.hid hY; have HZh := Lib.hid hZ
  clear hY hZ
  go_wp2_with (first | (refine lp 25 0 (flC uf) bU rfl rfl rfl (by kernel_rfl) (by rfl) ?_))
  clear hW9 hgu
  refine cb (HB2.out _ (hn.next hB)) fun w10 hb => ?_
  have hY := kp hb HYh.out
  have hZ := kp hb HZh.out
  replace bU := kp hb bU
  replace hB := tr hB hb
  clear hb HB2 HYh HZh
  have hly := block_lt hY; have hlz := block_lt hZ; have hlu := block_lt bU
  have bV := han w10 (.cells (suC (I 0)) 31)
  replace hY := hao w10 (.cells (suC (I 0)) 31) hY
  replace hZ := hao w10 (.cells (suC (I 0)) 31) hZ
  replace bU := hao w10 (.cells (suC (I 0)) 31) bU
  have hwv := hB.size
  replace hB := hB.alloc hB.size (.cells (suC (I 0)) 31)
  obtain ⟨gv, hgv⟩ : ∃ g, w10.heap.size = g := ⟨_, rfl⟩
  obtain ⟨WV, hWV⟩ : ∃ W, w10.alloc (.cells (suC (I 0)) 31) = W := ⟨_, rfl⟩
  rw [hWV] at bV bU hY hZ hB
  rw [hgv] at bV hly hlz hlu hwv
  go_wp2_with fail
  clear hWV hgv
  go_loopw [10] (fun i wr => ∃ j : Nat, j ≤ 3 ∧ i = .int .i64 j ∧ wr.heap[gv]? = some (.cells (suC (I j)) 31 (0, 0)) ∧ wr.heap[gy]? = some (.cells (suC ⟨yf, ys, 1, yv, yn⟩) 31 (0, 0)) ∧ wr.heap[bz]? = some (.cells (suC ⟨zf, ⟨zm, true, zh, zla, zlo, zi⟩, zp, zv, zn⟩) 31 (0, 0)) ∧ wr.heap[gu]? = some (.cells (suC ⟨uf, us, 3, uv, un⟩) 31 (0, 0)) ∧ Below w.heap.size w wr) (fun i _ => 3 - (intOf i).toNat)
  case atStart => exact ⟨0, Nat.zero_le _, rfl, bV, hY, hZ, bU, hB⟩
  case round =>
    clear bV hY hZ bU hB
    obtain ⟨j, hj, rfl, bV, hY, hZ, bU, hB⟩ := hrel
    have hN := hn.next hB
    rcases (by omega : j = 0 ∨ j = 1 ∨ j = 2 ∨ j = 3) with rfl | rfl | rfl | rfl
    · obtain ⟨⟨x0, x1, x2, x3, x4⟩, ⟨x5, x6, x7, x8, x9, x10⟩, x11, x12, x13⟩ := cells14 bV
      have HS0 := Lib.hid (fun w hn => HSM.out 0 (by decide) w hn)
      clear HSM
      obtain ⟨Y1, hY1⟩ : ∃ Y, I 1 = Y := ⟨_, rfl⟩
      rw [show 0 + 1 = 1 from rfl, hY1] at HS0
      have HY1 := Lib.hid hY1
      generalize I 0 = X0 at *
      clear hY1
      have HN := Lib.hid hN; have HB := Lib.hid hB; have HYh := Lib.hid hY; have HZh := Lib.hid hZ; have HUh := Lib.hid bU; have HVh := Lib.hid bV
      clear hN hB hY hZ bU bV
      go_wp2_with fail
      refine RT.wp_letter (fun k => k = gv) (fun k => decide (6 ≤ k)) [0, 1, 2, 3, 4, 5, 6] 7 8 (RT.Stored wr gv (suC Y1) 31) rfl (by kernel_rfl) (by kernel_rfl) rfl (fun A B h hk => h.keep hk) ?_
      (apply RT.rat; (focus (intro w' w'' hk hk2; obtain ⟨k0,k1,k2,k3,k4,k5,k6,k7⟩ := look8 hk x0 x1 x2 x3 x4 x5 x6 x7; obtain ⟨k8,k9,k10,k11,k12,k13⟩ := look6 hk x8 x9 x10 x11 x12 x13; repeat' (first | exact RT.rn | ((first | refine' RT.rv ?_ rfl rfl rfl (by go_simp; first | done | with_reducible rfl | exact rfl) | refine' RT.rc ?_ (by exact rfl) (by exact rfl) (by exact rfl) (by go_simp; first | done | (constructor <;> with_reducible rfl) | with_reducible rfl) (by first | exact HW.out w' | exact HS0.out w' (HN.out.keep hk)) | refine' RT.rl ?_ rfl rfl rfl (by go_simp; first | done | with_reducible rfl | exact rfl) | refine' RT.rs ?_ rfl rfl); try simp only [Act.put, List.setIfInBounds_toArray, List.set_cons_zero, List.set_cons_succ])))))
      refine RT.pl_nil ⟨rfl, RT.stb HVh.out rfl rfl rfl (by kernel_rfl), ?_⟩
      rintro W5 ⟨hk5, hX⟩
      have hY := (hk5.block _ (block_lt HYh.out) (by omega)).trans HYh.out
      have hZ := (hk5.block _ (block_lt HZh.out) (by omega)).trans HZh.out
      have bU := (hk5.block _ (block_lt HUh.out) (by omega)).trans HUh.out
      have hB := HB.out.trans (hk5.below HB.out.size (fun k hk => by omega))
      simp only [List.drop_succ_cons, List.drop_zero]
      clear hk5 x0 x1 x2 x3 x4 x5 x6 x7 x8 x9 x10 x11 x12 x13 HN HB HYh HZh HUh HVh
      have HYh := Lib.hid hY; have HX := Lib.hid hX; have HB := Lib.hid hB; have HZh := Lib.hid hZ; have HUh := Lib.hid bU
      clear hY hX hB hZ bU
      go_wp2_with fail
      go_roundw
      case rel => exact ⟨1, by decide, rfl, by rw [HY1.out]; exact HX.out, HYh.out, HZh.out, HUh.out, HB.out⟩
      case measure => first | done | (simp [intOf]; done) | (simp [intOf]; omega)
    · obtain ⟨⟨x0, x1, x2, x3, x4⟩, ⟨x5, x6, x7, x8, x9, x10⟩, x11, x12, x13⟩ := cells14 bV
      have HS0 := Lib.hid (fun w hn => HSM.out 1 (by decide) w hn)
      clear HSM
      obtain ⟨Y1, hY1⟩ : ∃ Y, I 2 = Y := ⟨_, rfl⟩
      rw [show 1 + 1 = 2 from rfl, hY1] at HS0
      have HY1 := Lib.hid hY1
      generalize I 1 = X0 at *
      clear hY1
      have HN := Lib.hid hN; have HB := Lib.hid hB; have HYh := Lib.hid hY; have HZh := Lib.hid hZ; have HUh := Lib.hid bU; have HVh := Lib.hid bV
      clear hN hB hY hZ bU bV
      go_wp2_with fail
      refine RT.wp_letter (fun k => k = gv) (fun k => decide (6 ≤ k)) [0, 1, 2, 3, 4, 5, 6] 7 8 (RT.Stored wr gv (suC Y1) 31) rfl (by kernel_rfl) (by kernel_rfl) rfl (fun A B h hk => h.keep hk) ?_
      (apply RT.rat; (focus (intro w' w'' hk hk2; obtain ⟨k0,k1,k2,k3,k4,k5,k6,k7⟩ := look8 hk x0 x1 x2 x3 x4 x5 x6 x7; obtain ⟨k8,k9,k10,k11,k12,k13⟩ := look6 hk x8 x9 x10 x11 x12 x13; repeat' (first | exact RT.rn | ((first | refine' RT.rv ?_ rfl rfl rfl (by go_simp; first | done | with_reducible rfl | exact rfl) | refine' RT.rc ?_ (by exact rfl) (by exact rfl) (by exact rfl) (by go_simp; first | done | (constructor <;> with_reducible rfl) | with_reducible rfl) (by first | exact HW.out w' | exact HS0.out w' (HN.out.keep hk)) | refine' RT.rl ?_ rfl rfl rfl (by go_simp; first | done | with_reducible rfl | exact rfl) | refine' RT.rs ?_ rfl rfl); try simp only [Act.put, List.setIfInBounds_toArray, List.set_cons_zero, List.set_cons_succ])))))
      refine RT.pl_nil ⟨rfl, RT.stb HVh.out rfl rfl rfl (by kernel_rfl), ?_⟩
      rintro W5 ⟨hk5, hX⟩
      have hY := (hk5.block _ (block_lt HYh.out) (by omega)).trans HYh.out
      have hZ := (hk5.block _ (block_lt HZh.out) (by omega)).trans HZh.out
      have bU := (hk5.block _ (block_lt HUh.out) (by omega)).trans HUh.out
      have hB := HB.out.trans (hk5.below HB.out.size (fun k hk => by omega))
      simp only [List.drop_succ_cons, List.drop_zero]
      clear hk5 x0 x1 x2 x3 x4 x5 x6 x7 x8 x9 x10 x11 x12 x13 HN HB HYh HZh HUh HVh
      have HYh := Lib.hid hY; have HX := Lib.hid hX; have HB := Lib.hid hB; have HZh := Lib.hid hZ; have HUh := Lib.hid bU
      clear hY hX hB hZ bU
      go_wp2_with fail
      go_roundw
      case rel => exact ⟨2, by decide, rfl, by rw [HY1.out]; exact HX.out, HYh.out, HZh.out, HUh.out, HB.out⟩
      case measure => first | done | (simp [intOf]; done) | (simp [intOf]; omega)
    · obtain ⟨⟨x0, x1, x2, x3, x4⟩, ⟨x5, x6, x7, x8, x9, x10⟩, x11, x12, x13⟩ := cells14 bV
      have HS0 := Lib.hid (fun w hn => HSM.out 2 (by decide) w hn)
      clear HSM
      obtain ⟨Y1, hY1⟩ : ∃ Y, I 3 = Y := ⟨_, rfl⟩
      rw [show 2 + 1 = 3 from rfl, hY1] at HS0
      have HY1 := Lib.hid hY1
      generalize I 2 = X0 at *
      clear hY1
      have HN := Lib.hid hN; have HB := Lib.hid hB; have HYh := Lib.hid hY; have HZh := Lib.hid hZ; have HUh := Lib.hid bU; have HVh := Lib.hid bV
      clear hN hB hY hZ bU bV
      go_wp2_with fail
      refine RT.wp_letter (fun k => k = gv) (fun k => decide (6 ≤ k)) [0, 1, 2, 3, 4, 5, 6] 7 8 (RT.Stored wr gv (suC Y1) 31) rfl (by kernel_rfl) (by kernel_rfl) rfl (fun A B h hk => h.keep hk) ?_
      (apply RT.rat; (focus (intro w' w'' hk hk2; obtain ⟨k0,k1,k2,k3,k4,k5,k6,k7⟩ := look8 hk x0 x1 x2 x3 x4 x5 x6 x7; obtain ⟨k8,k9,k10,k11,k12,k13⟩ := look6 hk x8 x9 x10 x11 x12 x13; repeat' (first | exact RT.rn | ((first | refine' RT.rv ?_ rfl rfl rfl (by go_simp; first | done | with_reducible rfl | exact rfl) | refine' RT.rc ?_ (by exact rfl) (by exact rfl) (by exact rfl) (by go_simp; first | done | (constructor <;> with_reducible rfl) | with_reducible rfl) (by first | exact HW.out w' | exact HS0.out w' (HN.out.keep hk)) | refine' RT.rl ?_ rfl rfl rfl (by go_simp; first | done | with_reducible rfl | exact rfl) | refine' RT.rs ?_ rfl rfl); try simp only [Act.put, List.setIfInBounds_toArray, List.set_cons_zero, List.set_cons_succ])))))
      refine RT.pl_nil ⟨rfl, RT.stb HVh.out rfl rfl rfl (by kernel_rfl), ?_⟩
      rintro W5 ⟨hk5, hX⟩
      have hY := (hk5.block _ (block_lt HYh.out) (by omega)).trans HYh.out
      have hZ := (hk5.block _ (block_lt HZh.out) (by omega)).trans HZh.out
      have bU := (hk5.block _ (block_lt HUh.out) (by omega)).trans HUh.out
      have hB := HB.out.trans (hk5.below HB.out.size (fun k hk => by omega))
      simp only [List.drop_succ_cons, List.drop_zero]
      clear hk5 x0 x1 x2 x3 x4 x5 x6 x7 x8 x9 x10 x11 x12 x13 HN HB HYh HZh HUh HVh
      have HYh := Lib.hid hY; have HX := Lib.hid hX; have HB := Lib.hid hB; have HZh := Lib.hid hZ; have HUh := Lib.hid bU
      clear hY hX hB hZ bU
      go_wp2_with fail
      go_roundw
      case rel => exact ⟨3, by decide, rfl, by rw [HY1.out]; exact HX.out, HYh.out, HZh.out, HUh.out, HB.out⟩
      case measure => first | done | (simp [intOf]; done) | (simp [intOf]; omega)
    · have vph := VPH.out; have vs := VS.out
      clear VPH VS HSM HW
      generalize I 3 = Y3 at *
      obtain ⟨vf, vs', vp, vv, vn⟩ := Y3
      dsimp only at vph vs
      subst vph; subst vs
      obtain ⟨-, -, x11, -, -⟩ := cells14 hY
      go_wp2_with (first | (refine wpList_load_block_on rfl 31 _ rfl rfl hY Tryz.underlying31 rfl (by kernel_rfl) ?_))
      refine cb (HKP.out _ hN) fun wk hb => ?_
      replace hZ := kp hb hZ
      replace bU := kp hb bU
      replace bV := kp hb bV
      replace hB := tr hB hb
      clear hb HKP hY x11 hN
      obtain ⟨-, ⟨-, z6, -⟩, -⟩ := cells14 hZ
      obtain ⟨-, -, u11, -⟩ := cells14 bU
      obtain ⟨-, -, v11, -⟩ := cells14 bV
      have hst : ∀ x y, (do eqGuard .eql 27 x y (stV ⟨1, true, false, 0, 0, 0⟩) (stV ⟨1, true, false, 0, 0, 0⟩); binOp .eql 27 (stV ⟨1, true, false, 0, 0, 0⟩) (stV ⟨1, true, false, 0, 0, 0⟩) : Sem Value).run Tryz.prog wk = .ok (.bool true) wk := fun x y => (st_eq x y _ _ wk).trans (by simp)
      have HST3 := Lib.hid hst
      clear hst
      go_wp2_with (first | (refine wpList_load_part_on rfl 27 _ rfl 5 (stC ⟨1, true, false, 0, 0, 0⟩) rfl bV Tryz.underlying27 rfl (by kernel_rfl) (by rfl) ?_) | (refine wpList_bin_on rfl .eql 27 _ _ _ rfl (stV ⟨1, true, false, 0, 0, 0⟩) (stV ⟨1, true, false, 0, 0, 0⟩) (.bool true) rfl rfl (HST3.out _ _) ?_))
      go_ret
      exact ⟨rfl, hB⟩
end Go.Proofs.YtnaokijcggbfdaaGreatDoor
namespace Go.Proofs.YtnaokijcggbfdaaGreatDoor
open Go.RowKit Go.Shelf
theorem Dw.boot_f (f : Dw.Fl) : (Dw.boot f).f = f := rfl
theorem shown20_any (w : World) (hn : NoneAt w) :
    Calls Tryz.prog 11 #[] w fun e w' => e = .returned (.bool true) ∧ Below w.heap.size w w' := by
  have okY : Dw.FlOk Dw.y20.f := by unfold Dw.y20; rw [Dw.itS_three]; exact Dw.itS_ok 1 (by rw [Dw.boot_f]; exact Dw.ok20) 3
  have leY : Dw.legal Dw.y20.s = true := by unfold Dw.y20; rw [Dw.itS_three]; exact Dw.itS_legal 1 (Dw.boot_legal _) 3
  have okZ : Dw.FlOk Dw.z20.f := Dw.commandX_ok okY _ _
  have leZ : Dw.legal Dw.z20.s = true := Dw.command_legal leY _ _
  have okU : Dw.FlOk Dw.u20.f := Dw.commandX_ok okZ _ _
  have okV : Dw.FlOk (Dw.boot Dw.u20.f).f := by rw [Dw.boot_f]; exact okU
  have e0 : ∀ k, Dw.itS (Dw.boot Dw.u20.f) 2 (k + 1) = Dw.sampleX (Dw.itS (Dw.boot Dw.u20.f) 2 k) 2 Dw.whole := fun _ => Dw.itS_succ _ _ _
  have e3 : Dw.itS (Dw.boot Dw.u20.f) 2 3 = Dw.v20 := (Dw.itS_three _ _).symm
  refine shown20_walk Dw.g20 (Dw.boot Dw.g20) (Dw.commandX (Dw.boot Dw.g20) Dw.arm20 Dw.whole) Dw.y20 Dw.z20 Dw.u20 (Dw.itS (Dw.boot Dw.u20.f) 2) (fun j => Dw.sampleE (Dw.itS (Dw.boot Dw.u20.f) 2 j) 2 Dw.whole) w hn
    (fun w => new_any 72 5 (by decide) (by decide) w) (fun w hn => boot_any Dw.g20 Dw.ok20 w hn) (fun w hn => ?_) (fun w hn => stood20_any Dw.g20 Dw.ok20 w hn) (fun w hn => ?_) (fun w hn => ?_) (fun w hn => boot_any Dw.u20.f okU w hn) (fun j _ w hn => ?_) (fun w hn => ?_) Dw.ev20b.1 Dw.ev20c.2 Dw.ev20d.2 ?_ ?_
  · have := scommand_any (Dw.boot Dw.g20) Dw.arm20 Dw.whole Dw.ok20 (Dw.boot_legal _) (by decide) (by decide) w hn
    rw [Dw.ev20a] at this
    exact this
  · have := scommand_any Dw.y20 Dw.arm20 Dw.whole okY leY (by decide) (by decide) w hn
    rw [Dw.ev20c.1] at this
    exact this
  · have := scommand_any Dw.z20 Dw.go20 Dw.cut20 okZ leZ (by decide) (by decide) w hn
    rw [Dw.ev20d.1] at this
    exact this
  · rw [e0]
    exact sampleV (Dw.itS (Dw.boot Dw.u20.f) 2 j) _ 0 _ (by decide) 2 Dw.vote20b (Dw.itS_ok 2 okV j) (Dw.itS_legal 2 (Dw.boot_legal _) j) w hn
  · have := skept_any Dw.y20 okY leY w hn
    rw [Dw.ev20b.2] at this
    exact this
  · rw [e3]; exact Dw.ev20e.1
  · rw [e3]; exact Dw.ev20e.2
end Go.Proofs.YtnaokijcggbfdaaGreatDoor
namespace Go.Proofs.YtnaokijcggbfdaaGreatDoor
open Go.RowKit Go.Shelf
namespace Dw
structure FlR (f : Fl) : Prop where
  li : f.li ≤ 9223372036854775807
  e0 : -9223372036854775808 ≤ f.e0
  e1 : -9223372036854775808 ≤ f.e1
theorem flOk_of {f : Fl} (h : FlR f) (hb : big f.a f.b = false) : FlOk f := by
  unfold big at hb
  have := of_decide_eq_false hb
  exact ⟨by omega, by omega, h.li, h.e0, h.e1⟩
end Dw
end Go.Proofs.YtnaokijcggbfdaaGreatDoor
namespace Go.Proofs.YtnaokijcggbfdaaGreatDoor
open Go.RowKit Go.Shelf
attribute [local go_sem] Oper.semAt_some
theorem setRow_alloc (w : World) (z c : Array Value) (t : TypeId) (fr : Nat × Nat) : (w.alloc (.cells z t fr)).setRow w.heap.size c = w.alloc (.cells c t fr) := by
  unfold World.setRow World.alloc
  congr 1
  apply Array.ext
  · simp
  · intro i h1 h2
    simp only [Array.size_modify, Array.size_push] at h1
    rw [Array.getElem_modify, Array.getElem_push, Array.getElem_push]
    by_cases e : i < w.heap.size
    · rw [dif_pos e, dif_pos e, if_neg (by omega)]
    · rw [dif_neg e, dif_neg e, if_pos (by omega)]
section
variable {P : Program} {ops : Array Oper} {rest : List Oper} {o o2 : Oper} {a : Act} {w : World} {Q : Exit → Act → World → Prop} {z c : Array Value} {t : TypeId} {v : Operand} {d : Tmp}
theorem nb (hg : o.guard = none) (hd : o.dst = some d) (hop : o2.op = .store t (.tmp d) v) (hg2 : o2.guard = none) (ha : (execOp a.eval o).run P w = .ok (.value (.pointer (some ⟨w.heap.size, 0, none⟩))) (w.alloc (.cells z t)))
    (hp : (a.put (some d) (.pointer (some ⟨w.heap.size, 0, none⟩))).eval (.tmp d) = .pointer (some ⟨w.heap.size, 0, none⟩)) (hv : (a.put (some d) (.pointer (some ⟨w.heap.size, 0, none⟩))).eval v = .agg c) (hi : fits P t z c = true)
    (h : wpList P ops Q rest ((a.put (some d) (.pointer (some ⟨w.heap.size, 0, none⟩))).put o2.dst undef) (w.alloc (.cells c t))) : wpList P ops Q (o :: o2 :: rest) a w := by
  obtain ⟨h1, h2, h3⟩ := fits_spec hi
  refine wpList_plain hg fun K hK => ?_
  unfold Oper.wp
  rw [ha]
  show K (a.put o.dst (.pointer (some ⟨w.heap.size, 0, none⟩))) (w.alloc (.cells z t))
  rw [hd]
  exact hK _ _ (wpList_store_block hg2 t (.tmp d) v hop hp hv (han w (.cells z t)) h1 h2 h3 (by rw [setRow_alloc]; exact h))
theorem lbo {b : Nat} {t' : TypeId} {fr : Nat × Nat} {p : Operand} (hb : w.heap[b]? = some (.cells c t' fr)) (hg : Region.wanted o (yielded ops a.tmps) = true) (hop : o.op = .load t' p) (hp : a.eval p = .pointer (some ⟨b, 0, none⟩)) (hd : rowOk P t' c.size = true) (h : wpList P ops Q rest (a.put o.dst (.agg c)) w) : wpList P ops Q (o :: rest) a w := by
  obtain ⟨d, hu, ⟨_, rfl⟩ | ⟨_, _, rfl⟩, hi⟩ := rowOk_spec hd <;> exact wpList_load_block_on hg t' p hop hp hb hu rfl hi h
theorem bno {op : BinOp} {t t2 : TypeId} {x y : Operand} {vx vy u : Value} (hr : (do eqGuard op t x y vx vy; binOp op t vx vy : Sem Value).run P w = .ok u w) (hg : Region.wanted o (yielded ops a.tmps) = true) (hop : o.op = .binOp op t x y t2) (hx : a.eval x = vx) (hy : a.eval y = vy)
    (h : wpList P ops Q rest (a.put o.dst u) w) : wpList P ops Q (o :: rest) a w := wpList_bin_on hg op t t2 x y hop vx vy u hx hy hr h
end
theorem wp_new {P : Program} {ops : Array Oper} {R : Exit → Act → World → Prop} {id : Nat} {a : Act} {w : World} (late : Nat → Bool) (ks : List Nat) (l1 l k : Nat) (d : Tmp) (c z : Array Value) (T : TypeId) {ol1 ol : Oper} {p x : Operand} (hol1 : ops[l1]? = some ol1) (hd1 : ol1.dst = some d) (hol : ops[l]? = some ol) (hd : ol.dst = none) (hop : ol.op = .store T p x)
    (hfit : fits P T z c = true) (hm : P.follows .mixedOrders = true) (hok : RT.regionOk ops late (Region.before ops) (ks ++ [l1]) [l] (List.range' k (ops.size - k)) = true) (hbl : behind (Region.before ops) l l1 = true) (hsz : ops.size = ks.length + 1 + 1 + (ops.size - k))
    (h : RT.PureList P ops (fun j => w.heap.size ≤ j) late w (fun a' => Region.wanted ol1 (yielded ops a'.tmps) = true ∧ (∀ w', Keep w w' → (execOp a'.eval ol1).run P w' = .ok (.value (.pointer (some ⟨w'.heap.size, 0, none⟩))) (w'.alloc (.cells z T))) ∧ ∀ b,
      (Region.wanted ol (yielded ops (a'.put (some d) (.pointer (some ⟨b, 0, none⟩))).tmps) = true ∧ (a'.put (some d) (.pointer (some ⟨b, 0, none⟩))).eval p = .pointer (some ⟨b, 0, none⟩) ∧ (a'.put (some d) (.pointer (some ⟨b, 0, none⟩))).eval x = .agg c) ∧
      ∀ W', Keep w W' → w.heap.size ≤ b → W'.heap[b]? = some (.cells c T) → wpList P ops R (ops.toList.drop k) ((a'.put (some d) (.pointer (some ⟨b, 0, none⟩))).put none undef) W') ks a) : (Code.region id ops true).wp P R a w := by
  refine RT.wp_letter2 (fun j => w.heap.size ≤ j) late ks l1 l k (some d) none (NewBlock w z T) (fun v w2 w' => ∃ b, v = .pointer (some ⟨b, 0, none⟩) ∧ RT.Stored w2 b c T w' ∧ Keep w w2) hol1 hd1 hol hd hm hok hbl hsz (fun v w2 A B h hk => by obtain ⟨b, e, h, h'⟩ := h; exact ⟨b, e, h.keep hk, h'⟩) ?_
  refine RT.PureList.mono (fun a' ⟨hw, hs, hN⟩ => ⟨hw, sure_new hs, fun v w2 hk hg => ?_⟩) h
  obtain ⟨b, rfl, hb, hbc⟩ := hg
  obtain ⟨⟨g1, g2, g3⟩, g4⟩ := hN b
  obtain ⟨f1, f2, f3⟩ := fits_spec hfit
  refine ⟨g1, RT.Stores.mono (fun k h => by rw [h]; exact hb) (fun w' h => ⟨b, rfl, h, hk⟩) (RT.stores_block T p x hop g2 g3 hbc f1 f2 f3), ?_⟩
  rintro W' ⟨b', e, hst, hk'⟩
  obtain rfl : b = b' := by injection e with h; injection h with h; injection h
  refine g4 W' ⟨hst.1.os.trans hk'.os, hst.1.tape.trans hk'.tape, hst.1.output.trans hk'.output, Nat.le_trans hk'.size hst.1.size, fun j hj _ => ?_⟩ hb hst.2
  exact (hst.1.block j (Nat.lt_of_lt_of_le hj hk'.size) (by omega)).trans (hk'.block j hj (fun h => h))
theorem su_noself (s : Dw.Su) (u v : Operand) (w : World) : (do eqGuard .neq 31 u v (suV s) (suV s); binOp .neq 31 (suV s) (suV s) : Sem Value).run Tryz.prog w = .ok (.bool false) w := by rw [su_neq, Dw.suEq_refl]; rfl
theorem su_self (y : Dw.Su) (u v : Operand) (w : World) : (do eqGuard .eql 31 u v (suV y) (suV y); binOp .eql 31 (suV y) (suV y) : Sem Value).run Tryz.prog w = .ok (.bool true) w := by
  rw [su_eq, Dw.suEq_refl]
end Go.Proofs.YtnaokijcggbfdaaGreatDoor
namespace Go.Proofs.YtnaokijcggbfdaaGreatDoor
open Go.RowKit Go.Shelf
section
variable {P : Program} {ops : Array Oper} {rest : List Oper} {o o2 : Oper} {a : Act} {w : World} {Q : Exit → Act → World → Prop} {z c : Array Value} {t : TypeId} {v : Operand} {d : Tmp}
theorem lbq {b : Nat} {t' : TypeId} {fr : Nat × Nat} {p : Operand} (hb : w.heap[b]? = some (.cells c t' fr)) (hop : o.op = .load t' p) (hp : a.eval p = .pointer (some ⟨b, 0, none⟩)) (hg : Region.wanted o (yielded ops a.tmps) = true) (hd : rowOk P t' c.size = true) (h : wpList P ops Q rest (a.put o.dst (.agg c)) w) : wpList P ops Q (o :: rest) a w :=
  lbo hb hg hop hp hd h
theorem bnq {op : BinOp} {t t2 : TypeId} {x y : Operand} {vx vy u : Value} (hr : (do eqGuard op t x y vx vy; binOp op t vx vy : Sem Value).run P w = .ok u w) (hop : o.op = .binOp op t x y t2) (hx : a.eval x = vx) (hy : a.eval y = vy) (hg : Region.wanted o (yielded ops a.tmps) = true)
    (h : wpList P ops Q rest (a.put o.dst u) w) : wpList P ops Q (o :: rest) a w := bno hr hg hop hx hy h
end
end Go.Proofs.YtnaokijcggbfdaaGreatDoor
