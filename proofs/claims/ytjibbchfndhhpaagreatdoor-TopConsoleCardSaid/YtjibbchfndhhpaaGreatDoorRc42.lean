/- What the statement's proof stands on, part 42: Scr3, TopA, TopB. -/
import Derived.Test.YtjibbchfndhhpaaGreatDoorRc41
import Derived.Test.YtjibbchfndhhpaaGreatDoorRc26
import Derived.Test.YtjibbchfndhhpaaGreatDoorRc36
import Derived.Test.YtjibbchfndhhpaaGreatDoorRc29
set_option linter.unusedSimpArgs false
set_option linter.unusedVariables false
set_option maxRecDepth 100000
set_option maxHeartbeats 4000000
namespace Go.Proofs.YtjibbchfndhhpaaGreatDoor
open Go.RowKit Go.Shelf
attribute [local go_sem] Oper.semAt_some
abbrev fliC (x : Dw.Su) (v : Value) : Array Value := #[.string ⟨x.f.a.toArray⟩, .string ⟨x.f.b.toArray⟩, .int .i64 x.f.e0, .int .i64 x.f.e1, .int .i64 x.f.li, .int .i64 x.s.mo, .bool x.s.ar, .bool x.s.ho, .int .i64 x.s.la, .int .i64 x.s.lo, .int .i64 x.s.iso, .int .i64 x.ph, .int .i64 x.vo, .int .i64 x.n, v]
abbrev fliV (x : Dw.Su) (v : Value) : Value := .agg #[.string ⟨x.f.a.toArray⟩, .string ⟨x.f.b.toArray⟩, .int .i64 x.f.e0, .int .i64 x.f.e1, .int .i64 x.f.li, .int .i64 x.s.mo, .bool x.s.ar, .bool x.s.ho, .int .i64 x.s.la, .int .i64 x.s.lo, .int .i64 x.s.iso, .int .i64 x.ph, .int .i64 x.vo, .int .i64 x.n, v]
abbrev Z15 : Array Value := #[.string ⟨#[]⟩, .string ⟨#[]⟩, .int .i64 0, .int .i64 0, .int .i64 0, .int .i64 0, .bool false, .bool false, .int .i64 0, .int .i64 0, .int .i64 0, .int .i64 0, .int .i64 0, .int .i64 0, .slice none 0 0]
abbrev repC (r : Dw.Rep) : Array Value := #[.int .i64 r.e, .int .i64 r.ph, .int .i64 r.s.mo, .bool r.s.ar, .bool r.s.ho, .int .i64 r.s.la, .int .i64 r.s.lo, .int .i64 r.s.iso]
def repCells (l : List Dw.Rep) : List Value := l.flatMap fun r => (repC r).toList
abbrev RepsAt (w : World) (v : Value) (l : List Dw.Rep) : Prop := w.ownsRow 0 173 8 v l.length (repCells l)
theorem reps_next {w w' : World} {v : Value} {l : List Dw.Rep} (h : RepsAt w v l) (hb : Below w.heap.size w w') : RepsAt w' v l := by
  obtain ⟨hl, h | ⟨g, cap, cur, he, h0, hg, hr⟩⟩ := h
  · exact ⟨hl, .inl h⟩
  · exact ⟨hl, .inr ⟨g, cap, cur, he, h0, kp hb hg, hr⟩⟩
theorem reps_low {w : World} {B n : Nat} {v : Value} {l : List Dw.Rep} (h : w.ownsRow B 173 8 v n (repCells l)) (hn : n = l.length) : RepsAt w v l := by
  subst hn
  obtain ⟨hl, h | ⟨g, cap, cur, he, h0, hg, hr⟩⟩ := h
  · exact ⟨hl, .inl h⟩
  · exact ⟨hl, .inr ⟨g, cap, cur, he, Nat.zero_le _, hg, hr⟩⟩
theorem repCells_len (l : List Dw.Rep) : (repCells l).length = l.length * 8 := by
  induction l with
  | nil => rfl
  | cons r l ih =>
    show ((repC r).toList ++ repCells l).length = _
    have h8 : (repC r).toList.length = 8 := rfl
    rw [List.length_append, ih, h8, show (r :: l).length = l.length + 1 from rfl]
    omega
theorem repCells_snoc (l : List Dw.Rep) (r : Dw.Rep) : repCells (l ++ [r]) = repCells l ++ (repC r).toList := by unfold repCells; simp
theorem new_bad (n : Nat) (hn : n ≤ 400) (l : Int) (hl : l < 0 ∨ 1000 < l) (w : World) :
    Calls Tryz.prog 33 #[.int .i64 n, .int .i64 l] w fun e w' => e = .returned (flashV [] [] 0 0 0) ∧ Below w.heap.size w w' := by
  have hB0 := (Below.refl w.heap.size w).alloc (Nat.le_refl _) (.cells (flashC [] [] 0 0 0) 41)
  have hC0 := han w (.cells (flashC [] [] 0 0 0) 41)
  have n1 : ¬ (n : Int) < 0 := by omega
  have n2 : ¬ (400 : Int) < (n : Int) := by omega
  rcases hl with hl | hl
  · go_enter Tryz.func33, Tryz.ntmps33
    go_wp2_with (first | (refine lb hC0 rfl rfl rfl (by kernel_rfl) ?_) | (refine sb hC0 rfl rfl rfl rfl (by kernel_rfl) ?_))
    exact bodyPost_ret (rcr rfl (srh hC0) (by rfl) (by kernel_rfl)) rfl ⟨rfl, below_setRow hB0 (Nat.le_refl _) _⟩
  · have n3 : ¬ l < 0 := by omega
    go_enter Tryz.func33, Tryz.ntmps33
    go_wp2_with (first | (refine lb hC0 rfl rfl rfl (by kernel_rfl) ?_) | (refine sb hC0 rfl rfl rfl rfl (by kernel_rfl) ?_))
    exact bodyPost_ret (rcr rfl (srh hC0) (by rfl) (by kernel_rfl)) rfl ⟨rfl, below_setRow hB0 (Nat.le_refl _) _⟩
theorem newF_any (n li : Int) (w : World) :
    Calls Tryz.prog 33 #[.int .i64 (Dw.size n), .int .i64 li] w fun e w' => e = .returned (flV (Dw.newF n li)) ∧ Below w.heap.size w w' := by
  obtain ⟨m, hm, hm4⟩ : ∃ m : Nat, Dw.size n = (m : Int) ∧ m ≤ 400 := by
    unfold Dw.size
    split
    · exact ⟨(24 * n + 24).toNat, by omega, by omega⟩
    · exact ⟨0, rfl, by omega⟩
  rw [hm]
  unfold Dw.newF
  by_cases hl : li < 0 ∨ 1000 < li
  · rw [if_pos hl]
    exact new_bad m hm4 li hl w
  · rw [if_neg hl]
    obtain ⟨l, rfl⟩ : ∃ l : Nat, li = (l : Int) := ⟨li.toNat, by omega⟩
    have h := new_any m l hm4 (by omega) w
    unfold Dw.size at hm
    by_cases hn : 1 ≤ n ∧ n ≤ 12
    · rw [if_pos hn] at hm ⊢
      obtain rfl : m = 24 * n.toNat + 24 := by omega
      exact h
    · rw [if_neg hn] at hm ⊢
      obtain rfl : m = 0 := by omega
      exact h
theorem begin_any (n li : Int) (w : World) (hn : NoneAt w) :
    Calls Tryz.prog 15 #[.int .i64 n, .int .i64 li] w fun e w' => e = .returned (fliV (Dw.beginF n li).x (.slice none 0 0)) ∧ Below w.heap.size w w' := by
  obtain ⟨V, hV⟩ : ∃ V, w.alloc (.cells Z15 48) = V := ⟨_, rfl⟩
  have b0 := han w (.cells Z15 48)
  have hB := (Below.refl w.heap.size w).alloc (Nat.le_refl _) (.cells Z15 48)
  rw [hV] at b0 hB
  have HS := Lib.hid (fun w => lsize_any n w)
  have HN := Lib.hid (fun w => newF_any n li w)
  have HBt := Lib.hid (fun w hn => boot_any (Dw.newF n li) (Dw.newF_ok n li) w hn)
  rw [show Dw.boot (Dw.newF n li) = (Dw.beginF n li).x from rfl] at HBt
  generalize (Dw.beginF n li).x = X at *
  generalize Dw.newF n li = F at *
  generalize Dw.size n = sz at *
  go_enter Tryz.func15, Tryz.ntmps15
  go_wp2_with fail
  try rw [hV]
  clear hV
  refine cb (HS.out _) fun w1 hb => ?_
  replace b0 := kp hb b0; replace hB := tr hB hb; clear hb HS
  go_wp2_with fail
  refine cb (HN.out _) fun w2 hb => ?_
  replace b0 := kp hb b0; replace hB := tr hB hb; clear hb HN
  go_wp2_with fail
  refine cb (HBt.out _ (hn.next hB)) fun w3 hb => ?_
  replace b0 := kp hb b0; replace hB := tr hB hb; clear hb HBt
  go_wp2_with (first | (refine sb b0 rfl rfl rfl rfl (by kernel_rfl) ?_))
  exact bodyPost_ret (rcr rfl (srh b0) (by rfl) (by kernel_rfl)) rfl ⟨rfl, below_setRow hB (Nat.le_refl _) _⟩
theorem twhole_any (w : World) :
    Calls Tryz.prog 23 #[] w fun e w' => e = .returned wholeV ∧ Below w.heap.size w w' := by
  have hB := (Below.refl w.heap.size w).alloc (Nat.le_refl _) (.cells #[.int .i64 0, .string ⟨#[]⟩] 51)
  have b0 := han w (.cells #[.int .i64 0, .string ⟨#[]⟩] 51)
  go_enter Tryz.func23, Tryz.ntmps23
  go_wp2_with (first | (refine lb b0 rfl rfl rfl (by kernel_rfl) ?_) | (refine sb b0 rfl rfl rfl rfl (by kernel_rfl) ?_))
  exact bodyPost_ret (rcr rfl (srh b0) (by rfl) (by kernel_rfl)) rfl ⟨rfl, below_setRow hB (Nat.le_refl _) _⟩
theorem tair_any (w : World) :
    Calls Tryz.prog 26 #[] w fun e w' => e = .returned (smV 4621819117588971520 4621819117588971520 0) ∧ Below w.heap.size w w' := by
  have hB := (Below.refl w.heap.size w).alloc (Nat.le_refl _) (.cells (smC 0 0 0) 72)
  have b0 := han w (.cells (smC 0 0 0) 72)
  go_enter Tryz.func26, Tryz.ntmps26
  go_wp2_with (first | (refine sb (c' := smC 4621819117588971520 4621819117588971520 0) b0 rfl rfl rfl rfl (by kernel_rfl) ?_))
  exact bodyPost_ret (rcr rfl (srh b0) (by rfl) (by kernel_rfl)) rfl ⟨rfl, below_setRow hB (Nat.le_refl _) _⟩
theorem tseen_any (x : Dw.Su) (a b c : Nat) (hb : b < 18446744073709551616) (hf : Dw.FlOk x.f) (hl : Dw.legal x.s = true) (w : World) (hn : NoneAt w) :
    Calls Tryz.prog 24 #[suV x, smV a b c] w fun e w' => e = .returned (suV (Dw.seen3 x (Dw.voteI a b c))) ∧ Below w.heap.size w w' := by
  obtain ⟨v, hv⟩ : ∃ v, Dw.voteI a b c = v := ⟨_, rfl⟩
  have HS := Lib.hid (fun (j : Nat) (_ : j < 3) w hn => sampleV (Dw.itS x v j) a b c hb v hv (Dw.itS_ok v hf j) (Dw.itS_legal v hl j) w hn)
  have HI := Lib.hid (Dw.itS_succ x v)
  have HE := Lib.hid (Dw.itS_three x v)
  have h0 := Dw.itS_zero x v
  have HW := Lib.hid (fun w => twhole_any w)
  rw [hv]
  clear hf hl hb hv
  generalize Dw.seen3 x v = R at *
  generalize Dw.itS x v = I at *
  subst h0
  obtain ⟨V, hV⟩ : ∃ V, ((w.alloc (.cells (suC (I 0)) 45)).alloc (.cells (smC a b c) 72)).alloc (.cells Z14 45) = V := ⟨_, rfl⟩
  obtain ⟨vz, hB, b3, bs, b1⟩ := alloc3 w _ _ _ V hV
  go_enter Tryz.func24, Tryz.ntmps24
  go_wp2_with fail
  try rw [hV]
  clear hV vz
  go_loopw [5] (fun i wr => ∃ j : Nat, j ≤ 3 ∧ i = .int .i64 j ∧ wr.heap[w.heap.size]? = some (.cells (suC (I j)) 45 (0, 0)) ∧ wr.heap[w.heap.size + 1]? = some (.cells (smC a b c) 72 (0, 0)) ∧ wr.heap[w.heap.size + 2]? = some (.cells Z14 45 (0, 0)) ∧ Below w.heap.size w wr) (fun i _ => 3 - (intOf i).toNat)
  case atStart => exact ⟨0, Nat.zero_le _, rfl, b3, bs, b1, hB⟩
  case round =>
    clear b1 b3 bs hB
    obtain ⟨j, hj, rfl, b3, bs, b1, hB⟩ := hrel
    have hN := hn.next hB
    rcases (by omega : j = 0 ∨ j = 1 ∨ j = 2 ∨ j = 3) with rfl | rfl | rfl | rfl
    · obtain ⟨⟨x0, x1, x2, x3, x4⟩, ⟨x5, x6, x7, x8, x9, x10⟩, x11, x12, x13⟩ := cells14 b3
      obtain ⟨s0, s1, s2⟩ : wr.cell? ⟨w.heap.size + 1, 0, none⟩ = some (.float .f64 a) ∧ wr.cell? ⟨w.heap.size + 1, 1, none⟩ = some (.float .f64 b) ∧ wr.cell? ⟨w.heap.size + 1, 2, none⟩ = some (.float .f64 c) := by simp [cell_of_row _ _ _ _ _ _ bs]
      have HS0 := Lib.hid (fun w hn => HS.out 0 (by decide) w hn)
      have hi := HI.out 0
      rw [← hi] at HS0
      clear HS hi HI
      obtain ⟨Y, hY⟩ : ∃ Y, I 1 = Y := ⟨_, rfl⟩
      rw [hY] at HS0
      have HY := Lib.hid hY
      generalize I 0 = X at *
      clear hY
      have HN := Lib.hid hN; have HB := Lib.hid hB; have H1 := Lib.hid b1; have H3 := Lib.hid b3; have HSm := Lib.hid bs
      clear hN hB b1 b3 bs
      go_wp2_with fail
      refine RT.wp_letter (fun k => k = w.heap.size) (fun k => decide (6 ≤ k)) [0, 1, 2, 3, 4, 5, 6] 7 8 (RT.Stored wr w.heap.size (suC Y) 45) rfl (by kernel_rfl) (by kernel_rfl) rfl (fun A B h hk => h.keep hk) ?_
      (apply RT.rat; (focus (intro w' w'' hk hk2; obtain ⟨k0,k1,k2,k3,k4,k5,k6,k7⟩ := look8 hk x0 x1 x2 x3 x4 x5 x6 x7; obtain ⟨k8,k9,k10,k11,k12,k13,l0,l1⟩ := look8 hk x8 x9 x10 x11 x12 x13 s0 s1; have l2 := look hk s2; repeat' (first | exact RT.rn | ((first | refine' RT.rv ?_ rfl rfl rfl (by go_simp; first | done | with_reducible rfl | exact rfl) | refine' RT.rc ?_ (by exact rfl) (by exact rfl) (by exact rfl) (by go_simp; first | done | (constructor <;> with_reducible rfl) | with_reducible rfl) (by first | exact HW.out w' | exact HS0.out w' (HN.out.keep hk)) | refine' RT.rl ?_ rfl rfl rfl (by go_simp; first | done | with_reducible rfl | exact rfl) | refine' RT.rs ?_ rfl rfl); try simp only [Act.put, List.setIfInBounds_toArray, List.set_cons_zero, List.set_cons_succ])))))
      refine RT.pl_nil ⟨rfl, RT.stb H3.out rfl rfl rfl (by kernel_rfl), ?_⟩
      rintro W5 ⟨hk5, hX⟩
      have b1 := (hk5.block _ (block_lt H1.out) (by omega)).trans H1.out
      have bs := (hk5.block _ (block_lt HSm.out) (by omega)).trans HSm.out
      have hB := HB.out.trans (hk5.below HB.out.size (fun k hk => by omega))
      simp only [List.drop_succ_cons, List.drop_zero, Act.put, List.setIfInBounds_toArray, List.set_cons_zero, List.set_cons_succ]
      clear hk5 x0 x1 x2 x3 x4 x5 x6 x7 x8 x9 x10 x11 x12 x13 s0 s1 s2 HN HB H1 H3 HSm
      have H1 := Lib.hid b1; have HX := Lib.hid hX; have HB := Lib.hid hB; have HSm := Lib.hid bs
      clear b1 hX hB bs
      go_wp2_with fail
      go_roundw
      case rel => exact ⟨1, by decide, rfl, by rw [HY.out]; exact HX.out, HSm.out, H1.out, HB.out⟩
      case measure => first | done | (simp [intOf]; done) | (simp [intOf]; omega)
    · obtain ⟨⟨x0, x1, x2, x3, x4⟩, ⟨x5, x6, x7, x8, x9, x10⟩, x11, x12, x13⟩ := cells14 b3
      obtain ⟨s0, s1, s2⟩ : wr.cell? ⟨w.heap.size + 1, 0, none⟩ = some (.float .f64 a) ∧ wr.cell? ⟨w.heap.size + 1, 1, none⟩ = some (.float .f64 b) ∧ wr.cell? ⟨w.heap.size + 1, 2, none⟩ = some (.float .f64 c) := by simp [cell_of_row _ _ _ _ _ _ bs]
      have HS0 := Lib.hid (fun w hn => HS.out 1 (by decide) w hn)
      have hi := HI.out 1
      rw [← hi] at HS0
      clear HS hi HI
      obtain ⟨Y, hY⟩ : ∃ Y, I 2 = Y := ⟨_, rfl⟩
      rw [hY] at HS0
      have HY := Lib.hid hY
      generalize I 1 = X at *
      clear hY
      have HN := Lib.hid hN; have HB := Lib.hid hB; have H1 := Lib.hid b1; have H3 := Lib.hid b3; have HSm := Lib.hid bs
      clear hN hB b1 b3 bs
      go_wp2_with fail
      refine RT.wp_letter (fun k => k = w.heap.size) (fun k => decide (6 ≤ k)) [0, 1, 2, 3, 4, 5, 6] 7 8 (RT.Stored wr w.heap.size (suC Y) 45) rfl (by kernel_rfl) (by kernel_rfl) rfl (fun A B h hk => h.keep hk) ?_
      (apply RT.rat; (focus (intro w' w'' hk hk2; obtain ⟨k0,k1,k2,k3,k4,k5,k6,k7⟩ := look8 hk x0 x1 x2 x3 x4 x5 x6 x7; obtain ⟨k8,k9,k10,k11,k12,k13,l0,l1⟩ := look8 hk x8 x9 x10 x11 x12 x13 s0 s1; have l2 := look hk s2; repeat' (first | exact RT.rn | ((first | refine' RT.rv ?_ rfl rfl rfl (by go_simp; first | done | with_reducible rfl | exact rfl) | refine' RT.rc ?_ (by exact rfl) (by exact rfl) (by exact rfl) (by go_simp; first | done | (constructor <;> with_reducible rfl) | with_reducible rfl) (by first | exact HW.out w' | exact HS0.out w' (HN.out.keep hk)) | refine' RT.rl ?_ rfl rfl rfl (by go_simp; first | done | with_reducible rfl | exact rfl) | refine' RT.rs ?_ rfl rfl); try simp only [Act.put, List.setIfInBounds_toArray, List.set_cons_zero, List.set_cons_succ])))))
      refine RT.pl_nil ⟨rfl, RT.stb H3.out rfl rfl rfl (by kernel_rfl), ?_⟩
      rintro W5 ⟨hk5, hX⟩
      have b1 := (hk5.block _ (block_lt H1.out) (by omega)).trans H1.out
      have bs := (hk5.block _ (block_lt HSm.out) (by omega)).trans HSm.out
      have hB := HB.out.trans (hk5.below HB.out.size (fun k hk => by omega))
      simp only [List.drop_succ_cons, List.drop_zero, Act.put, List.setIfInBounds_toArray, List.set_cons_zero, List.set_cons_succ]
      clear hk5 x0 x1 x2 x3 x4 x5 x6 x7 x8 x9 x10 x11 x12 x13 s0 s1 s2 HN HB H1 H3 HSm
      have H1 := Lib.hid b1; have HX := Lib.hid hX; have HB := Lib.hid hB; have HSm := Lib.hid bs
      clear b1 hX hB bs
      go_wp2_with fail
      go_roundw
      case rel => exact ⟨2, by decide, rfl, by rw [HY.out]; exact HX.out, HSm.out, H1.out, HB.out⟩
      case measure => first | done | (simp [intOf]; done) | (simp [intOf]; omega)
    · obtain ⟨⟨x0, x1, x2, x3, x4⟩, ⟨x5, x6, x7, x8, x9, x10⟩, x11, x12, x13⟩ := cells14 b3
      obtain ⟨s0, s1, s2⟩ : wr.cell? ⟨w.heap.size + 1, 0, none⟩ = some (.float .f64 a) ∧ wr.cell? ⟨w.heap.size + 1, 1, none⟩ = some (.float .f64 b) ∧ wr.cell? ⟨w.heap.size + 1, 2, none⟩ = some (.float .f64 c) := by simp [cell_of_row _ _ _ _ _ _ bs]
      have HS0 := Lib.hid (fun w hn => HS.out 2 (by decide) w hn)
      have hi := HI.out 2
      rw [← hi] at HS0
      clear HS hi HI
      obtain ⟨Y, hY⟩ : ∃ Y, I 3 = Y := ⟨_, rfl⟩
      rw [hY] at HS0
      have HY := Lib.hid hY
      generalize I 2 = X at *
      clear hY
      have HN := Lib.hid hN; have HB := Lib.hid hB; have H1 := Lib.hid b1; have H3 := Lib.hid b3; have HSm := Lib.hid bs
      clear hN hB b1 b3 bs
      go_wp2_with fail
      refine RT.wp_letter (fun k => k = w.heap.size) (fun k => decide (6 ≤ k)) [0, 1, 2, 3, 4, 5, 6] 7 8 (RT.Stored wr w.heap.size (suC Y) 45) rfl (by kernel_rfl) (by kernel_rfl) rfl (fun A B h hk => h.keep hk) ?_
      (apply RT.rat; (focus (intro w' w'' hk hk2; obtain ⟨k0,k1,k2,k3,k4,k5,k6,k7⟩ := look8 hk x0 x1 x2 x3 x4 x5 x6 x7; obtain ⟨k8,k9,k10,k11,k12,k13,l0,l1⟩ := look8 hk x8 x9 x10 x11 x12 x13 s0 s1; have l2 := look hk s2; repeat' (first | exact RT.rn | ((first | refine' RT.rv ?_ rfl rfl rfl (by go_simp; first | done | with_reducible rfl | exact rfl) | refine' RT.rc ?_ (by exact rfl) (by exact rfl) (by exact rfl) (by go_simp; first | done | (constructor <;> with_reducible rfl) | with_reducible rfl) (by first | exact HW.out w' | exact HS0.out w' (HN.out.keep hk)) | refine' RT.rl ?_ rfl rfl rfl (by go_simp; first | done | with_reducible rfl | exact rfl) | refine' RT.rs ?_ rfl rfl); try simp only [Act.put, List.setIfInBounds_toArray, List.set_cons_zero, List.set_cons_succ])))))
      refine RT.pl_nil ⟨rfl, RT.stb H3.out rfl rfl rfl (by kernel_rfl), ?_⟩
      rintro W5 ⟨hk5, hX⟩
      have b1 := (hk5.block _ (block_lt H1.out) (by omega)).trans H1.out
      have bs := (hk5.block _ (block_lt HSm.out) (by omega)).trans HSm.out
      have hB := HB.out.trans (hk5.below HB.out.size (fun k hk => by omega))
      simp only [List.drop_succ_cons, List.drop_zero, Act.put, List.setIfInBounds_toArray, List.set_cons_zero, List.set_cons_succ]
      clear hk5 x0 x1 x2 x3 x4 x5 x6 x7 x8 x9 x10 x11 x12 x13 s0 s1 s2 HN HB H1 H3 HSm
      have H1 := Lib.hid b1; have HX := Lib.hid hX; have HB := Lib.hid hB; have HSm := Lib.hid bs
      clear b1 hX hB bs
      go_wp2_with fail
      go_roundw
      case rel => exact ⟨3, by decide, rfl, by rw [HY.out]; exact HX.out, HSm.out, H1.out, HB.out⟩
      case measure => first | done | (simp [intOf]; done) | (simp [intOf]; omega)
    · have hE := HE.out
      clear HS HI HE
      generalize I 3 = Y at *
      subst hE
      go_wp2_with (first | (refine lb b3 rfl rfl rfl (by kernel_rfl) ?_) | (refine sb b1 rfl rfl rfl rfl (by kernel_rfl) ?_))
      exact bodyPost_ret (rcr rfl (srh b1) (by rfl) (by kernel_rfl)) rfl ⟨rfl, below_setRow hB (by omega) _⟩
theorem tstood_any (n li : Int) (w : World) (hn : NoneAt w) :
    Calls Tryz.prog 21 #[.int .i64 n, .int .i64 li] w fun e w' => e = .returned (suV (Dw.seen3 (Dw.boot (Dw.newF n li)) 1)) ∧ Below w.heap.size w w' := by
  obtain ⟨V, hV⟩ : ∃ V, w.alloc (.cells Z14 45) = V := ⟨_, rfl⟩
  have b0 := han w (.cells Z14 45)
  have hB := (Below.refl w.heap.size w).alloc (Nat.le_refl _) (.cells Z14 45)
  rw [hV] at b0 hB
  have HS := Lib.hid (fun w => rsize_any n w)
  have HN := Lib.hid (fun w => newF_any n li w)
  have HBt := Lib.hid (fun w hn => boot_any (Dw.newF n li) (Dw.newF_ok n li) w hn)
  have HSe := Lib.hid (fun w hn => tseen_any (Dw.boot (Dw.newF n li)) 0 0 0 (by decide) (Dw.newF_ok n li) (Dw.boot_legal _) w hn)
  rw [Dw.vote20] at HSe
  generalize Dw.seen3 (Dw.boot (Dw.newF n li)) 1 = R at *
  generalize Dw.boot (Dw.newF n li) = X at *
  generalize Dw.newF n li = F at *
  generalize Dw.size n = sz at *
  go_enter Tryz.func21, Tryz.ntmps21
  go_wp2_with fail
  try rw [hV]
  clear hV
  refine cb (HS.out _) fun w1 hb => ?_
  replace b0 := kp hb b0; replace hB := tr hB hb; clear hb HS
  go_wp2_with fail
  refine cb (HN.out _) fun w2 hb => ?_
  replace b0 := kp hb b0; replace hB := tr hB hb; clear hb HN
  go_wp2_with fail
  refine cb (HBt.out _ (hn.next hB)) fun w3 hb => ?_
  replace b0 := kp hb b0; replace hB := tr hB hb; clear hb HBt
  go_wp2_with fail
  refine cb (HSe.out _ (hn.next hB)) fun w4 hb => ?_
  replace b0 := kp hb b0; replace hB := tr hB hb; clear hb HSe
  go_wp2_with (first | (refine sb b0 rfl rfl rfl rfl (by kernel_rfl) ?_))
  exact bodyPost_ret (rcr rfl (srh b0) (by rfl) (by kernel_rfl)) rfl ⟨rfl, below_setRow hB (Nat.le_refl _) _⟩
theorem tshown_walk (X A B BB Y Z : Dw.Su) (w : World) (hn : NoneAt w)
    (hst : ∀ w, NoneAt w → Calls Tryz.prog 21 #[.int .i64 4, .int .i64 9] w fun e w' => e = .returned (suV X) ∧ Below w.heap.size w w')
    (hc1 : ∀ w, NoneAt w → Calls Tryz.prog 22 #[suV X, cmV ⟨2, 0, 0, 0⟩, wholeV] w fun e w' => e = .returned (.tuple #[suV A, .int .i64 0]) ∧ Below w.heap.size w w')
    (hc2 : ∀ w, NoneAt w → Calls Tryz.prog 22 #[suV A, cmV ⟨1, 2, 0, 0⟩, wholeV] w fun e w' => e = .returned (.tuple #[suV B, .int .i64 0]) ∧ Below w.heap.size w w')
    (hbt : ∀ w, NoneAt w → Calls Tryz.prog 25 #[flV B.f] w fun e w' => e = .returned (suV BB) ∧ Below w.heap.size w w')
    (hs1 : ∀ w, NoneAt w → Calls Tryz.prog 24 #[suV BB, smV 4621819117588971520 4621819117588971520 0] w fun e w' => e = .returned (suV Y) ∧ Below w.heap.size w w')
    (hs2 : ∀ w, NoneAt w → Calls Tryz.prog 24 #[suV BB, smV 0 0 0] w fun e w' => e = .returned (suV Z) ∧ Below w.heap.size w w')
    (hy : Y.ph = 1 ∧ Y.s.mo = 2 ∧ Y.s.ar = true) (hz : Z.ph = 1 ∧ Z.s.mo = 0 ∧ Z.s.ar = false) :
    Calls Tryz.prog 8 #[] w fun e w' => e = .returned (.bool true) ∧ Below w.heap.size w w' := by
  obtain ⟨yf, ⟨ym, ya, yh, yla, ylo, yi⟩, yp, yv, yn⟩ := Y
  obtain ⟨zf, ⟨zm, za, zh, zla, zlo, zi⟩, zp, zv, zn⟩ := Z
  obtain ⟨BF, BS, bp, bv, bn⟩ := B
  dsimp only at hy hz hbt
  obtain ⟨rfl, rfl, rfl⟩ := hy
  obtain ⟨rfl, rfl, rfl⟩ := hz
  have HST := Lib.hid hst; have HC1 := Lib.hid hc1; have HC2 := Lib.hid hc2; have HBT := Lib.hid hbt; have HS1 := Lib.hid hs1; have HS2 := Lib.hid hs2
  have HW := Lib.hid (fun w => twhole_any w); have HA := Lib.hid (fun w => tair_any w)
  clear hst hc1 hc2 hbt hs1 hs2
  have hB := Below.refl w.heap.size w
  go_enter Tryz.func8, Tryz.ntmps8
  go_wp2_with fail
  refine cb (HST.out _ hn) fun w1 hb => ?_
  replace hB := tr hB hb
  clear hb HST
  obtain ⟨g1, hg1⟩ : ∃ g, w1.heap.size = g := ⟨_, rfl⟩
  obtain ⟨W1, hW1⟩ : ∃ W, w1.alloc (.cells (suC X) 45) = W := ⟨_, rfl⟩
  have b1 : W1.heap[g1]? = some (.cells (suC X) 45) := by rw [← hW1, ← hg1]; exact han _ _
  have hb : Below w1.heap.size w1 W1 := by rw [← hW1]; exact (Below.refl _ w1).alloc (Nat.le_refl _) _
  have hgw : w.heap.size ≤ g1 := by rw [← hg1]; exact hB.size
  replace hB := tr hB hb
  clear hb
  go_wp2_with fail
  clear hW1 hg1
  obtain ⟨⟨x0, x1, x2, x3, x4⟩, ⟨x5, x6, x7, x8, x9, x10⟩, x11, x12, x13⟩ := cells14 b1
  have H1 := Lib.hid b1; have HN := Lib.hid (hn.next hB); have HB := Lib.hid hB
  clear b1 hB
  refine RT.wp_letter (fun k => k = g1) (fun k => decide (6 ≤ k)) [0, 1, 2, 3, 4, 5, 6] 7 8 (RT.Stored W1 g1 (suC A) 45) rfl (by kernel_rfl) (by kernel_rfl) rfl (fun A B h hk => h.keep hk) ?_
  (apply RT.rat; (focus (intro w' w'' hk hk2; obtain ⟨k0,k1,k2,k3,k4,k5,k6,k7⟩ := look8 hk x0 x1 x2 x3 x4 x5 x6 x7; obtain ⟨k8,k9,k10,k11,k12,k13⟩ := look6 hk x8 x9 x10 x11 x12 x13; repeat' (first | exact RT.rn | ((first | refine' RT.rv ?_ rfl rfl rfl (by go_simp; first | done | with_reducible rfl | exact rfl) | refine' RT.rc ?_ (by exact rfl) (by exact rfl) (by exact rfl) (by go_simp; first | done | (constructor <;> with_reducible rfl) | with_reducible rfl) (by first | exact HW.out w' | exact HC1.out w' (HN.out.keep hk)) | refine' RT.rl ?_ rfl rfl rfl (by go_simp; first | done | with_reducible rfl | exact rfl) | refine' RT.rs ?_ rfl rfl); try simp only [Act.put, List.setIfInBounds_toArray, List.set_cons_zero, List.set_cons_succ])))))
  refine RT.pl_nil ⟨rfl, RT.stb H1.out rfl rfl rfl (by kernel_rfl), ?_⟩
  rintro W2 ⟨hk5, b1⟩
  have hB := HB.out.trans (hk5.below HB.out.size (fun k hk => by omega))
  simp only [List.drop_succ_cons, List.drop_zero, Act.put, List.setIfInBounds_toArray, List.set_cons_zero, List.set_cons_succ]
  clear hk5 x0 x1 x2 x3 x4 x5 x6 x7 x8 x9 x10 x11 x12 x13 H1 HN HB HC1
  obtain ⟨⟨x0, x1, x2, x3, x4⟩, ⟨x5, x6, x7, x8, x9, x10⟩, x11, x12, x13⟩ := cells14 b1
  have H1 := Lib.hid b1; have HN := Lib.hid (hn.next hB); have HB := Lib.hid hB
  clear b1 hB
  go_wp2_with fail
  refine RT.wp_letter (fun k => k = g1) (fun k => decide (6 ≤ k)) [0, 1, 2, 3, 4, 5, 6] 7 8 (RT.Stored W2 g1 (suC ⟨BF, BS, bp, bv, bn⟩) 45) rfl (by kernel_rfl) (by kernel_rfl) rfl (fun A B h hk => h.keep hk) ?_
  (apply RT.rat; (focus (intro w' w'' hk hk2; obtain ⟨k0,k1,k2,k3,k4,k5,k6,k7⟩ := look8 hk x0 x1 x2 x3 x4 x5 x6 x7; obtain ⟨k8,k9,k10,k11,k12,k13⟩ := look6 hk x8 x9 x10 x11 x12 x13; repeat' (first | exact RT.rn | ((first | refine' RT.rv ?_ rfl rfl rfl (by go_simp; first | done | with_reducible rfl | exact rfl) | refine' RT.rc ?_ (by exact rfl) (by exact rfl) (by exact rfl) (by go_simp; first | done | (constructor <;> with_reducible rfl) | with_reducible rfl) (by first | exact HW.out w' | exact HC2.out w' (HN.out.keep hk)) | refine' RT.rl ?_ rfl rfl rfl (by go_simp; first | done | with_reducible rfl | exact rfl) | refine' RT.rs ?_ rfl rfl); try simp only [Act.put, List.setIfInBounds_toArray, List.set_cons_zero, List.set_cons_succ])))))
  refine RT.pl_nil ⟨rfl, RT.stb H1.out rfl rfl rfl (by kernel_rfl), ?_⟩
  rintro W3 ⟨hk5, b1⟩
  have hB := HB.out.trans (hk5.below HB.out.size (fun k hk => by omega))
  simp only [List.drop_succ_cons, List.drop_zero, Act.put, List.setIfInBounds_toArray, List.set_cons_zero, List.set_cons_succ]
  clear hk5 x0 x1 x2 x3 x4 x5 x6 x7 x8 x9 x10 x11 x12 x13 H1 HN HB HC2
  go_wp2_with (first | (refine lp 41 0 (flC BF) b1 rfl rfl rfl (by kernel_rfl) (by rfl) ?_))
  refine cb (HBT.out _ (hn.next hB)) fun u1 hb => ?_
  replace b1 := kp hb b1; replace hB := tr hB hb
  clear hb
  go_wp2_with fail
  refine cb (HA.out _) fun u2 hb => ?_
  replace b1 := kp hb b1; replace hB := tr hB hb
  clear hb
  go_wp2_with fail
  refine cb (HS1.out _ (hn.next hB)) fun u3 hb => ?_
  replace b1 := kp hb b1; replace hB := tr hB hb
  clear hb
  obtain ⟨g4, hg4⟩ : ∃ g, u3.heap.size = g := ⟨_, rfl⟩
  obtain ⟨W4, hW4⟩ : ∃ W, u3.alloc (.cells (suC ⟨yf, ⟨2, true, yh, yla, ylo, yi⟩, 1, yv, yn⟩) 45) = W := ⟨_, rfl⟩
  have bY : W4.heap[g4]? = some (.cells (suC ⟨yf, ⟨2, true, yh, yla, ylo, yi⟩, 1, yv, yn⟩) 45) := by rw [← hW4, ← hg4]; exact han _ _
  have hb : Below u3.heap.size u3 W4 := by rw [← hW4]; exact (Below.refl _ u3).alloc (Nat.le_refl _) _
  replace b1 := kp hb b1; replace hB := tr hB hb
  clear hb
  go_wp2_with (first | (refine lp 41 0 (flC BF) b1 rfl rfl rfl (by kernel_rfl) (by rfl) ?_))
  refine cb (HBT.out _ (hn.next hB)) fun u1 hb => ?_
  replace b1 := kp hb b1; replace hB := tr hB hb; replace bY := kp hb bY
  clear hb
  go_wp2_with fail
  refine cb (HS2.out _ (hn.next hB)) fun u5 hb => ?_
  replace b1 := kp hb b1; replace hB := tr hB hb; replace bY := kp hb bY
  clear hb
  clear b1 hW4
  obtain ⟨g5, hg5⟩ : ∃ g, u5.heap.size = g := ⟨_, rfl⟩
  obtain ⟨W5, hW5⟩ : ∃ W, u5.alloc (.cells (suC ⟨zf, ⟨0, false, zh, zla, zlo, zi⟩, 1, zv, zn⟩) 45) = W := ⟨_, rfl⟩
  have bZ : W5.heap[g5]? = some (.cells (suC ⟨zf, ⟨0, false, zh, zla, zlo, zi⟩, 1, zv, zn⟩) 45) := by rw [← hW5, ← hg5]; exact han _ _
  have hb : Below u5.heap.size u5 W5 := by rw [← hW5]; exact (Below.refl _ u5).alloc (Nat.le_refl _) _
  replace bY := kp hb bY; replace hB := tr hB hb
  obtain ⟨-, ⟨y5, y6, -⟩, y11, -, -⟩ := cells14 bY
  obtain ⟨-, ⟨z5, z6, -⟩, z11, -, -⟩ := cells14 bZ
  have HB := Lib.hid hB
  clear hb bY bZ hB
  go_wp2_with fail
  go_ret
  exact ⟨rfl, HB.out⟩
theorem boot_fT (f : Dw.Fl) : (Dw.boot f).f = f := rfl
theorem tshown_any (w : World) (hn : NoneAt w) :
    Calls Tryz.prog 8 #[] w fun e w' => e = .returned (.bool true) ∧ Below w.heap.size w w' := by
  have okX : Dw.FlOk Dw.xT.f := by unfold Dw.xT; rw [Dw.itS_three]; exact Dw.itS_ok 1 (by rw [boot_fT]; exact Dw.newF_ok 4 9) 3
  have leX : Dw.legal Dw.xT.s = true := by unfold Dw.xT; rw [Dw.itS_three]; exact Dw.itS_legal 1 (Dw.boot_legal _) 3
  have okA : Dw.FlOk Dw.aT.f := Dw.commandX_ok okX _ _
  have leA : Dw.legal Dw.aT.s = true := Dw.command_legal leX _ _
  have okB : Dw.FlOk Dw.bT.f := Dw.commandX_ok okA _ _
  have okC : Dw.FlOk (Dw.boot Dw.bT.f).f := by rw [boot_fT]; exact okB
  refine tshown_walk Dw.xT Dw.aT Dw.bT (Dw.boot Dw.bT.f) Dw.yT Dw.zT w hn (fun w hn => tstood_any 4 9 w hn) (fun w hn => ?_) (fun w hn => ?_) (fun w hn => boot_any Dw.bT.f okB w hn) (fun w hn => ?_) (fun w hn => ?_) Dw.evTc Dw.evTd
  · have := scommand_any Dw.xT Dw.arm20 Dw.whole okX leX (by decide) (by decide) w hn
    rw [Dw.evTa] at this
    exact this
  · have := scommand_any Dw.aT Dw.goT Dw.whole okA leA (by decide) (by decide) w hn
    rw [Dw.evTb] at this
    exact this
  · have := tseen_any (Dw.boot Dw.bT.f) 4621819117588971520 4621819117588971520 0 (by decide) okC (Dw.boot_legal _) w hn
    rw [Dw.voteT] at this
    exact this
  · have := tseen_any (Dw.boot Dw.bT.f) 0 0 0 (by decide) okC (Dw.boot_legal _) w hn
    rw [Dw.vote20] at this
    exact this
end Go.Proofs.YtjibbchfndhhpaaGreatDoor
