/- The walk of DebounceStays. -/
import Derived.Test.YtjooockdiolalaaDeb6
namespace Go.Proofs.Ytjooockdiolalaa
open Go.RowKit Go.Shelf

def cntO (o : Int) (l : List Int) : Nat := l.foldl (fun t x => if x = o then t + 1 else t) 0
theorem cntO_snoc (o : Int) (l : List Int) (x : Int) : cntO o (l ++ [x]) = if x = o then cntO o l + 1 else cntO o l := by simp [cntO]
theorem cntO_le (o : Int) (l : List Int) : cntO o l ≤ l.length := by
  have : ∀ (l : List Int) (t : Nat), l.foldl (fun t x => if x = o then t + 1 else t) t ≤ t + l.length := by
    intro l
    induction l with
    | nil => intro t; simp
    | cons x l ih => intro t; simp only [List.foldl_cons, List.length_cons]; have := ih (if x = o then t + 1 else t); split at this <;> split <;> omega
  have := this l 0
  unfold cntO; omega
def InvS (v : Int) (d : Int × Int) (t : Nat) : Prop := (t = 0 ∧ d.1 = v ∧ 3 ≤ d.2) ∨ (1 ≤ t ∧ (d.1 = 3 - v → d.2 ≤ t))
theorem InvS_step {v : Int} (hv : v = 1 ∨ v = 2) {d : Int × Int} {t : Nat} (x : Int) (h : InvS v d t) : InvS v (add1 d x) (if x = 3 - v then t + 1 else t) := by
  obtain ⟨a, b⟩ := d
  unfold InvS at *
  simp only [add1, addV, addN] at *
  by_cases hx : x = 1 ∨ x = 2
  · simp only [if_pos hx]
    by_cases ho : x = 3 - v
    · simp only [if_pos ho]
      refine .inr ⟨by omega, fun _ => ?_⟩
      rcases h with ⟨h1, h2, h3⟩ | ⟨h1, h2⟩
      · rw [if_neg (by omega)]; omega
      · by_cases ha : a = x
        · rw [if_pos ha]; have := h2 (by omega); split
          · omega
          · split <;> omega
        · rw [if_neg ha]; omega
    · simp only [if_neg ho]
      rcases h with ⟨h1, h2, h3⟩ | ⟨h1, h2⟩
      · exact .inl ⟨h1, by omega, by rw [if_pos (by omega), if_pos h3]; omega⟩
      · exact .inr ⟨h1, fun hh => by omega⟩
  · simp only [if_neg hx]
    rw [if_neg (by omega)]
    exact h
theorem InvS_all {v : Int} (hv : v = 1 ∨ v = 2) (c : Int × Int) (h : v = c.1) (h3 : 3 ≤ c.2) (l : List Int) : InvS v (allC c l) (cntO (3 - v) l) := by
  have : ∀ (l : List Int) (d : Int × Int) (t : Nat), InvS v d t → InvS v (l.foldl add1 d) (l.foldl (fun t x => if x = 3 - v then t + 1 else t) t) := by
    intro l
    induction l with
    | nil => intro d t h; exact h
    | cons x l ih => intro d t h; exact ih _ _ (InvS_step hv x h)
  exact this l c 0 (.inl ⟨rfl, h.symm, h3⟩)
theorem InvS_zero {v : Int} (hv : v = 1 ∨ v = 2) {d : Int × Int} (h : InvS v d 0) : verdC d.1 d.2 = v := by
  rcases h with ⟨_, h2, h3⟩ | ⟨h1, _⟩
  · unfold verdC; rw [if_pos ⟨h3, by omega⟩]; exact h2
  · omega
theorem InvS_few {v : Int} (hv : v = 1 ∨ v = 2) {d : Int × Int} {t : Nat} (h : InvS v d t) (h1 : 0 < t) (h3 : t < 3) : verdC d.1 d.2 ≠ 3 - v := by
  rcases h with ⟨h, _⟩ | ⟨_, h2⟩
  · omega
  · unfold verdC
    intro e
    split at e
    · rename_i hh; have := h2 e; omega
    · omega
theorem verdC_cases (c n : Int) : verdC c n = 0 ∨ ((verdC c n = 1 ∨ verdC c n = 2) ∧ verdC c n = c ∧ 3 ≤ n) := by
  unfold verdC
  split
  · rename_i h; exact .inr ⟨h.2, rfl, h.1⟩
  · exact .inl rfl

theorem ints_at' {X : Nat → Prop} {w : World} {sa : Option Addr} {len cap : Nat} {zs : List Int} (h : Ints X w (.slice sa len cap) zs) {k : Nat} (hk : k < zs.length) : ∃ b off, sa = some ⟨b, off, none⟩ ∧ b < w.heap.size ∧ w.cell? ⟨b, off + k, none⟩ = some (.int .i64 (zs[k]?.getD 0)) := by
  rcases h with ⟨_, _, _, rfl⟩ | ⟨b, off, c, e, hb, _, hc⟩
  · simp at hk
  · simp only [Value.slice.injEq] at e
    exact ⟨b, off, e.1, hb, hc k hk⟩

set_option maxHeartbeats 1000000 in
theorem stays_out (c n : Int) (sa : Option Addr) (len cap : Nat) (w : World) (h : (100 : Int) < (len : Int) ∨ verdC c n = 0) :
    Calls Try.prog 6 #[.agg #[.int .i64 c, .int .i64 n], .slice sa len cap] w fun e w' => e = .returned (.bool true) ∧ Below w.heap.size w w' := by
  by_cases hl : (100 : Int) < (len : Int)
  · clear h
    go_enter Try.func6, Try.ntmps6
    go_wp2_with fail
    refine (verdict_any _ _ _).mono ?_
    rintro e w1 ⟨rfl, hb1⟩
    generalize verdC c n = v
    go_wp2_with fail
    refine (shown_any _).mono ?_
    rintro e w2 ⟨rfl, hb2⟩
    go_wp2_with fail
    go_ret
    exact ⟨rfl, ((((KeepBut.refl _ w).alloc _).trans (keepB hb1)).trans (keepB hb2)).whole⟩
  · have h0 := h.resolve_left hl
    have H0 := Lib.hid h0; clear h h0
    go_enter Try.func6, Try.ntmps6
    go_wp2_with fail
    refine (verdict_any _ _ _).mono ?_
    rintro e w1 ⟨rfl, hb1⟩
    rw [H0.out]
    go_wp2_with fail
    refine (shown_any _).mono ?_
    rintro e w2 ⟨rfl, hb2⟩
    go_wp2_with fail
    go_ret
    exact ⟨rfl, ((((KeepBut.refl _ w).alloc _).trans (keepB hb1)).trans (keepB hb2)).whole⟩

set_option maxHeartbeats 4000000 in
theorem stays_in (c n : Int) (sa : Option Addr) (scap : Nat) (zs : List Int) (w : World) (hI : Ints (fun _ => False) w (.slice sa zs.length scap) zs) (hl : ¬ (100 : Int) < (zs.length : Int)) (v : Int) (hv : v = 1 ∨ v = 2) (hvd : verdC c n = v) (hc : v = c) (h3 : 3 ≤ n) :
    Calls Try.prog 6 #[.agg #[.int .i64 c, .int .i64 n], .slice sa zs.length scap] w fun e w' => e = .returned (.bool true) ∧ Below w.heap.size w w' := by
  have Hv := Lib.hid hvd; clear hvd
  have HInvc := Lib.hid (show v = (c, n).1 ∧ 3 ≤ (c, n).2 from ⟨hc, h3⟩)
  have Hvv := Lib.hid hv
  clear hc h3
  have n0 : (v == 0) = false := beq_eq_false_iff_ne.2 (by omega)
  have b1 : 1 ≤ v := by omega
  have b2 : v ≤ 2 := by omega
  have HI := Lib.hid hI; clear hI hv
  go_enter Try.func6, Try.ntmps6
  go_wp2_with fail
  refine (verdict_any _ _ _).mono ?_
  rintro e w1 ⟨rfl, hb1⟩
  have k1 : Keep w w1 := ((KeepBut.refl _ w).alloc _).trans (keepB hb1)
  have c0 : w1.cell? ⟨w.heap.size, 0, none⟩ = some (.int .i64 c) := look (keepB hb1) (by simp [go_sem])
  have c1 : w1.cell? ⟨w.heap.size, 1, none⟩ = some (.int .i64 n) := look (keepB hb1) (by simp [go_sem])
  have f0 : w1.frozen? ⟨w.heap.size, 0, none⟩ = false := (hb1.frozen (p := ⟨w.heap.size, 0, none⟩) (by simp)).trans (by simp [go_sem])
  have f1 : w1.frozen? ⟨w.heap.size, 1, none⟩ = false := (hb1.frozen (p := ⟨w.heap.size, 1, none⟩) (by simp)).trans (by simp [go_sem])
  rw [Hv.out]
  clear hb1 Hv
  go_wp2_with fail
  refine (shown_any _).mono ?_
  rintro e w2 ⟨rfl, hb2⟩
  have hz2 : w.heap.size < w1.heap.size := lt_of_cell c0
  have k2 : Keep w w2 := k1.trans (keepB hb2)
  have c0' := look (keepB hb2) c0; have c1' := look (keepB hb2) c1
  have f0' := (hb2.frozen (p := ⟨w.heap.size, 0, none⟩) hz2).trans f0
  have f1' := (hb2.frozen (p := ⟨w.heap.size, 1, none⟩) hz2).trans f1
  clear hb2 c0 c1 f0 f1 k1 hz2
  go_wp2_with fail
  go_loopw [7, 8] (fun tv i wr => ∃ k : Nat, k ≤ zs.length ∧ i = .int .i64 k ∧ tv = .int .i64 ((cntO (3 - v) (zs.take k) : Nat) : Int) ∧ wr.cell? ⟨w.heap.size, 0, none⟩ = some (.int .i64 (allC (c, n) (zs.take k)).1) ∧ wr.cell? ⟨w.heap.size, 1, none⟩ = some (.int .i64 (allC (c, n) (zs.take k)).2) ∧
      wr.frozen? ⟨w.heap.size, 0, none⟩ = false ∧ wr.frozen? ⟨w.heap.size, 1, none⟩ = false ∧ Below w.heap.size w wr) (fun _ i _ => zs.length - (intOf i).toNat)
  case atStart => exact ⟨0, Nat.zero_le _, rfl, by simp [cntO], by simpa [allC] using c0', by simpa [allC] using c1', f0', f1', k2.whole⟩
  case round =>
    clear c0' c1' f0' f1' k2
    obtain ⟨k, hk, rfl, rfl, h0, h1, f0, f1, hB⟩ := hrel
    by_cases hlt : k < zs.length
    · obtain ⟨b, off, rfl, hb, hcx⟩ := ints_at' HI.out hlt
      have hcx := (hB.cell (p := ⟨b, off + k, none⟩) hb).trans hcx
      have hs1 := take_snoc' zs k hlt
      generalize zs[k]?.getD 0 = x at hcx hs1
      have Hs1 := Lib.hid hs1; clear hs1
      have Hst := Lib.hid (allC_snoc (c, n) (zs.take k) x)
      have Hct := Lib.hid (cntO_snoc (3 - v) (zs.take k) x)
      have htk : cntO (3 - v) (zs.take k) ≤ k := Nat.le_trans (cntO_le _ _) (List.length_take_le _ _)
      have HI1 := Lib.hid (InvS_step Hvv.out x (InvS_all Hvv.out (c, n) (by have := HInvc.out; exact this.1) (HInvc.out.2) (zs.take k)))
      generalize hcp : allC (c, n) (zs.take k) = cp at *
      generalize hct : cntO (3 - v) (zs.take k) = t at *
      have Hcp := Lib.hid hcp; have Htt := Lib.hid hct; clear hcp hct
      obtain ⟨cv, cn⟩ := cp
      simp only [] at h0 h1
      have i1 : (0 : Int) ≤ (k : Int) := by omega
      have i2 : (k : Int) < (zs.length : Int) := by omega
      go_wp2_with fail
      refine wp_pure [0, 1, 2, 3, 4, 5] 6 (by kernel_rfl) (by kernel_rfl) rfl ?_
      repeat' (first | (refine pl_nil ?_) | (refine pl_value (v := ?_) rfl rfl ?_ ?_; rotate_left 1; (focus (intro w' hk; have c0 := look hk h0; have c1 := look hk h1; have c2 := look hk hcx; go_simp; (first | done | with_reducible rfl | exact rfl))); (try simp only [Act.put, List.setIfInBounds_toArray, List.set_cons_zero, List.set_cons_succ])) | (refine pl_call (v := ?_) (f := ?_) (args := ?_) rfl rfl ?_ ?_ ?_; rotate_left 3; (focus (intro w' hk; go_simp; (first | done | (constructor <;> with_reducible rfl) | with_reducible rfl))); (focus (intro w' hk; exact add_any _ _ _ _)); (try simp only [Act.put, List.setIfInBounds_toArray, List.set_cons_zero, List.set_cons_succ])) | (refine pl_skip rfl rfl ?_; (try simp only [Act.put, List.setIfInBounds_toArray, List.set_cons_zero, List.set_cons_succ])))
      intro w3 hk3
      have g0 := look hk3 h0; have g1 := look hk3 h1; have gx := look hk3 hcx
      have ez : w.heap.size < wr.heap.size := lt_of_cell h0
      have e0 := (kfrozen hk3 w.heap.size 0 ez).trans f0; have e1 := (kfrozen hk3 w.heap.size 1 ez).trans f1
      have hB1 := hB.trans (hk3.below (B := w.heap.size) (by omega) (fun _ h => h.elim))
      have hne : b ≠ w.heap.size := by omega
      clear h0 h1 f0 f1 hcx hB hk3
      simp only [List.drop_succ_cons, List.drop_zero]
      obtain ⟨W, hW⟩ : ∃ W, (w3.setCell ⟨w.heap.size, 0, none⟩ (.int .i64 (addV cv x))).setCell ⟨w.heap.size, 1, none⟩ (.int .i64 (addN cv cn x)) = W := ⟨_, rfl⟩
      obtain ⟨d0, d1, d2, d3, _, ot⟩ := after_store (v0 := .int .i64 (addV cv x)) (v1 := .int .i64 (addN cv cn x)) (X := fun _ => False) g0 g1 e0 e1 id (KeepBut.refl _ _)
      have dx := ot _ _ hne id gx
      have hB2 : Below w.heap.size w W := by rw [← hW]; exact (hB1.setCell (p := ⟨w.heap.size, 0, none⟩) (Nat.le_refl _) _).setCell (p := ⟨w.heap.size, 1, none⟩) (Nat.le_refl _) _
      rw [hW] at d0 d1 d2 d3 dx
      clear ot
      have HI2 := HI1.out
      have Hct2 := Hct.out
      clear HI1 Hct
      by_cases ho : x = 3 - v
      · rw [if_pos ho] at HI2 Hct2
        have ob : (x == 3 - v) = true := beq_iff_eq.2 ho
        have Ho := Lib.hid ho; clear ho
        have Hct' := Lib.hid Hct2; clear Hct2
        by_cases ht : t + 1 < 3
        · have hnev := InvS_few Hvv.out HI2 (by omega) ht
          clear HI2
          simp only [add1] at hnev
          generalize hvd : verdC (addV cv x) (addN cv cn x) = vd at hnev
          have Hvd := Lib.hid hvd; clear hvd
          have q1 : (vd == 3 - v) = false := beq_eq_false_iff_ne.2 hnev
          have q2 : ((t : Int) + 1 == 0) = false := beq_eq_false_iff_ne.2 (by omega)
          clear hnev
          go_wp2_with fail
          refine (verdict_any _ _ _).mono ?_
          rintro e w4 ⟨rfl, hb4⟩
          have ez4 : w.heap.size < W.heap.size := lt_of_cell d0
          have d0' := look (keepB hb4) d0; have d1' := look (keepB hb4) d1
          have d2' := (hb4.frozen (p := ⟨w.heap.size, 0, none⟩) ez4).trans d2
          have d3' := (hb4.frozen (p := ⟨w.heap.size, 1, none⟩) ez4).trans d3
          have hB4 := hB2.trans (hb4.mono (B' := w.heap.size) (by omega))
          rw [Hvd.out]
          clear d0 d1 d2 d3 hB2 hb4 dx hW hB1 g0 g1 gx e0 e1
          go_wp2_with fail
          go_roundw
          case rel => exact ⟨k + 1, by omega, by go_num, by rw [Hs1.out, Hct'.out]; try (first | rfl | go_num), by rw [Hs1.out, Hst.out]; exact d0', by rw [Hs1.out, Hst.out]; exact d1', d2', d3', hB4⟩
          case measure => simp [intOf]; omega
        · clear HI2
          have q2 : ((t : Int) + 1 == 0) = false := beq_eq_false_iff_ne.2 (by omega)
          go_wp2_with fail
          go_roundw
          case rel => exact ⟨k + 1, by omega, by go_num, by rw [Hs1.out, Hct'.out]; try (first | rfl | go_num), by rw [Hs1.out, Hst.out]; exact d0, by rw [Hs1.out, Hst.out]; exact d1, d2, d3, hB2⟩
          case measure => simp [intOf]; omega
      · rw [if_neg ho] at HI2 Hct2
        have ob : (x == 3 - v) = false := beq_eq_false_iff_ne.2 ho
        clear ho
        have Hct' := Lib.hid Hct2; clear Hct2
        by_cases ht0 : t = 0
        · subst ht0
          have hev := InvS_zero Hvv.out HI2
          clear HI2
          simp only [add1] at hev
          have Hvd := Lib.hid hev; clear hev
          go_wp2_with fail
          refine (verdict_any _ _ _).mono ?_
          rintro e w4 ⟨rfl, hb4⟩
          have ez4 : w.heap.size < W.heap.size := lt_of_cell d0
          have d0' := look (keepB hb4) d0; have d1' := look (keepB hb4) d1
          have d2' := (hb4.frozen (p := ⟨w.heap.size, 0, none⟩) ez4).trans d2
          have d3' := (hb4.frozen (p := ⟨w.heap.size, 1, none⟩) ez4).trans d3
          have hB4 := hB2.trans (hb4.mono (B' := w.heap.size) (by omega))
          rw [Hvd.out]
          clear d0 d1 d2 d3 hB2 hb4 dx hW hB1 g0 g1 gx e0 e1
          go_wp2_with fail
          go_roundw
          case rel => exact ⟨k + 1, by omega, by go_num, by rw [Hs1.out, Hct'.out]; try (first | rfl | go_num), by rw [Hs1.out, Hst.out]; exact d0', by rw [Hs1.out, Hst.out]; exact d1', d2', d3', hB4⟩
          case measure => simp [intOf]; omega
        · have q2 : ((t : Int) == 0) = false := beq_eq_false_iff_ne.2 (by omega)
          have ht1 : 0 < t := by omega
          by_cases ht : t < 3
          · have hnev := InvS_few Hvv.out HI2 (by omega) ht
            clear HI2
            simp only [add1] at hnev
            generalize hvd : verdC (addV cv x) (addN cv cn x) = vd at hnev
            have Hvd := Lib.hid hvd; clear hvd
            have q1 : (vd == 3 - v) = false := beq_eq_false_iff_ne.2 hnev
            clear hnev ht0
            go_wp2_with fail
            refine (verdict_any _ _ _).mono ?_
            rintro e w4 ⟨rfl, hb4⟩
            have ez4 : w.heap.size < W.heap.size := lt_of_cell d0
            have d0' := look (keepB hb4) d0; have d1' := look (keepB hb4) d1
            have d2' := (hb4.frozen (p := ⟨w.heap.size, 0, none⟩) ez4).trans d2
            have d3' := (hb4.frozen (p := ⟨w.heap.size, 1, none⟩) ez4).trans d3
            have hB4 := hB2.trans (hb4.mono (B' := w.heap.size) (by omega))
            rw [Hvd.out]
            clear d0 d1 d2 d3 hB2 hb4 dx hW hB1 g0 g1 gx e0 e1
            go_wp2_with fail
            go_roundw
            case rel => exact ⟨k + 1, by omega, by go_num, by rw [Hs1.out, Hct'.out]; try (first | rfl | go_num), by rw [Hs1.out, Hst.out]; exact d0', by rw [Hs1.out, Hst.out]; exact d1', d2', d3', hB4⟩
            case measure => simp [intOf]; omega
          · clear HI2 ht0
            go_wp2_with fail
            go_roundw
            case rel => exact ⟨k + 1, by omega, by go_num, by rw [Hs1.out, Hct'.out]; try (first | rfl | go_num), by rw [Hs1.out, Hst.out]; exact d0, by rw [Hs1.out, Hst.out]; exact d1, d2, d3, hB2⟩
            case measure => simp [intOf]; omega
    · obtain rfl : k = zs.length := by omega
      go_wp2_with fail
      go_ret
      exact ⟨rfl, hB⟩

theorem stays_any (c n : Int) (sa : Option Addr) (len scap : Nat) (zs : List Int) (w : World) (hI : Ints (fun _ => False) w (.slice sa len scap) zs) (hlen : zs.length = len) :
    Calls Try.prog 6 #[.agg #[.int .i64 c, .int .i64 n], .slice sa len scap] w fun e w' => e = .returned (.bool true) ∧ Below w.heap.size w w' := by
  subst hlen
  by_cases h : (100 : Int) < (zs.length : Int) ∨ verdC c n = 0
  · exact stays_out c n sa _ scap w h
  · rcases verdC_cases c n with h0 | ⟨h1, h2, h3⟩
    · exact absurd (.inr h0) h
    · exact stays_in c n sa scap zs w hI (fun hl => h (.inl hl)) _ h1 rfl h2 h3
end Go.Proofs.Ytjooockdiolalaa
