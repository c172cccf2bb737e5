/- What the statement's proof stands on, part 45: Law22, Ens22. -/
import Derived.Test.YtcadgecnlahkgaaGreatDoorAj43
import Derived.Test.YtcadgecnlahkgaaGreatDoorAj36
import Derived.Test.YtcadgecnlahkgaaGreatDoorAj44
set_option linter.unusedSimpArgs false
set_option linter.unusedVariables false
set_option maxRecDepth 100000
set_option maxHeartbeats 4000000
namespace Go.Proofs.YtcadgecnlahkgaaGreatDoor
open Go.RowKit Go.Shelf
attribute [local go_sem] Oper.semAt_some
theorem long22_any (l : List Dw.En) (v : Value) (w : World) (hv : EnsAt w v l) :
    Calls Tryz.prog 28 #[v] w fun en w' => LongSaid l en ∧ Below w.heap.size w w' := by
  have HV := Lib.hid hv
  obtain ⟨sa, cap, rfl, -, -⟩ := id hv
  clear hv
  have hB := Below.refl w.heap.size w
  have hll : (0 : Int) ≤ (l.length : Int) := by omega
  go_enter Tryz.func28, Tryz.ntmps28
  go_wp2_with fail
  go_loopw [3] (fun i wr => ∃ k : Nat, k ≤ l.length ∧ i = .int .i64 k ∧ Below w.heap.size w wr) (fun i _ => l.length - (intOf i).toNat)
  case atStart => exact ⟨0, Nat.zero_le _, rfl, hB⟩
  case round =>
    clear hB
    obtain ⟨k, hk, rfl, hB⟩ := hrel
    by_cases hlt : k < l.length
    · have hlt' : (k : Int) < (l.length : Int) := by omega
      by_cases h70 : k < 70
      · have h70' : (k : Int) < 70 := by omega
        obtain ⟨e, hce⟩ : ∃ e, l[k]? = some e := ⟨l[k], List.getElem?_eq_getElem hlt⟩
        obtain ⟨he, bb, off, hsa, kc⟩ := EnsAt.get (HV.out.next hB) hce
        subst hsa
        have k9 : wr.cell? ⟨bb, off + k * 11 + 8 + 1, none⟩ = some (.string ⟨e.p.mask.toArray⟩) := kc 9 _ rfl
        have hs : (ByteArray.size ⟨e.p.mask.toArray⟩ : Int) = (e.p.mask.length : Int) := by simp [ByteArray.size]
        clear he hce kc
        by_cases hm : 400 < e.p.mask.length
        · have hm' : (400 : Int) < (e.p.mask.length : Int) := by omega
          go_wp2_with fail
          go_ret
          exact ⟨⟨true, rfl, fun h => by cases h⟩, hB⟩
        · have hm' : ¬ (400 : Int) < (e.p.mask.length : Int) := by omega
          go_wp2_with fail
          go_roundw
          case rel => exact ⟨k + 1, hlt, by go_num, hB⟩
          case measure => first | done | (simp [intOf]; done) | (simp [intOf]; omega)
      · have h70' : ¬ (k : Int) < 70 := by omega
        have h60 : (60 : Int) < (l.length : Int) := by omega
        go_wp2_with fail
        go_ret
        exact ⟨⟨true, rfl, fun h => by cases h⟩, hB⟩
    · have hge : ¬ (k : Int) < (l.length : Int) := by omega
      by_cases h6 : 60 < l.length
      · have h60 : (60 : Int) < (l.length : Int) := by omega
        go_wp2_with fail
        go_ret
        exact ⟨⟨true, rfl, fun h => by cases h⟩, hB⟩
      · have h60 : ¬ (60 : Int) < (l.length : Int) := by omega
        go_wp2_with fail
        go_ret
        exact ⟨⟨false, rfl, fun _ => by omega⟩, hB⟩
def TurnedSaid (l : List Dw.En) (en : Ending) : Prop := ∃ b, en = .returned (.bool b) ∧ (b = false → ∀ e ∈ l, e.ki ≠ 4)
theorem turned22_any (l : List Dw.En) (hlen : l.length ≤ 1000) (v : Value) (w : World) (hv : EnsAt w v l) :
    Calls Tryz.prog 29 #[v] w fun en w' => TurnedSaid l en ∧ Below w.heap.size w w' := by
  have HV := Lib.hid hv
  obtain ⟨sa, cap, rfl, -, -⟩ := id hv
  clear hv
  have hB := Below.refl w.heap.size w
  have hll : (0 : Int) ≤ (l.length : Int) := by omega
  go_enter Tryz.func29, Tryz.ntmps29
  go_wp2_with fail
  go_loopw [3] (fun i wr => ∃ k : Nat, k ≤ l.length ∧ i = .int .i64 k ∧ (∀ e ∈ l.take k, e.ki ≠ 4) ∧ Below w.heap.size w wr) (fun i _ => l.length - (intOf i).toNat)
  case atStart => exact ⟨0, Nat.zero_le _, rfl, by simp, hB⟩
  case round =>
    clear hB
    obtain ⟨k, hk, rfl, hno, hB⟩ := hrel
    by_cases hlt : k < l.length
    · have hlt' : (k : Int) < (l.length : Int) := by omega
      obtain ⟨e, hce⟩ : ∃ e, l[k]? = some e := ⟨l[k], List.getElem?_eq_getElem hlt⟩
      obtain ⟨he, bb, off, hsa, kc⟩ := EnsAt.get (HV.out.next hB) hce
      subst hsa
      have k0 : wr.cell? ⟨bb, off + k * 11, none⟩ = some (.int .i64 e.ki) := kc 0 _ rfl
      have HNX := Lib.hid (show e.ki ≠ 4 → ∀ x ∈ l.take (k + 1), x.ki ≠ 4 from fun h x hx => by
        rw [Dw.take_snoc hce, List.mem_append, List.mem_singleton] at hx
        rcases hx with hx | rfl
        · exact hno x hx
        · exact h)
      clear he hce kc hno
      by_cases hm : e.ki = 4
      · have q1 : (e.ki == 4) = true := by rw [hm]; rfl
        clear hm
        go_wp2_with fail
        go_ret
        exact ⟨⟨true, rfl, fun h => by cases h⟩, hB⟩
      · have q1 : (e.ki == 4) = false := by simp [hm]
        have HN4 := Lib.hid (HNX.out hm)
        clear hm
        go_wp2_with fail
        go_roundw
        case rel => exact ⟨k + 1, hlt, by go_num, HN4.out, hB⟩
        case measure => first | done | (simp [intOf]; done) | (simp [intOf]; omega)
    · have hge : ¬ (k : Int) < (l.length : Int) := by omega
      obtain rfl : k = l.length := by omega
      rw [List.take_length] at hno
      have HN := Lib.hid hno
      clear hno
      go_wp2_with fail
      go_ret
      exact ⟨⟨false, rfl, fun _ => HN.out⟩, hB⟩
theorem rlast22_any (a : Dw.Aud) (now : Dw.St) (va : Value) (w : World) (hs : StsAt w va a.ack) (hl : a.ack.length ≤ 1000) :
    Calls Tryz.prog 25 #[audV a now va] w fun e w' => e = .returned (stV (Dw.lastA a.ack)) ∧ Below w.heap.size w w' := by
  obtain ⟨p, q, rfl⟩ := StsAt.shape hs
  obtain ⟨V, hV⟩ : ∃ V, (w.alloc (.cells (audC a now (.slice p a.ack.length q)) 69)).alloc (.cells #[.int .i64 0, .bool false, .bool false, .int .i64 0, .int .i64 0, .int .i64 0] 38) = V := ⟨_, rfl⟩
  obtain ⟨b1, b2, hB⟩ := allocs2 _ _ _ _ hV
  have c0 : V.cell? ⟨w.heap.size, 0, none⟩ = some (.slice p a.ack.length q) := by rw [cell_of_row _ _ 0 _ _ _ b1]; rfl
  have hsV := hs.next hB
  rcases last_cases a.ack with h | ⟨m, s, hlm, hm, hls⟩
  · have HL := Lib.hid (show Dw.lastA a.ack = Dw.st0 by rw [h]; rfl)
    have h0 : a.ack.length = 0 := by rw [h]; rfl
    rw [h0] at c0 hV ⊢
    clear hs hsV h h0 b1
    go_enter Tryz.func25, Tryz.ntmps25
    go_wp2_with (first | (refine sb (c' := stC Dw.st0) b2 rfl rfl rfl rfl (by kernel_rfl) ?_))
    rw [HL.out]
    exact bodyPost_ret (rcr rfl (srh b2) (by rfl) (by kernel_rfl)) rfl ⟨rfl, below_setRow hB (by omega) _⟩
  · have HL := Lib.hid hls
    obtain ⟨b, off, hp, hc⟩ := StsAt.get hsV hm
    subst hp
    have hm1 : m ≤ 1000 := by omega
    rw [hlm] at c0 hV ⊢
    have a1 : IntKind.i64.wrap (m : Int) = (m : Int) := IntWalk.i64_in _ (by omega)
    have a2 : wrap64 (m : Int) = (m : Int) := by clear a1; exact IntWalk.wrap64_in _ (by omega)
    have a4 : (0 : Int) ≤ (m : Int) := by clear a1 a2; omega
    have a5 : (m : Int) < (m : Int) + 1 := by clear a1 a2; omega
    have a6 : (((m : Int) + 1) == 0) = false := by clear a1 a2; simp; omega
    clear hs hsV hlm hm hls b1 hl hm1
    go_enter Tryz.func25, Tryz.ntmps25
    go_wp2_with (first | (refine lr (stC s) hc rfl rfl rfl (by kernel_rfl) ?_) | (refine sb (c' := stC s) b2 rfl rfl rfl rfl (by kernel_rfl) ?_))
    rw [HL.out]
    exact bodyPost_ret (rcr rfl (srh b2) (by rfl) (by kernel_rfl)) rfl ⟨rfl, below_setRow hB (by omega) _⟩
theorem rholds22_any (a : Dw.Aud) (now : Dw.St) (va : Value) (w : World) (hs : StsAt w va a.ack) (hl : a.ack.length ≤ 1000) :
    Calls Tryz.prog 23 #[audV a now va] w fun e w' => e = .returned (.bool (decide (now = Dw.saysA a))) ∧ Below w.heap.size w w' := by
  obtain ⟨V, hV⟩ : ∃ V, w.alloc (.cells (audC a now va) 69) = V := ⟨_, rfl⟩
  have b1 : V.heap[w.heap.size]? = some (.cells (audC a now va) 69) := by rw [← hV]; exact han _ _
  have hB : Below w.heap.size w V := by rw [← hV]; exact (Below.refl _ w).alloc (Nat.le_refl _) _
  have HL := Lib.hid (fun w h => rlast22_any a now va w h hl)
  have HS := Lib.hid (hs.next hB)
  have HQ := Lib.hid (fun (p q : Dw.St) (u v : Operand) (w : World) => rst_eq u v p q w)
  obtain ⟨ack, fly, fs⟩ := a
  dsimp only at *
  have HY := Lib.hid (show Dw.saysA ⟨ack, fly, fs⟩ = if fly then fs else Dw.lastA ack from rfl)
  generalize Dw.saysA ⟨ack, fly, fs⟩ = Y at *
  generalize Dw.lastA ack = L at *
  have c1 : V.cell? ⟨w.heap.size, 1, none⟩ = some (.bool fly) := by rw [cell_of_row _ _ 1 _ _ _ b1]; rfl
  clear hs hl
  cases fly
  · go_enter Tryz.func23, Tryz.ntmps23
    go_wp2_with fail
    try rw [hV]
    clear hV
    refine wp_pure [0, 1, 2, 3, 4] 5 (by kernel_rfl) (by kernel_rfl) rfl ?_
    (apply rat; (focus (intro w' hk; (refine' rv ?_ rfl rfl (by go_simp; first | done | with_reducible rfl | exact rfl); try simp only [Act.put, List.setIfInBounds_toArray, List.set_cons_zero, List.set_cons_succ]); (refine' rv ?_ rfl rfl (by exact exec_cells (b := w.heap.size) (off := 8) (stC now) (cells_part (kpi hk b1) 8 (stC now) rfl) rfl rfl (by kernel_rfl)); try simp only [Act.put, List.setIfInBounds_toArray, List.set_cons_zero, List.set_cons_succ]); (refine' rv ?_ rfl rfl (by exact exec_cells (audC ⟨ack, false, fs⟩ now va) (cells_of (kpi hk b1)) rfl rfl (by kernel_rfl)); try simp only [Act.put, List.setIfInBounds_toArray, List.set_cons_zero, List.set_cons_succ]); (refine' rc ?_ (by exact rfl) (by exact rfl) (by go_simp; first | done | (constructor <;> with_reducible rfl) | with_reducible rfl) (by exact HL.out w' (RowsAt.next HS.out hk.whole)); try simp only [Act.put, List.setIfInBounds_toArray, List.set_cons_zero, List.set_cons_succ]); (refine' rv ?_ rfl rfl (by exact exec_bin rfl rfl rfl (HQ.out now L _ _ w')); try simp only [Act.put, List.setIfInBounds_toArray, List.set_cons_zero, List.set_cons_succ]); (exact rn))))
    intro w9 hk9
    simp only [List.drop_succ_cons, List.drop_zero]
    have HB9 := Lib.hid (hB.trans (hk9.whole.mono hB.size))
    clear hk9
    go_wp2_with fail
    go_ret
    exact ⟨by rw [HY.out]; rfl, HB9.out⟩
  · have HB9 := Lib.hid hB
    go_enter Tryz.func23, Tryz.ntmps23
    go_wp2_with (first | (refine lp 38 2 (stC fs) b1 rfl rfl rfl (by kernel_rfl) (by rfl) ?_) | (refine lp 38 8 (stC now) b1 rfl rfl rfl (by kernel_rfl) (by rfl) ?_) | (refine bno (HQ.out now fs _ _ _) rfl rfl rfl rfl ?_))
    go_ret
    exact ⟨by rw [HY.out]; rfl, HB9.out⟩
theorem rknown22_any (a : Dw.Aud) (now s : Dw.St) (va : Value) (w : World) (hs : StsAt w va a.ack) (hl : a.ack.length ≤ 1000) :
    Calls Tryz.prog 27 #[audV a now va, stV s] w fun en w' => en = .returned (.bool (Dw.knownB a s)) ∧ Below w.heap.size w w' := by
  obtain ⟨p, q, rfl⟩ := StsAt.shape hs
  obtain ⟨V, hV⟩ : ∃ V, (w.alloc (.cells (audC a now (.slice p a.ack.length q)) 69)).alloc (.cells (stC s) 38) = V := ⟨_, rfl⟩
  obtain ⟨b2, b3, hB⟩ := allocs2 _ _ _ _ hV
  have HS := Lib.hid (hs.next hB)
  obtain ⟨ack, fly, fs⟩ := a
  dsimp only at *
  have x0 : V.cell? ⟨w.heap.size, 0, none⟩ = some (.slice p ack.length q) := by rw [cell_of_row _ _ 0 _ _ _ b2]; rfl
  have x1 : V.cell? ⟨w.heap.size, 1, none⟩ = some (.bool fly) := by rw [cell_of_row _ _ 1 _ _ _ b2]; rfl
  have HY := Lib.hid (show Dw.knownB ⟨ack, fly, fs⟩ s = (decide (s = Dw.st0) || (fly && decide (fs = s)) || decide (s ∈ ack)) from rfl)
  generalize Dw.knownB ⟨ack, fly, fs⟩ s = Y at *
  have hll : (0 : Int) ≤ (ack.length : Int) := by omega
  clear hs
  by_cases h0 : s = Dw.st0
  · have HQ := Lib.hid (fun (u v : Operand) (w : World) => show _ = Result.ok (Value.bool true) w from (rst_eq u v s Dw.st0 w).trans (by rw [decide_eq_true h0]))
    have HF := HQ
    have HZ := Lib.hid (show Y = true by rw [HY.out, decide_eq_true h0]; rfl)
    have HB9 := Lib.hid hB
    clear h0
    go_enter Tryz.func27, Tryz.ntmps27
    go_wp2_with (first | (refine lb b3 rfl rfl rfl (by kernel_rfl) ?_) | (refine lbo b3 rfl rfl rfl (by kernel_rfl) ?_) | (refine lpo 38 2 (stC fs) b2 rfl rfl rfl (by kernel_rfl) (by rfl) ?_) | (refine bno (HQ.out _ _ _) rfl rfl rfl rfl ?_) | (refine bno (HF.out _ _ _) rfl rfl rfl rfl ?_))
    go_ret
    exact ⟨ret_bool HZ.out.symm, HB9.out⟩
  · have HQ := Lib.hid (fun (u v : Operand) (w : World) => show _ = Result.ok (Value.bool false) w from (rst_eq u v s Dw.st0 w).trans (by rw [decide_eq_false h0]))
    have HZ0 := Lib.hid (decide_eq_false h0)
    clear h0
    cases fly
    · have HF := HQ
      have HZ := Lib.hid (show Y = decide (s ∈ ack) by rw [HY.out, HZ0.out]; simp)
      go_enter Tryz.func27, Tryz.ntmps27
      go_wp2_with (first | (refine lb b3 rfl rfl rfl (by kernel_rfl) ?_) | (refine lbo b3 rfl rfl rfl (by kernel_rfl) ?_) | (refine lpo 38 2 (stC fs) b2 rfl rfl rfl (by kernel_rfl) (by rfl) ?_) | (refine bno (HQ.out _ _ _) rfl rfl rfl rfl ?_) | (refine bno (HF.out _ _ _) rfl rfl rfl rfl ?_))
      try rw [hV]
      clear hV
      go_loopw [5] (fun i wr => ∃ k : Nat, k ≤ ack.length ∧ i = .int .i64 k ∧ s ∉ ack.take k ∧ Keep V wr) (fun i _ => ack.length - (intOf i).toNat)
      case atStart => exact ⟨0, Nat.zero_le _, rfl, by simp, KeepBut.refl _ _⟩
      case round =>
        obtain ⟨k, hk, rfl, hno, hkv⟩ := hrel
        have k0 := look hkv x0
        by_cases hlt : k < ack.length
        · have hlt' : (k : Int) < (ack.length : Int) := by omega
          obtain ⟨e, hce⟩ : ∃ e, ack[k]? = some e := ⟨ack[k], List.getElem?_eq_getElem hlt⟩
          obtain ⟨b, off, hp, hc⟩ := StsAt.get (RowsAt.next HS.out hkv.whole) hce
          subst hp
          have b3' := kpi hkv b3
          have HK := Lib.hid hkv
          have hmem : s ∈ ack.take (k + 1) ↔ s = e := by
            rw [Dw.take_snoc hce, List.mem_append, List.mem_singleton]
            exact ⟨fun h => h.resolve_left hno, .inr⟩
          have hin : s = e → s ∈ ack := fun h => by rw [h]; exact List.mem_of_getElem? hce
          have HM := Lib.hid hmem; have HI := Lib.hid hin
          have h0k : (0 : Int) ≤ (k : Int) := by omega
          clear hkv hce hno hmem hin
          by_cases hse : s = e
          · have HG := Lib.hid (fun (u v : Operand) (w : World) => show _ = Result.ok (Value.bool true) w from (rst_eq u v e s w).trans (by rw [decide_eq_true hse.symm]))
            have HIN := Lib.hid (show Y = true by rw [HZ.out]; exact decide_eq_true (HI.out hse))
            clear hse
            go_wp2_with fail
            refine wp_pure [0, 1, 2, 3, 4, 5, 6] 7 (by kernel_rfl) (by kernel_rfl) rfl ?_
            (apply rat; (focus (intro w' hk; have j0 := look hk k0; (iterate 4 (refine' rv ?_ rfl rfl (by go_simp; first | done | with_reducible rfl | exact rfl); try simp only [Act.put, List.setIfInBounds_toArray, List.set_cons_zero, List.set_cons_succ])); (refine' rv ?_ rfl rfl (by exact exec_cells (b := b) (off := off + k * 6) (stC e) (fun i u hi => look hk (hc i u hi)) rfl rfl (by kernel_rfl)); try simp only [Act.put, List.setIfInBounds_toArray, List.set_cons_zero, List.set_cons_succ]); (refine' rv ?_ rfl rfl (by exact exec_cells (stC s) (cells_of (kpi hk b3')) rfl rfl (by kernel_rfl)); try simp only [Act.put, List.setIfInBounds_toArray, List.set_cons_zero, List.set_cons_succ]); (refine' rv ?_ rfl rfl (by exact exec_bin rfl rfl rfl (HG.out _ _ w')); try simp only [Act.put, List.setIfInBounds_toArray, List.set_cons_zero, List.set_cons_succ]); (exact rn))))
            intro w9 hk9
            simp only [List.drop_succ_cons, List.drop_zero]
            go_wp2_with fail
            go_ret
            exact ⟨ret_bool HIN.out.symm, hB.trans ((HK.out.trans hk9).whole.mono hB.size)⟩
          · have HG := Lib.hid (fun (u v : Operand) (w : World) => show _ = Result.ok (Value.bool false) w from (rst_eq u v e s w).trans (by rw [decide_eq_false (fun h => hse h.symm)]))
            have HNO := Lib.hid (show s ∉ ack.take (k + 1) from fun h => hse (HM.out.1 h))
            clear hse
            go_wp2_with fail
            refine wp_pure [0, 1, 2, 3, 4, 5, 6] 7 (by kernel_rfl) (by kernel_rfl) rfl ?_
            (apply rat; (focus (intro w' hk; have j0 := look hk k0; (iterate 4 (refine' rv ?_ rfl rfl (by go_simp; first | done | with_reducible rfl | exact rfl); try simp only [Act.put, List.setIfInBounds_toArray, List.set_cons_zero, List.set_cons_succ])); (refine' rv ?_ rfl rfl (by exact exec_cells (b := b) (off := off + k * 6) (stC e) (fun i u hi => look hk (hc i u hi)) rfl rfl (by kernel_rfl)); try simp only [Act.put, List.setIfInBounds_toArray, List.set_cons_zero, List.set_cons_succ]); (refine' rv ?_ rfl rfl (by exact exec_cells (stC s) (cells_of (kpi hk b3')) rfl rfl (by kernel_rfl)); try simp only [Act.put, List.setIfInBounds_toArray, List.set_cons_zero, List.set_cons_succ]); (refine' rv ?_ rfl rfl (by exact exec_bin rfl rfl rfl (HG.out _ _ w')); try simp only [Act.put, List.setIfInBounds_toArray, List.set_cons_zero, List.set_cons_succ]); (exact rn))))
            intro w9 hk9
            simp only [List.drop_succ_cons, List.drop_zero]
            have HK9 := Lib.hid (HK.out.trans hk9)
            clear hk9 HK hc k0
            go_wp2_with fail
            go_roundw
            case rel => exact ⟨k + 1, hlt, by go_num, HNO.out, HK9.out⟩
            case measure => first | done | (simp [intOf]; done) | (simp [intOf]; omega)
        · have hge : ¬ (k : Int) < (ack.length : Int) := by omega
          obtain rfl : k = ack.length := by omega
          rw [List.take_length] at hno
          have HNO := Lib.hid (show Y = false by rw [HZ.out]; exact decide_eq_false hno)
          have HB := Lib.hid (hB.trans (hkv.whole.mono hB.size))
          clear hkv hno
          go_wp2_with fail
          go_ret
          exact ⟨ret_bool HNO.out.symm, HB.out⟩
    · by_cases h1 : s = fs
      · have HF := Lib.hid (fun (u v : Operand) (w : World) => show _ = Result.ok (Value.bool true) w from (rst_eq u v s fs w).trans (by rw [decide_eq_true h1]))
        have HZ := Lib.hid (show Y = true by rw [HY.out, decide_eq_true h1.symm]; simp)
        have HB9 := Lib.hid hB
        clear h1
        go_enter Tryz.func27, Tryz.ntmps27
        go_wp2_with (first | (refine lb b3 rfl rfl rfl (by kernel_rfl) ?_) | (refine lbo b3 rfl rfl rfl (by kernel_rfl) ?_) | (refine lpo 38 2 (stC fs) b2 rfl rfl rfl (by kernel_rfl) (by rfl) ?_) | (refine bno (HQ.out _ _ _) rfl rfl rfl rfl ?_) | (refine bno (HF.out _ _ _) rfl rfl rfl rfl ?_))
        go_ret
        exact ⟨ret_bool HZ.out.symm, HB9.out⟩
      · have HF := Lib.hid (fun (u v : Operand) (w : World) => show _ = Result.ok (Value.bool false) w from (rst_eq u v s fs w).trans (by rw [decide_eq_false h1]))
        have HZ := Lib.hid (show Y = decide (s ∈ ack) by rw [HY.out, HZ0.out, decide_eq_false (fun h => h1 h.symm)]; simp)
        clear h1
        go_enter Tryz.func27, Tryz.ntmps27
        go_wp2_with (first | (refine lb b3 rfl rfl rfl (by kernel_rfl) ?_) | (refine lbo b3 rfl rfl rfl (by kernel_rfl) ?_) | (refine lpo 38 2 (stC fs) b2 rfl rfl rfl (by kernel_rfl) (by rfl) ?_) | (refine bno (HQ.out _ _ _) rfl rfl rfl rfl ?_) | (refine bno (HF.out _ _ _) rfl rfl rfl rfl ?_))
        try rw [hV]
        clear hV
        go_loopw [5] (fun i wr => ∃ k : Nat, k ≤ ack.length ∧ i = .int .i64 k ∧ s ∉ ack.take k ∧ Keep V wr) (fun i _ => ack.length - (intOf i).toNat)
        case atStart => exact ⟨0, Nat.zero_le _, rfl, by simp, KeepBut.refl _ _⟩
        case round =>
          obtain ⟨k, hk, rfl, hno, hkv⟩ := hrel
          have k0 := look hkv x0
          by_cases hlt : k < ack.length
          · have hlt' : (k : Int) < (ack.length : Int) := by omega
            obtain ⟨e, hce⟩ : ∃ e, ack[k]? = some e := ⟨ack[k], List.getElem?_eq_getElem hlt⟩
            obtain ⟨b, off, hp, hc⟩ := StsAt.get (RowsAt.next HS.out hkv.whole) hce
            subst hp
            have b3' := kpi hkv b3
            have HK := Lib.hid hkv
            have hmem : s ∈ ack.take (k + 1) ↔ s = e := by
              rw [Dw.take_snoc hce, List.mem_append, List.mem_singleton]
              exact ⟨fun h => h.resolve_left hno, .inr⟩
            have hin : s = e → s ∈ ack := fun h => by rw [h]; exact List.mem_of_getElem? hce
            have HM := Lib.hid hmem; have HI := Lib.hid hin
            have h0k : (0 : Int) ≤ (k : Int) := by omega
            clear hkv hce hno hmem hin
            by_cases hse : s = e
            · have HG := Lib.hid (fun (u v : Operand) (w : World) => show _ = Result.ok (Value.bool true) w from (rst_eq u v e s w).trans (by rw [decide_eq_true hse.symm]))
              have HIN := Lib.hid (show Y = true by rw [HZ.out]; exact decide_eq_true (HI.out hse))
              clear hse
              go_wp2_with fail
              refine wp_pure [0, 1, 2, 3, 4, 5, 6] 7 (by kernel_rfl) (by kernel_rfl) rfl ?_
              (apply rat; (focus (intro w' hk; have j0 := look hk k0; (iterate 4 (refine' rv ?_ rfl rfl (by go_simp; first | done | with_reducible rfl | exact rfl); try simp only [Act.put, List.setIfInBounds_toArray, List.set_cons_zero, List.set_cons_succ])); (refine' rv ?_ rfl rfl (by exact exec_cells (b := b) (off := off + k * 6) (stC e) (fun i u hi => look hk (hc i u hi)) rfl rfl (by kernel_rfl)); try simp only [Act.put, List.setIfInBounds_toArray, List.set_cons_zero, List.set_cons_succ]); (refine' rv ?_ rfl rfl (by exact exec_cells (stC s) (cells_of (kpi hk b3')) rfl rfl (by kernel_rfl)); try simp only [Act.put, List.setIfInBounds_toArray, List.set_cons_zero, List.set_cons_succ]); (refine' rv ?_ rfl rfl (by exact exec_bin rfl rfl rfl (HG.out _ _ w')); try simp only [Act.put, List.setIfInBounds_toArray, List.set_cons_zero, List.set_cons_succ]); (exact rn))))
              intro w9 hk9
              simp only [List.drop_succ_cons, List.drop_zero]
              go_wp2_with fail
              go_ret
              exact ⟨ret_bool HIN.out.symm, hB.trans ((HK.out.trans hk9).whole.mono hB.size)⟩
            · have HG := Lib.hid (fun (u v : Operand) (w : World) => show _ = Result.ok (Value.bool false) w from (rst_eq u v e s w).trans (by rw [decide_eq_false (fun h => hse h.symm)]))
              have HNO := Lib.hid (show s ∉ ack.take (k + 1) from fun h => hse (HM.out.1 h))
              clear hse
              go_wp2_with fail
              refine wp_pure [0, 1, 2, 3, 4, 5, 6] 7 (by kernel_rfl) (by kernel_rfl) rfl ?_
              (apply rat; (focus (intro w' hk; have j0 := look hk k0; (iterate 4 (refine' rv ?_ rfl rfl (by go_simp; first | done | with_reducible rfl | exact rfl); try simp only [Act.put, List.setIfInBounds_toArray, List.set_cons_zero, List.set_cons_succ])); (refine' rv ?_ rfl rfl (by exact exec_cells (b := b) (off := off + k * 6) (stC e) (fun i u hi => look hk (hc i u hi)) rfl rfl (by kernel_rfl)); try simp only [Act.put, List.setIfInBounds_toArray, List.set_cons_zero, List.set_cons_succ]); (refine' rv ?_ rfl rfl (by exact exec_cells (stC s) (cells_of (kpi hk b3')) rfl rfl (by kernel_rfl)); try simp only [Act.put, List.setIfInBounds_toArray, List.set_cons_zero, List.set_cons_succ]); (refine' rv ?_ rfl rfl (by exact exec_bin rfl rfl rfl (HG.out _ _ w')); try simp only [Act.put, List.setIfInBounds_toArray, List.set_cons_zero, List.set_cons_succ]); (exact rn))))
              intro w9 hk9
              simp only [List.drop_succ_cons, List.drop_zero]
              have HK9 := Lib.hid (HK.out.trans hk9)
              clear hk9 HK hc k0
              go_wp2_with fail
              go_roundw
              case rel => exact ⟨k + 1, hlt, by go_num, HNO.out, HK9.out⟩
              case measure => first | done | (simp [intOf]; done) | (simp [intOf]; omega)
          · have hge : ¬ (k : Int) < (ack.length : Int) := by omega
            obtain rfl : k = ack.length := by omega
            rw [List.take_length] at hno
            have HNO := Lib.hid (show Y = false by rw [HZ.out]; exact decide_eq_false hno)
            have HB := Lib.hid (hB.trans (hkv.whole.mono hB.size))
            clear hkv hno
            go_wp2_with fail
            go_ret
            exact ⟨ret_bool HNO.out.symm, HB.out⟩
def enCells (l : List Dw.En) : List Value := l.flatMap fun e => (enC e).toList
theorem enCells_len (l : List Dw.En) : (enCells l).length = l.length * 11 := by
  induction l with
  | nil => rfl
  | cons s l ih =>
    show ((enC s).toList ++ enCells l).length = _
    have h6 : (enC s).toList.length = 11 := rfl
    rw [List.length_append, ih, h6, show (s :: l).length = l.length + 1 from rfl]
    omega
theorem enCells_snoc (l : List Dw.En) (s : Dw.En) : enCells (l ++ [s]) = enCells l ++ (enC s).toList := by unfold enCells; simp
theorem enC_one (e : Dw.En) : (enC e).all (·.oneCell') = true := by simp [enC, Value.oneCell']
theorem infoEn : (Tryz.prog.info? 48).map (fun i => (i.zero, i.size, i.bytes)) = some (some (.agg #[.int .i64 0, .int .i64 0, .int .i64 0, .float .f64 0, .float .f64 0, .float .f64 0, .float .f64 0, .float .f64 0, .int .i64 0, .string ⟨#[]⟩, .int .i64 0]), 11, 96) := by kernel_rfl
theorem ens_own {w : World} {B n : Nat} {e : TypeId} {v : Value} {l : List Dw.En} (h : w.ownsRow B e 11 v n (enCells l)) (hn : n = l.length) (hok : ∀ e ∈ l, enOk e) : EnsAt w v l := by
  subst hn
  obtain ⟨ao, cap, rfl, -, -, hc⟩ := slAt_own h
  refine ⟨ao, cap, rfl, hok, ?_⟩
  obtain ⟨hl, ⟨h0, hn⟩ | ⟨g, _, _, h0, _⟩⟩ := h
  · left; exact List.eq_nil_of_length_eq_zero hn
  · injection h0 with h1
    subst h1
    refine .inr ⟨g, 0, rfl, fun j s hj i u hi => ?_⟩
    have hi6 : i < 11 := (List.getElem?_eq_some_iff.1 hi).1
    have h1 := hc _ rfl (j * 11 + i) u (by
      show (l.flatMap fun s => (enC s).toList)[j * 11 + i]? = _
      rw [flat_get (k := 11) (fun _ => rfl) l j s i hj hi6]
      exact hi)
    rw [addr0] at h1
    rw [Nat.zero_add]
    exact h1
theorem EnsAt.oks {w : World} {v : Value} {l : List Dw.En} (h : EnsAt w v l) : ∀ e ∈ l, enOk e := by
  obtain ⟨sa, cap, rfl, hok, -⟩ := h
  exact hok
def Dw.unc (e : Dw.En) : Dw.En := ⟨e.ki, e.c, e.va, e.vb, e.vc, ⟨-1, e.p.mask⟩, e.at_⟩
theorem Dw.unc_ok {l : List Dw.En} (h : ∀ e ∈ l, enOk e) : ∀ e ∈ l.map Dw.unc, enOk e := by
  intro e he
  obtain ⟨x, hx, rfl⟩ := List.mem_map.1 he
  exact h x hx
theorem Dw.unc_cut (l : List Dw.En) : ∀ e ∈ l.map Dw.unc, e.p.cut = -1 := by
  intro e he
  obtain ⟨x, hx, rfl⟩ := List.mem_map.1 he
  rfl
theorem Dw.unc_ki {l : List Dw.En} (h : ∀ e ∈ l, e.ki ≠ 4) : ∀ e ∈ l.map Dw.unc, e.ki ≠ 4 := by
  intro e he
  obtain ⟨x, hx, rfl⟩ := List.mem_map.1 he
  exact h x hx
section
variable {P : Program} {ops : Array Oper} {rest : List Oper} {o : Oper} {a : Act} {w : World} {Q : Exit → Act → World → Prop} {t e : TypeId}
theorem append_ownm (hg : o.guard = none) {s x : Operand} (hop : o.op = .call { callee := .builtin .append, args := #[s, x], argTypes := #[t, t] }) {z : Value} {k bytes : Nat} (hu : P.underlying t = some (.slice e))
    (hi : (P.info? e).map (fun i => (i.zero, i.size, i.bytes)) = some (some z, k, bytes)) (hz : z.cells.size = k) (hk : 0 < k) (hby : bytes ≤ 1000) {B n : Nat} {cs : List Value} {v0 : Value} (how : w.ownsRow B e k v0 n cs) (hn : n ≤ 100000) (hBw : B ≤ w.heap.size)
    (hs : a.eval s = v0) {ad : Addr} {m cp : Nat} {news : List Value} (hm : m ≤ 100000) (hx : a.eval x = .slice (some ad) m cp) (hl : news.length = m * k) (hnews : ∀ j u, news[j]? = some u → w.cell? (ad.add j) = some u) (h1 : ∀ u ∈ news, u.oneCell' = true)
    (h : ∀ v' w', w'.ownsRow B e k v' (n + m) (cs ++ news) → KeepBut (fun j => v0.ownBlock = some j) w w' → wpList P ops Q rest (a.put o.dst v') w') : wpList P ops Q (o :: rest) a w := by
  obtain ⟨i, hi1, hi2, hi3, hi4⟩ := info_parts hi
  refine wpList_append_own w hg s x t hop B e i z k bytes hu hi1 hi2 hi3 hi4 hz hk v0 n cs hs how ad m cp news hx hl hnews h1 (by simp only [maxLen]; omega) ?_ hBw fun v' w' ho hgr _ => h v' w' ho ((KeepBut.refl _ w).grown hgr (fun g e => e))
  have : (n + m) * bytes ≤ 200000 * 1000 := Nat.mul_le_mul (by omega) hby
  omega
end
end Go.Proofs.YtcadgecnlahkgaaGreatDoor
