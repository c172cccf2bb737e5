/- The walk of JournalWorn (this text is printed by wip/gen/jworn.py). -/
import Derived.Test.YtmjbpdhkpdpdjaaDoorPJOne
namespace Go.Proofs.YtmjbpdhkpdpdjaaDoor
open Go.RowKit Go.Shelf
attribute [local go_sem] Oper.semAt_some

namespace Dw
theorem worn_step {l : Lg} (h : (plan l.f 0).2 ≠ 0) (s : Stp) : playJ l s = l := by unfold playJ; rw [if_pos (by rw [plan_err l.f s.data 0]; exact h)]
end Dw
set_option maxRecDepth 100000 in
set_option maxHeartbeats 4000000 in
theorem jworn_any (a : Nat) (ha : a < 256) (ss : List Dw.Stp) (v : Value) (ms : List Dw.Stp) (u : Value) (w : World) (hv : StepsAt w v ss) (hu : StepsAt w u ms) (hn : NoneAt w) :
    Calls Tryd.prog 10 #[.int .u8 a, v, u] w fun e w' => e = .returned (.bool true) ∧ Below w.heap.size w w' := by
  have hB := Below.refl w.heap.size w
  have HN0 := Lib.hid hn; have HV0 := Lib.hid hv; have HU0 := Lib.hid hu
  have hd : ∀ s ∈ ss, s.data < 18446744073709551616 := by obtain ⟨_, _, _, h, _⟩ := hv; exact h
  obtain ⟨sa, cap, hus, _, _⟩ := id hu
  subst hus
  have a1 : IntKind.i64.wrap (a : Int) = (a : Int) := IntWalk.i64_in _ (by omega)
  have a2 : Int.tmod (a : Int) 3 = ((a % 3 : Nat) : Int) := rfl
  have hm : a % 3 < 12 := by omega
  have a3 : IntKind.i64.wrap (1 + ((a % 3 : Nat) : Int)) = 1 + ((a % 3 : Nat) : Int) := IntWalk.i64_in _ (by omega)
  clear hv hu hn
  go_enter Tryd.func10, Tryd.ntmps10
  go_wp2_with fail
  obtain ⟨m, hm1⟩ : ∃ m, m = a % 3 := ⟨_, rfl⟩
  rw [← hm1] at hm
  rw [show (1 + (a : Int) % 3) = 1 + (m : Int) from by omega]
  clear a1 a2 a3 hm1 ha
  refine (rsize_any _ _).mono ?_
  rintro e w1 ⟨rfl, hb⟩
  replace hB := hB.trans (hb.mono hB.size)
  clear hb
  rw [Dw.size_n hm]
  go_wp2_with fail
  refine (new12_any m 1 hm (by omega) _).mono ?_
  rintro e w2 ⟨rfl, hb⟩
  replace hB := hB.trans (hb.mono hB.size)
  clear hb
  have hI := Dw.new_inv (n := m + 1) (by omega) (by omega) ((1 : Nat) : Int)
  have hO := Dw.new_ok (n := m + 1) (by omega) (li := ((1 : Nat) : Int)) (by omega)
  generalize Dw.fNew (m + 1) ((1 : Nat) : Int) = F at *
  have HI := Lib.hid hI; have HO := Lib.hid hO
  clear hI hO
  have hF := heap_alloc_new w2 (.cells (flashC F.a F.b F.e0 F.e1 F.li) 25)
  replace hB := hB.alloc hB.size (.cells (flashC F.a F.b F.e0 F.e1 F.li) 25)
  have HF := Lib.hid hF; have HB := Lib.hid hB
  clear hF hB
  go_wp2_with fail
  have hF := HF.out; have hB := HB.out
  clear HF HB
  generalize w2.alloc _ = W2 at *
  generalize w2.heap.size = f1 at *
  refine (big12_any F ss _ _ (HV0.out.next hB)).mono ?_
  rintro e w3 ⟨rfl, hb⟩
  replace hF := (hb.block _ (block_lt hF)).trans hF
  replace hB := hB.trans (hb.mono hB.size)
  clear hb
  cases hbig : Dw.big12 F ss
  · obtain ⟨_, _, hlen⟩ := Dw.not_big hbig
    clear hbig
    obtain ⟨c0, c1, c2, c3, c4⟩ := cells5 hF
    have HF := Lib.hid hF; have HB := Lib.hid hB
    clear hF hB
    go_wp2_with fail
    have hF := HF.out; have hB := HB.out
    clear HF HB c0 c1 c2 c3 c4
    refine (big12_any F ms _ _ (HU0.out.next hB)).mono ?_
    rintro e w4 ⟨rfl, hb⟩
    replace hF := (hb.block _ (block_lt hF)).trans hF
    replace hB := hB.trans (hb.mono hB.size)
    clear hb
    cases hbig : Dw.big12 F ms
    · obtain ⟨_, _, hlen2⟩ := Dw.not_big hbig
      clear hbig
      have HF := Lib.hid hF; have HB := Lib.hid hB
      clear hF hB
      go_wp2_with fail
      refine (shown12_any _ (HN0.out.next HB.out)).mono ?_
      rintro e w5 ⟨rfl, hb⟩
      have hF := (hb.block _ (block_lt HF.out)).trans HF.out
      have hB := HB.out.trans (hb.mono HB.out.size)
      clear hb HF HB
      obtain ⟨c0, c1, c2, c3, c4⟩ := cells5 hF
      clear hF
      have HB := Lib.hid hB
      clear hB
      go_wp2_with fail
      refine (run_any F HO.out ss (by omega) _ _ (HV0.out.next HB.out) (HN0.out.next HB.out)).mono ?_
      rintro e w6 ⟨rfl, hb⟩
      have hB := HB.out.trans (hb.mono HB.out.size)
      clear hb HB c0 c1 c2 c3 c4
      obtain ⟨c, hc, hr, hli⟩ := Dw.run_log ss 0 (Dw.lg0 F) none HI.out (Dw.new_rel F) (by omega) hd
      clear hli
      have hok := Dw.runJ_ok ss (Dw.lg0 F) HO.out
      have hac := Dw.runJ_acked ss (Dw.lg0 F)
      generalize Dw.runJ (Dw.lg0 F) ss = x at *
      have hac2 : 0 ≤ x.acked ∧ x.acked ≤ 1000000 := by have : (Dw.lg0 F).acked = 0 := rfl; omega
      have hq := Dw.put_whole hc hr hok (by omega) ⟨0, -1, []⟩ (by decide : 0 < 18446744073709551616) (by decide : (-1 : Int) < 0)
      have hwn := @Dw.worn_step x
      obtain ⟨xf, ac, la, fl, fi⟩ := x
      dsimp only at hok hq hac2 hwn
      have HP := Lib.hid (fun w hn => put12_any xf hok ⟨0, -1, []⟩ (by decide : 0 < 18446744073709551616) w hn)
      have HPL := Lib.hid (fun s hs w hn => play12_any ⟨xf, ac, la, fl, fi⟩ hok hac2 s hs w hn)
      have HWN := Lib.hid hwn
      have HOK := Lib.hid hok
      clear hok hc hr hac hac2 hd HI HO hwn
      have hz6 := hB.size
      have hL := heap_alloc_new w6 (.cells #[.string ⟨xf.a.toArray⟩, .string ⟨xf.b.toArray⟩, .int .i64 xf.e0, .int .i64 xf.e1, .int .i64 xf.li, .int .i64 ac, .int .u64 la, .bool fl, .int .u64 fi] 46)
      replace hB := hB.alloc hB.size (.cells #[.string ⟨xf.a.toArray⟩, .string ⟨xf.b.toArray⟩, .int .i64 xf.e0, .int .i64 xf.e1, .int .i64 xf.li, .int .i64 ac, .int .u64 la, .bool fl, .int .u64 fi] 46)
      have HB := Lib.hid hB; have HL := Lib.hid hL; have HQ := Lib.hid hq
      clear hB hL hq
      go_wp2_with fail
      have hB := HB.out; have hL := HL.out
      clear HB HL
      generalize w6.alloc _ = W6 at *
      generalize w6.heap.size = f6 at *
      refine (HP.out _ (HN0.out.next hB)).mono ?_
      rintro e w7 ⟨rfl, hb⟩
      replace hL := (hb.block _ (block_lt hL)).trans hL
      replace hB := hB.trans (hb.mono hB.size)
      clear hb HP
      have hz7 := block_lt hL
      rcases HQ.out with ⟨hp, _⟩ | ⟨g, hp, _⟩
      · rw [put_val hp]
        have hpl : (Dw.plan xf 0).2 ≠ 0 := by
          have : (Dw.plan xf 0).2 = 4 := hp.val.1
          rw [this]; decide
        have HW := Lib.hid (HWN.out hpl)
        clear hp HQ HWN hpl
        have hL0 := (heap_alloc_old w7 (.cells (flashC xf.a xf.b xf.e0 xf.e1 xf.li) 25) _ (block_lt hL)).trans hL
        have hL1 := (heap_alloc_old (w7.alloc (.cells (flashC xf.a xf.b xf.e0 xf.e1 xf.li) 25)) (.cells #[.string ⟨xf.a.toArray⟩, .string ⟨xf.b.toArray⟩, .int .i64 xf.e0, .int .i64 xf.e1, .int .i64 xf.li, .int .i64 ac, .int .u64 la, .bool fl, .int .u64 fi] 46) _ (block_lt hL0)).trans hL0
        have hY := heap_alloc2_new w7 (.cells (flashC xf.a xf.b xf.e0 xf.e1 xf.li) 25) (.cells #[.string ⟨xf.a.toArray⟩, .string ⟨xf.b.toArray⟩, .int .i64 xf.e0, .int .i64 xf.e1, .int .i64 xf.li, .int .i64 ac, .int .u64 la, .bool fl, .int .u64 fi] 46)
        have hB1 := (hB.alloc hB.size (.cells (flashC xf.a xf.b xf.e0 xf.e1 xf.li) 25)).alloc (by have := hB.size; simp; omega) (.cells #[.string ⟨xf.a.toArray⟩, .string ⟨xf.b.toArray⟩, .int .i64 xf.e0, .int .i64 xf.e1, .int .i64 xf.li, .int .i64 ac, .int .u64 la, .bool fl, .int .u64 fi] 46)
        have hz7' := hB.size
        clear hL hB
        obtain ⟨l0, l1, l2, l3, l4, l5, l6, l7, l8⟩ := cells9 hL0
        have HL := Lib.hid hL1; have HB := Lib.hid hB1; have HY := Lib.hid hY
        clear hL0 hL1 hB1 hY
        go_wp2_with fail
        have hL := HL.out; have hB := HB.out; have hY := HY.out
        clear HL HB HY l0 l1 l2 l3 l4 l5 l6 l7 l8
        generalize World.alloc (World.alloc w7 _) _ = W7 at *
        have hgy : w.heap.size ≤ w7.heap.size + 1 := by omega
        have hne : w7.heap.size + 1 ≠ f6 := by omega
        generalize w7.heap.size + 1 = gy at *
        go_loopw [13] (fun i wr => ∃ k : Nat, k ≤ ms.length ∧ i = .int .i64 k ∧ wr.heap[f6]? = some (.cells (lgC ⟨xf, ac, la, fl, fi⟩) 46 (0, 0)) ∧ wr.heap[gy]? = some (.cells (lgC ⟨xf, ac, la, fl, fi⟩) 46 (0, 0)) ∧ Below w.heap.size w wr) (fun i _ => ms.length - (intOf i).toNat)
        case atStart => exact ⟨0, Nat.zero_le _, rfl, hL, hY, hB⟩
        case round =>
          clear hL hY hB
          obtain ⟨k, hk, rfl, hL, hY, hB⟩ := hrel
          by_cases hlt : k < ms.length
          · have hlt' : (k : Int) < (ms.length : Int) := by omega
            obtain ⟨s, hse⟩ : ∃ s, ms[k]? = some s := ⟨ms[k], List.getElem?_eq_getElem hlt⟩
            obtain ⟨hds, bb, off, rfl, k0, k1, k2⟩ := (HU0.out.next hB).get hse
            have HPS := Lib.hid (HPL.out s hds)
            rw [HW.out s] at HPS
            clear hse
            obtain ⟨l0, l1, l2, l3, l4, l5, l6, l7, l8⟩ := cells9 hY
            have HL := Lib.hid hL; have HB := Lib.hid hB; have HY := Lib.hid hY
            clear hL hB hY
            go_wp2_with fail
            refine RT.wp_letter (fun k => k = gy) (fun _ => false) [0, 1, 2, 3, 4, 5] 6 7 (RT.Stored wr gy (lgC ⟨xf, ac, la, fl, fi⟩) 46) rfl (by kernel_rfl) (by kernel_rfl) rfl (fun A B h hk => h.keep hk) ?_
            (refine RT.pl_value (v := ?_) rfl rfl rfl ?_ ?_; rotate_left 1; (focus (intro w' hk; have y0 := look hk l0; have y1 := look hk l1; have y2 := look hk l2; have y3 := look hk l3; have y4 := look hk l4; have y5 := look hk l5; have y6 := look hk l6; have y7 := look hk l7; have y8 := look hk l8; go_simp; (first | done | with_reducible rfl | exact rfl))); (try simp only [Act.put, List.setIfInBounds_toArray, List.set_cons_zero, List.set_cons_succ]))
            (refine RT.pl_value (v := ?_) rfl rfl rfl ?_ ?_; rotate_left 1; (focus (intro w' hk; go_simp; (first | done | with_reducible rfl | exact rfl))); (try simp only [Act.put, List.setIfInBounds_toArray, List.set_cons_zero, List.set_cons_succ]))
            (refine RT.pl_value (v := ?_) rfl rfl rfl ?_ ?_; rotate_left 1; (focus (intro w' hk; go_simp; (first | done | with_reducible rfl | exact rfl))); (try simp only [Act.put, List.setIfInBounds_toArray, List.set_cons_zero, List.set_cons_succ]))
            (refine RT.pl_value (v := ?_) rfl rfl rfl ?_ ?_; rotate_left 1; (focus (intro w' hk; go_simp; (first | done | with_reducible rfl | exact rfl))); (try simp only [Act.put, List.setIfInBounds_toArray, List.set_cons_zero, List.set_cons_succ]))
            (refine RT.pl_value (v := ?_) rfl rfl rfl ?_ ?_; rotate_left 1; (focus (intro w' hk; have z0 := look hk k0; have z1 := look hk k1; have z2 := look hk k2; go_simp; (first | done | with_reducible rfl | exact rfl))); (try simp only [Act.put, List.setIfInBounds_toArray, List.set_cons_zero, List.set_cons_succ]))
            (refine RT.pl_call (v := ?_) (f := ?_) (args := ?_) rfl rfl rfl ?_ ?_ ?_; rotate_left 3; (focus (intro w' hk; go_simp; (first | done | (constructor <;> with_reducible rfl) | with_reducible rfl))); (focus (intro w' hk; exact HPS.out _ (HN0.out.next (HB.out.trans (hk.whole.mono HB.out.size))))); (try simp only [Act.put, List.setIfInBounds_toArray, List.set_cons_zero, List.set_cons_succ]))
            refine RT.pl_nil ⟨rfl, RT.stores_block 46 (.tmp 12) (.tmp 63) rfl rfl rfl HY.out (by kernel_rfl) rfl (by simp [Value.oneCell']), ?_⟩
            rintro W5 ⟨hk5, hY⟩
            have hL := (hk5.block _ (block_lt HL.out) (by omega)).trans HL.out
            have hB := HB.out.trans (hk5.below HB.out.size (fun g hg => by omega))
            simp only [List.drop_succ_cons, List.drop_zero]
            clear hk5 HL HB HY l0 l1 l2 l3 l4 l5 l6 l7 l8 k0 k1 k2 HPS
            have HL := Lib.hid hL; have HB := Lib.hid hB; have HY := Lib.hid hY
            clear hL hB hY
            go_wp2_with fail
            go_roundw
            case rel => exact ⟨k + 1, hlt, by go_num, HL.out, HY.out, HB.out⟩
            case measure => simp [intOf]; omega
          · have hge : ¬ (k : Int) < (ms.length : Int) := by omega
            obtain ⟨l0, l1, l2, l3, l4, l5, l6, l7, l8⟩ := cells9 hY
            obtain ⟨q0, q1, q2, q3, q4, q5, q6, q7, q8⟩ := cells9 hL
            have HB := Lib.hid hB
            clear hL hB hY
            go_wp2_with fail
            go_ret
            exact ⟨rfl, HB.out⟩
      · rw [put_val hp]
        clear hp HQ HWN
        have hB1 := hB.alloc hB.size (.cells (flashC g.a g.b g.e0 g.e1 g.li) 25)
        clear hL hB
        go_wp2_with fail
        go_ret
        exact ⟨rfl, hB1⟩
    · have HB := Lib.hid hB
      clear hB
      go_wp2_with fail
      refine (shown12_any _ (HN0.out.next HB.out)).mono ?_
      rintro e w4 ⟨rfl, hb⟩
      have hB := HB.out.trans (hb.mono HB.out.size)
      clear hb HB
      go_wp2_with fail
      go_ret
      exact ⟨rfl, hB⟩
  · have HB := Lib.hid hB
    clear hB
    go_wp2_with fail
    refine (shown12_any _ (HN0.out.next HB.out)).mono ?_
    rintro e w4 ⟨rfl, hb⟩
    have hB := HB.out.trans (hb.mono HB.out.size)
    clear hb HB
    go_wp2_with fail
    go_ret
    exact ⟨rfl, hB⟩
end Go.Proofs.YtmjbpdhkpdpdjaaDoor
