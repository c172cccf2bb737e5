/- The walk of JournalSafe. -/
import Derived.Test.YtmjbpdhkpdpdjaaDoorP20
namespace Go.Proofs.YtmjbpdhkpdpdjaaDoor
open Go.RowKit Go.Shelf
attribute [local go_sem] Oper.semAt_some

namespace Dw
theorem size_n {n : Nat} (h : n < 12) : size (1 + (n : Int)) = ((24 * (n + 1) + 24 : Nat) : Int) := by unfold size; rw [if_pos (by omega)]; omega
end Dw

theorem StepsAt.get {w : World} {sa : Option Addr} {len cap k : Nat} {l : List Dw.Stp} {s : Dw.Stp} (h : StepsAt w (.slice sa len cap) l) (hk : l[k]? = some s) :
    s.data < 18446744073709551616 ∧ ∃ b off, sa = some ⟨b, off, none⟩ ∧ w.cell? ⟨b, off + k * 3, none⟩ = some (.int .u64 s.data) ∧ w.cell? ⟨b, off + k * 3 + 1, none⟩ = some (.int .i64 s.cut) ∧ w.cell? ⟨b, off + k * 3 + 2, none⟩ = some (.string ⟨s.mask.toArray⟩) := by
  obtain ⟨sa', cap', he, hd, hs⟩ := h
  cases he
  refine ⟨hd s (List.mem_of_getElem? hk), ?_⟩
  rcases hs with rfl | ⟨b, off, h, hc⟩
  · simp at hk
  · exact ⟨b, off, h, hc k s hk⟩
theorem new12_any (n l : Nat) (hn : n < 12) (hl : l ≤ 1000) (w : World) :
    Calls Tryd.prog 18 #[.int .i64 ((24 * (n + 1) + 24 : Nat) : Int), .int .i64 l] w fun e w' => e = .returned (flV (Dw.fNew (n + 1) l)) ∧ Below w.heap.size w w' :=
  new_any (24 * (n + 1) + 24) l (by omega) hl w

set_option maxRecDepth 100000 in
set_option maxHeartbeats 4000000 in
theorem safe_any (a b : Nat) (ha : a < 256) (hb : b < 256) (ss : List Dw.Stp) (v : Value) (w : World) (hv : StepsAt w v ss) (hn : NoneAt w) :
    Calls Tryd.prog 7 #[.int .u8 a, .int .u8 b, v] w fun e w' => e = .returned (.bool true) ∧ Below w.heap.size w w' := by
  have hB := Below.refl w.heap.size w
  have HN0 := Lib.hid hn; have HV0 := Lib.hid hv
  obtain ⟨sa, cap, hvs, hd, _⟩ := id hv
  subst hvs
  have a1 : IntKind.i64.wrap (a : Int) = (a : Int) := IntWalk.i64_in _ (by omega)
  have a2 : Int.tmod (a : Int) 12 = ((a % 12 : Nat) : Int) := rfl
  have b1 : IntKind.i64.wrap (b : Int) = (b : Int) := IntWalk.i64_in _ (by omega)
  have hm : a % 12 < 12 := Nat.mod_lt _ (by decide)
  have a3 : IntKind.i64.wrap (1 + ((a % 12 : Nat) : Int)) = 1 + ((a % 12 : Nat) : Int) := IntWalk.i64_in _ (by omega)
  go_enter Tryd.func7, Tryd.ntmps7
  go_wp2_with fail
  obtain ⟨m, hm1⟩ : ∃ m, m = a % 12 := ⟨_, rfl⟩
  rw [← hm1] at hm
  rw [show (1 + (a : Int) % 12) = 1 + (m : Int) from by omega]
  clear a1 a2 a3 hm1 ha
  refine (rsize_any _ _).mono ?_
  rintro e w1 ⟨rfl, hb⟩
  replace hB := hB.trans (hb.mono hB.size)
  clear hb
  rw [Dw.size_n hm]
  go_wp2_with fail
  refine (new12_any m b hm (by omega) _).mono ?_
  rintro e w2 ⟨rfl, hb⟩
  replace hB := hB.trans (hb.mono hB.size)
  clear hb
  have hI := Dw.new_inv (n := m + 1) (by omega) (by omega) (b : Int)
  have hO := Dw.new_ok (n := m + 1) (by omega) (li := (b : Int)) (by omega)
  generalize Dw.fNew (m + 1) (b : Int) = F at *
  have HI := Lib.hid hI; have HO := Lib.hid hO
  clear hI hO b1
  have hF := heap_alloc_new w2 (.cells (flashC F.a F.b F.e0 F.e1 F.li) 25)
  replace hB := hB.alloc hB.size (.cells (flashC F.a F.b F.e0 F.e1 F.li) 25)
  have HF := Lib.hid hF; have HV := Lib.hid (hv.next hB); have HN := Lib.hid (hn.next hB); have HB := Lib.hid hB
  clear hF hB hv hn
  go_wp2_with fail
  have hF := HF.out; have hB := HB.out; have hv := HV.out; have hn := HN.out
  clear HF HB HV HN
  generalize w2.alloc _ = W2 at *
  generalize w2.heap.size = f1 at *
  refine (big12_any F ss _ _ hv).mono ?_
  rintro e w3 ⟨rfl, hb⟩
  replace hF := (hb.block _ (block_lt hF)).trans hF
  replace hB := hB.trans (hb.mono hB.size)
  replace hv := hv.next hb; replace hn := hn.next hb
  clear hb
  cases hbig : Dw.big12 F ss
  · obtain ⟨_, _, hlen⟩ := Dw.not_big hbig
    clear hbig
    have HV := Lib.hid hv; have HF := Lib.hid hF; have HB := Lib.hid hB
    clear hv hF hB
    go_wp2_with fail
    refine (shown12_any _ hn).mono ?_
    rintro e w4 ⟨rfl, hb⟩
    have hF := (hb.block _ (block_lt HF.out)).trans HF.out
    have hB := HB.out.trans (hb.mono HB.out.size)
    have hv := HV.out.next hb; replace hn := hn.next hb
    clear hb HF HB HV
    obtain ⟨c0, c1, c2, c3, c4⟩ := cells5 hF
    have hz0 := hB.size
    clear hF
    have hL := heap_alloc_new w4 (.cells (lgC (Dw.lg0 F)) 46)
    replace hB := hB.alloc hB.size (.cells (lgC (Dw.lg0 F)) 46)
    have HV := Lib.hid (hv.next ((Below.refl _ w4).alloc (Nat.le_refl _) (.cells (lgC (Dw.lg0 F)) 46))); have HL := Lib.hid hL; have HB := Lib.hid hB; have HN := Lib.hid (hn.next ((Below.refl _ w4).alloc (Nat.le_refl _) (.cells (lgC (Dw.lg0 F)) 46)))
    clear hL hB hv hn
    go_wp2_with fail
    have hL := HL.out; have hB := HB.out; have hv := HV.out; have hn := HN.out
    clear HL HB HV HN
    have HR := Lib.hid (fun k s (h : ss[k]? = some s) => Dw.runJ_next (Dw.lg0 F) ss h)
    have HO1 := Lib.hid (fun k => Dw.runJ_ok (ss.take k) (Dw.lg0 F) HO.out)
    have HA := Lib.hid (fun k => Dw.runJ_acked (ss.take k) (Dw.lg0 F))
    have HRL := Lib.hid (fun k => Dw.run_log (ss.take k) 0 (Dw.lg0 F) none HI.out (Dw.new_rel F) (by rw [List.length_take]; omega) (fun s hs => hd s (List.mem_of_mem_take hs)))
    clear hd HI
    generalize w4.heap.size = f4 at *
    clear c0 c1 c2 c3 c4
    go_loopw [9] (fun i wr => ∃ k : Nat, k ≤ ss.length ∧ i = .int .i64 k ∧ wr.heap[f4]? = some (.cells (lgC (Dw.runJ (Dw.lg0 F) (ss.take k))) 46 (0, 0)) ∧ Below w.heap.size w wr) (fun i _ => ss.length - (intOf i).toNat)
    case atStart => exact ⟨0, Nat.zero_le _, rfl, hL, hB⟩
    case round =>
      clear hL hB hv hn
      obtain ⟨k, hk, rfl, hL, hB⟩ := hrel
      have hv := HV0.out.next hB; have hn := HN0.out.next hB
      by_cases hlt : k < ss.length
      · have hlt' : (k : Int) < (ss.length : Int) := by omega
        obtain ⟨s, hse⟩ : ∃ s, ss[k]? = some s := ⟨ss[k], List.getElem?_eq_getElem hlt⟩
        obtain ⟨hds, bb, off, rfl, k0, k1, k2⟩ := hv.get hse
        have hnx := HR.out k s hse
        have hok := HO1.out k
        have hok2 := HO1.out (k + 1)
        have hrd := HRL.out (k + 1)
        have hac := HA.out k
        have hacl : (ss.take k).length ≤ 60 := by rw [List.length_take]; omega
        obtain ⟨cu, hcu, hru, _⟩ := hrd
        obtain ⟨R1, R2⟩ := Dw.rel_read hcu hru
        have R3 := hru.ac
        clear hcu hru
        generalize Dw.runJ (Dw.lg0 F) (ss.take k) = lk at *
        rw [hnx] at hok2 R1 R2 R3
        have HPL := Lib.hid (fun w hn => play12_any lk hok (by have : (Dw.lg0 F).acked = 0 := rfl; omega) s hds w hn)
        have HST := Lib.hid (fun w hn => state12_any (Dw.playJ lk s) hok2 w hn)
        have HK := Lib.hid hnx; have HE := Lib.hid hse
        clear hnx hse hok hok2 hac hacl
        generalize Dw.playJ lk s = l2 at *
        obtain ⟨f', ac, la, fl, fi⟩ := l2
        dsimp only at R1 R2 R3
        obtain ⟨l0, l1, l2, l3, l4, l5, l6, l7, l8⟩ := cells9 hL
        have HL := Lib.hid hL; have HB := Lib.hid hB; have HV := Lib.hid hv; have HN := Lib.hid hn
        have HR1 := Lib.hid R1; have HR2 := Lib.hid R2; have HR3 := Lib.hid R3
        clear hL hB hv hn R1 R2 R3
        go_wp2_with fail
        refine RT.wp_letter (fun k => k = f4) (fun _ => false) [0, 1, 2, 3, 4, 5] 6 7 (RT.Stored wr f4 (lgC ⟨f', ac, la, fl, fi⟩) 46) rfl (by kernel_rfl) (by kernel_rfl) rfl (fun A B h hk => h.keep hk) ?_
        (refine RT.pl_value (v := ?_) rfl rfl rfl ?_ ?_; rotate_left 1; (focus (intro w' hk; have y0 := look hk l0; have y1 := look hk l1; have y2 := look hk l2; have y3 := look hk l3; have y4 := look hk l4; have y5 := look hk l5; have y6 := look hk l6; have y7 := look hk l7; have y8 := look hk l8; go_simp; (first | done | with_reducible rfl | exact rfl))); (try simp only [Act.put, List.setIfInBounds_toArray, List.set_cons_zero, List.set_cons_succ]))
        (refine RT.pl_value (v := ?_) rfl rfl rfl ?_ ?_; rotate_left 1; (focus (intro w' hk; go_simp; (first | done | with_reducible rfl | exact rfl))); (try simp only [Act.put, List.setIfInBounds_toArray, List.set_cons_zero, List.set_cons_succ]))
        (refine RT.pl_value (v := ?_) rfl rfl rfl ?_ ?_; rotate_left 1; (focus (intro w' hk; go_simp; (first | done | with_reducible rfl | exact rfl))); (try simp only [Act.put, List.setIfInBounds_toArray, List.set_cons_zero, List.set_cons_succ]))
        (refine RT.pl_value (v := ?_) rfl rfl rfl ?_ ?_; rotate_left 1; (focus (intro w' hk; go_simp; (first | done | with_reducible rfl | exact rfl))); (try simp only [Act.put, List.setIfInBounds_toArray, List.set_cons_zero, List.set_cons_succ]))
        (refine RT.pl_value (v := ?_) rfl rfl rfl ?_ ?_; rotate_left 1; (focus (intro w' hk; have z0 := look hk k0; have z1 := look hk k1; have z2 := look hk k2; go_simp; (first | done | with_reducible rfl | exact rfl))); (try simp only [Act.put, List.setIfInBounds_toArray, List.set_cons_zero, List.set_cons_succ]))
        (refine RT.pl_call (v := ?_) (f := ?_) (args := ?_) rfl rfl rfl ?_ ?_ ?_; rotate_left 3; (focus (intro w' hk; go_simp; (first | done | (constructor <;> with_reducible rfl) | with_reducible rfl))); (focus (intro w' hk; exact HPL.out _ (HN.out.keep hk))); (try simp only [Act.put, List.setIfInBounds_toArray, List.set_cons_zero, List.set_cons_succ]))
        refine RT.pl_nil ⟨rfl, RT.stores_block 46 (.tmp 8) (.tmp 41) rfl rfl rfl HL.out (by kernel_rfl) rfl (by simp [Value.oneCell']), ?_⟩
        rintro W5 ⟨hk5, hL⟩
        have hf4 := block_lt HL.out
        have hB := HB.out.trans (hk5.below HB.out.size (fun g hg => by omega))
        simp only [List.drop_succ_cons, List.drop_zero]
        clear hk5 HL HB HV HN l0 l1 l2 l3 l4 l5 l6 l7 l8 k0 k1 k2 HPL
        have R1 := HR1.out; have R2 := HR2.out; have R3 := HR3.out
        clear HR1 HR2 HR3
        generalize Dw.readE f'.a f'.b = re at *
        generalize (Dw.readS f'.a f'.b).data = rd at *
        obtain ⟨l0, l1, l2, l3, l4, l5, l6, l7, l8⟩ := cells9 hL
        have HL := Lib.hid hL; have HB := Lib.hid hB
        clear hL hB
        have hpos : ac = 0 ∨ 0 < ac := by omega
        cases fl with
        | true =>
          simp only [Bool.or_true, decide_eq_true_eq] at R1
          subst R1
          obtain rfl := R2 rfl
          simp only [decide_true] at HST
          clear R2 R3
          rcases hpos with rfl | hp
          · go_wp2_with fail
            refine (HST.out _ (HN0.out.next HB.out)).mono ?_
            rintro e w6 ⟨rfl, hb⟩
            have hL := (hb.block _ (block_lt HL.out)).trans HL.out
            have hB := HB.out.trans (hb.mono HB.out.size)
            clear hb HL HB l0 l1 l2 l3 l4 l5 l6 l7 l8
            obtain ⟨l0, l1, l2, l3, l4, l5, l6, l7, l8⟩ := cells9 hL
            have HL := Lib.hid hL; have HB := Lib.hid hB
            clear hL hB
            go_wp2_with fail
            go_roundw
            case rel => exact ⟨k + 1, hlt, by go_num, by rw [HK.out]; exact HL.out, HB.out⟩
            case measure => simp [intOf]; omega
          · go_wp2_with fail
            refine (HST.out _ (HN0.out.next HB.out)).mono ?_
            rintro e w6 ⟨rfl, hb⟩
            have hL := (hb.block _ (block_lt HL.out)).trans HL.out
            have hB := HB.out.trans (hb.mono HB.out.size)
            clear hb HL HB l0 l1 l2 l3 l4 l5 l6 l7 l8
            obtain ⟨l0, l1, l2, l3, l4, l5, l6, l7, l8⟩ := cells9 hL
            have HL := Lib.hid hL; have HB := Lib.hid hB
            clear hL hB
            go_wp2_with fail
            go_roundw
            case rel => exact ⟨k + 1, hlt, by go_num, by rw [HK.out]; exact HL.out, HB.out⟩
            case measure => simp [intOf]; omega
        | false =>
          rcases hpos with rfl | hp
          · simp only [Int.lt_irrefl, decide_false, Bool.or_false] at R1
            simp only [R1] at HST
            clear R1 R2 R3
            go_wp2_with fail
            refine (HST.out _ (HN0.out.next HB.out)).mono ?_
            rintro e w6 ⟨rfl, hb⟩
            have hL := (hb.block _ (block_lt HL.out)).trans HL.out
            have hB := HB.out.trans (hb.mono HB.out.size)
            clear hb HL HB l0 l1 l2 l3 l4 l5 l6 l7 l8
            obtain ⟨l0, l1, l2, l3, l4, l5, l6, l7, l8⟩ := cells9 hL
            have HL := Lib.hid hL; have HB := Lib.hid hB
            clear hL hB
            go_wp2_with fail
            go_roundw
            case rel => exact ⟨k + 1, hlt, by go_num, by rw [HK.out]; exact HL.out, HB.out⟩
            case measure => simp [intOf]; omega
          · rw [decide_eq_true hp, Bool.true_or, decide_eq_true_eq] at R1
            subst R1
            obtain rfl := R2 rfl
            simp only [decide_true] at HST
            clear R2 R3
            go_wp2_with fail
            refine (HST.out _ (HN0.out.next HB.out)).mono ?_
            rintro e w6 ⟨rfl, hb⟩
            have hL := (hb.block _ (block_lt HL.out)).trans HL.out
            have hB := HB.out.trans (hb.mono HB.out.size)
            clear hb HL HB l0 l1 l2 l3 l4 l5 l6 l7 l8
            obtain ⟨l0, l1, l2, l3, l4, l5, l6, l7, l8⟩ := cells9 hL
            have HL := Lib.hid hL; have HB := Lib.hid hB
            clear hL hB
            go_wp2_with fail
            go_roundw
            case rel => exact ⟨k + 1, hlt, by go_num, by rw [HK.out]; exact HL.out, HB.out⟩
            case measure => simp [intOf]; omega
      · have hge : ¬ (k : Int) < (ss.length : Int) := by omega
        have HB := Lib.hid hB
        clear hB hL hv hn
        go_wp2_with fail
        go_ret
        exact ⟨rfl, HB.out⟩
  · have HB := Lib.hid hB
    clear hB
    go_wp2_with fail
    refine (shown12_any _ hn).mono ?_
    rintro e w4 ⟨rfl, hb⟩
    have hB := HB.out.trans (hb.mono HB.out.size)
    clear hb HB
    go_wp2_with fail
    go_ret
    exact ⟨rfl, hB⟩
end Go.Proofs.YtmjbpdhkpdpdjaaDoor
