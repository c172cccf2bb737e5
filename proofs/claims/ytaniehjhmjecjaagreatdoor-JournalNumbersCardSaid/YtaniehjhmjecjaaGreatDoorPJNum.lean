/- The walk of JournalNumbers (this text is printed by wip/gen/jnum.py). -/
import Derived.Test.YtaniehjhmjecjaaGreatDoorPSafe
import Derived.Test.YtaniehjhmjecjaaGreatDoorP20
import Derived.Test.YtaniehjhmjecjaaGreatDoorPPlainNum
import Derived.Test.YtaniehjhmjecjaaGreatDoorPRRead
namespace Go.Proofs.YtaniehjhmjecjaaGreatDoor
open Go.RowKit Go.Shelf
attribute [local go_sem] Oper.semAt_some

set_option maxRecDepth 100000 in
set_option maxHeartbeats 4000000 in
theorem jnum_any (a : Nat) (ha : a < 256) (ss : List Dw.Stp) (v : Value) (w : World) (hv : StepsAt w v ss) (hn : NoneAt w) :
    Calls Tryz.prog 8 #[.int .u8 a, v] w fun e w' => e = .returned (.bool true) ∧ Below w.heap.size w w' := by
  have hB := Below.refl w.heap.size w
  have HN0 := Lib.hid hn; have HV0 := Lib.hid hv
  obtain ⟨sa, cap, hus, _, _⟩ := id hv
  subst hus
  have a1 : IntKind.i64.wrap (a : Int) = (a : Int) := IntWalk.i64_in _ (by omega)
  have a2 : Int.tmod (a : Int) 12 = ((a % 12 : Nat) : Int) := rfl
  have hm : a % 12 < 12 := Nat.mod_lt _ (by decide)
  have a3 : IntKind.i64.wrap (1 + ((a % 12 : Nat) : Int)) = 1 + ((a % 12 : Nat) : Int) := IntWalk.i64_in _ (by omega)
  clear hv hn
  go_enter Tryz.func8, Tryz.ntmps8
  go_wp2_with fail
  obtain ⟨m, hm1⟩ : ∃ m, m = a % 12 := ⟨_, rfl⟩
  rw [← hm1] at hm
  rw [show (1 + (a : Int) % 12) = 1 + (m : Int) from by omega]
  clear a1 a2 a3 hm1 ha
  refine (rsize_any _ _).mono ?_
  rintro e w1 ⟨rfl, hb⟩
  replace hB := hB.trans (hb.mono hB.size)
  clear hb
  rw [Dw.size_n hm]
  go_wp2_with fail
  refine (new12_any m 100 hm (by omega) _).mono ?_
  rintro e w2 ⟨rfl, hb⟩
  replace hB := hB.trans (hb.mono hB.size)
  clear hb
  have hI := Dw.new_inv (n := m + 1) (by omega) (by omega) ((100 : Nat) : Int)
  have hO := Dw.new_ok (n := m + 1) (by omega) (li := ((100 : Nat) : Int)) (by omega)
  generalize Dw.fNew (m + 1) ((100 : Nat) : Int) = F at *
  have hst0 : Dw.NumSt (m + 1) 0 (Dw.lg0 F) 0 := ⟨⟨none, hI, rfl⟩, hO, Int.le_refl _, Int.le_refl _⟩
  have HST0 := Lib.hid hst0
  clear hI hO hst0
  have hF := heap_alloc_new w2 (.cells (flashC F.a F.b F.e0 F.e1 F.li) 25)
  replace hB := hB.alloc hB.size (.cells (flashC F.a F.b F.e0 F.e1 F.li) 25)
  have HF := Lib.hid hF; have HB := Lib.hid hB
  clear hF hB
  go_wp2_with fail
  have hF := HF.out; have hB := HB.out
  clear HF HB
  generalize w2.alloc _ = W2 at *
  generalize w2.heap.size = f1 at *
  refine (big12_any F ss _ _ (HV0.out.next hB)).mono ?_
  rintro e w3 ⟨rfl, hb⟩
  replace hF := (hb.block _ (block_lt hF)).trans hF
  replace hB := hB.trans (hb.mono hB.size)
  clear hb
  cases hbig : Dw.big12 F ss
  · obtain ⟨_, _, hlen⟩ := Dw.not_big hbig
    clear hbig
    have HF := Lib.hid hF; have HB := Lib.hid hB
    clear hF hB
    go_wp2_with fail
    refine (shown12_any _ (HN0.out.next HB.out)).mono ?_
    rintro e w5 ⟨rfl, hb⟩
    have hF := (hb.block _ (block_lt HF.out)).trans HF.out
    have hB := HB.out.trans (hb.mono HB.out.size)
    clear hb HF HB
    obtain ⟨c0, c1, c2, c3, c4⟩ := cells5 hF
    clear hF
    have hz5 := hB.size
    have hL := heap_alloc_new w5 (.cells (lgC (Dw.lg0 F)) 61)
    replace hB := hB.alloc hB.size (.cells (lgC (Dw.lg0 F)) 61)
    have HL := Lib.hid hL; have HB := Lib.hid hB
    clear hL hB
    go_wp2_with fail
    have hL := HL.out; have hB := HB.out
    clear HL HB c0 c1 c2 c3 c4
    generalize w5.heap.size = f3 at *
    go_loopw [7, 8] (fun q i wr => ∃ (k qn : Nat) (lk : Dw.Lg), k ≤ ss.length ∧ i = .int .i64 k ∧ q = .int .u64 qn ∧ Dw.NumSt (m + 1) k lk qn ∧ wr.heap[f3]? = some (.cells (lgC lk) 61 (0, 0)) ∧ Below w.heap.size w wr) (fun _ i _ => ss.length - (intOf i).toNat)
    case atStart => exact ⟨0, 0, Dw.lg0 F, Nat.zero_le _, rfl, rfl, HST0.out, hL, hB⟩
    case round =>
      clear hL hB HST0
      obtain ⟨k, qn, lk, hk, rfl, rfl, hst, hL, hB⟩ := hrel
      by_cases hlt : k < ss.length
      · have hlt' : (k : Int) < (ss.length : Int) := by omega
        obtain ⟨s, hse⟩ : ∃ s, ss[k]? = some s := ⟨ss[k], List.getElem?_eq_getElem hlt⟩
        obtain ⟨hds, bb, off, rfl, k0, k1, k2⟩ := (HV0.out.next hB).get hse
        have hac := hst.ac
        have hnx := Dw.num_next hst (by omega) s hds
        have HPL := Lib.hid (fun w hn => play12_any lk hst.ok (by omega) s hds w hn)
        obtain ⟨y, hy⟩ : ∃ y, Dw.playJ lk s = y := ⟨_, rfl⟩
        rw [hy] at hnx HPL
        clear hy hse
        have HRD := Lib.hid (fun w => rread_any y.f hnx.yok.a hnx.yok.b w)
        generalize Dw.readS y.f.a y.f.b = rs at *
        generalize Dw.readE y.f.a y.f.b = re at *
        obtain ⟨rb, rg, rq, rd⟩ := rs
        have HNX := Lib.hid hnx.res; have HAC := Lib.hid hac
        obtain ⟨l0, l1, l2, l3, l4, l5, l6, l7, l8⟩ := cells9 hL
        have HL := Lib.hid hL; have HB := Lib.hid hB
        clear hL hB hst hnx hac hds
        go_wp2_with fail
        refine wp_letterD (List.range 6) 6 7 (some 9) (NewBlock wr #[.string ⟨#[]⟩, .string ⟨#[]⟩, .int .i64 0, .int .i64 0, .int .i64 0, .int .i64 0, .int .u64 0, .bool false, .int .u64 0] 61) rfl rfl (by kernel_rfl) (by kernel_rfl) rfl (fun v A B h hk => h.keep hk) ?_
        rw [show List.range 6 = [0, 1, 2, 3, 4, 5] from rfl]
        (refine pl_value (v := ?_) rfl rfl ?_ ?_; rotate_left 1; (focus (intro w' hk; have y0 := look hk l0; have y1 := look hk l1; have y2 := look hk l2; have y3 := look hk l3; have y4 := look hk l4; have y5 := look hk l5; have y6 := look hk l6; have y7 := look hk l7; have y8 := look hk l8; have z0 := look hk k0; have z1 := look hk k1; have z2 := look hk k2; go_simp; (first | done | with_reducible rfl | exact rfl))); (try simp only [Act.put, List.setIfInBounds_toArray, List.set_cons_zero, List.set_cons_succ]))
        (refine pl_value (v := ?_) rfl rfl ?_ ?_; rotate_left 1; (focus (intro w' hk; have y0 := look hk l0; have y1 := look hk l1; have y2 := look hk l2; have y3 := look hk l3; have y4 := look hk l4; have y5 := look hk l5; have y6 := look hk l6; have y7 := look hk l7; have y8 := look hk l8; have z0 := look hk k0; have z1 := look hk k1; have z2 := look hk k2; go_simp; (first | done | with_reducible rfl | exact rfl))); (try simp only [Act.put, List.setIfInBounds_toArray, List.set_cons_zero, List.set_cons_succ]))
        (refine pl_value (v := ?_) rfl rfl ?_ ?_; rotate_left 1; (focus (intro w' hk; have y0 := look hk l0; have y1 := look hk l1; have y2 := look hk l2; have y3 := look hk l3; have y4 := look hk l4; have y5 := look hk l5; have y6 := look hk l6; have y7 := look hk l7; have y8 := look hk l8; have z0 := look hk k0; have z1 := look hk k1; have z2 := look hk k2; go_simp; (first | done | with_reducible rfl | exact rfl))); (try simp only [Act.put, List.setIfInBounds_toArray, List.set_cons_zero, List.set_cons_succ]))
        (refine pl_value (v := ?_) rfl rfl ?_ ?_; rotate_left 1; (focus (intro w' hk; have y0 := look hk l0; have y1 := look hk l1; have y2 := look hk l2; have y3 := look hk l3; have y4 := look hk l4; have y5 := look hk l5; have y6 := look hk l6; have y7 := look hk l7; have y8 := look hk l8; have z0 := look hk k0; have z1 := look hk k1; have z2 := look hk k2; go_simp; (first | done | with_reducible rfl | exact rfl))); (try simp only [Act.put, List.setIfInBounds_toArray, List.set_cons_zero, List.set_cons_succ]))
        (refine pl_value (v := ?_) rfl rfl ?_ ?_; rotate_left 1; (focus (intro w' hk; have y0 := look hk l0; have y1 := look hk l1; have y2 := look hk l2; have y3 := look hk l3; have y4 := look hk l4; have y5 := look hk l5; have y6 := look hk l6; have y7 := look hk l7; have y8 := look hk l8; have z0 := look hk k0; have z1 := look hk k1; have z2 := look hk k2; go_simp; (first | done | with_reducible rfl | exact rfl))); (try simp only [Act.put, List.setIfInBounds_toArray, List.set_cons_zero, List.set_cons_succ]))
        (refine pl_call (v := ?_) (f := ?_) (args := ?_) rfl rfl ?_ ?_ ?_; rotate_left 3; (focus (intro w' hk; have y0 := look hk l0; have y1 := look hk l1; have y2 := look hk l2; have y3 := look hk l3; have y4 := look hk l4; have y5 := look hk l5; have y6 := look hk l6; have y7 := look hk l7; have y8 := look hk l8; have z0 := look hk k0; have z1 := look hk k1; have z2 := look hk k2; go_simp; (first | done | (constructor <;> with_reducible rfl) | with_reducible rfl))); (focus (intro w' hk; exact HPL.out w' (HN0.out.next (HB.out.trans (hk.whole.mono HB.out.size))))); (try simp only [Act.put, List.setIfInBounds_toArray, List.set_cons_zero, List.set_cons_succ]))
        refine pl_nil ?_
        refine ⟨rfl, sure_new (fun w' _ => by go_simp), ?_⟩
        rintro v W5 hk5 ⟨gy, rfl, hgy, hT⟩
        simp only [List.drop_succ_cons, List.drop_zero, List.setIfInBounds_toArray, List.set_cons_zero, List.set_cons_succ]
        have hL := (hk5.block _ (block_lt HL.out) id).trans HL.out
        have hgf : f3 < gy := by have := block_lt HL.out; omega
        have hgw : w.heap.size ≤ gy := by have := HB.out.size; omega
        have hB := HB.out.trans (hk5.whole.mono HB.out.size)
        have hY := setRow_heap W5 gy _ (lgC y) _ _ hT
        have hL6 := (setRow_other W5 gy f3 (lgC y) (by omega)).trans hL
        have hB6 := below_setRow hB hgw (lgC y)
        have HL6 := Lib.hid hL6; have HB6 := Lib.hid hB6; have HY := Lib.hid hY
        clear hB hL hY hL6 hB6 hk5 l0 l1 l2 l3 l4 l5 l6 l7 l8 k0 k1 k2 HPL hgy HB
        refine wpList_store_block rfl 61 _ _ rfl rfl rfl hT (by kernel_rfl) rfl (by simp [Value.oneCell']) ?_
        have hL := HL6.out; have hB := HB6.out; have hY := HY.out
        clear HL6 HB6 HY hT HL
        generalize World.setRow W5 gy _ = W6 at *
        obtain ⟨yf, yac, yla, yfl, yfi⟩ := y
        dsimp only at HNX HRD
        obtain ⟨p0, p1, p2, p3, p4, p5, p6, p7, p8⟩ := cells9 hY
        have HL := Lib.hid hL; have HB := Lib.hid hB; have HY := Lib.hid hY
        clear hL hB hY
        go_wp2_with fail
        refine (HRD.out _).mono ?_
        rintro e w7 ⟨rfl, hb⟩
        have hL := (hb.block _ (block_lt HL.out)).trans HL.out
        have hY := (hb.block _ (block_lt HY.out)).trans HY.out
        have hB := HB.out.trans (hb.mono HB.out.size)
        have hS := heap_alloc_new w7 (.cells #[.int .i64 rb, .int .u64 rg, .int .u64 rq, .int .u64 rd] 34)
        replace hL := (heap_alloc_old w7 (.cells #[.int .i64 rb, .int .u64 rg, .int .u64 rq, .int .u64 rd] 34) _ (block_lt hL)).trans hL
        replace hY := (heap_alloc_old w7 (.cells #[.int .i64 rb, .int .u64 rg, .int .u64 rq, .int .u64 rd] 34) _ (block_lt hY)).trans hY
        replace hB := hB.alloc hB.size (.cells #[.int .i64 rb, .int .u64 rg, .int .u64 rq, .int .u64 rd] 34)
        clear hb HL HY HB p0 p1 p2 p3 p4 p5 p6 p7 p8 HRD
        obtain ⟨l0, l1, l2, l3, l4, l5, l6, l7, l8⟩ := cells9 hL
        obtain ⟨p0, p1, p2, p3, p4, p5, p6, p7, p8⟩ := cells9 hY
        obtain ⟨q0, q1, q2, q3⟩ := cells4 hS
        have HL8 := Lib.hid (setRow_heap _ f3 _ (lgC ⟨yf, yac, yla, yfl, yfi⟩) _ _ hL)
        have HB8 := Lib.hid (below_setRow hB (by omega) (lgC ⟨yf, yac, yla, yfl, yfi⟩) (g := f3))
        have HL := Lib.hid hL; have HY := Lib.hid hY
        clear hL hY hS hB
        have g5 : IntKind.i64.wrap ((k : Int) + 1) = (k : Int) + 1 := IntWalk.i64_in _ (by omega)
        have g6 : IntKind.u64.wrap ((k : Int) + 1) = (k : Int) + 1 := u64_id (by omega) (by omega)
        rcases HNX.out with ⟨rfl, rfl, hst2⟩ | ⟨rfl, hle, hks, hack, hst2⟩
        · have HST := Lib.hid hst2
          clear hst2 HNX
          have hge : ¬ lk.acked < lk.acked := Int.lt_irrefl _
          go_wp2_with (first | (refine wpList_load_block rfl 61 (.tmp 9) rfl rfl HY.out Tryz.underlying61 rfl (by kernel_rfl) ?_) | (refine wpList_store_block rfl 61 (.tmp 6) (.tmp 77) rfl rfl rfl HL.out (by kernel_rfl) rfl (by simp [Value.oneCell']) ?_))
          go_roundw
          case rel => exact ⟨k + 1, qn, _, hlt, by go_num, rfl, HST.out, HL8.out, HB8.out⟩
          case measure => simp [intOf]; omega
        · have HST := Lib.hid hst2
          have c1 : ¬ (rq : Int) < (qn : Int) := by omega
          have c2 : ¬ (k : Int) + 1 < (rq : Int) := by omega
          rcases hack with rfl | ⟨rfl, hlq⟩
          · clear hst2 HNX hle hks
            have hge : ¬ lk.acked < lk.acked := Int.lt_irrefl _
            go_wp2_with (first | (refine wpList_load_block rfl 61 (.tmp 9) rfl rfl HY.out Tryz.underlying61 rfl (by kernel_rfl) ?_) | (refine wpList_store_block rfl 61 (.tmp 6) (.tmp 77) rfl rfl rfl HL.out (by kernel_rfl) rfl (by simp [Value.oneCell']) ?_))
            go_roundw
            case rel => exact ⟨k + 1, rq, _, hlt, by go_num, rfl, HST.out, HL8.out, HB8.out⟩
            case measure => simp [intOf]; omega
          · have hge : lk.acked < lk.acked + 1 := by omega
            have c3 : ¬ (rq : Int) ≤ (qn : Int) := by omega
            clear hst2 HNX hle hks hlq
            go_wp2_with (first | (refine wpList_load_block rfl 61 (.tmp 9) rfl rfl HY.out Tryz.underlying61 rfl (by kernel_rfl) ?_) | (refine wpList_store_block rfl 61 (.tmp 6) (.tmp 77) rfl rfl rfl HL.out (by kernel_rfl) rfl (by simp [Value.oneCell']) ?_))
            go_roundw
            case rel => exact ⟨k + 1, rq, _, hlt, by go_num, rfl, HST.out, HL8.out, HB8.out⟩
            case measure => simp [intOf]; omega
      · have hge : ¬ (k : Int) < (ss.length : Int) := by omega
        have HB := Lib.hid hB
        clear hL hB
        go_wp2_with fail
        go_ret
        exact ⟨rfl, HB.out⟩
  · have HB := Lib.hid hB
    clear hB
    go_wp2_with fail
    refine (shown12_any _ (HN0.out.next HB.out)).mono ?_
    rintro e w4 ⟨rfl, hb⟩
    have hB := HB.out.trans (hb.mono HB.out.size)
    clear hb HB
    go_wp2_with fail
    go_ret
    exact ⟨rfl, hB⟩
end Go.Proofs.YtaniehjhmjecjaaGreatDoor
