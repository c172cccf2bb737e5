/- The walk of JournalErases (this text is printed by wip/gen/jerase.py). -/
import Derived.Test.YtmjbpdhkpdpdjaaDoorPJOne
import Derived.Test.YtmjbpdhkpdpdjaaDoorPPlainErase
import Derived.Test.YtmjbpdhkpdpdjaaDoorPU64
namespace Go.Proofs.YtmjbpdhkpdpdjaaDoor
open Go.RowKit Go.Shelf
attribute [local go_sem] Oper.semAt_some

namespace Dw
/-- Where the loop stands. -/
structure At (n i M : Nat) (l : Lg) : Prop where
  ex : Ex n i l.f
  st : ∃ c, Inv n i l.f c ∧ Rel l c
  ac : l.acked = i
  li : l.f.li = M
  ok : FlOk l.f
  le : i ≤ 2 * M * n
end Dw
set_option maxRecDepth 100000 in
set_option maxHeartbeats 2000000 in
theorem jerase_any (a b : Nat) (ha : a < 256) (hb : b < 256) (xs : List Nat) (v : Value) (w : World) (hv : U64sAt w v xs) (hn : NoneAt w) :
    Calls Tryd.prog 9 #[.int .u8 a, .int .u8 b, v] w fun e w' => e = .returned (.bool true) ∧ Below w.heap.size w w' := by
  have hB := Below.refl w.heap.size w
  have HN0 := Lib.hid hn; have HV0 := Lib.hid hv
  obtain ⟨sa, cap, hus, _, _⟩ := id hv
  subst hus
  have a1 : IntKind.i64.wrap (a : Int) = (a : Int) := IntWalk.i64_in _ (by omega)
  have a2 : Int.tmod (a : Int) 12 = ((a % 12 : Nat) : Int) := rfl
  have b1 : IntKind.i64.wrap (b : Int) = (b : Int) := IntWalk.i64_in _ (by omega)
  have b2 : Int.tmod (b : Int) 8 = ((b % 8 : Nat) : Int) := rfl
  have hm : a % 12 < 12 := Nat.mod_lt _ (by decide)
  have hM : b % 8 < 8 := Nat.mod_lt _ (by decide)
  have a3 : IntKind.i64.wrap (1 + ((a % 12 : Nat) : Int)) = 1 + ((a % 12 : Nat) : Int) := IntWalk.i64_in _ (by omega)
  clear hv hn
  go_enter Tryd.func9, Tryd.ntmps9
  by_cases hlen : 60 < xs.length
  · have hl' : (60 : Int) < (xs.length : Int) := by omega
    have HB := Lib.hid hB
    clear hB
    go_wp2_with fail
    refine (shown12_any _ (HN0.out.next HB.out)).mono ?_
    rintro e w4 ⟨rfl, hb⟩
    have hB := HB.out.trans (hb.mono HB.out.size)
    clear hb HB
    go_wp2_with fail
    go_ret
    exact ⟨rfl, hB⟩
  have hl' : ¬ (60 : Int) < (xs.length : Int) := by omega
  go_wp2_with fail
  refine (shown12_any _ (HN0.out.next hB)).mono ?_
  rintro e w1 ⟨rfl, hb⟩
  replace hB := hB.trans (hb.mono hB.size)
  clear hb
  obtain ⟨m, hm1⟩ : ∃ m, m = a % 12 := ⟨_, rfl⟩
  obtain ⟨M, hM1⟩ : ∃ M, M = b % 8 := ⟨_, rfl⟩
  rw [← hm1] at hm
  rw [← hM1] at hM
  have hx1 : (a : Int) % 12 = (m : Int) := by omega
  have hx2 : (b : Int) % 8 = (M : Int) := by omega
  have HX1 := Lib.hid hx1; have HX2 := Lib.hid hx2
  clear hm1 hM1 a1 a2 a3 b1 b2 hx1 hx2
  go_wp2_with fail
  simp only [HX1.out, HX2.out]
  refine (rsize_any _ _).mono ?_
  rintro e w2 ⟨rfl, hb⟩
  replace hB := hB.trans (hb.mono hB.size)
  clear hb
  rw [Dw.size_n hm]
  go_wp2_with fail
  refine (new12_any m M hm (by omega) _).mono ?_
  rintro e w3 ⟨rfl, hb⟩
  replace hB := hB.trans (hb.mono hB.size)
  clear hb
  have hI := Dw.new_inv (n := m + 1) (by omega) (by omega) (M : Int)
  have hO := Dw.new_ok (n := m + 1) (by omega) (li := (M : Int)) (by omega)
  have hA0 : Dw.At (m + 1) 0 M (Dw.lg0 (Dw.fNew (m + 1) (M : Int))) := ⟨.inl ⟨rfl, hI, rfl, rfl⟩, ⟨none, hI, Dw.new_rel _⟩, rfl, rfl, hO, Nat.zero_le _⟩
  generalize Dw.fNew (m + 1) (M : Int) = F at *
  have HA0 := Lib.hid hA0
  clear hI hO hA0
  have hz3 := hB.size
  have hL := heap_alloc_new w3 (.cells (lgC (Dw.lg0 F)) 46)
  replace hB := hB.alloc hB.size (.cells (lgC (Dw.lg0 F)) 46)
  have HL := Lib.hid hL; have HB := Lib.hid hB
  clear hL hB
  go_wp2_with fail
  have hL := HL.out; have hB := HB.out
  clear HL HB
  obtain ⟨T, hT⟩ : ∃ T : Nat, T = 2 * M * (m + 1) := ⟨_, rfl⟩
  have hTl : T ≤ 168 := by rw [hT]; exact Nat.le_trans (Nat.mul_le_mul (by omega : 2 * M ≤ 14) (by omega : m + 1 ≤ 12)) (by decide)
  have u1 : IntKind.i64.wrap (2 * (M : Int)) = 2 * (M : Int) := IntWalk.i64_in _ (by omega)
  have u2 : 2 * (M : Int) * (1 + (m : Int)) = (T : Int) := by rw [hT]; simp only [Int.natCast_mul, Int.natCast_add]; rw [Int.add_comm (1 : Int) (m : Int)]; rfl
  have u3 : IntKind.i64.wrap (T : Int) = (T : Int) := IntWalk.i64_in _ (by omega)
  have u4 : (1 + (m : Int)) ≠ 0 := by omega
  have HT := Lib.hid hT
  clear hT HX1 HX2
  generalize w3.heap.size = f3 at *
  go_loopw [10] (fun i wr => ∃ (k : Nat) (lk : Dw.Lg), k ≤ xs.length ∧ i = .int .i64 k ∧ Dw.At (m + 1) k M lk ∧ wr.heap[f3]? = some (.cells (lgC lk) 46 (0, 0)) ∧ Below w.heap.size w wr) (fun i _ => xs.length - (intOf i).toNat)
  case atStart => exact ⟨0, Dw.lg0 F, Nat.zero_le _, rfl, HA0.out, hL, hB⟩
  case round =>
    clear hL hB HA0
    obtain ⟨k, lk, hk, rfl, hAt, hL, hB⟩ := hrel
    by_cases hlt : k < xs.length
    · have hlt' : (k : Int) < (xs.length : Int) := by omega
      obtain ⟨x, hxe⟩ : ∃ x, xs[k]? = some x := ⟨xs[k], List.getElem?_eq_getElem hlt⟩
      obtain ⟨hx, bb, off, rfl, k0⟩ := HV0.out.get hB hxe
      obtain ⟨c, hI, hR⟩ := hAt.st
      obtain ⟨hw1, hw2⟩ := Dw.whole_step hAt.ex hI hR (by omega) hAt.li x hx
      rw [← HT.out] at hw1 hw2
      have hle := hAt.le
      rw [← HT.out] at hle
      have hac := hAt.ac
      have hnx := (Dw.step_log hI hR (by omega) ⟨x, -1, []⟩ hx).next
      have hok2 := Dw.playJ_ok hAt.ok ⟨x, -1, []⟩
      have HPL := Lib.hid (fun w hn => play12_any lk hAt.ok (by omega) ⟨x, -1, []⟩ hx w hn)
      have HXE := Lib.hid hxe
      clear hI hR hxe
      obtain ⟨l0, l1, l2, l3, l4, l5, l6, l7, l8⟩ := cells9 hL
      have HL := Lib.hid hL; have HB := Lib.hid hB; have HAT := Lib.hid hAt
      clear hL hB hAt
      have HW1 := Lib.hid hw1; have HW2 := Lib.hid hw2; have HNX := Lib.hid hnx; have HOK2 := Lib.hid hok2; have HAC := Lib.hid hac
      clear hw1 hw2 hnx hok2 hac
      obtain ⟨y, hy⟩ : ∃ y, Dw.playJ lk ⟨x, -1, []⟩ = y := ⟨_, rfl⟩
      rw [hy] at HW1 HW2 HNX HOK2 HPL
      clear hy
      go_wp2_with fail
      refine wp_letterD (List.range 7) 7 8 (some 11) (NewBlock wr #[.string ⟨#[]⟩, .string ⟨#[]⟩, .int .i64 0, .int .i64 0, .int .i64 0, .int .i64 0, .int .u64 0, .bool false, .int .u64 0] 46) rfl rfl (by kernel_rfl) (by kernel_rfl) rfl (fun v A B h hk => h.keep hk) ?_
      rw [show List.range 7 = [0, 1, 2, 3, 4, 5, 6] from rfl]
      (refine pl_value (v := ?_) rfl rfl ?_ ?_; rotate_left 1; (focus (intro w' hk; have y0 := look hk l0; have y1 := look hk l1; have y2 := look hk l2; have y3 := look hk l3; have y4 := look hk l4; have y5 := look hk l5; have y6 := look hk l6; have y7 := look hk l7; have y8 := look hk l8; have z0 := look hk k0; go_simp; (first | done | with_reducible rfl | exact rfl))); (try simp only [Act.put, List.setIfInBounds_toArray, List.set_cons_zero, List.set_cons_succ]))
      (refine pl_value (v := ?_) rfl rfl ?_ ?_; rotate_left 1; (focus (intro w' hk; have y0 := look hk l0; have y1 := look hk l1; have y2 := look hk l2; have y3 := look hk l3; have y4 := look hk l4; have y5 := look hk l5; have y6 := look hk l6; have y7 := look hk l7; have y8 := look hk l8; have z0 := look hk k0; go_simp; (first | done | with_reducible rfl | exact rfl))); (try simp only [Act.put, List.setIfInBounds_toArray, List.set_cons_zero, List.set_cons_succ]))
      (refine pl_value (v := ?_) rfl rfl ?_ ?_; rotate_left 1; (focus (intro w' hk; have y0 := look hk l0; have y1 := look hk l1; have y2 := look hk l2; have y3 := look hk l3; have y4 := look hk l4; have y5 := look hk l5; have y6 := look hk l6; have y7 := look hk l7; have y8 := look hk l8; have z0 := look hk k0; go_simp; (first | done | with_reducible rfl | exact rfl))); (try simp only [Act.put, List.setIfInBounds_toArray, List.set_cons_zero, List.set_cons_succ]))
      (refine pl_value (v := ?_) rfl rfl ?_ ?_; rotate_left 1; (focus (intro w' hk; have y0 := look hk l0; have y1 := look hk l1; have y2 := look hk l2; have y3 := look hk l3; have y4 := look hk l4; have y5 := look hk l5; have y6 := look hk l6; have y7 := look hk l7; have y8 := look hk l8; have z0 := look hk k0; go_simp; (first | done | with_reducible rfl | exact rfl))); (try simp only [Act.put, List.setIfInBounds_toArray, List.set_cons_zero, List.set_cons_succ]))
      (refine pl_value (v := ?_) rfl rfl ?_ ?_; rotate_left 1; (focus (intro w' hk; have y0 := look hk l0; have y1 := look hk l1; have y2 := look hk l2; have y3 := look hk l3; have y4 := look hk l4; have y5 := look hk l5; have y6 := look hk l6; have y7 := look hk l7; have y8 := look hk l8; have z0 := look hk k0; go_simp; (first | done | with_reducible rfl | exact rfl))); (try simp only [Act.put, List.setIfInBounds_toArray, List.set_cons_zero, List.set_cons_succ]))
      (refine pl_value (v := ?_) rfl rfl ?_ ?_; rotate_left 1; (focus (intro w' hk; have y0 := look hk l0; have y1 := look hk l1; have y2 := look hk l2; have y3 := look hk l3; have y4 := look hk l4; have y5 := look hk l5; have y6 := look hk l6; have y7 := look hk l7; have y8 := look hk l8; have z0 := look hk k0; go_simp; (first | done | with_reducible rfl | exact rfl))); (try simp only [Act.put, List.setIfInBounds_toArray, List.set_cons_zero, List.set_cons_succ]))
      (refine pl_call (v := ?_) (f := ?_) (args := ?_) rfl rfl ?_ ?_ ?_; rotate_left 3; (focus (intro w' hk; have y0 := look hk l0; have y1 := look hk l1; have y2 := look hk l2; have y3 := look hk l3; have y4 := look hk l4; have y5 := look hk l5; have y6 := look hk l6; have y7 := look hk l7; have y8 := look hk l8; have z0 := look hk k0; go_simp; (first | done | (constructor <;> with_reducible rfl) | with_reducible rfl))); (focus (intro w' hk; exact HPL.out w' (HN0.out.next (HB.out.trans (hk.whole.mono HB.out.size))))); (try simp only [Act.put, List.setIfInBounds_toArray, List.set_cons_zero, List.set_cons_succ]))
      refine pl_nil ?_
      refine ⟨rfl, sure_new (fun w' _ => by go_simp), ?_⟩
      rintro v W5 hk5 ⟨gy, rfl, hgy, hT⟩
      simp only [List.drop_succ_cons, List.drop_zero, List.setIfInBounds_toArray, List.set_cons_zero, List.set_cons_succ]
      have hL := (hk5.block _ (block_lt HL.out) id).trans HL.out
      have hgf : f3 < gy := by have := block_lt HL.out; omega
      have hgw : w.heap.size ≤ gy := by have := HB.out.size; omega
      have hB := HB.out.trans (hk5.whole.mono HB.out.size)
      have hY := setRow_heap W5 gy _ (lgC y) _ _ hT
      have hL6 := (setRow_other W5 gy f3 (lgC y) (by omega)).trans hL
      have hB6 := below_setRow hB hgw (lgC y)
      have HL6 := Lib.hid hL6; have HB6 := Lib.hid hB6; have HY := Lib.hid hY
      clear hB hL hY hL6 hB6 hk5 l0 l1 l2 l3 l4 l5 l6 l7 l8 k0 HPL hgy HB
      refine wpList_store_block rfl 46 _ _ rfl rfl rfl hT (by kernel_rfl) rfl (by simp [Value.oneCell']) ?_
      have hL := HL6.out; have hB := HB6.out; have hY := HY.out
      clear HL6 HB6 HY hT HL
      generalize World.setRow W5 gy _ = W6 at *
      by_cases hkT : k < T
      · have hkT' : (k : Int) < (T : Int) := by omega
        obtain ⟨hE, hac2, hla2, hli2⟩ := HW1.out hkT
        obtain ⟨c2, hI2, hR2, hx2⟩ := HNX.out
        clear hx2
        have hwr := Dw.ex_wear hE
        have hw0 := hI2.w0; have hw1 := hI2.w1
        rw [HAC.out] at hac2
        have hAt2 : Dw.At (m + 1) (k + 1) M y := ⟨hE, ⟨c2, hI2, hR2⟩, by rw [hac2]; omega, hli2, HOK2.out, by rw [← HT.out]; omega⟩
        have HAT2 := Lib.hid hAt2
        have HWR := Lib.hid (fun w => wear_any y.f (by omega) (by omega) w)
        rw [hwr] at HWR
        clear hAt2 hE hI2 hR2 hwr hw0 hw1 HW1 HW2 HNX HOK2 HAC HAT hli2
        obtain ⟨yf, ac, la, fl, fi⟩ := y
        dsimp only at hac2 hla2
        subst hac2 hla2
        obtain ⟨_, b', off', h', k0⟩ := HV0.out.get hB HXE.out
        cases h'
        obtain ⟨Q, hQ⟩ : ∃ Q : Nat, Q = k / (m + 1) := ⟨_, rfl⟩
        have hQk : Q ≤ k := by rw [hQ]; exact Nat.div_le_self _ _
        have g1 : (k : Int) / (1 + (m : Int)) = (Q : Int) := by rw [hQ, Int.add_comm]; rfl
        have g2 : Int.tdiv (k : Int) (1 + (m : Int)) = (Q : Int) := by rw [Int.tdiv_eq_ediv_of_nonneg (by omega)]; exact g1
        have g3 : IntKind.i64.wrap (Q : Int) = (Q : Int) := IntWalk.i64_in _ (by omega)
        have g4 : IntKind.i64.wrap ((Q : Int) + 1) = (Q : Int) + 1 := IntWalk.i64_in _ (by omega)
        have g5 : IntKind.i64.wrap ((k : Int) + 1) = (k : Int) + 1 := IntWalk.i64_in _ (by omega)
        rw [← hQ, show ((Q + 1 : Nat) : Int) = (Q : Int) + 1 from rfl] at HWR
        clear hQ
        have HWR2 : ∀ w' : World, Calls Tryd.prog 27 #[.agg #[.string ⟨yf.a.toArray⟩, .string ⟨yf.b.toArray⟩, .int .i64 yf.e0, .int .i64 yf.e1, .int .i64 yf.li]] w' fun e w'' => e = .returned (.int .i64 ((Q : Int) + 1)) ∧ Below w'.heap.size w' w'' := HWR.out
        clear HWR
        have HWR := Lib.hid HWR2
        clear HWR2
        obtain ⟨q0, q1, q2, q3, q4, q5, q6, q7, q8⟩ := cells9 hY
        have HB := Lib.hid hB; have HL := Lib.hid hL; have HY := Lib.hid hY
        clear hL hB hY
        go_wp2_with fail
        refine wp_pure (List.range 24) 24 (by kernel_rfl) (by kernel_rfl) rfl ?_
        rw [show List.range 24 = [0, 1, 2, 3, 4, 5, 6, 7, 8, 9, 10, 11, 12, 13, 14, 15, 16, 17, 18, 19, 20, 21, 22, 23] from rfl]
        (refine pl_value (v := ?_) rfl rfl ?_ ?_; rotate_left 1; (focus (intro w' hk; go_simp; (first | done | with_reducible rfl | exact rfl))); (try simp only [Act.put, List.setIfInBounds_toArray, List.set_cons_zero, List.set_cons_succ]))
        (refine pl_value (v := ?_) rfl rfl ?_ ?_; rotate_left 1; (focus (intro w' hk; have y5 := look hk q5; go_simp; (first | done | with_reducible rfl | exact rfl))); (try simp only [Act.put, List.setIfInBounds_toArray, List.set_cons_zero, List.set_cons_succ]))
        (refine pl_value (v := ?_) rfl rfl ?_ ?_; rotate_left 1; (focus (intro w' hk; go_simp; (first | done | with_reducible rfl | exact rfl))); (try simp only [Act.put, List.setIfInBounds_toArray, List.set_cons_zero, List.set_cons_succ]))
        (refine pl_value (v := ?_) rfl rfl ?_ ?_; rotate_left 1; (focus (intro w' hk; go_simp; (first | done | with_reducible rfl | exact rfl))); (try simp only [Act.put, List.setIfInBounds_toArray, List.set_cons_zero, List.set_cons_succ]))
        (refine pl_value (v := ?_) rfl rfl ?_ ?_; rotate_left 1; (focus (intro w' hk; go_simp; (first | done | with_reducible rfl | exact rfl))); (try simp only [Act.put, List.setIfInBounds_toArray, List.set_cons_zero, List.set_cons_succ]))
        (refine pl_value (v := ?_) rfl rfl ?_ ?_; rotate_left 1; (focus (intro w' hk; go_simp; (first | done | with_reducible rfl | exact rfl))); (try simp only [Act.put, List.setIfInBounds_toArray, List.set_cons_zero, List.set_cons_succ]))
        (refine pl_value (v := ?_) rfl rfl ?_ ?_; rotate_left 1; (focus (intro w' hk; go_simp; (first | done | with_reducible rfl | exact rfl))); (try simp only [Act.put, List.setIfInBounds_toArray, List.set_cons_zero, List.set_cons_succ]))
        (refine pl_value (v := ?_) rfl rfl ?_ ?_; rotate_left 1; (focus (intro w' hk; have y6 := look hk q6; go_simp; (first | done | with_reducible rfl | exact rfl))); (try simp only [Act.put, List.setIfInBounds_toArray, List.set_cons_zero, List.set_cons_succ]))
        (refine pl_value (v := ?_) rfl rfl ?_ ?_; rotate_left 1; (focus (intro w' hk; go_simp; (first | done | with_reducible rfl | exact rfl))); (try simp only [Act.put, List.setIfInBounds_toArray, List.set_cons_zero, List.set_cons_succ]))
        (refine pl_value (v := ?_) rfl rfl ?_ ?_; rotate_left 1; (focus (intro w' hk; go_simp; (first | done | with_reducible rfl | exact rfl))); (try simp only [Act.put, List.setIfInBounds_toArray, List.set_cons_zero, List.set_cons_succ]))
        (refine pl_value (v := ?_) rfl rfl ?_ ?_; rotate_left 1; (focus (intro w' hk; go_simp; (first | done | with_reducible rfl | exact rfl))); (try simp only [Act.put, List.setIfInBounds_toArray, List.set_cons_zero, List.set_cons_succ]))
        (refine pl_value (v := ?_) rfl rfl ?_ ?_; rotate_left 1; (focus (intro w' hk; have z0 := look hk k0; go_simp; (first | done | with_reducible rfl | exact rfl))); (try simp only [Act.put, List.setIfInBounds_toArray, List.set_cons_zero, List.set_cons_succ]))
        (refine pl_value (v := ?_) rfl rfl ?_ ?_; rotate_left 1; (focus (intro w' hk; go_simp; (first | done | with_reducible rfl | exact rfl))); (try simp only [Act.put, List.setIfInBounds_toArray, List.set_cons_zero, List.set_cons_succ]))
        (refine pl_value (v := ?_) rfl rfl ?_ ?_; rotate_left 1; (focus (intro w' hk; go_simp; (first | done | with_reducible rfl | exact rfl))); (try simp only [Act.put, List.setIfInBounds_toArray, List.set_cons_zero, List.set_cons_succ]))
        (refine pl_value (v := ?_) rfl rfl ?_ ?_; rotate_left 1; (focus (intro w' hk; go_simp; (first | done | with_reducible rfl | exact rfl))); (try simp only [Act.put, List.setIfInBounds_toArray, List.set_cons_zero, List.set_cons_succ]))
        (refine pl_value (v := ?_) rfl rfl ?_ ?_; rotate_left 1; (focus (intro w' hk; go_simp; (first | done | with_reducible rfl | exact rfl))); (try simp only [Act.put, List.setIfInBounds_toArray, List.set_cons_zero, List.set_cons_succ]))
        (refine pl_value (v := ?_) rfl rfl ?_ ?_; rotate_left 1; (focus (intro w' hk; have y0 := look hk q0; have y1 := look hk q1; have y2 := look hk q2; have y3 := look hk q3; have y4 := look hk q4; go_simp; (first | done | with_reducible rfl | exact rfl))); (try simp only [Act.put, List.setIfInBounds_toArray, List.set_cons_zero, List.set_cons_succ]))
        (refine pl_call (v := ?_) (f := ?_) (args := ?_) rfl rfl ?_ ?_ ?_; rotate_left 3; (focus (intro w' hk; go_simp; (first | done | (constructor <;> with_reducible rfl) | with_reducible rfl))); (focus (intro w' hk; exact HWR.out w')); (try simp only [Act.put, List.setIfInBounds_toArray, List.set_cons_zero, List.set_cons_succ]))
        (refine pl_value (v := ?_) rfl rfl ?_ ?_; rotate_left 1; (focus (intro w' hk; go_simp; (first | done | with_reducible rfl | exact rfl))); (try simp only [Act.put, List.setIfInBounds_toArray, List.set_cons_zero, List.set_cons_succ]))
        (refine pl_value (v := ?_) rfl rfl ?_ ?_; rotate_left 1; (focus (intro w' hk; go_simp; (first | done | with_reducible rfl | exact rfl))); (try simp only [Act.put, List.setIfInBounds_toArray, List.set_cons_zero, List.set_cons_succ]))
        (refine pl_value (v := ?_) rfl rfl ?_ ?_; rotate_left 1; (focus (intro w' hk; go_simp; (first | done | with_reducible rfl | exact rfl))); (try simp only [Act.put, List.setIfInBounds_toArray, List.set_cons_zero, List.set_cons_succ]))
        (refine pl_value (v := ?_) rfl rfl ?_ ?_; rotate_left 1; (focus (intro w' hk; go_simp; (first | done | with_reducible rfl | exact rfl))); (try simp only [Act.put, List.setIfInBounds_toArray, List.set_cons_zero, List.set_cons_succ]))
        (refine pl_value (v := ?_) rfl rfl ?_ ?_; rotate_left 1; (focus (intro w' hk; go_simp; (first | done | with_reducible rfl | exact rfl))); (try simp only [Act.put, List.setIfInBounds_toArray, List.set_cons_zero, List.set_cons_succ]))
        (refine pl_value (v := ?_) rfl rfl ?_ ?_; rotate_left 1; (focus (intro w' hk; go_simp; (first | done | with_reducible rfl | exact rfl))); (try simp only [Act.put, List.setIfInBounds_toArray, List.set_cons_zero, List.set_cons_succ]))
        refine pl_nil ?_
        intro w7 hk7
        simp only [List.drop_succ_cons, List.drop_zero]
        have hY7 := (hk7.block _ (block_lt HY.out) id).trans HY.out
        have hL7 := (hk7.block _ (block_lt HL.out) id).trans HL.out
        have hB7 := HB.out.trans (hk7.whole.mono HB.out.size)
        clear hk7 HY HL HB q0 q1 q2 q3 q4 q5 q6 q7 q8 k0 HWR g1 g2 g3 g4
        obtain ⟨q0, q1, q2, q3, q4, q5, q6, q7, q8⟩ := cells9 hY7
        have HL8 := Lib.hid (setRow_heap w7 f3 _ (lgC ⟨yf, (k : Int) + 1, la, fl, fi⟩) _ _ hL7)
        have HB8 := Lib.hid (below_setRow hB7 hz3 (lgC ⟨yf, (k : Int) + 1, la, fl, fi⟩))
        clear hY7 hB7
        go_wp2_with (refine wpList_store_block rfl 46 (.tmp 9) (.tmp 87) rfl rfl rfl hL7 (by kernel_rfl) rfl (by simp [Value.oneCell']) ?_)
        go_roundw
        case rel => exact ⟨k + 1, _, hlt, by go_num, HAT2.out, HL8.out, HB8.out⟩
        case measure => simp [intOf]; omega
      · obtain rfl : k = T := by omega
        obtain rfl := HW2.out rfl
        have hac := HAC.out
        clear HW1 HW2 HNX HOK2 HAC HAT
        obtain ⟨yf, ac, la, fl, fi⟩ := y
        dsimp only at hac
        subst hac
        obtain ⟨l0, l1, l2, l3, l4, l5, l6, l7, l8⟩ := cells9 hL
        obtain ⟨q0, q1, q2, q3, q4, q5, q6, q7, q8⟩ := cells9 hY
        have HB := Lib.hid hB
        clear hL hB hY
        go_wp2_with fail
        go_ret
        exact ⟨rfl, HB.out⟩
    · have hge : ¬ (k : Int) < (xs.length : Int) := by omega
      have HB := Lib.hid hB
      clear hL hB hAt
      go_wp2_with fail
      go_ret
      exact ⟨rfl, HB.out⟩
end Go.Proofs.YtmjbpdhkpdpdjaaDoor
