/- Layer 12: the reference's State and Play (this text is printed by wip/gen/rplay12.py). -/
import Derived.Test.YtaniehjhmjecjaaGreatDoorPRPut12
import Derived.Test.YtaniehjhmjecjaaGreatDoorP19
import Derived.Test.YtaniehjhmjecjaaGreatDoorPPlainOne
import Derived.Deep.Cut
namespace Go.Proofs.YtaniehjhmjecjaaGreatDoor
open Go.RowKit Go.Shelf
attribute [local go_sem] Oper.semAt_some

set_option maxRecDepth 100000 in
set_option maxHeartbeats 1000000 in
theorem rstate12_any (l : Dw.Lg) (hf : Dw.FlOk l.f) (w : World) :
    Calls Tryz.prog 26 #[lgV l] w fun e w' => e = .returned (.tuple #[.int .u64 (Dw.readS l.f.a l.f.b).data, .bool (decide (Dw.readE l.f.a l.f.b = 0))]) ∧ Below w.heap.size w w' := by
  have b0 := heap_alloc_new w (.cells (lgC l) 64)
  have vB := (Below.refl w.heap.size w).alloc (Nat.le_refl _) (.cells (lgC l) 64)
  obtain ⟨l0, l1, l2, l3, l4, l5, l6, l7, l8⟩ := cells9 b0
  obtain ⟨f, acked, last, flying, flight⟩ := l
  dsimp only at *
  have HL := Lib.hid (fun w => rread_any f hf.a hf.b w)
  obtain ⟨⟨pb, pg, pq, pd⟩, hS⟩ : ∃ p, Dw.readS f.a f.b = p := ⟨_, rfl⟩
  obtain ⟨pe, hE⟩ : ∃ p, Dw.readE f.a f.b = p := ⟨_, rfl⟩
  have hE2 := Dw.readE_two f.a f.b
  rw [hS, hE] at HL
  rw [hE] at hE2
  rw [hS, hE]
  clear hS hE b0
  go_enter Tryz.func26, Tryz.ntmps26
  go_wp2_with fail
  refine (HL.out _).mono ?_
  rintro e w1 ⟨rfl, hb⟩
  have hB := vB.trans (hb.mono vB.size)
  clear hb vB l0 l1 l2 l3 l4 l5 l6 l7 l8
  have hB2 := hB.alloc hB.size (.cells #[.int .i64 pb, .int .u64 pg, .int .u64 pq, .int .u64 pd] 34)
  have HB := Lib.hid hB2
  clear hB hB2
  rcases hE2 with rfl | rfl
  · go_wp2_with fail
    refine bodyPost_ret (results_tmp2 rfl _ _ _) rfl ⟨rfl, HB.out⟩
  · go_wp2_with fail
    refine bodyPost_ret (results_tmp2 rfl _ _ _) rfl ⟨rfl, HB.out⟩

theorem lg_set4 (g : Dw.Fl) (acked : Int) (last : Nat) (flying : Bool) (flight : Nat) (A : Int) (D : Nat) :
    ((((lgC ⟨g, acked, last, flying, flight⟩).setIfInBounds 5 (.int .i64 A)).setIfInBounds 6 (.int .u64 D)).setIfInBounds 7 (.bool false)).setIfInBounds 8 (.int .u64 0) = lgC ⟨g, A, D, false, 0⟩ := rfl
set_option maxRecDepth 100000 in
set_option maxHeartbeats 1000000 in
theorem rplay12_any (l : Dw.Lg) (hf : Dw.FlOk l.f) (ha : 0 ≤ l.acked ∧ l.acked ≤ 1000000) (s : Dw.Stp) (hd : s.data < 18446744073709551616) (hm : s.mask.length ≤ 100000) (w : World) :
    Calls Tryz.prog 48 #[lgV l, stpV s] w fun e w' => e = .returned (lgV (Dw.playJ l s)) ∧ Below w.heap.size w w' := by
  obtain ⟨V, hV⟩ : ∃ V, ((w.alloc (.cells (lgC l) 64)).alloc (.cells (stpC s) 56)).alloc (.cells #[.string ⟨#[]⟩, .string ⟨#[]⟩, .int .i64 0, .int .i64 0, .int .i64 0, .int .i64 0, .int .u64 0, .bool false, .int .u64 0] 64) = V := ⟨_, rfl⟩
  obtain ⟨vz, hB, b0, b1, b2⟩ := alloc3 w _ _ _ V hV
  obtain ⟨f, acked, last, flying, flight⟩ := l
  obtain ⟨data, cut, m⟩ := s
  dsimp only at *
  have HRD := Lib.hid (fun w => rread_any f hf.a hf.b w)
  have HPT := Lib.hid (fun w => rput12_any f hf ⟨data, cut, m⟩ hd hm w)
  have hw5 : IntKind.i64.wrap (acked + 1) = acked + 1 := IntWalk.i64_in _ (by omega)
  obtain ⟨l0, l1, l2, l3, l4, l5, l6, l7, l8⟩ := cells9 b0
  obtain ⟨s0, s1, s2⟩ := cells3 b1
  obtain ⟨⟨pb, pg, pq, pd⟩, hS⟩ : ∃ p, Dw.readS f.a f.b = p := ⟨_, rfl⟩
  obtain ⟨pe, hE⟩ : ∃ p, Dw.readE f.a f.b = p := ⟨_, rfl⟩
  rw [hS, hE] at HRD
  have HS := Lib.hid hS; have HE := Lib.hid hE
  clear hS hE
  go_enter Tryz.func48, Tryz.ntmps48
  go_wp2_with fail
  refine (HRD.out _).mono ?_
  rintro e w1 ⟨rfl, hb⟩
  replace b0 := (hb.block _ (block_lt b0)).trans b0
  replace b1 := (hb.block _ (block_lt b1)).trans b1
  replace b2 := (hb.block _ (block_lt b2)).trans b2
  replace hB := hB.trans (hb.mono hB.size)
  clear hb hV l0 l1 l2 l3 l4 l5 l6 l7 l8 s0 s1 s2 HRD vz
  have hz1 := block_lt b2
  have b5 := heap_alloc_new w1 (.cells #[.int .i64 pb, .int .u64 pg, .int .u64 pq, .int .u64 pd] 34)
  replace b0 := (heap_alloc_old w1 (.cells #[.int .i64 pb, .int .u64 pg, .int .u64 pq, .int .u64 pd] 34) _ (block_lt b0)).trans b0
  replace b1 := (heap_alloc_old w1 (.cells #[.int .i64 pb, .int .u64 pg, .int .u64 pq, .int .u64 pd] 34) _ (block_lt b1)).trans b1
  replace b2 := (heap_alloc_old w1 (.cells #[.int .i64 pb, .int .u64 pg, .int .u64 pq, .int .u64 pd] 34) _ (block_lt b2)).trans b2
  replace hB := hB.alloc hB.size (.cells #[.int .i64 pb, .int .u64 pg, .int .u64 pq, .int .u64 pd] 34)
  obtain ⟨l0, l1, l2, l3, l4, l5, l6, l7, l8⟩ := cells9 b0
  obtain ⟨s0, s1, s2⟩ := cells3 b1
  have B0 := Lib.hid b0; have B1 := Lib.hid b1; have B2 := Lib.hid b2; have B5 := Lib.hid b5; have HB := Lib.hid hB
  clear b0 b1 b2 b5 hB
  go_wp2_with fail
  generalize w1.alloc _ = W1 at *
  generalize w1.heap.size = x5 at *
  refine (HPT.out _).mono ?_
  rintro e w2 ⟨rfl, hb⟩
  have b0 := (hb.block _ (block_lt B0.out)).trans B0.out
  have b1 := (hb.block _ (block_lt B1.out)).trans B1.out
  have b2 := (hb.block _ (block_lt B2.out)).trans B2.out
  have b5 := (hb.block _ (block_lt B5.out)).trans B5.out
  have hB := HB.out.trans (hb.mono HB.out.size)
  clear hb l0 l1 l2 l3 l4 l5 l6 l7 l8 s0 s1 s2 HPT B0 B1 B2 B5 HB
  have hz2 := block_lt b5
  by_cases hp : (Dw.plan f data).2 = 0
  · have HJ := Lib.hid (show Dw.playJ ⟨f, acked, last, flying, flight⟩ ⟨data, cut, m⟩ = if Dw.ackB f ⟨data, cut, m⟩ = true then ⟨(Dw.putG f ⟨data, cut, m⟩).1, acked + 1, data, false, 0⟩ else if Dw.seenEq (Dw.putG f ⟨data, cut, m⟩).1.a (Dw.putG f ⟨data, cut, m⟩).1.b f.a f.b = false then ⟨(Dw.putG f ⟨data, cut, m⟩).1, acked, last, true, data⟩ else ⟨(Dw.putG f ⟨data, cut, m⟩).1, acked, last, flying, flight⟩ from by unfold Dw.playJ; rw [if_neg (fun h => h hp)])
    have hgok := Dw.putG_ok hf (s := ⟨data, cut, m⟩) hp
    rw [show putV f ⟨data, cut, m⟩ = .tuple #[flV (Dw.putG f ⟨data, cut, m⟩).1, .bool (Dw.ackB f ⟨data, cut, m⟩), .int .i64 0] from if_pos hp]
    generalize (Dw.putG f ⟨data, cut, m⟩).1 = g at *
    generalize Dw.ackB f ⟨data, cut, m⟩ = ack at *
    have HRD := Lib.hid (fun w => rread_any g hgok.a hgok.b w)
    have HSQ := Lib.hid (show Dw.seenEq g.a g.b f.a f.b = decide ((Dw.readS g.a g.b).bank = pb ∧ (Dw.readS g.a g.b).gen = pg ∧ (Dw.readS g.a g.b).seq = pq ∧ (Dw.readS g.a g.b).data = pd ∧ Dw.readE g.a g.b = pe) from by unfold Dw.seenEq; rw [HS.out, HE.out])
    clear hp hgok hf hd hm
    have b7 := heap_alloc_new w2 (.cells (flashC g.a g.b g.e0 g.e1 g.li) 37)
    replace b0 := (heap_alloc_old w2 (.cells (flashC g.a g.b g.e0 g.e1 g.li) 37) _ (block_lt b0)).trans b0
    replace b1 := (heap_alloc_old w2 (.cells (flashC g.a g.b g.e0 g.e1 g.li) 37) _ (block_lt b1)).trans b1
    replace b2 := (heap_alloc_old w2 (.cells (flashC g.a g.b g.e0 g.e1 g.li) 37) _ (block_lt b2)).trans b2
    replace b5 := (heap_alloc_old w2 (.cells (flashC g.a g.b g.e0 g.e1 g.li) 37) _ (block_lt b5)).trans b5
    replace hB := hB.alloc hB.size (.cells (flashC g.a g.b g.e0 g.e1 g.li) 37)
    obtain ⟨l0, l1, l2, l3, l4, l5, l6, l7, l8⟩ := cells9 b0
    obtain ⟨s0, s1, s2⟩ := cells3 b1
    obtain ⟨g0, g1, g2, g3, g4⟩ := cells5 b7
    have fz0 := frozen0 b0 0; have fz1 := frozen0 b0 1; have fz2 := frozen0 b0 2; have fz3 := frozen0 b0 3; have fz4 := frozen0 b0 4; have fz5 := frozen0 b0 5; have fz6 := frozen0 b0 6; have fz7 := frozen0 b0 7; have fz8 := frozen0 b0 8
    have B0 := Lib.hid b0; have B1 := Lib.hid b1; have B2 := Lib.hid b2; have B5 := Lib.hid b5; have B7 := Lib.hid b7; have HB := Lib.hid hB
    clear b0 b1 b2 b5 b7 hB
    have hx7 : w.heap.size + 2 < w2.heap.size := hz2 |> fun h => by omega
    go_upto_region 6 with fail
    have at5 : At1 (w2.alloc (.cells (flashC g.a g.b g.e0 g.e1 g.li) 37)) w.heap.size (lgC ⟨g, acked, last, flying, flight⟩) 64 _ := ((((At1.set (i := 0) ⟨KeepBut.refl _ _, B0.out⟩ (.string ⟨g.a.toArray⟩)).set (i := 1) (.string ⟨g.b.toArray⟩)).set (i := 2) (.int .i64 g.e0)).set (i := 3) (.int .i64 g.e1)).set (i := 4) (.int .i64 g.li)
    generalize World.setCell (World.setCell (World.setCell (World.setCell (World.setCell (w2.alloc _) _ _) _ _) _ _) _ _) _ _ = W4 at *
    have b0 := at5.2
    have b1 := (at5.1.block _ (block_lt B1.out) (by omega)).trans B1.out
    have b2 := (at5.1.block _ (block_lt B2.out) (by omega)).trans B2.out
    have b5 := (at5.1.block _ (block_lt B5.out) (by omega)).trans B5.out
    have b7 := (at5.1.block _ (block_lt B7.out) (by omega)).trans B7.out
    have hB := HB.out.trans (at5.1.below HB.out.size (fun g hg => by omega))
    clear at5 B0 B1 B2 B5 B7 HB l0 l1 l2 l3 l4 l5 l6 l7 l8 s0 s1 s2 g0 g1 g2 g3 g4 fz0 fz1 fz2 fz3 fz4 fz5 fz6 fz7 fz8
    obtain ⟨g0, g1, g2, g3, g4⟩ := cells5 b7
    cases ack
    · have HJ2 := Lib.hid (HJ.out.trans (if_neg (by decide)))
      clear HJ hw5
      have B0 := Lib.hid b0; have B1 := Lib.hid b1; have B2 := Lib.hid b2; have B5 := Lib.hid b5; have HB := Lib.hid hB
      clear b0 b1 b2 b5 hB
      go_wp2_with fail
      have b0 := B0.out; have b1 := B1.out; have b2 := B2.out; have b5 := B5.out; have hB := HB.out
      clear B0 B1 B2 B5 HB b7 g0 g1 g2 g3 g4
      refine (HRD.out _).mono ?_
      rintro e w3 ⟨rfl, hb⟩
      replace b0 := (hb.block _ (block_lt b0)).trans b0
      replace b1 := (hb.block _ (block_lt b1)).trans b1
      replace b2 := (hb.block _ (block_lt b2)).trans b2
      replace b5 := (hb.block _ (block_lt b5)).trans b5
      replace hB := hB.trans (hb.mono hB.size)
      clear hb HRD
      generalize Dw.readS g.a g.b = rs at *
      generalize Dw.readE g.a g.b = re at *
      obtain ⟨rb, rg, rq, rd⟩ := rs
      dsimp only at HSQ
      obtain ⟨w5, hw5⟩ : ∃ w5, w3.alloc (.cells #[.int .i64 rb, .int .u64 rg, .int .u64 rq, .int .u64 rd] 34) = w5 := ⟨_, rfl⟩
      have b10 := hw5 ▸ heap_alloc_new w3 (.cells #[.int .i64 rb, .int .u64 rg, .int .u64 rq, .int .u64 rd] 34)
      replace b0 := hw5 ▸ (heap_alloc_old w3 (.cells #[.int .i64 rb, .int .u64 rg, .int .u64 rq, .int .u64 rd] 34) _ (block_lt b0)).trans b0
      replace b1 := hw5 ▸ (heap_alloc_old w3 (.cells #[.int .i64 rb, .int .u64 rg, .int .u64 rq, .int .u64 rd] 34) _ (block_lt b1)).trans b1
      replace b2 := hw5 ▸ (heap_alloc_old w3 (.cells #[.int .i64 rb, .int .u64 rg, .int .u64 rq, .int .u64 rd] 34) _ (block_lt b2)).trans b2
      replace b5 := hw5 ▸ (heap_alloc_old w3 (.cells #[.int .i64 rb, .int .u64 rg, .int .u64 rq, .int .u64 rd] 34) _ (block_lt b5)).trans b5
      replace hB := hw5 ▸ hB.alloc hB.size (.cells #[.int .i64 rb, .int .u64 rg, .int .u64 rq, .int .u64 rd] 34)
      have hzw5 : w3.heap.size < w5.heap.size := block_lt b10
      obtain ⟨l0, l1, l2, l3, l4, l5, l6, l7, l8⟩ := cells9 b0
      obtain ⟨s0, s1, s2⟩ := cells3 b1
      obtain ⟨p0, p1, p2, p3⟩ := cells4 b5
      obtain ⟨q0, q1, q2, q3⟩ := cells4 b10
      have fz7 := frozen0 b0 7; have fz8 := frozen0 b0 8
      have tru : ¬ (rb = pb ∧ rg = pg ∧ rq = pq ∧ rd = pd ∧ re = pe) → Dw.playJ ⟨f, acked, last, flying, flight⟩ ⟨data, cut, m⟩ = ⟨g, acked, last, true, data⟩ := fun hne => HJ2.out.trans (if_pos (by rw [HSQ.out]; exact decide_eq_false hne))
      have TRU := Lib.hid tru
      clear tru
      by_cases e0 : rb = pb
      · by_cases e1 : rg = pg
        · by_cases e2 : rq = pq
          · by_cases e3 : rd = pd
            · by_cases e4 : re = pe
              · have HT := Lib.hid (HJ2.out.trans (if_neg (by rw [HSQ.out, decide_eq_true ⟨e0, e1, e2, e3, e4⟩]; decide)))
                subst e0 e1 e2 e3 e4
                have Q0 := Lib.hid b0
                have Q2 := Lib.hid b2
                have HB := Lib.hid hB
                clear hB b0 b1 b2 b5 b10 TRU HSQ HJ2
                go_wp2_with (first | (refine wpList_load_block rfl 64 (.tmp 2) rfl rfl Q0.out Tryz.underlying64 rfl (by kernel_rfl) ?_) | (refine wpList_store_block rfl 64 (.tmp 4) (.tmp 59) rfl rfl rfl Q2.out (by kernel_rfl) rfl (by simp [Value.oneCell']) ?_))
                refine bodyPost_ret (results_cell_row rfl _ _ _ _ _ _ _ (by rfl) (setRow_heap _ _ _ _ _ _ Q2.out) Tryz.underlying64 rfl (by kernel_rfl)) rfl ⟨?_, below_setRow HB.out (by omega) _⟩
                rw [HT.out]
              · have HT := Lib.hid (TRU.out (fun h => e4 h.2.2.2.2))
                have hne : (pe == re) = false := by rw [beq_eq_false_iff_ne]; exact fun h => e4 h.symm
                subst e0 e1 e2 e3
                clear TRU HSQ HJ2
                have at7 : At1 w5 w.heap.size (lgC ⟨g, acked, last, true, data⟩) 64 _ := (At1.set (i := 7) ⟨KeepBut.refl _ w5, b0⟩ (.bool true)).set (i := 8) (.int .u64 data)
                have Q0 := Lib.hid at7.2
                have Q2 := Lib.hid ((at7.1.block _ (block_lt b2) (by omega)).trans b2)
                have HB := Lib.hid (hB.trans (at7.1.below hB.size (fun g hg => by omega)))
                clear at7 hB b0 b1 b2 b5 b10 hne
                go_wp2_with (first | (refine wpList_load_block rfl 64 (.tmp 2) rfl rfl Q0.out Tryz.underlying64 rfl (by kernel_rfl) ?_) | (refine wpList_store_block rfl 64 (.tmp 4) (.tmp 59) rfl rfl rfl Q2.out (by kernel_rfl) rfl (by simp [Value.oneCell']) ?_))
                refine bodyPost_ret (results_cell_row rfl _ _ _ _ _ _ _ (by rfl) (setRow_heap _ _ _ _ _ _ Q2.out) Tryz.underlying64 rfl (by kernel_rfl)) rfl ⟨?_, below_setRow HB.out (by omega) _⟩
                rw [HT.out]
            · have HT := Lib.hid (TRU.out (fun h => e3 h.2.2.2.1))
              have hne : ¬ (rd : Int) = (pd : Int) := by omega
              subst e0 e1 e2
              clear TRU HSQ HJ2
              have at7 : At1 w5 w.heap.size (lgC ⟨g, acked, last, true, data⟩) 64 _ := (At1.set (i := 7) ⟨KeepBut.refl _ w5, b0⟩ (.bool true)).set (i := 8) (.int .u64 data)
              have Q0 := Lib.hid at7.2
              have Q2 := Lib.hid ((at7.1.block _ (block_lt b2) (by omega)).trans b2)
              have HB := Lib.hid (hB.trans (at7.1.below hB.size (fun g hg => by omega)))
              clear at7 hB b0 b1 b2 b5 b10 hne
              go_wp2_with (first | (refine wpList_load_block rfl 64 (.tmp 2) rfl rfl Q0.out Tryz.underlying64 rfl (by kernel_rfl) ?_) | (refine wpList_store_block rfl 64 (.tmp 4) (.tmp 59) rfl rfl rfl Q2.out (by kernel_rfl) rfl (by simp [Value.oneCell']) ?_))
              refine bodyPost_ret (results_cell_row rfl _ _ _ _ _ _ _ (by rfl) (setRow_heap _ _ _ _ _ _ Q2.out) Tryz.underlying64 rfl (by kernel_rfl)) rfl ⟨?_, below_setRow HB.out (by omega) _⟩
              rw [HT.out]
          · have HT := Lib.hid (TRU.out (fun h => e2 h.2.2.1))
            have hne : ¬ (rq : Int) = (pq : Int) := by omega
            subst e0 e1
            clear TRU HSQ HJ2
            have at7 : At1 w5 w.heap.size (lgC ⟨g, acked, last, true, data⟩) 64 _ := (At1.set (i := 7) ⟨KeepBut.refl _ w5, b0⟩ (.bool true)).set (i := 8) (.int .u64 data)
            have Q0 := Lib.hid at7.2
            have Q2 := Lib.hid ((at7.1.block _ (block_lt b2) (by omega)).trans b2)
            have HB := Lib.hid (hB.trans (at7.1.below hB.size (fun g hg => by omega)))
            clear at7 hB b0 b1 b2 b5 b10 hne
            go_wp2_with (first | (refine wpList_load_block rfl 64 (.tmp 2) rfl rfl Q0.out Tryz.underlying64 rfl (by kernel_rfl) ?_) | (refine wpList_store_block rfl 64 (.tmp 4) (.tmp 59) rfl rfl rfl Q2.out (by kernel_rfl) rfl (by simp [Value.oneCell']) ?_))
            refine bodyPost_ret (results_cell_row rfl _ _ _ _ _ _ _ (by rfl) (setRow_heap _ _ _ _ _ _ Q2.out) Tryz.underlying64 rfl (by kernel_rfl)) rfl ⟨?_, below_setRow HB.out (by omega) _⟩
            rw [HT.out]
        · have HT := Lib.hid (TRU.out (fun h => e1 h.2.1))
          have hne : ¬ (rg : Int) = (pg : Int) := by omega
          subst e0
          clear TRU HSQ HJ2
          have at7 : At1 w5 w.heap.size (lgC ⟨g, acked, last, true, data⟩) 64 _ := (At1.set (i := 7) ⟨KeepBut.refl _ w5, b0⟩ (.bool true)).set (i := 8) (.int .u64 data)
          have Q0 := Lib.hid at7.2
          have Q2 := Lib.hid ((at7.1.block _ (block_lt b2) (by omega)).trans b2)
          have HB := Lib.hid (hB.trans (at7.1.below hB.size (fun g hg => by omega)))
          clear at7 hB b0 b1 b2 b5 b10 hne
          go_wp2_with (first | (refine wpList_load_block rfl 64 (.tmp 2) rfl rfl Q0.out Tryz.underlying64 rfl (by kernel_rfl) ?_) | (refine wpList_store_block rfl 64 (.tmp 4) (.tmp 59) rfl rfl rfl Q2.out (by kernel_rfl) rfl (by simp [Value.oneCell']) ?_))
          refine bodyPost_ret (results_cell_row rfl _ _ _ _ _ _ _ (by rfl) (setRow_heap _ _ _ _ _ _ Q2.out) Tryz.underlying64 rfl (by kernel_rfl)) rfl ⟨?_, below_setRow HB.out (by omega) _⟩
          rw [HT.out]
      · have HT := Lib.hid (TRU.out (fun h => e0 h.1))
        have hne : ¬ rb = pb := e0
        clear TRU HSQ HJ2
        have at7 : At1 w5 w.heap.size (lgC ⟨g, acked, last, true, data⟩) 64 _ := (At1.set (i := 7) ⟨KeepBut.refl _ w5, b0⟩ (.bool true)).set (i := 8) (.int .u64 data)
        have Q0 := Lib.hid at7.2
        have Q2 := Lib.hid ((at7.1.block _ (block_lt b2) (by omega)).trans b2)
        have HB := Lib.hid (hB.trans (at7.1.below hB.size (fun g hg => by omega)))
        clear at7 hB b0 b1 b2 b5 b10 hne
        go_wp2_with (first | (refine wpList_load_block rfl 64 (.tmp 2) rfl rfl Q0.out Tryz.underlying64 rfl (by kernel_rfl) ?_) | (refine wpList_store_block rfl 64 (.tmp 4) (.tmp 59) rfl rfl rfl Q2.out (by kernel_rfl) rfl (by simp [Value.oneCell']) ?_))
        refine bodyPost_ret (results_cell_row rfl _ _ _ _ _ _ _ (by rfl) (setRow_heap _ _ _ _ _ _ Q2.out) Tryz.underlying64 rfl (by kernel_rfl)) rfl ⟨?_, below_setRow HB.out (by omega) _⟩
        rw [HT.out]
    · have HT := Lib.hid (HJ.out.trans (if_pos rfl))
      clear HJ HRD HSQ
      obtain ⟨l0, l1, l2, l3, l4, l5, l6, l7, l8⟩ := cells9 b0
      obtain ⟨s0, s1, s2⟩ := cells3 b1
      have fz5 := frozen0 b0 5; have fz6 := frozen0 b0 6; have fz7 := frozen0 b0 7; have fz8 := frozen0 b0 8
      have B2 := Lib.hid b2; have HB := Lib.hid hB
      clear b7 b1 b5 b2 hB g0 g1 g2 g3 g4
      go_upto_region 11 with fail
      have at9 := ((((show At1 W4 w.heap.size (lgC ⟨g, acked, last, flying, flight⟩) 64 W4 from ⟨KeepBut.refl _ W4, b0⟩).set (i := 5) (.int .i64 (acked + 1))).set (i := 6) (.int .u64 data)).set (i := 7) (.bool false)).set (i := 8) (.int .u64 0)
      rw [lg_set4] at at9
      have Q0 := Lib.hid at9.2
      have Q2 := Lib.hid ((at9.1.block _ (block_lt B2.out) (by omega)).trans B2.out)
      have HB2 := Lib.hid (HB.out.trans (at9.1.below HB.out.size (fun g hg => by omega)))
      clear HB B2 l0 l1 l2 l3 l4 l5 l6 l7 l8 s0 s1 s2 fz5 fz6 fz7 fz8
      generalize World.setCell (World.setCell (World.setCell (World.setCell W4 _ _) _ _) _ _) _ _ = W9 at *
      clear at9 b0
      go_wp2_with (first | (refine wpList_load_block rfl 64 (.tmp 2) rfl rfl Q0.out Tryz.underlying64 rfl (by kernel_rfl) ?_) | (refine wpList_store_block rfl 64 (.tmp 4) (.tmp 41) rfl rfl rfl Q2.out (by kernel_rfl) rfl (by simp [Value.oneCell']) ?_))
      refine bodyPost_ret (results_cell_row rfl _ _ _ _ _ _ _ (by rfl) (setRow_heap _ _ _ _ _ _ Q2.out) Tryz.underlying64 rfl (by kernel_rfl)) rfl ⟨?_, below_setRow HB2.out (by omega) _⟩
      rw [HT.out]
  · have HT := Lib.hid (show Dw.playJ ⟨f, acked, last, flying, flight⟩ ⟨data, cut, m⟩ = ⟨f, acked, last, flying, flight⟩ from by unfold Dw.playJ; rw [if_pos hp])
    have hneb : ((Dw.plan f data).2 == 0) = false := by rw [beq_eq_false_iff_ne]; exact hp
    rw [show putV f ⟨data, cut, m⟩ = .tuple #[flV f, .bool false, .int .i64 (Dw.plan f data).2] from if_neg hp]
    generalize (Dw.plan f data).2 = er at *
    have b7 := heap_alloc_new w2 (.cells (flashC f.a f.b f.e0 f.e1 f.li) 37)
    replace b0 := (heap_alloc_old w2 (.cells (flashC f.a f.b f.e0 f.e1 f.li) 37) _ (block_lt b0)).trans b0
    replace b1 := (heap_alloc_old w2 (.cells (flashC f.a f.b f.e0 f.e1 f.li) 37) _ (block_lt b1)).trans b1
    replace b2 := (heap_alloc_old w2 (.cells (flashC f.a f.b f.e0 f.e1 f.li) 37) _ (block_lt b2)).trans b2
    replace b5 := (heap_alloc_old w2 (.cells (flashC f.a f.b f.e0 f.e1 f.li) 37) _ (block_lt b5)).trans b5
    replace hB := hB.alloc hB.size (.cells (flashC f.a f.b f.e0 f.e1 f.li) 37)
    clear b7 b1 b5 hf hd hm hw5
    have Q0 := Lib.hid b0; have Q2 := Lib.hid b2; have HB := Lib.hid hB
    clear b0 b2 hB
    go_wp2_with (first | (refine wpList_load_block rfl 64 (.tmp 2) rfl rfl Q0.out Tryz.underlying64 rfl (by kernel_rfl) ?_) | (refine wpList_store_block rfl 64 (.tmp 4) (.tmp 28) rfl rfl rfl Q2.out (by kernel_rfl) rfl (by simp [Value.oneCell']) ?_))
    refine bodyPost_ret (results_cell_row rfl _ _ _ _ _ _ _ (by rfl) (setRow_heap _ _ _ _ _ _ Q2.out) Tryz.underlying64 rfl (by kernel_rfl)) rfl ⟨?_, below_setRow HB.out (by omega) _⟩
    rw [HT.out]
end Go.Proofs.YtaniehjhmjecjaaGreatDoor
