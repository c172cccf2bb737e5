/- The walk of JournalOne (this text is printed by wip/gen/jone.py). -/
import Derived.Test.YtmjbpdhkpdpdjaaDoorPSafe
import Derived.Test.YtmjbpdhkpdpdjaaDoorPPlainOne
import Derived.Test.YtmjbpdhkpdpdjaaDoorPEq12
namespace Go.Proofs.YtmjbpdhkpdpdjaaDoor
open Go.RowKit Go.Shelf
attribute [local go_sem] Oper.semAt_some

theorem state12_at (f : Dw.Fl) (ac : Int) (la : Nat) (fl : Bool) (fi : Nat) (hf : Dw.FlOk f) (w : World) (hn : NoneAt w) :
    Calls Tryd.prog 24 #[lgV ⟨f, ac, la, fl, fi⟩] w fun e w' => e = .returned (.tuple #[.int .u64 (Dw.readS f.a f.b).data, .bool (decide (Dw.readE f.a f.b = 0))]) ∧ Below w.heap.size w w' :=
  state12_any ⟨f, ac, la, fl, fi⟩ hf w hn

set_option maxRecDepth 100000 in
set_option maxHeartbeats 1600000 in
theorem jone_any (a b : Nat) (ha : a < 256) (hb : b < 256) (ss : List Dw.Stp) (v : Value) (s : Dw.Stp) (hds : s.data < 18446744073709551616) (w : World) (hv : StepsAt w v ss) (hn : NoneAt w) :
    Calls Tryd.prog 8 #[.int .u8 a, .int .u8 b, v, stpV s] w fun e w' => e = .returned (.bool true) ∧ Below w.heap.size w w' := by
  have hB := (Below.refl w.heap.size w).alloc (Nat.le_refl _) (.cells (stpC s) 49)
  have hS := heap_alloc_new w (.cells (stpC s) 49)
  have HN0 := Lib.hid hn; have HV0 := Lib.hid hv
  have hd : ∀ s ∈ ss, s.data < 18446744073709551616 := by obtain ⟨_, _, _, h, _⟩ := hv; exact h
  have a1 : IntKind.i64.wrap (a : Int) = (a : Int) := IntWalk.i64_in _ (by omega)
  have a2 : Int.tmod (a : Int) 12 = ((a % 12 : Nat) : Int) := rfl
  have b1 : IntKind.i64.wrap (b : Int) = (b : Int) := IntWalk.i64_in _ (by omega)
  have hm : a % 12 < 12 := Nat.mod_lt _ (by decide)
  have a3 : IntKind.i64.wrap (1 + ((a % 12 : Nat) : Int)) = 1 + ((a % 12 : Nat) : Int) := IntWalk.i64_in _ (by omega)
  clear hv hn
  go_enter Tryd.func8, Tryd.ntmps8
  have HS := Lib.hid hS; have HB := Lib.hid hB
  clear hS hB
  go_wp2_with fail
  have hS := HS.out; have hB := HB.out
  clear HS HB
  generalize w.alloc _ = W0 at *
  obtain ⟨m, hm1⟩ : ∃ m, m = a % 12 := ⟨_, rfl⟩
  rw [← hm1] at hm
  rw [show (1 + (a : Int) % 12) = 1 + (m : Int) from by omega]
  clear a1 a2 a3 hm1 ha
  refine (rsize_any _ _).mono ?_
  rintro e w1 ⟨rfl, hb⟩
  replace hS := (hb.block _ (block_lt hS)).trans hS
  replace hB := hB.trans (hb.mono hB.size)
  clear hb
  rw [Dw.size_n hm]
  go_wp2_with fail
  refine (new12_any m b hm (by omega) _).mono ?_
  rintro e w2 ⟨rfl, hb⟩
  replace hS := (hb.block _ (block_lt hS)).trans hS
  replace hB := hB.trans (hb.mono hB.size)
  clear hb
  have hI := Dw.new_inv (n := m + 1) (by omega) (by omega) (b : Int)
  have hO := Dw.new_ok (n := m + 1) (by omega) (li := (b : Int)) (by omega)
  generalize Dw.fNew (m + 1) (b : Int) = F at *
  have HI := Lib.hid hI; have HO := Lib.hid hO
  clear hI hO b1
  have hz2 := block_lt hS
  have hF := heap_alloc_new w2 (.cells (flashC F.a F.b F.e0 F.e1 F.li) 25)
  replace hS := (heap_alloc_old w2 (.cells (flashC F.a F.b F.e0 F.e1 F.li) 25) _ (block_lt hS)).trans hS
  replace hB := hB.alloc hB.size (.cells (flashC F.a F.b F.e0 F.e1 F.li) 25)
  have HF := Lib.hid hF; have HB := Lib.hid hB; have HS := Lib.hid hS
  clear hF hB hS
  go_wp2_with fail
  have hF := HF.out; have hB := HB.out; have hS := HS.out
  clear HF HB HS
  generalize w2.alloc _ = W2 at *
  generalize w2.heap.size = f1 at *
  refine (big12_any F ss _ _ (HV0.out.next hB)).mono ?_
  rintro e w3 ⟨rfl, hb⟩
  replace hF := (hb.block _ (block_lt hF)).trans hF
  replace hS := (hb.block _ (block_lt hS)).trans hS
  replace hB := hB.trans (hb.mono hB.size)
  clear hb
  cases hbig : Dw.big12 F ss
  · obtain ⟨_, _, hlen⟩ := Dw.not_big hbig
    clear hbig
    obtain ⟨c0, c1, c2, c3, c4⟩ := cells5 hF
    obtain ⟨s0, s1, s2⟩ := cells3 hS
    have hT := heap_alloc_new w3 (.cells (stpC s) 49)
    replace hF := (heap_alloc_old w3 (.cells (stpC s) 49) _ (block_lt hF)).trans hF
    replace hS := (heap_alloc_old w3 (.cells (stpC s) 49) _ (block_lt hS)).trans hS
    replace hB := hB.alloc hB.size (.cells (stpC s) 49)
    have HF := Lib.hid hF; have HB := Lib.hid hB; have HS := Lib.hid hS; have HT := Lib.hid hT
    clear hF hB hS hT
    go_wp2_with fail
    have hF := HF.out; have hB := HB.out; have hS := HS.out; have hT := HT.out
    clear HF HB HS HT c0 c1 c2 c3 c4 s0 s1 s2
    generalize w3.alloc _ = W3 at *
    generalize w3.heap.size = f3 at *
    refine (big12_any F [s] _ _ (one_at hds hT)).mono ?_
    rintro e w4 ⟨rfl, hb⟩
    replace hF := (hb.block _ (block_lt hF)).trans hF
    replace hS := (hb.block _ (block_lt hS)).trans hS
    replace hB := hB.trans (hb.mono hB.size)
    clear hb hT
    cases hbig : Dw.big12 F [s]
    · clear hbig
      have HF := Lib.hid hF; have HB := Lib.hid hB; have HS := Lib.hid hS
      clear hF hB hS
      go_wp2_with fail
      refine (shown12_any _ (HN0.out.next HB.out)).mono ?_
      rintro e w5 ⟨rfl, hb⟩
      have hF := (hb.block _ (block_lt HF.out)).trans HF.out
      have hS := (hb.block _ (block_lt HS.out)).trans HS.out
      have hB := HB.out.trans (hb.mono HB.out.size)
      clear hb HF HB HS
      obtain ⟨c0, c1, c2, c3, c4⟩ := cells5 hF
      clear hF
      have HB := Lib.hid hB; have HS := Lib.hid hS
      clear hB hS
      go_wp2_with fail
      refine (run_any F HO.out ss (by omega) _ _ (HV0.out.next HB.out) (HN0.out.next HB.out)).mono ?_
      rintro e w6 ⟨rfl, hb⟩
      have hS := (hb.block _ (block_lt HS.out)).trans HS.out
      have hB := HB.out.trans (hb.mono HB.out.size)
      clear hb HB HS c0 c1 c2 c3 c4
      obtain ⟨c, hc, hr, hli⟩ := Dw.run_log ss 0 (Dw.lg0 F) none HI.out (Dw.new_rel F) (by omega) hd
      clear hli
      have hok := Dw.runJ_ok ss (Dw.lg0 F) HO.out
      generalize Dw.runJ (Dw.lg0 F) ss = x at *
      obtain ⟨g, ack, er, hp⟩ := Dw.put_one hc hr hok (by omega) s hds
      obtain ⟨xf, ac, la, fl, fi⟩ := x
      dsimp only at hp hok
      have HP := Lib.hid (fun w hn => put12_any xf hok s hds w hn)
      have HQ := Lib.hid (fun w hn => state12_at xf ac la fl fi hok w hn)
      have HG := Lib.hid (fun w hn => state12_at g 0 0 false 0 hp.ok w hn)
      rw [put_val hp] at HP
      have hlaw := hp.law
      clear hp hc hr hd HI HO
      generalize Dw.readE xf.a xf.b = wb at *
      generalize (Dw.readS xf.a xf.b).data = wd at *
      generalize Dw.readE g.a g.b = nb at *
      generalize (Dw.readS g.a g.b).data = nd at *
      have HLAW := Lib.hid hlaw
      clear hlaw
      have hz6 := block_lt hS
      have hL := heap_alloc_new w6 (.cells (lgC ⟨xf, ac, la, fl, fi⟩) 46)
      replace hS := (heap_alloc_old w6 (.cells (lgC ⟨xf, ac, la, fl, fi⟩) 46) _ (block_lt hS)).trans hS
      replace hB := hB.alloc hB.size (.cells (lgC ⟨xf, ac, la, fl, fi⟩) 46)
      have HB := Lib.hid hB; have HS := Lib.hid hS; have HL := Lib.hid hL
      clear hB hS hL
      go_wp2_with fail
      have hB := HB.out; have hS := HS.out; have hL := HL.out
      clear HB HS HL
      generalize w6.alloc _ = W6 at *
      generalize w6.heap.size = f6 at *
      refine (HQ.out _ (HN0.out.next hB)).mono ?_
      rintro e w7 ⟨rfl, hb⟩
      replace hS := (hb.block _ (block_lt hS)).trans hS
      replace hL := (hb.block _ (block_lt hL)).trans hL
      replace hB := hB.trans (hb.mono hB.size)
      clear hb
      obtain ⟨l0, l1, l2, l3, l4, l5, l6, l7, l8⟩ := cells9 hL
      obtain ⟨s0, s1, s2⟩ := cells3 hS
      have HB := Lib.hid hB; have HS := Lib.hid hS; have HL := Lib.hid hL
      clear hB hS hL
      go_wp2_with fail
      have hB := HB.out; have hS := HS.out; have hL := HL.out
      clear HB HS HL
      refine (HP.out _ (HN0.out.next hB)).mono ?_
      rintro e w8 ⟨rfl, hb⟩
      replace hS := (hb.block _ (block_lt hS)).trans hS
      replace hL := (hb.block _ (block_lt hL)).trans hL
      replace hB := hB.trans (hb.mono hB.size)
      clear hb l0 l1 l2 l3 l4 l5 l6 l7 l8 s0 s1 s2
      have hz8 := block_lt hS; have hz9 := block_lt hL
      have hG := heap_alloc_new w8 (.cells (flashC g.a g.b g.e0 g.e1 g.li) 25)
      replace hS := (heap_alloc_old w8 (.cells (flashC g.a g.b g.e0 g.e1 g.li) 25) _ (block_lt hS)).trans hS
      replace hL := (heap_alloc_old w8 (.cells (flashC g.a g.b g.e0 g.e1 g.li) 25) _ (block_lt hL)).trans hL
      replace hB := hB.alloc hB.size (.cells (flashC g.a g.b g.e0 g.e1 g.li) 25)
      have HB := Lib.hid hB; have HS := Lib.hid hS; have HL := Lib.hid hL; have HF := Lib.hid hG
      clear hB hS hL hG
      go_wp2_with fail
      have hB := HB.out; have hS := HS.out; have hL := HL.out; have hG := HF.out
      clear HB HS HL HF
      generalize w8.alloc _ = W8 at *
      generalize w8.heap.size = f8 at *
      refine (HG.out _ (HN0.out.next hB)).mono ?_
      rintro e w9 ⟨rfl, hb⟩
      replace hS := (hb.block _ (block_lt hS)).trans hS
      replace hL := (hb.block _ (block_lt hL)).trans hL
      replace hG := (hb.block _ (block_lt hG)).trans hG
      replace hB := hB.trans (hb.mono hB.size)
      clear hb HG HP HQ
      obtain ⟨l0, l1, l2, l3, l4, l5, l6, l7, l8⟩ := cells9 hL
      obtain ⟨s0, s1, s2⟩ := cells3 hS
      obtain ⟨g0, g1, g2, g3, g4⟩ := cells5 hG
      clear hS hL hG
      obtain ⟨data, cut, mask⟩ := s
      dsimp only at *
      have hB9 := Lib.hid hB
      clear hB
      have hlaw := HLAW.out
      clear HLAW HN0 HV0
      rcases hlaw with ⟨rfl, rfl, rfl⟩ | ⟨rfl, ⟨rfl, rfl, rfl⟩ | ⟨q0, q5, ⟨rfl, rfl⟩ | ⟨rfl, rfl⟩⟩⟩
      · go_wp2_with fail
        go_ret
        exact ⟨rfl, hB9.out⟩
      · by_cases hc : cut < 0
        · go_wp2_with fail
          go_ret
          exact ⟨rfl, hB9.out⟩
        · by_cases hc5 : 5 < cut
          · go_wp2_with fail
            go_ret
            exact ⟨rfl, hB9.out⟩
          · go_wp2_with fail
            go_ret
            exact ⟨rfl, hB9.out⟩
      · have hc : ¬ cut < 0 := by omega
        have hc5 : ¬ 5 < cut := by omega
        go_wp2_with fail
        go_ret
        exact ⟨rfl, hB9.out⟩
      · have hc : ¬ cut < 0 := by omega
        have hc5 : ¬ 5 < cut := by omega
        by_cases hw0 : nb = 0
        · subst hw0
          by_cases hwd : (nd : Int) = (data : Int)
          · go_wp2_with fail
            go_ret
            exact ⟨rfl, hB9.out⟩
          · go_wp2_with fail
            go_ret
            exact ⟨rfl, hB9.out⟩
        · simp only [hw0, decide_false]
          go_wp2_with fail
          go_ret
          exact ⟨rfl, hB9.out⟩
    · have HB := Lib.hid hB
      clear hB
      go_wp2_with fail
      refine (shown12_any _ (HN0.out.next HB.out)).mono ?_
      rintro e w4 ⟨rfl, hb⟩
      have hB := HB.out.trans (hb.mono HB.out.size)
      clear hb HB
      go_wp2_with fail
      go_ret
      exact ⟨rfl, hB⟩
  · have HB := Lib.hid hB
    clear hB
    go_wp2_with fail
    refine (shown12_any _ (HN0.out.next HB.out)).mono ?_
    rintro e w4 ⟨rfl, hb⟩
    have hB := HB.out.trans (hb.mono HB.out.size)
    clear hb HB
    go_wp2_with fail
    go_ret
    exact ⟨rfl, hB⟩
end Go.Proofs.YtmjbpdhkpdpdjaaDoor
