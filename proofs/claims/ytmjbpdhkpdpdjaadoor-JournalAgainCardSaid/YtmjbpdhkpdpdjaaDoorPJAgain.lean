/- The walk of JournalAgain (this text is printed by wip/gen/jagain.py). -/
import Derived.Test.YtmjbpdhkpdpdjaaDoorPJOne
namespace Go.Proofs.YtmjbpdhkpdpdjaaDoor
open Go.RowKit Go.Shelf
attribute [local go_sem] Oper.semAt_some

set_option maxRecDepth 100000 in
set_option maxHeartbeats 4000000 in
theorem jagain_any (a : Nat) (ha : a < 256) (ss : List Dw.Stp) (v : Value) (s : Dw.Stp) (hds : s.data < 18446744073709551616) (w : World) (hv : StepsAt w v ss) (hn : NoneAt w) :
    Calls Tryd.prog 11 #[.int .u8 a, v, stpV s] w fun e w' => e = .returned (.bool true) ∧ Below w.heap.size w w' := by
  have hB := (Below.refl w.heap.size w).alloc (Nat.le_refl _) (.cells (stpC s) 49)
  have hS := heap_alloc_new w (.cells (stpC s) 49)
  have HN0 := Lib.hid hn; have HV0 := Lib.hid hv
  have hd : ∀ s ∈ ss, s.data < 18446744073709551616 := by obtain ⟨_, _, _, h, _⟩ := hv; exact h
  have a1 : IntKind.i64.wrap (a : Int) = (a : Int) := IntWalk.i64_in _ (by omega)
  have a2 : Int.tmod (a : Int) 12 = ((a % 12 : Nat) : Int) := rfl
  have hm : a % 12 < 12 := Nat.mod_lt _ (by decide)
  have a3 : IntKind.i64.wrap (1 + ((a % 12 : Nat) : Int)) = 1 + ((a % 12 : Nat) : Int) := IntWalk.i64_in _ (by omega)
  clear hv hn
  go_enter Tryd.func11, Tryd.ntmps11
  have HS := Lib.hid hS; have HB := Lib.hid hB
  clear hS hB
  go_wp2_with fail
  have hS := HS.out; have hB := HB.out
  clear HS HB
  generalize w.alloc _ = W0 at *
  obtain ⟨m, hm1⟩ : ∃ m, m = a % 12 := ⟨_, rfl⟩
  rw [← hm1] at hm
  rw [show (1 + (a : Int) % 12) = 1 + (m : Int) from by omega]
  clear a1 a2 a3 hm1 ha
  refine (rsize_any _ _).mono ?_
  rintro e w1 ⟨rfl, hb⟩
  replace hS := (hb.block _ (block_lt hS)).trans hS
  replace hB := hB.trans (hb.mono hB.size)
  clear hb
  rw [Dw.size_n hm]
  go_wp2_with fail
  refine (new12_any m 200 hm (by omega) _).mono ?_
  rintro e w2 ⟨rfl, hb⟩
  replace hS := (hb.block _ (block_lt hS)).trans hS
  replace hB := hB.trans (hb.mono hB.size)
  clear hb
  have hI := Dw.new_inv (n := m + 1) (by omega) (by omega) ((200 : Nat) : Int)
  have hO := Dw.new_ok (n := m + 1) (by omega) (li := ((200 : Nat) : Int)) (by omega)
  have hL2 : (Dw.fNew (m + 1) ((200 : Nat) : Int)).li = 200 := rfl
  generalize Dw.fNew (m + 1) ((200 : Nat) : Int) = F at *
  have HI := Lib.hid hI; have HO := Lib.hid hO; have HL2 := Lib.hid hL2
  clear hI hO hL2
  have hz2 := block_lt hS
  have hF := heap_alloc_new w2 (.cells (flashC F.a F.b F.e0 F.e1 F.li) 25)
  replace hS := (heap_alloc_old w2 (.cells (flashC F.a F.b F.e0 F.e1 F.li) 25) _ (block_lt hS)).trans hS
  replace hB := hB.alloc hB.size (.cells (flashC F.a F.b F.e0 F.e1 F.li) 25)
  have HF := Lib.hid hF; have HB := Lib.hid hB; have HS := Lib.hid hS
  clear hF hB hS
  go_wp2_with fail
  have hF := HF.out; have hB := HB.out; have hS := HS.out
  clear HF HB HS
  generalize w2.alloc _ = W2 at *
  generalize w2.heap.size = f1 at *
  refine (big12_any F ss _ _ (HV0.out.next hB)).mono ?_
  rintro e w3 ⟨rfl, hb⟩
  replace hF := (hb.block _ (block_lt hF)).trans hF
  replace hS := (hb.block _ (block_lt hS)).trans hS
  replace hB := hB.trans (hb.mono hB.size)
  clear hb
  cases hbig : Dw.big12 F ss
  · obtain ⟨_, _, hlen⟩ := Dw.not_big hbig
    clear hbig
    obtain ⟨c0, c1, c2, c3, c4⟩ := cells5 hF
    obtain ⟨s0, s1, s2⟩ := cells3 hS
    have hT := heap_alloc_new w3 (.cells (stpC s) 49)
    replace hF := (heap_alloc_old w3 (.cells (stpC s) 49) _ (block_lt hF)).trans hF
    replace hS := (heap_alloc_old w3 (.cells (stpC s) 49) _ (block_lt hS)).trans hS
    replace hB := hB.alloc hB.size (.cells (stpC s) 49)
    have HF := Lib.hid hF; have HB := Lib.hid hB; have HS := Lib.hid hS; have HT := Lib.hid hT
    clear hF hB hS hT
    go_wp2_with fail
    have hF := HF.out; have hB := HB.out; have hS := HS.out; have hT := HT.out
    clear HF HB HS HT c0 c1 c2 c3 c4 s0 s1 s2
    generalize w3.alloc _ = W3 at *
    generalize w3.heap.size = f3 at *
    refine (big12_any F [s] _ _ (one_at hds hT)).mono ?_
    rintro e w4 ⟨rfl, hb⟩
    replace hF := (hb.block _ (block_lt hF)).trans hF
    replace hS := (hb.block _ (block_lt hS)).trans hS
    replace hB := hB.trans (hb.mono hB.size)
    clear hb hT
    cases hbig : Dw.big12 F [s]
    · clear hbig
      have HF := Lib.hid hF; have HB := Lib.hid hB; have HS := Lib.hid hS
      clear hF hB hS
      go_wp2_with fail
      refine (shown12_any _ (HN0.out.next HB.out)).mono ?_
      rintro e w5 ⟨rfl, hb⟩
      have hF := (hb.block _ (block_lt HF.out)).trans HF.out
      have hS := (hb.block _ (block_lt HS.out)).trans HS.out
      have hB := HB.out.trans (hb.mono HB.out.size)
      clear hb HF HB HS
      obtain ⟨c0, c1, c2, c3, c4⟩ := cells5 hF
      obtain ⟨s0, s1, s2⟩ := cells3 hS
      clear hF
      have HB := Lib.hid hB; have HS := Lib.hid hS
      clear hB hS
      obtain ⟨c, hc, hr, hli⟩ := Dw.run_log ss 0 (Dw.lg0 F) none HI.out (Dw.new_rel F) (by omega) hd
      have hok := Dw.runJ_ok ss (Dw.lg0 F) HO.out
      have hac := Dw.runJ_acked ss (Dw.lg0 F)
      have HRUN := Lib.hid (fun v w hv hN => run_any F HO.out ss (by omega) v w hv hN)
      generalize Dw.runJ (Dw.lg0 F) ss = x at *
      have HPL := Lib.hid (fun w hn => play12_any x hok (by have : (Dw.lg0 F).acked = 0 := rfl; have := hr.ac; omega) s hds w hn)
      obtain ⟨c', hc', hr', hli'⟩ := (Dw.step_log hc hr (by omega) s hds).next
      have hok' := Dw.playJ_ok hok s
      generalize Dw.playJ x s = y at *
      have hli2 : y.f.li = 200 := hli'.trans (hli.trans HL2.out)
      have hq : ∃ g, Dw.Put1 y.f ⟨s.data, -1, []⟩ g true 0 ∧ Dw.readE g.a g.b = 0 ∧ (Dw.readS g.a g.b).data = s.data := by
        rcases Dw.put_whole hc' hr' hok' (by omega) ⟨s.data, -1, []⟩ hds (by decide : (-1 : Int) < 0) with ⟨_, h⟩ | h
        · rw [hli2] at h; omega
        · exact h
      obtain ⟨g, hp, hp1, hp2⟩ := hq
      obtain ⟨yf, ac, la, fl, fi⟩ := y
      dsimp only at hp hok'
      have HP := Lib.hid (fun w hn => put12_any yf hok' ⟨s.data, -1, []⟩ hds w hn)
      have HG := Lib.hid (fun w hn => state12_at g 0 0 false 0 hp.ok w hn)
      rw [put_val hp] at HP
      rw [hp1, hp2] at HG
      clear hp hc hr hd HI HO hli hli' hli2 hc' hr' hp1 hp2 hac HL2
      go_wp2_with fail
      refine wp_letterD (List.range 5) 5 6 (some 8) (NewBlock w5 #[.string ⟨#[]⟩, .string ⟨#[]⟩, .int .i64 0, .int .i64 0, .int .i64 0, .int .i64 0, .int .u64 0, .bool false, .int .u64 0] 46) rfl rfl (by kernel_rfl) (by kernel_rfl) rfl (fun v A B h hk => h.keep hk) ?_
      rw [show List.range 5 = [0, 1, 2, 3, 4] from rfl]
      (refine pl_value (v := ?_) rfl rfl ?_ ?_; rotate_left 1; (focus (intro w' hk; have k0 := look hk c0; have k1 := look hk c1; have k2 := look hk c2; have k3 := look hk c3; have k4 := look hk c4; have k5 := look hk s0; have k6 := look hk s1; have k7 := look hk s2; go_simp; (first | done | with_reducible rfl | exact rfl))); (try simp only [Act.put, List.setIfInBounds_toArray, List.set_cons_zero, List.set_cons_succ]))
      (refine pl_value (v := ?_) rfl rfl ?_ ?_; rotate_left 1; (focus (intro w' hk; have k0 := look hk c0; have k1 := look hk c1; have k2 := look hk c2; have k3 := look hk c3; have k4 := look hk c4; have k5 := look hk s0; have k6 := look hk s1; have k7 := look hk s2; go_simp; (first | done | with_reducible rfl | exact rfl))); (try simp only [Act.put, List.setIfInBounds_toArray, List.set_cons_zero, List.set_cons_succ]))
      (refine pl_call (v := ?_) (f := ?_) (args := ?_) rfl rfl ?_ ?_ ?_; rotate_left 3; (focus (intro w' hk; have k0 := look hk c0; have k1 := look hk c1; have k2 := look hk c2; have k3 := look hk c3; have k4 := look hk c4; have k5 := look hk s0; have k6 := look hk s1; have k7 := look hk s2; go_simp; (first | done | (constructor <;> with_reducible rfl) | with_reducible rfl))); (focus (intro w' hk; exact HRUN.out _ w' (HV0.out.next (HB.out.trans (hk.whole.mono HB.out.size))) (HN0.out.next (HB.out.trans (hk.whole.mono HB.out.size))))); (try simp only [Act.put, List.setIfInBounds_toArray, List.set_cons_zero, List.set_cons_succ]))
      (refine pl_value (v := ?_) rfl rfl ?_ ?_; rotate_left 1; (focus (intro w' hk; have k0 := look hk c0; have k1 := look hk c1; have k2 := look hk c2; have k3 := look hk c3; have k4 := look hk c4; have k5 := look hk s0; have k6 := look hk s1; have k7 := look hk s2; go_simp; (first | done | with_reducible rfl | exact rfl))); (try simp only [Act.put, List.setIfInBounds_toArray, List.set_cons_zero, List.set_cons_succ]))
      (refine pl_call (v := ?_) (f := ?_) (args := ?_) rfl rfl ?_ ?_ ?_; rotate_left 3; (focus (intro w' hk; have k0 := look hk c0; have k1 := look hk c1; have k2 := look hk c2; have k3 := look hk c3; have k4 := look hk c4; have k5 := look hk s0; have k6 := look hk s1; have k7 := look hk s2; go_simp; (first | done | (constructor <;> with_reducible rfl) | with_reducible rfl))); (focus (intro w' hk; exact HPL.out w' (HN0.out.next (HB.out.trans (hk.whole.mono HB.out.size))))); (try simp only [Act.put, List.setIfInBounds_toArray, List.set_cons_zero, List.set_cons_succ]))
      refine pl_nil ?_
      refine ⟨rfl, sure_new (fun w' _ => by go_simp), ?_⟩
      rintro v W6 hk6 ⟨f6, rfl, hf6, hT⟩
      simp only [List.drop_succ_cons, List.drop_zero, List.setIfInBounds_toArray, List.set_cons_zero, List.set_cons_succ]
      have hS := (hk6.block _ (block_lt HS.out) id).trans HS.out
      have hf6' : w.heap.size < f6 := by have := block_lt HS.out; omega
      have hB := HB.out.trans (hk6.whole.mono HB.out.size)
      have hL := setRow_heap W6 f6 _ (lgC ⟨yf, ac, la, fl, fi⟩) _ _ hT
      have hS6 := (setRow_other W6 f6 w.heap.size (lgC ⟨yf, ac, la, fl, fi⟩) (by omega)).trans hS
      have hB6 := below_setRow hB (by omega : w.heap.size ≤ f6) (lgC ⟨yf, ac, la, fl, fi⟩)
      have HL := Lib.hid hL; have HS6 := Lib.hid hS6; have HB6 := Lib.hid hB6
      clear hS hB hL hS6 hB6 hk6 c0 c1 c2 c3 c4 s0 s1 s2 HB HS HRUN HPL hf6
      refine wpList_store_block rfl 46 _ _ rfl rfl rfl hT (by kernel_rfl) rfl (by simp [Value.oneCell']) ?_
      have hL := HL.out; have hS := HS6.out; have hB := HB6.out
      clear HL HS6 HB6 hT
      generalize World.setRow W6 f6 _ = W7 at *
      obtain ⟨l0, l1, l2, l3, l4, l5, l6, l7, l8⟩ := cells9 hL
      obtain ⟨s0, s1, s2⟩ := cells3 hS
      have HB := Lib.hid hB; have HS := Lib.hid hS
      clear hB hS hL
      go_wp2_with fail
      refine (HP.out _ (HN0.out.next HB.out)).mono ?_
      rintro e w8 ⟨rfl, hb⟩
      have hS := (hb.block _ (block_lt HS.out)).trans HS.out
      have hB := HB.out.trans (hb.mono HB.out.size)
      clear hb l0 l1 l2 l3 l4 l5 l6 l7 l8 s0 s1 s2 HB HS
      have hz8 := block_lt hS
      have hG := heap_alloc_new w8 (.cells (flashC g.a g.b g.e0 g.e1 g.li) 25)
      replace hS := (heap_alloc_old w8 (.cells (flashC g.a g.b g.e0 g.e1 g.li) 25) _ (block_lt hS)).trans hS
      replace hB := hB.alloc hB.size (.cells (flashC g.a g.b g.e0 g.e1 g.li) 25)
      have HB := Lib.hid hB; have HS := Lib.hid hS
      clear hB hS hG
      go_wp2_with fail
      have hB := HB.out; have hS := HS.out
      clear HB HS
      generalize w8.alloc _ = W8 at *
      refine (HG.out _ (HN0.out.next hB)).mono ?_
      rintro e w9 ⟨rfl, hb⟩
      replace hS := (hb.block _ (block_lt hS)).trans hS
      replace hB := hB.trans (hb.mono hB.size)
      clear hb HP HG
      obtain ⟨s0, s1, s2⟩ := cells3 hS
      clear hS
      have HB := Lib.hid hB
      clear hB
      go_wp2_with fail
      go_ret
      exact ⟨rfl, HB.out⟩
    · have HB := Lib.hid hB
      clear hB
      go_wp2_with fail
      refine (shown12_any _ (HN0.out.next HB.out)).mono ?_
      rintro e w4 ⟨rfl, hb⟩
      have hB := HB.out.trans (hb.mono HB.out.size)
      clear hb HB
      go_wp2_with fail
      go_ret
      exact ⟨rfl, hB⟩
  · have HB := Lib.hid hB
    clear hB
    go_wp2_with fail
    refine (shown12_any _ (HN0.out.next HB.out)).mono ?_
    rintro e w4 ⟨rfl, hb⟩
    have hB := HB.out.trans (hb.mono HB.out.size)
    clear hb HB
    go_wp2_with fail
    go_ret
    exact ⟨rfl, hB⟩
end Go.Proofs.YtmjbpdhkpdpdjaaDoor
