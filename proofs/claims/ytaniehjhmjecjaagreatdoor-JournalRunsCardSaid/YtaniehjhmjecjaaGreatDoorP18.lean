/- What the statement's proof stands on, part 18: PlanOk, Jour1. -/
import Derived.Test.YtaniehjhmjecjaaGreatDoorP17
import Derived.Test.YtaniehjhmjecjaaGreatDoorP15

/- Plain: a plan's ops go well. -/
namespace Go.Proofs.YtaniehjhmjecjaaGreatDoor
namespace Dw

def Len (f : Fl) (L : Nat) : Prop := f.a.length = L ∧ f.b.length = L
theorem len_bk {f : Fl} {L k : Nat} (h : Len f L) : (f.bk k).length = L := by unfold Fl.bk; split; exact h.1; exact h.2
theorem bop_len {s : List UInt8} {o : Op} (h : o.kind = 1 → o.at_ + o.data.length ≤ s.length) : (bOp s o).length = s.length := by
  unfold bOp
  split
  · rename_i hk
    have h := h hk
    rw [over_length]
    rw [andB_length, sub_length _ _ _ h]; exact h
  · rw [ffs_length]
theorem btear_len {s : List UInt8} {o : Op} (m : List UInt8) (h : o.kind = 1 → o.at_ + o.data.length ≤ s.length) : (bTear s o m).length = s.length := by
  unfold bTear
  split
  · rename_i hk
    have h := h hk
    rw [over_length]
    rw [tornB_length, sub_length _ _ _ h]; exact h
  · rw [eraB_length]
theorem op_in {f : Fl} {o : Op} (ho : OpOk f o) : o.kind = 1 → o.at_ + o.data.length ≤ (f.bk o.bank).length := fun hk => by
  rcases ho.2 with h | h
  · exact h.2.1
  · omega
theorem op_er {f : Fl} {o : Op} (ho : OpOk f o) : f.er o.bank + cost o ≤ f.er o.bank ∨ f.er o.bank + cost o ≤ f.li := by
  unfold cost
  rcases ho.2 with h | h
  · left; rw [if_pos h.1]; simp
  · right; rw [if_neg (by omega)]; have := h.2.1; simp; omega
theorem put_ok {f : Fl} {L : Nat} (hf : FlOk f) (hl : Len f L) {k c : Nat} {s : List UInt8} (hs : s.length = L) (hc : f.er k + c ≤ f.er k ∨ f.er k + c ≤ f.li) : FlOk ((f.put k s).wearN k c) ∧ Len ((f.put k s).wearN k c) L := by
  obtain ⟨h1, h2, h3, h4, h5⟩ := hf
  obtain ⟨l1, l2⟩ := hl
  have hc' := hc
  unfold Fl.er at hc'
  unfold Fl.put Fl.wearN
  by_cases h : k = 0
  · simp only [h, if_true] at hc' ⊢
    exact ⟨⟨by simp; omega, h2, h3, by simp; omega, h5⟩, by simp; exact hs, l2⟩
  · simp only [h, if_false] at hc' ⊢
    exact ⟨⟨h1, by simp; omega, h3, h4, by simp; omega⟩, l1, by simp; exact hs⟩
theorem do_ok {f : Fl} {L : Nat} (hf : FlOk f) (hl : Len f L) {o : Op} (ho : OpOk f o) : FlOk (doOp f o) ∧ Len (doOp f o) L :=
  put_ok hf hl (by rw [bop_len (op_in ho)]; exact len_bk hl) (op_er ho)
theorem tear_ok {f : Fl} {L : Nat} (hf : FlOk f) (hl : Len f L) {o : Op} (ho : OpOk f o) (m : List UInt8) : FlOk (tearOp f o m) ∧ Len (tearOp f o m) L :=
  put_ok hf hl (by rw [btear_len m (op_in ho)]; exact len_bk hl) (op_er ho)
theorem play_ok {L : Nat} (cut : Int) (m : List UInt8) : ∀ (ops : List Op) (f : Fl) (i : Nat), FlOk f → Len f L → OpsOk f ops → FlOk (playL f ops i cut m).1 ∧ Len (playL f ops i cut m).1 L
  | [], _, _, hf, hl, _ => ⟨hf, hl⟩
  | o :: os, f, i, hf, hl, ho => by
    unfold playL
    split
    · exact tear_ok hf hl ho.1 m
    · have h := do_ok hf hl ho.1
      exact play_ok cut m os (doOp f o) (i + 1) h.1 h.2 ho.2.2
theorem prog_mem {b a L : Nat} {x : List UInt8} (hb : b < 2) (h1 : a + x.length ≤ L) (h2 : a % 2 = 0) (h3 : x.length % 2 = 0) : (⟨1, b, a, x⟩ : Op).kind = 1 ∧ (⟨1, b, a, x⟩ : Op).bank < 2 ∧ (⟨1, b, a, x⟩ : Op).at_ + (⟨1, b, a, x⟩ : Op).data.length ≤ L ∧ (⟨1, b, a, x⟩ : Op).at_ % 2 = 0 ∧ (⟨1, b, a, x⟩ : Op).data.length % 2 = 0 := ⟨rfl, hb, h1, h2, h3⟩
theorem two_len : ([90, 60] : List UInt8).length = 2 := rfl
/-- A list of programs, all inside. -/
theorem progs_ok {L : Nat} : ∀ (ops : List Op) (f : Fl), FlOk f → Len f L → (∀ o ∈ ops, o.kind = 1 ∧ o.bank < 2 ∧ o.at_ + o.data.length ≤ L ∧ o.at_ % 2 = 0 ∧ o.data.length % 2 = 0) → OpsOk f ops
  | [], _, _, _, _ => trivial
  | o :: os, f, hf, hl, h => by
    obtain ⟨h1, h2, h3, h4, h5⟩ := h o (by simp)
    have ho : OpOk f o := ⟨h2, .inl ⟨h1, by rw [len_bk hl]; exact h3, h4, h5⟩⟩
    have hd := do_ok hf hl ho
    exact ⟨ho, hd.1, progs_ok os _ hd.1 hd.2 fun p hp => h p (by simp [hp])⟩
theorem even_len {a b : List UInt8} (h : even a b = true) : ∃ n, 1 ≤ n ∧ n ≤ 12 ∧ a.length = 24 * n + 24 ∧ b.length = 24 * n + 24 := by
  unfold even at h
  obtain ⟨h1, h2⟩ := of_decide_eq_true h
  obtain ⟨e1, e2⟩ := slots_pos h1
  obtain ⟨e3, e4⟩ := slots_pos (show 0 < slots b.length by omega)
  exact ⟨slots a.length, h1, e2, e1, by omega⟩
theorem tail_ok {f : Fl} {n b g q d : Nat} (hf : FlOk f) (hn : 1 ≤ n) (hl : Len f (24 * n + 24)) (hb : b < 2) (hw : f.er b < f.li) : OpsOk f (freshTail b g q d) := by
  have ho : OpOk f ⟨2, b, 0, []⟩ := ⟨hb, .inr ⟨rfl, hw, by simp⟩⟩
  have hd := do_ok hf hl ho
  refine ⟨ho, hd.1, progs_ok _ _ hd.1 hd.2 fun o h => ?_⟩
  simp only [List.mem_cons, List.not_mem_nil, or_false] at h
  rcases h with rfl | rfl | rfl | rfl
  · exact prog_mem hb (by rw [body_length]; omega) (by omega) (by rw [body_length])
  · exact prog_mem hb (by rw [two_len]; omega) (by omega) (by rw [two_len])
  · exact prog_mem hb (by rw [body_length]; omega) (by omega) (by rw [body_length])
  · exact prog_mem hb (by rw [two_len]; omega) (by omega) (by rw [two_len])
theorem fresh_ok {f : Fl} {n b g q d : Nat} (hf : FlOk f) (hn : 1 ≤ n) (hl : Len f (24 * n + 24)) (hb : b < 2) (hw : wornB f b = false) : OpsOk f (freshF f b g q d) ∧ 0 < (freshF f b g q d).length ∧ (freshF f b g q d).length ≤ 6 := by
  have hw' : f.er b < f.li := by unfold wornB at hw; have := of_decide_eq_false hw; omega
  refine ⟨?_, by unfold freshF; rw [fresh_len]; split <;> omega, by unfold freshF; rw [fresh_len]; split <;> omega⟩
  unfold freshF freshOps
  split
  · have ho : OpOk f (killOp b) := ⟨hb, .inl ⟨rfl, by rw [show (killOp b).bank = b from rfl, len_bk hl]; show 0 + 2 ≤ _; omega, rfl, by unfold killOp; show ([0, 0] : List UInt8).length % 2 = 0; decide⟩⟩
    have hd := do_ok hf hl ho
    refine ⟨ho, hd.1, tail_ok hd.1 hn hd.2 hb ?_⟩
    have : (doOp f (killOp b)).er b = f.er b ∧ (doOp f (killOp b)).li = f.li := by
      unfold doOp killOp cost Fl.er Fl.wearN Fl.put
      by_cases h : b = 0 <;> simp [h]
    rw [this.1, this.2]; exact hw'
  · exact tail_ok hf hn hl hb hw'
theorem plan_ok {f : Fl} (hf : FlOk f) {d : Nat} (h : (plan f d).2 = 0) : ∃ L, Len f L ∧ OpsOk f (plan f d).1 ∧ 0 < (plan f d).1.length ∧ (plan f d).1.length ≤ 6 := by
  unfold plan at h ⊢
  cases hev : even f.a f.b with
  | false => rw [hev] at h; simp at h
  | true =>
    obtain ⟨n, hn1, hn2, hla, hlb⟩ := even_len hev
    have hl : Len f (24 * n + 24) := ⟨hla, hlb⟩
    rw [hev, if_neg (by decide)] at h
    rw [if_neg (by decide)]
    refine ⟨24 * n + 24, hl, ?_⟩
    rcases read_two f.a f.b with ⟨_, r2, _⟩ | ⟨k, hk, g, q, d0, _, _, _, r1, r2⟩
    · rw [if_pos (by rw [r2]; decide)] at h ⊢
      cases w0 : wornB f 0 with
      | false => rw [if_pos rfl]; exact fresh_ok hf hn1 hl (by decide) w0
      | true =>
        rw [w0, if_neg (by decide)] at h
        rw [if_neg (by decide)]
        cases w1 : wornB f 1 with
        | false => rw [if_pos rfl]; exact fresh_ok hf hn1 hl (by decide) w1
        | true => rw [w1, if_neg (by decide)] at h; simp at h
    · rw [if_neg (by rw [r2]; decide), r1] at h ⊢
      dsimp only at h ⊢
      rw [Int.toNat_natCast] at h ⊢
      by_cases e1 : q = 18446744073709551615
      · rw [if_pos e1] at h; simp at h
      · rw [if_neg e1] at h ⊢
        by_cases e2 : 0 < next (f.bk k)
        · rw [if_pos e2]
          obtain ⟨hj, _⟩ := next_pos (f.bk k) n (by rw [len_bk hl, slots_n n hn1 hn2]) e2
          refine ⟨progs_ok _ _ hf hl fun o ho => ?_, (by decide : 0 < 2), (by decide : 2 ≤ 6)⟩
          unfold appendOps at ho
          simp only [List.mem_cons, List.not_mem_nil, or_false] at ho
          rcases ho with rfl | rfl
          · exact prog_mem hk (by rw [body_length]; omega) (by omega) (by rw [body_length])
          · exact prog_mem hk (by rw [two_len]; omega) (by omega) (by rw [two_len])
        · rw [if_neg e2] at h ⊢
          by_cases e3 : g = 18446744073709551615
          · rw [if_pos e3] at h; simp at h
          · rw [if_neg e3] at h ⊢
            cases hw : wornB f (other k) with
            | true => rw [hw, if_pos rfl] at h; simp at h
            | false =>
              rw [if_neg (by decide)]
              exact fresh_ok hf hn1 hl (by unfold other; split <;> omega) hw
end Dw
end Go.Proofs.YtaniehjhmjecjaaGreatDoor

/- Layer 12: look, Put. -/
namespace Go.Proofs.YtaniehjhmjecjaaGreatDoor
open Go.RowKit Go.Shelf
attribute [local go_sem] Oper.semAt_some

namespace Dw
structure Stp where
  data : Nat
  cut : Int
  mask : List UInt8
def putG (f : Fl) (s : Stp) : Fl × Nat := playL f (plan f s.data).1 0 s.cut s.mask
def ackB (f : Fl) (s : Stp) : Bool := decide ((putG f s).2 = (plan f s.data).1.length) && (decide (readE (putG f s).1.a (putG f s).1.b = 0) && decide ((readS (putG f s).1.a (putG f s).1.b).data = s.data))
theorem readE_two (a b : List UInt8) : readE a b = 0 ∨ readE a b = 10 := by unfold readE; split <;> simp
end Dw
abbrev stpC (s : Dw.Stp) : Array Value := #[.int .u64 s.data, .int .i64 s.cut, .string ⟨s.mask.toArray⟩]
abbrev stpV (s : Dw.Stp) : Value := .agg (stpC s)
abbrev seenC (a b : List UInt8) : Array Value := #[.int .i64 (Dw.readS a b).bank, .int .u64 (Dw.readS a b).gen, .int .u64 (Dw.readS a b).seq, .int .u64 (Dw.readS a b).data, .int .i64 (Dw.readE a b)]
abbrev seenV (a b : List UInt8) : Value := .agg (seenC a b)

set_option maxRecDepth 100000 in
theorem look_any (f : Dw.Fl) (hf : Dw.FlOk f) (w : World) (hn : NoneAt w) :
    Calls Tryz.prog 45 #[flV f] w fun e w' => e = .returned (seenV f.a f.b) ∧ Below w.heap.size w w' := by
  obtain ⟨V, hV⟩ : ∃ V, (w.alloc (.cells (flashC f.a f.b f.e0 f.e1 f.li) 25)).alloc (.cells #[.int .i64 0, .int .u64 0, .int .u64 0, .int .u64 0, .int .i64 0] 96) = V := ⟨_, rfl⟩
  have b0 : V.heap[w.heap.size]? = some (.cells (flashC f.a f.b f.e0 f.e1 f.li) 25) := by rw [← hV]; exact heap_alloc2_old _ _ _
  have b1 : V.heap[w.heap.size + 1]? = some (.cells #[.int .i64 0, .int .u64 0, .int .u64 0, .int .u64 0, .int .i64 0] 96) := by rw [← hV]; exact heap_alloc2_new _ _ _
  have vB : Below w.heap.size w V := by rw [← hV]; exact ((Below.refl _ w).alloc (Nat.le_refl _) _).alloc (by simp) _
  obtain ⟨c0, c1, c2, c3, c4⟩ := cells5 b0
  obtain ⟨⟨pb, pg, pq, pd⟩, hS⟩ : ∃ p, Dw.readS f.a f.b = p := ⟨_, rfl⟩
  obtain ⟨pe, hE⟩ : ∃ p, Dw.readE f.a f.b = p := ⟨_, rfl⟩
  have HS := Lib.hid hS; have HE := Lib.hid hE
  clear hS hE
  go_enter Tryz.func45, Tryz.ntmps45
  go_wp2_with fail
  refine (read_any f.a f.b hf.a hf.b f.e0 f.e1 f.li _ (hn.next vB)).mono ?_
  rintro e w1 ⟨rfl, hb⟩
  replace b1 := (hb.block _ (block_lt b1)).trans b1
  replace vB := vB.trans (hb.mono vB.size)
  clear hb hV c0 c1 c2 c3 c4 b0
  rw [HS.out, HE.out]
  have b2 := (heap_alloc_old w1 (.cells #[.int .i64 pb, .int .u64 pg, .int .u64 pq, .int .u64 pd] 78) _ (block_lt b1)).trans b1
  have hn2 := heap_alloc_new w1 (.cells #[.int .i64 pb, .int .u64 pg, .int .u64 pq, .int .u64 pd] 78)
  have vB2 := vB.alloc vB.size (.cells #[.int .i64 pb, .int .u64 pg, .int .u64 pq, .int .u64 pd] 78)
  obtain ⟨s0, s1, s2, s3⟩ := cells4 hn2
  go_wp2_with (refine wpList_store_block rfl 96 (.tmp 2) (.tmp 12) rfl rfl rfl b2 (by kernel_rfl) rfl (by simp [Value.oneCell']) ?_)
  refine bodyPost_ret (results_cell_row rfl _ _ _ _ _ _ _ (by rfl) (setRow_heap _ _ _ _ _ _ b2) Tryz.underlying96 rfl (by kernel_rfl)) rfl ⟨by rw [seenV, seenC, HS.out, HE.out], below_setRow vB2 (by omega) _⟩

def putV (f : Dw.Fl) (s : Dw.Stp) : Value := if (Dw.plan f s.data).2 = 0 then .tuple #[flV (Dw.putG f s).1, .bool (Dw.ackB f s), .int .i64 0] else .tuple #[flV f, .bool false, .int .i64 (Dw.plan f s.data).2]
set_option maxRecDepth 100000 in
set_option maxHeartbeats 4000000 in
theorem put12_any (f : Dw.Fl) (hf : Dw.FlOk f) (s : Dw.Stp) (hd : s.data < 18446744073709551616) (w : World) (hn : NoneAt w) :
    Calls Tryz.prog 18 #[flV f, stpV s] w fun e w' => e = .returned (putV f s) ∧ Below w.heap.size w w' := by
  obtain ⟨V, hV⟩ : ∃ V, ((w.alloc (.cells (flashC f.a f.b f.e0 f.e1 f.li) 25)).alloc (.cells (stpC s) 49)).alloc (.cells (flashC [] [] 0 0 0) 25) = V := ⟨_, rfl⟩
  obtain ⟨vz, vB, b0, b1, b2⟩ := alloc3 w _ _ _ V hV
  obtain ⟨c0, c1, c2, c3, c4⟩ := cells5 b0
  obtain ⟨s0, s1, s2⟩ := cells3 b1
  obtain ⟨data, cut, m⟩ := s
  dsimp only at *
  go_enter Tryz.func18, Tryz.ntmps18
  go_wp2_with fail
  refine (plan_any f hf data hd _ (hn.next vB)).mono ?_
  rintro e w1 ⟨⟨v, rfl, own⟩, hb⟩
  replace b0 := (hb.block _ (block_lt b0)).trans b0
  replace b1 := (hb.block _ (block_lt b1)).trans b1
  replace b2 := (hb.block _ (block_lt b2)).trans b2
  replace vB := vB.trans (hb.mono vB.size)
  clear hb hV c0 c1 c2 c3 c4 s0 s1 s2
  obtain ⟨c0, c1, c2, c3, c4⟩ := cells5 b0
  obtain ⟨s0, s1, s2⟩ := cells3 b1
  by_cases hpe : (Dw.plan f data).2 = 0
  · obtain ⟨L, hlen, hok, hpos, hle⟩ := Dw.plan_ok hf hpe
    have hat := own_at own hpos
    have hgok := (Dw.play_ok cut m _ f 0 hf hlen hok).1
    have HP := Lib.hid (play_any f hf _ (by omega) hok v cut m w1 hat)
    have HE := Lib.hid (show putV f ⟨data, cut, m⟩ = .tuple #[flV (Dw.playL f (Dw.plan f data).1 0 cut m).1, .bool (Dw.ackB f ⟨data, cut, m⟩), .int .i64 0] from if_pos hpe)
    have HA0 := Lib.hid (show Dw.ackB f ⟨data, cut, m⟩ = (decide ((Dw.playL f (Dw.plan f data).1 0 cut m).2 = (Dw.plan f data).1.length) && (decide (Dw.readE (Dw.playL f (Dw.plan f data).1 0 cut m).1.a (Dw.playL f (Dw.plan f data).1 0 cut m).1.b = 0) && decide ((Dw.readS (Dw.playL f (Dw.plan f data).1 0 cut m).1.a (Dw.playL f (Dw.plan f data).1 0 cut m).1.b).data = data))) from rfl)
    obtain ⟨ob, cap, oc, ot, ofr, rfl, _, _⟩ := hat
    rw [hpe]
    clear own hpe hok hpos hle hlen
    generalize (Dw.plan f data).1.length = len at *
    generalize Dw.playL f (Dw.plan f data).1 0 cut m = R at *
    obtain ⟨g, n⟩ := R
    dsimp only at *
    go_wp2_with fail
    refine HP.out.mono ?_
    rintro e w2 ⟨rfl, hb⟩
    replace b1 := (hb.block _ (block_lt b1)).trans b1
    replace b2 := (hb.block _ (block_lt b2)).trans b2
    replace vB := vB.trans (hb.mono vB.size)
    clear hb c0 c1 c2 c3 c4 s0 s1 s2 b0
    have b9 := heap_alloc_new w2 (.cells (flashC g.a g.b g.e0 g.e1 g.li) 25)
    replace b1 := (heap_alloc_old w2 (.cells (flashC g.a g.b g.e0 g.e1 g.li) 25) _ (block_lt b1)).trans b1
    replace b2 := (heap_alloc_old w2 (.cells (flashC g.a g.b g.e0 g.e1 g.li) 25) _ (block_lt b2)).trans b2
    replace vB := vB.alloc vB.size (.cells (flashC g.a g.b g.e0 g.e1 g.li) 25)
    obtain ⟨W2, hW2⟩ : ∃ W2, w2.alloc (.cells (flashC g.a g.b g.e0 g.e1 g.li) 25) = W2 := ⟨_, rfl⟩
    rw [hW2] at b1 b2 b9 vB
    obtain ⟨e0, e1, e2, e3, e4⟩ := cells5 b9
    go_wp2_with fail
    refine (look_any g hgok _ (hn.next vB)).mono ?_
    rintro e w3 ⟨rfl, hb⟩
    replace b1 := (hb.block _ (block_lt b1)).trans b1
    replace b2 := (hb.block _ (block_lt b2)).trans b2
    replace b9 := (hb.block _ (block_lt b9)).trans b9
    replace vB := vB.trans (hb.mono vB.size)
    clear hb e0 e1 e2 e3 e4 hW2
    have hg11 := block_lt b2
    have hE2 := Dw.readE_two g.a g.b
    obtain ⟨⟨pb, pg, pq, pd⟩, hS⟩ : ∃ p, Dw.readS g.a g.b = p := ⟨_, rfl⟩
    obtain ⟨pe, hE⟩ : ∃ p, Dw.readE g.a g.b = p := ⟨_, rfl⟩
    have HA1 := HA0.out
    rw [hS, hE] at HA1
    rw [hE] at hE2
    rw [seenV, seenC, hS, hE]
    have HA1 := Lib.hid HA1
    clear HA0 hS hE
    replace b1 := (heap_alloc_old w3 (.cells #[.int .i64 pb, .int .u64 pg, .int .u64 pq, .int .u64 pd, .int .i64 pe] 96) _ (block_lt b1)).trans b1
    replace b2 := (heap_alloc_old w3 (.cells #[.int .i64 pb, .int .u64 pg, .int .u64 pq, .int .u64 pd, .int .i64 pe] 96) _ (block_lt b2)).trans b2
    replace b9 := (heap_alloc_old w3 (.cells #[.int .i64 pb, .int .u64 pg, .int .u64 pq, .int .u64 pd, .int .i64 pe] 96) _ (block_lt b9)).trans b9
    have b11 := heap_alloc_new w3 (.cells #[.int .i64 pb, .int .u64 pg, .int .u64 pq, .int .u64 pd, .int .i64 pe] 96)
    replace vB := vB.alloc vB.size (.cells #[.int .i64 pb, .int .u64 pg, .int .u64 pq, .int .u64 pd, .int .i64 pe] 96)
    obtain ⟨e0, e1, e2, e3, e4⟩ := cells5 b9
    obtain ⟨q0, q1, q2, q3, q4⟩ := cells5 b11
    obtain ⟨s0, s1, s2⟩ := cells3 b1
    by_cases h1 : n = len
    · have hb1 : ((n : Int) == (len : Int)) = true := by rw [h1, beq_self_eq_true]
      rcases hE2 with rfl | rfl
      · have HA := Lib.hid (HA1.out.trans (by rw [h1, decide_eq_true rfl, decide_eq_true rfl, Bool.true_and, Bool.true_and]))
        clear HA1 h1
        go_wp2_with fail
        generalize w3.alloc _ = W3 at *
        refine RT.wp_letter (fun k => k = w.heap.size + 2) (fun k => decide (15 ≤ k)) (List.range 22) 22 23 (RT.Stored W3 (w.heap.size + 2) (flashC g.a g.b g.e0 g.e1 g.li) 25) rfl (by kernel_rfl) (by kernel_rfl) rfl (fun A B h hk => h.keep hk) ?_
        rw [show List.range 22 = [0, 1, 2, 3, 4, 5, 6, 7, 8, 9, 10, 11, 12, 13, 14, 15, 16, 17, 18, 19, 20, 21] from rfl]
        (refine RT.pl_value (v := ?_) rfl rfl rfl ?_ ?_; rotate_left 1; (focus (intro w' hk; have k0 := look hk e0; have k1 := look hk e1; have k2 := look hk e2; have k3 := look hk e3; have k4 := look hk e4; go_simp; (first | done | with_reducible rfl | exact rfl))); (try simp only [Act.put, List.setIfInBounds_toArray, List.set_cons_zero, List.set_cons_succ]))
        (first | (refine RT.pl_value (v := ?_) rfl rfl rfl ?_ ?_; rotate_left 1; (focus (intro w' hk; have k6 := look hk q4; go_simp; (first | done | with_reducible rfl | exact rfl))); (try simp only [Act.put, List.setIfInBounds_toArray, List.set_cons_zero, List.set_cons_succ])) | (refine RT.pl_skip rfl rfl ?_; (try simp only [Act.put, List.setIfInBounds_toArray, List.set_cons_zero, List.set_cons_succ])))
        (first | (refine RT.pl_value (v := ?_) rfl rfl rfl ?_ ?_; rotate_left 1; (focus (intro w' hk; have k6 := look hk q4; go_simp; (first | done | with_reducible rfl | exact rfl))); (try simp only [Act.put, List.setIfInBounds_toArray, List.set_cons_zero, List.set_cons_succ])) | (refine RT.pl_skip rfl rfl ?_; (try simp only [Act.put, List.setIfInBounds_toArray, List.set_cons_zero, List.set_cons_succ])))
        (first | (refine RT.pl_value (v := ?_) rfl rfl rfl ?_ ?_; rotate_left 1; (focus (intro w' hk; have k6 := look hk q4; go_simp; (first | done | with_reducible rfl | exact rfl))); (try simp only [Act.put, List.setIfInBounds_toArray, List.set_cons_zero, List.set_cons_succ])) | (refine RT.pl_skip rfl rfl ?_; (try simp only [Act.put, List.setIfInBounds_toArray, List.set_cons_zero, List.set_cons_succ])))
        (first | (refine RT.pl_value (v := ?_) rfl rfl rfl ?_ ?_; rotate_left 1; (focus (intro w' hk; have k6 := look hk q4; go_simp; (first | done | with_reducible rfl | exact rfl))); (try simp only [Act.put, List.setIfInBounds_toArray, List.set_cons_zero, List.set_cons_succ])) | (refine RT.pl_skip rfl rfl ?_; (try simp only [Act.put, List.setIfInBounds_toArray, List.set_cons_zero, List.set_cons_succ])))
        (first | (refine RT.pl_value (v := ?_) rfl rfl rfl ?_ ?_; rotate_left 1; (focus (intro w' hk; have k6 := look hk q4; go_simp; (first | done | with_reducible rfl | exact rfl))); (try simp only [Act.put, List.setIfInBounds_toArray, List.set_cons_zero, List.set_cons_succ])) | (refine RT.pl_skip rfl rfl ?_; (try simp only [Act.put, List.setIfInBounds_toArray, List.set_cons_zero, List.set_cons_succ])))
        (first | (refine RT.pl_value (v := ?_) rfl rfl rfl ?_ ?_; rotate_left 1; (focus (intro w' hk; have k6 := look hk q4; go_simp; (first | done | with_reducible rfl | exact rfl))); (try simp only [Act.put, List.setIfInBounds_toArray, List.set_cons_zero, List.set_cons_succ])) | (refine RT.pl_skip rfl rfl ?_; (try simp only [Act.put, List.setIfInBounds_toArray, List.set_cons_zero, List.set_cons_succ])))
        (first | (refine RT.pl_value (v := ?_) rfl rfl rfl ?_ ?_; rotate_left 1; (focus (intro w' hk; have k6 := look hk q4; go_simp; (first | done | with_reducible rfl | exact rfl))); (try simp only [Act.put, List.setIfInBounds_toArray, List.set_cons_zero, List.set_cons_succ])) | (refine RT.pl_skip rfl rfl ?_; (try simp only [Act.put, List.setIfInBounds_toArray, List.set_cons_zero, List.set_cons_succ])))
        (first | (refine RT.pl_value (v := ?_) rfl rfl rfl ?_ ?_; rotate_left 1; (focus (intro w' hk; have k6 := look hk q4; go_simp; (first | done | with_reducible rfl | exact rfl))); (try simp only [Act.put, List.setIfInBounds_toArray, List.set_cons_zero, List.set_cons_succ])) | (refine RT.pl_skip rfl rfl ?_; (try simp only [Act.put, List.setIfInBounds_toArray, List.set_cons_zero, List.set_cons_succ])))
        (first | (refine RT.pl_value (v := ?_) rfl rfl rfl ?_ ?_; rotate_left 1; (focus (intro w' hk; have k6 := look hk q4; go_simp; (first | done | with_reducible rfl | exact rfl))); (try simp only [Act.put, List.setIfInBounds_toArray, List.set_cons_zero, List.set_cons_succ])) | (refine RT.pl_skip rfl rfl ?_; (try simp only [Act.put, List.setIfInBounds_toArray, List.set_cons_zero, List.set_cons_succ])))
        (first | (refine RT.pl_value (v := ?_) rfl rfl rfl ?_ ?_; rotate_left 1; (focus (intro w' hk; have k6 := look hk q4; go_simp; (first | done | with_reducible rfl | exact rfl))); (try simp only [Act.put, List.setIfInBounds_toArray, List.set_cons_zero, List.set_cons_succ])) | (refine RT.pl_skip rfl rfl ?_; (try simp only [Act.put, List.setIfInBounds_toArray, List.set_cons_zero, List.set_cons_succ])))
        (first | (refine RT.pl_value (v := ?_) rfl rfl rfl ?_ ?_; rotate_left 1; (focus (intro w' hk; have k6 := look hk q4; go_simp; (first | done | with_reducible rfl | exact rfl))); (try simp only [Act.put, List.setIfInBounds_toArray, List.set_cons_zero, List.set_cons_succ])) | (refine RT.pl_skip rfl rfl ?_; (try simp only [Act.put, List.setIfInBounds_toArray, List.set_cons_zero, List.set_cons_succ])))
        (first | (refine RT.pl_value (v := ?_) rfl rfl rfl ?_ ?_; rotate_left 1; (focus (intro w' hk; have k6 := look hk q4; go_simp; (first | done | with_reducible rfl | exact rfl))); (try simp only [Act.put, List.setIfInBounds_toArray, List.set_cons_zero, List.set_cons_succ])) | (refine RT.pl_skip rfl rfl ?_; (try simp only [Act.put, List.setIfInBounds_toArray, List.set_cons_zero, List.set_cons_succ])))
        (first | (refine RT.pl_value (v := ?_) rfl rfl rfl ?_ ?_; rotate_left 1; (focus (intro w' hk; have k6 := look hk q4; go_simp; (first | done | with_reducible rfl | exact rfl))); (try simp only [Act.put, List.setIfInBounds_toArray, List.set_cons_zero, List.set_cons_succ])) | (refine RT.pl_skip rfl rfl ?_; (try simp only [Act.put, List.setIfInBounds_toArray, List.set_cons_zero, List.set_cons_succ])))
        (first | (refine RT.pl_value (v := ?_) rfl rfl rfl ?_ ?_; rotate_left 1; (focus (intro w' hk; have k6 := look hk q4; go_simp; (first | done | with_reducible rfl | exact rfl))); (try simp only [Act.put, List.setIfInBounds_toArray, List.set_cons_zero, List.set_cons_succ])) | (refine RT.pl_skip rfl rfl ?_; (try simp only [Act.put, List.setIfInBounds_toArray, List.set_cons_zero, List.set_cons_succ])))
        (first | (refine RT.pl_late (v := ?_) rfl rfl ?_ ?_; rotate_left 1; (focus (intro w' hk; have k5 := (hk.cell (lt_of_cell q3) (fun h => absurd (show w3.heap.size = w.heap.size + 2 from h) (by omega))).trans q3; have k7 := (hk.cell (lt_of_cell s0) (fun h => absurd (show w.heap.size + 1 = w.heap.size + 2 from h) (by omega))).trans s0; go_simp; (first | done | with_reducible rfl | exact rfl))); (try simp only [Act.put, List.setIfInBounds_toArray, List.set_cons_zero, List.set_cons_succ])) | (refine RT.pl_skip rfl rfl ?_; (try simp only [Act.put, List.setIfInBounds_toArray, List.set_cons_zero, List.set_cons_succ])))
        (first | (refine RT.pl_late (v := ?_) rfl rfl ?_ ?_; rotate_left 1; (focus (intro w' hk; have k5 := (hk.cell (lt_of_cell q3) (fun h => absurd (show w3.heap.size = w.heap.size + 2 from h) (by omega))).trans q3; have k7 := (hk.cell (lt_of_cell s0) (fun h => absurd (show w.heap.size + 1 = w.heap.size + 2 from h) (by omega))).trans s0; go_simp; (first | done | with_reducible rfl | exact rfl))); (try simp only [Act.put, List.setIfInBounds_toArray, List.set_cons_zero, List.set_cons_succ])) | (refine RT.pl_skip rfl rfl ?_; (try simp only [Act.put, List.setIfInBounds_toArray, List.set_cons_zero, List.set_cons_succ])))
        (first | (refine RT.pl_late (v := ?_) rfl rfl ?_ ?_; rotate_left 1; (focus (intro w' hk; have k5 := (hk.cell (lt_of_cell q3) (fun h => absurd (show w3.heap.size = w.heap.size + 2 from h) (by omega))).trans q3; have k7 := (hk.cell (lt_of_cell s0) (fun h => absurd (show w.heap.size + 1 = w.heap.size + 2 from h) (by omega))).trans s0; go_simp; (first | done | with_reducible rfl | exact rfl))); (try simp only [Act.put, List.setIfInBounds_toArray, List.set_cons_zero, List.set_cons_succ])) | (refine RT.pl_skip rfl rfl ?_; (try simp only [Act.put, List.setIfInBounds_toArray, List.set_cons_zero, List.set_cons_succ])))
        (first | (refine RT.pl_late (v := ?_) rfl rfl ?_ ?_; rotate_left 1; (focus (intro w' hk; have k5 := (hk.cell (lt_of_cell q3) (fun h => absurd (show w3.heap.size = w.heap.size + 2 from h) (by omega))).trans q3; have k7 := (hk.cell (lt_of_cell s0) (fun h => absurd (show w.heap.size + 1 = w.heap.size + 2 from h) (by omega))).trans s0; go_simp; (first | done | with_reducible rfl | exact rfl))); (try simp only [Act.put, List.setIfInBounds_toArray, List.set_cons_zero, List.set_cons_succ])) | (refine RT.pl_skip rfl rfl ?_; (try simp only [Act.put, List.setIfInBounds_toArray, List.set_cons_zero, List.set_cons_succ])))
        (first | (refine RT.pl_late (v := ?_) rfl rfl ?_ ?_; rotate_left 1; (focus (intro w' hk; have k5 := (hk.cell (lt_of_cell q3) (fun h => absurd (show w3.heap.size = w.heap.size + 2 from h) (by omega))).trans q3; have k7 := (hk.cell (lt_of_cell s0) (fun h => absurd (show w.heap.size + 1 = w.heap.size + 2 from h) (by omega))).trans s0; go_simp; (first | done | with_reducible rfl | exact rfl))); (try simp only [Act.put, List.setIfInBounds_toArray, List.set_cons_zero, List.set_cons_succ])) | (refine RT.pl_skip rfl rfl ?_; (try simp only [Act.put, List.setIfInBounds_toArray, List.set_cons_zero, List.set_cons_succ])))
        (first | (refine RT.pl_late (v := ?_) rfl rfl ?_ ?_; rotate_left 1; (focus (intro w' hk; have k5 := (hk.cell (lt_of_cell q3) (fun h => absurd (show w3.heap.size = w.heap.size + 2 from h) (by omega))).trans q3; have k7 := (hk.cell (lt_of_cell s0) (fun h => absurd (show w.heap.size + 1 = w.heap.size + 2 from h) (by omega))).trans s0; go_simp; (first | done | with_reducible rfl | exact rfl))); (try simp only [Act.put, List.setIfInBounds_toArray, List.set_cons_zero, List.set_cons_succ])) | (refine RT.pl_skip rfl rfl ?_; (try simp only [Act.put, List.setIfInBounds_toArray, List.set_cons_zero, List.set_cons_succ])))
        (first | (refine RT.pl_late (v := ?_) rfl rfl ?_ ?_; rotate_left 1; (focus (intro w' hk; have k5 := (hk.cell (lt_of_cell q3) (fun h => absurd (show w3.heap.size = w.heap.size + 2 from h) (by omega))).trans q3; have k7 := (hk.cell (lt_of_cell s0) (fun h => absurd (show w.heap.size + 1 = w.heap.size + 2 from h) (by omega))).trans s0; go_simp; (first | done | with_reducible rfl | exact rfl))); (try simp only [Act.put, List.setIfInBounds_toArray, List.set_cons_zero, List.set_cons_succ])) | (refine RT.pl_skip rfl rfl ?_; (try simp only [Act.put, List.setIfInBounds_toArray, List.set_cons_zero, List.set_cons_succ])))
        refine RT.pl_nil ⟨rfl, RT.stores_block 25 (.tmp 4) (.tmp 36) rfl rfl rfl b2 (by kernel_rfl) rfl (by simp [Value.oneCell']), ?_⟩
        rintro w5 ⟨hk5, b5⟩
        simp only [List.drop_succ_cons, List.drop_zero]
        replace vB := vB.trans (hk5.below vB.size (fun g hg => by omega))
        go_wp2_with fail
        refine bodyPost_ret (results_cell_tmp2 rfl _ _ _ _ _ _ _ (by rfl) b5 Tryz.underlying25 rfl (by kernel_rfl)) rfl ⟨?_, vB⟩
        rw [HE.out, HA.out]
        exact congrArg (fun b => Ending.returned (.tuple #[flV g, .bool b, .int .i64 0])) (beq_nat pd data)
      · have HA := Lib.hid (HA1.out.trans (show _ = false from by rw [decide_eq_false (show ¬ (10 : Int) = 0 by decide), Bool.false_and, Bool.and_false]))
        clear HA1 h1
        go_wp2_with fail
        generalize w3.alloc _ = W3 at *
        refine RT.wp_letter (fun k => k = w.heap.size + 2) (fun k => decide (15 ≤ k)) (List.range 22) 22 23 (RT.Stored W3 (w.heap.size + 2) (flashC g.a g.b g.e0 g.e1 g.li) 25) rfl (by kernel_rfl) (by kernel_rfl) rfl (fun A B h hk => h.keep hk) ?_
        rw [show List.range 22 = [0, 1, 2, 3, 4, 5, 6, 7, 8, 9, 10, 11, 12, 13, 14, 15, 16, 17, 18, 19, 20, 21] from rfl]
        (refine RT.pl_value (v := ?_) rfl rfl rfl ?_ ?_; rotate_left 1; (focus (intro w' hk; have k0 := look hk e0; have k1 := look hk e1; have k2 := look hk e2; have k3 := look hk e3; have k4 := look hk e4; go_simp; (first | done | with_reducible rfl | exact rfl))); (try simp only [Act.put, List.setIfInBounds_toArray, List.set_cons_zero, List.set_cons_succ]))
        (first | (refine RT.pl_value (v := ?_) rfl rfl rfl ?_ ?_; rotate_left 1; (focus (intro w' hk; have k6 := look hk q4; go_simp; (first | done | with_reducible rfl | exact rfl))); (try simp only [Act.put, List.setIfInBounds_toArray, List.set_cons_zero, List.set_cons_succ])) | (refine RT.pl_skip rfl rfl ?_; (try simp only [Act.put, List.setIfInBounds_toArray, List.set_cons_zero, List.set_cons_succ])))
        (first | (refine RT.pl_value (v := ?_) rfl rfl rfl ?_ ?_; rotate_left 1; (focus (intro w' hk; have k6 := look hk q4; go_simp; (first | done | with_reducible rfl | exact rfl))); (try simp only [Act.put, List.setIfInBounds_toArray, List.set_cons_zero, List.set_cons_succ])) | (refine RT.pl_skip rfl rfl ?_; (try simp only [Act.put, List.setIfInBounds_toArray, List.set_cons_zero, List.set_cons_succ])))
        (first | (refine RT.pl_value (v := ?_) rfl rfl rfl ?_ ?_; rotate_left 1; (focus (intro w' hk; have k6 := look hk q4; go_simp; (first | done | with_reducible rfl | exact rfl))); (try simp only [Act.put, List.setIfInBounds_toArray, List.set_cons_zero, List.set_cons_succ])) | (refine RT.pl_skip rfl rfl ?_; (try simp only [Act.put, List.setIfInBounds_toArray, List.set_cons_zero, List.set_cons_succ])))
        (first | (refine RT.pl_value (v := ?_) rfl rfl rfl ?_ ?_; rotate_left 1; (focus (intro w' hk; have k6 := look hk q4; go_simp; (first | done | with_reducible rfl | exact rfl))); (try simp only [Act.put, List.setIfInBounds_toArray, List.set_cons_zero, List.set_cons_succ])) | (refine RT.pl_skip rfl rfl ?_; (try simp only [Act.put, List.setIfInBounds_toArray, List.set_cons_zero, List.set_cons_succ])))
        (first | (refine RT.pl_value (v := ?_) rfl rfl rfl ?_ ?_; rotate_left 1; (focus (intro w' hk; have k6 := look hk q4; go_simp; (first | done | with_reducible rfl | exact rfl))); (try simp only [Act.put, List.setIfInBounds_toArray, List.set_cons_zero, List.set_cons_succ])) | (refine RT.pl_skip rfl rfl ?_; (try simp only [Act.put, List.setIfInBounds_toArray, List.set_cons_zero, List.set_cons_succ])))
        (first | (refine RT.pl_value (v := ?_) rfl rfl rfl ?_ ?_; rotate_left 1; (focus (intro w' hk; have k6 := look hk q4; go_simp; (first | done | with_reducible rfl | exact rfl))); (try simp only [Act.put, List.setIfInBounds_toArray, List.set_cons_zero, List.set_cons_succ])) | (refine RT.pl_skip rfl rfl ?_; (try simp only [Act.put, List.setIfInBounds_toArray, List.set_cons_zero, List.set_cons_succ])))
        (first | (refine RT.pl_value (v := ?_) rfl rfl rfl ?_ ?_; rotate_left 1; (focus (intro w' hk; have k6 := look hk q4; go_simp; (first | done | with_reducible rfl | exact rfl))); (try simp only [Act.put, List.setIfInBounds_toArray, List.set_cons_zero, List.set_cons_succ])) | (refine RT.pl_skip rfl rfl ?_; (try simp only [Act.put, List.setIfInBounds_toArray, List.set_cons_zero, List.set_cons_succ])))
        (first | (refine RT.pl_value (v := ?_) rfl rfl rfl ?_ ?_; rotate_left 1; (focus (intro w' hk; have k6 := look hk q4; go_simp; (first | done | with_reducible rfl | exact rfl))); (try simp only [Act.put, List.setIfInBounds_toArray, List.set_cons_zero, List.set_cons_succ])) | (refine RT.pl_skip rfl rfl ?_; (try simp only [Act.put, List.setIfInBounds_toArray, List.set_cons_zero, List.set_cons_succ])))
        (first | (refine RT.pl_value (v := ?_) rfl rfl rfl ?_ ?_; rotate_left 1; (focus (intro w' hk; have k6 := look hk q4; go_simp; (first | done | with_reducible rfl | exact rfl))); (try simp only [Act.put, List.setIfInBounds_toArray, List.set_cons_zero, List.set_cons_succ])) | (refine RT.pl_skip rfl rfl ?_; (try simp only [Act.put, List.setIfInBounds_toArray, List.set_cons_zero, List.set_cons_succ])))
        (first | (refine RT.pl_value (v := ?_) rfl rfl rfl ?_ ?_; rotate_left 1; (focus (intro w' hk; have k6 := look hk q4; go_simp; (first | done | with_reducible rfl | exact rfl))); (try simp only [Act.put, List.setIfInBounds_toArray, List.set_cons_zero, List.set_cons_succ])) | (refine RT.pl_skip rfl rfl ?_; (try simp only [Act.put, List.setIfInBounds_toArray, List.set_cons_zero, List.set_cons_succ])))
        (first | (refine RT.pl_value (v := ?_) rfl rfl rfl ?_ ?_; rotate_left 1; (focus (intro w' hk; have k6 := look hk q4; go_simp; (first | done | with_reducible rfl | exact rfl))); (try simp only [Act.put, List.setIfInBounds_toArray, List.set_cons_zero, List.set_cons_succ])) | (refine RT.pl_skip rfl rfl ?_; (try simp only [Act.put, List.setIfInBounds_toArray, List.set_cons_zero, List.set_cons_succ])))
        (first | (refine RT.pl_value (v := ?_) rfl rfl rfl ?_ ?_; rotate_left 1; (focus (intro w' hk; have k6 := look hk q4; go_simp; (first | done | with_reducible rfl | exact rfl))); (try simp only [Act.put, List.setIfInBounds_toArray, List.set_cons_zero, List.set_cons_succ])) | (refine RT.pl_skip rfl rfl ?_; (try simp only [Act.put, List.setIfInBounds_toArray, List.set_cons_zero, List.set_cons_succ])))
        (first | (refine RT.pl_value (v := ?_) rfl rfl rfl ?_ ?_; rotate_left 1; (focus (intro w' hk; have k6 := look hk q4; go_simp; (first | done | with_reducible rfl | exact rfl))); (try simp only [Act.put, List.setIfInBounds_toArray, List.set_cons_zero, List.set_cons_succ])) | (refine RT.pl_skip rfl rfl ?_; (try simp only [Act.put, List.setIfInBounds_toArray, List.set_cons_zero, List.set_cons_succ])))
        (first | (refine RT.pl_value (v := ?_) rfl rfl rfl ?_ ?_; rotate_left 1; (focus (intro w' hk; have k6 := look hk q4; go_simp; (first | done | with_reducible rfl | exact rfl))); (try simp only [Act.put, List.setIfInBounds_toArray, List.set_cons_zero, List.set_cons_succ])) | (refine RT.pl_skip rfl rfl ?_; (try simp only [Act.put, List.setIfInBounds_toArray, List.set_cons_zero, List.set_cons_succ])))
        (first | (refine RT.pl_late (v := ?_) rfl rfl ?_ ?_; rotate_left 1; (focus (intro w' hk; have k5 := (hk.cell (lt_of_cell q3) (fun h => absurd (show w3.heap.size = w.heap.size + 2 from h) (by omega))).trans q3; have k7 := (hk.cell (lt_of_cell s0) (fun h => absurd (show w.heap.size + 1 = w.heap.size + 2 from h) (by omega))).trans s0; go_simp; (first | done | with_reducible rfl | exact rfl))); (try simp only [Act.put, List.setIfInBounds_toArray, List.set_cons_zero, List.set_cons_succ])) | (refine RT.pl_skip rfl rfl ?_; (try simp only [Act.put, List.setIfInBounds_toArray, List.set_cons_zero, List.set_cons_succ])))
        (first | (refine RT.pl_late (v := ?_) rfl rfl ?_ ?_; rotate_left 1; (focus (intro w' hk; have k5 := (hk.cell (lt_of_cell q3) (fun h => absurd (show w3.heap.size = w.heap.size + 2 from h) (by omega))).trans q3; have k7 := (hk.cell (lt_of_cell s0) (fun h => absurd (show w.heap.size + 1 = w.heap.size + 2 from h) (by omega))).trans s0; go_simp; (first | done | with_reducible rfl | exact rfl))); (try simp only [Act.put, List.setIfInBounds_toArray, List.set_cons_zero, List.set_cons_succ])) | (refine RT.pl_skip rfl rfl ?_; (try simp only [Act.put, List.setIfInBounds_toArray, List.set_cons_zero, List.set_cons_succ])))
        (first | (refine RT.pl_late (v := ?_) rfl rfl ?_ ?_; rotate_left 1; (focus (intro w' hk; have k5 := (hk.cell (lt_of_cell q3) (fun h => absurd (show w3.heap.size = w.heap.size + 2 from h) (by omega))).trans q3; have k7 := (hk.cell (lt_of_cell s0) (fun h => absurd (show w.heap.size + 1 = w.heap.size + 2 from h) (by omega))).trans s0; go_simp; (first | done | with_reducible rfl | exact rfl))); (try simp only [Act.put, List.setIfInBounds_toArray, List.set_cons_zero, List.set_cons_succ])) | (refine RT.pl_skip rfl rfl ?_; (try simp only [Act.put, List.setIfInBounds_toArray, List.set_cons_zero, List.set_cons_succ])))
        (first | (refine RT.pl_late (v := ?_) rfl rfl ?_ ?_; rotate_left 1; (focus (intro w' hk; have k5 := (hk.cell (lt_of_cell q3) (fun h => absurd (show w3.heap.size = w.heap.size + 2 from h) (by omega))).trans q3; have k7 := (hk.cell (lt_of_cell s0) (fun h => absurd (show w.heap.size + 1 = w.heap.size + 2 from h) (by omega))).trans s0; go_simp; (first | done | with_reducible rfl | exact rfl))); (try simp only [Act.put, List.setIfInBounds_toArray, List.set_cons_zero, List.set_cons_succ])) | (refine RT.pl_skip rfl rfl ?_; (try simp only [Act.put, List.setIfInBounds_toArray, List.set_cons_zero, List.set_cons_succ])))
        (first | (refine RT.pl_late (v := ?_) rfl rfl ?_ ?_; rotate_left 1; (focus (intro w' hk; have k5 := (hk.cell (lt_of_cell q3) (fun h => absurd (show w3.heap.size = w.heap.size + 2 from h) (by omega))).trans q3; have k7 := (hk.cell (lt_of_cell s0) (fun h => absurd (show w.heap.size + 1 = w.heap.size + 2 from h) (by omega))).trans s0; go_simp; (first | done | with_reducible rfl | exact rfl))); (try simp only [Act.put, List.setIfInBounds_toArray, List.set_cons_zero, List.set_cons_succ])) | (refine RT.pl_skip rfl rfl ?_; (try simp only [Act.put, List.setIfInBounds_toArray, List.set_cons_zero, List.set_cons_succ])))
        (first | (refine RT.pl_late (v := ?_) rfl rfl ?_ ?_; rotate_left 1; (focus (intro w' hk; have k5 := (hk.cell (lt_of_cell q3) (fun h => absurd (show w3.heap.size = w.heap.size + 2 from h) (by omega))).trans q3; have k7 := (hk.cell (lt_of_cell s0) (fun h => absurd (show w.heap.size + 1 = w.heap.size + 2 from h) (by omega))).trans s0; go_simp; (first | done | with_reducible rfl | exact rfl))); (try simp only [Act.put, List.setIfInBounds_toArray, List.set_cons_zero, List.set_cons_succ])) | (refine RT.pl_skip rfl rfl ?_; (try simp only [Act.put, List.setIfInBounds_toArray, List.set_cons_zero, List.set_cons_succ])))
        (first | (refine RT.pl_late (v := ?_) rfl rfl ?_ ?_; rotate_left 1; (focus (intro w' hk; have k5 := (hk.cell (lt_of_cell q3) (fun h => absurd (show w3.heap.size = w.heap.size + 2 from h) (by omega))).trans q3; have k7 := (hk.cell (lt_of_cell s0) (fun h => absurd (show w.heap.size + 1 = w.heap.size + 2 from h) (by omega))).trans s0; go_simp; (first | done | with_reducible rfl | exact rfl))); (try simp only [Act.put, List.setIfInBounds_toArray, List.set_cons_zero, List.set_cons_succ])) | (refine RT.pl_skip rfl rfl ?_; (try simp only [Act.put, List.setIfInBounds_toArray, List.set_cons_zero, List.set_cons_succ])))
        refine RT.pl_nil ⟨rfl, RT.stores_block 25 (.tmp 4) (.tmp 36) rfl rfl rfl b2 (by kernel_rfl) rfl (by simp [Value.oneCell']), ?_⟩
        rintro w5 ⟨hk5, b5⟩
        simp only [List.drop_succ_cons, List.drop_zero]
        replace vB := vB.trans (hk5.below vB.size (fun g hg => by omega))
        go_wp2_with fail
        refine bodyPost_ret (results_cell_tmp2 rfl _ _ _ _ _ _ _ (by rfl) b5 Tryz.underlying25 rfl (by kernel_rfl)) rfl ⟨?_, vB⟩
        rw [HE.out, HA.out]
        rfl
    · have hb1 : ((n : Int) == (len : Int)) = false := by rw [beq_eq_false_iff_ne]; omega
      have HA := Lib.hid (HA1.out.trans (show _ = false from by rw [decide_eq_false h1, Bool.false_and]))
      clear HA1 h1 hE2
      go_wp2_with fail
      generalize w3.alloc _ = W3 at *
      refine RT.wp_letter (fun k => k = w.heap.size + 2) (fun k => decide (15 ≤ k)) (List.range 22) 22 23 (RT.Stored W3 (w.heap.size + 2) (flashC g.a g.b g.e0 g.e1 g.li) 25) rfl (by kernel_rfl) (by kernel_rfl) rfl (fun A B h hk => h.keep hk) ?_
      rw [show List.range 22 = [0, 1, 2, 3, 4, 5, 6, 7, 8, 9, 10, 11, 12, 13, 14, 15, 16, 17, 18, 19, 20, 21] from rfl]
      (refine RT.pl_value (v := ?_) rfl rfl rfl ?_ ?_; rotate_left 1; (focus (intro w' hk; have k0 := look hk e0; have k1 := look hk e1; have k2 := look hk e2; have k3 := look hk e3; have k4 := look hk e4; go_simp; (first | done | with_reducible rfl | exact rfl))); (try simp only [Act.put, List.setIfInBounds_toArray, List.set_cons_zero, List.set_cons_succ]))
      (first | (refine RT.pl_value (v := ?_) rfl rfl rfl ?_ ?_; rotate_left 1; (focus (intro w' hk; have k6 := look hk q4; go_simp; (first | done | with_reducible rfl | exact rfl))); (try simp only [Act.put, List.setIfInBounds_toArray, List.set_cons_zero, List.set_cons_succ])) | (refine RT.pl_skip rfl rfl ?_; (try simp only [Act.put, List.setIfInBounds_toArray, List.set_cons_zero, List.set_cons_succ])))
      (first | (refine RT.pl_value (v := ?_) rfl rfl rfl ?_ ?_; rotate_left 1; (focus (intro w' hk; have k6 := look hk q4; go_simp; (first | done | with_reducible rfl | exact rfl))); (try simp only [Act.put, List.setIfInBounds_toArray, List.set_cons_zero, List.set_cons_succ])) | (refine RT.pl_skip rfl rfl ?_; (try simp only [Act.put, List.setIfInBounds_toArray, List.set_cons_zero, List.set_cons_succ])))
      (first | (refine RT.pl_value (v := ?_) rfl rfl rfl ?_ ?_; rotate_left 1; (focus (intro w' hk; have k6 := look hk q4; go_simp; (first | done | with_reducible rfl | exact rfl))); (try simp only [Act.put, List.setIfInBounds_toArray, List.set_cons_zero, List.set_cons_succ])) | (refine RT.pl_skip rfl rfl ?_; (try simp only [Act.put, List.setIfInBounds_toArray, List.set_cons_zero, List.set_cons_succ])))
      (first | (refine RT.pl_value (v := ?_) rfl rfl rfl ?_ ?_; rotate_left 1; (focus (intro w' hk; have k6 := look hk q4; go_simp; (first | done | with_reducible rfl | exact rfl))); (try simp only [Act.put, List.setIfInBounds_toArray, List.set_cons_zero, List.set_cons_succ])) | (refine RT.pl_skip rfl rfl ?_; (try simp only [Act.put, List.setIfInBounds_toArray, List.set_cons_zero, List.set_cons_succ])))
      (first | (refine RT.pl_value (v := ?_) rfl rfl rfl ?_ ?_; rotate_left 1; (focus (intro w' hk; have k6 := look hk q4; go_simp; (first | done | with_reducible rfl | exact rfl))); (try simp only [Act.put, List.setIfInBounds_toArray, List.set_cons_zero, List.set_cons_succ])) | (refine RT.pl_skip rfl rfl ?_; (try simp only [Act.put, List.setIfInBounds_toArray, List.set_cons_zero, List.set_cons_succ])))
      (first | (refine RT.pl_value (v := ?_) rfl rfl rfl ?_ ?_; rotate_left 1; (focus (intro w' hk; have k6 := look hk q4; go_simp; (first | done | with_reducible rfl | exact rfl))); (try simp only [Act.put, List.setIfInBounds_toArray, List.set_cons_zero, List.set_cons_succ])) | (refine RT.pl_skip rfl rfl ?_; (try simp only [Act.put, List.setIfInBounds_toArray, List.set_cons_zero, List.set_cons_succ])))
      (first | (refine RT.pl_value (v := ?_) rfl rfl rfl ?_ ?_; rotate_left 1; (focus (intro w' hk; have k6 := look hk q4; go_simp; (first | done | with_reducible rfl | exact rfl))); (try simp only [Act.put, List.setIfInBounds_toArray, List.set_cons_zero, List.set_cons_succ])) | (refine RT.pl_skip rfl rfl ?_; (try simp only [Act.put, List.setIfInBounds_toArray, List.set_cons_zero, List.set_cons_succ])))
      (first | (refine RT.pl_value (v := ?_) rfl rfl rfl ?_ ?_; rotate_left 1; (focus (intro w' hk; have k6 := look hk q4; go_simp; (first | done | with_reducible rfl | exact rfl))); (try simp only [Act.put, List.setIfInBounds_toArray, List.set_cons_zero, List.set_cons_succ])) | (refine RT.pl_skip rfl rfl ?_; (try simp only [Act.put, List.setIfInBounds_toArray, List.set_cons_zero, List.set_cons_succ])))
      (first | (refine RT.pl_value (v := ?_) rfl rfl rfl ?_ ?_; rotate_left 1; (focus (intro w' hk; have k6 := look hk q4; go_simp; (first | done | with_reducible rfl | exact rfl))); (try simp only [Act.put, List.setIfInBounds_toArray, List.set_cons_zero, List.set_cons_succ])) | (refine RT.pl_skip rfl rfl ?_; (try simp only [Act.put, List.setIfInBounds_toArray, List.set_cons_zero, List.set_cons_succ])))
      (first | (refine RT.pl_value (v := ?_) rfl rfl rfl ?_ ?_; rotate_left 1; (focus (intro w' hk; have k6 := look hk q4; go_simp; (first | done | with_reducible rfl | exact rfl))); (try simp only [Act.put, List.setIfInBounds_toArray, List.set_cons_zero, List.set_cons_succ])) | (refine RT.pl_skip rfl rfl ?_; (try simp only [Act.put, List.setIfInBounds_toArray, List.set_cons_zero, List.set_cons_succ])))
      (first | (refine RT.pl_value (v := ?_) rfl rfl rfl ?_ ?_; rotate_left 1; (focus (intro w' hk; have k6 := look hk q4; go_simp; (first | done | with_reducible rfl | exact rfl))); (try simp only [Act.put, List.setIfInBounds_toArray, List.set_cons_zero, List.set_cons_succ])) | (refine RT.pl_skip rfl rfl ?_; (try simp only [Act.put, List.setIfInBounds_toArray, List.set_cons_zero, List.set_cons_succ])))
      (first | (refine RT.pl_value (v := ?_) rfl rfl rfl ?_ ?_; rotate_left 1; (focus (intro w' hk; have k6 := look hk q4; go_simp; (first | done | with_reducible rfl | exact rfl))); (try simp only [Act.put, List.setIfInBounds_toArray, List.set_cons_zero, List.set_cons_succ])) | (refine RT.pl_skip rfl rfl ?_; (try simp only [Act.put, List.setIfInBounds_toArray, List.set_cons_zero, List.set_cons_succ])))
      (first | (refine RT.pl_value (v := ?_) rfl rfl rfl ?_ ?_; rotate_left 1; (focus (intro w' hk; have k6 := look hk q4; go_simp; (first | done | with_reducible rfl | exact rfl))); (try simp only [Act.put, List.setIfInBounds_toArray, List.set_cons_zero, List.set_cons_succ])) | (refine RT.pl_skip rfl rfl ?_; (try simp only [Act.put, List.setIfInBounds_toArray, List.set_cons_zero, List.set_cons_succ])))
      (first | (refine RT.pl_value (v := ?_) rfl rfl rfl ?_ ?_; rotate_left 1; (focus (intro w' hk; have k6 := look hk q4; go_simp; (first | done | with_reducible rfl | exact rfl))); (try simp only [Act.put, List.setIfInBounds_toArray, List.set_cons_zero, List.set_cons_succ])) | (refine RT.pl_skip rfl rfl ?_; (try simp only [Act.put, List.setIfInBounds_toArray, List.set_cons_zero, List.set_cons_succ])))
      (first | (refine RT.pl_late (v := ?_) rfl rfl ?_ ?_; rotate_left 1; (focus (intro w' hk; have k5 := (hk.cell (lt_of_cell q3) (fun h => absurd (show w3.heap.size = w.heap.size + 2 from h) (by omega))).trans q3; have k7 := (hk.cell (lt_of_cell s0) (fun h => absurd (show w.heap.size + 1 = w.heap.size + 2 from h) (by omega))).trans s0; go_simp; (first | done | with_reducible rfl | exact rfl))); (try simp only [Act.put, List.setIfInBounds_toArray, List.set_cons_zero, List.set_cons_succ])) | (refine RT.pl_skip rfl rfl ?_; (try simp only [Act.put, List.setIfInBounds_toArray, List.set_cons_zero, List.set_cons_succ])))
      (first | (refine RT.pl_late (v := ?_) rfl rfl ?_ ?_; rotate_left 1; (focus (intro w' hk; have k5 := (hk.cell (lt_of_cell q3) (fun h => absurd (show w3.heap.size = w.heap.size + 2 from h) (by omega))).trans q3; have k7 := (hk.cell (lt_of_cell s0) (fun h => absurd (show w.heap.size + 1 = w.heap.size + 2 from h) (by omega))).trans s0; go_simp; (first | done | with_reducible rfl | exact rfl))); (try simp only [Act.put, List.setIfInBounds_toArray, List.set_cons_zero, List.set_cons_succ])) | (refine RT.pl_skip rfl rfl ?_; (try simp only [Act.put, List.setIfInBounds_toArray, List.set_cons_zero, List.set_cons_succ])))
      (first | (refine RT.pl_late (v := ?_) rfl rfl ?_ ?_; rotate_left 1; (focus (intro w' hk; have k5 := (hk.cell (lt_of_cell q3) (fun h => absurd (show w3.heap.size = w.heap.size + 2 from h) (by omega))).trans q3; have k7 := (hk.cell (lt_of_cell s0) (fun h => absurd (show w.heap.size + 1 = w.heap.size + 2 from h) (by omega))).trans s0; go_simp; (first | done | with_reducible rfl | exact rfl))); (try simp only [Act.put, List.setIfInBounds_toArray, List.set_cons_zero, List.set_cons_succ])) | (refine RT.pl_skip rfl rfl ?_; (try simp only [Act.put, List.setIfInBounds_toArray, List.set_cons_zero, List.set_cons_succ])))
      (first | (refine RT.pl_late (v := ?_) rfl rfl ?_ ?_; rotate_left 1; (focus (intro w' hk; have k5 := (hk.cell (lt_of_cell q3) (fun h => absurd (show w3.heap.size = w.heap.size + 2 from h) (by omega))).trans q3; have k7 := (hk.cell (lt_of_cell s0) (fun h => absurd (show w.heap.size + 1 = w.heap.size + 2 from h) (by omega))).trans s0; go_simp; (first | done | with_reducible rfl | exact rfl))); (try simp only [Act.put, List.setIfInBounds_toArray, List.set_cons_zero, List.set_cons_succ])) | (refine RT.pl_skip rfl rfl ?_; (try simp only [Act.put, List.setIfInBounds_toArray, List.set_cons_zero, List.set_cons_succ])))
      (first | (refine RT.pl_late (v := ?_) rfl rfl ?_ ?_; rotate_left 1; (focus (intro w' hk; have k5 := (hk.cell (lt_of_cell q3) (fun h => absurd (show w3.heap.size = w.heap.size + 2 from h) (by omega))).trans q3; have k7 := (hk.cell (lt_of_cell s0) (fun h => absurd (show w.heap.size + 1 = w.heap.size + 2 from h) (by omega))).trans s0; go_simp; (first | done | with_reducible rfl | exact rfl))); (try simp only [Act.put, List.setIfInBounds_toArray, List.set_cons_zero, List.set_cons_succ])) | (refine RT.pl_skip rfl rfl ?_; (try simp only [Act.put, List.setIfInBounds_toArray, List.set_cons_zero, List.set_cons_succ])))
      (first | (refine RT.pl_late (v := ?_) rfl rfl ?_ ?_; rotate_left 1; (focus (intro w' hk; have k5 := (hk.cell (lt_of_cell q3) (fun h => absurd (show w3.heap.size = w.heap.size + 2 from h) (by omega))).trans q3; have k7 := (hk.cell (lt_of_cell s0) (fun h => absurd (show w.heap.size + 1 = w.heap.size + 2 from h) (by omega))).trans s0; go_simp; (first | done | with_reducible rfl | exact rfl))); (try simp only [Act.put, List.setIfInBounds_toArray, List.set_cons_zero, List.set_cons_succ])) | (refine RT.pl_skip rfl rfl ?_; (try simp only [Act.put, List.setIfInBounds_toArray, List.set_cons_zero, List.set_cons_succ])))
      (first | (refine RT.pl_late (v := ?_) rfl rfl ?_ ?_; rotate_left 1; (focus (intro w' hk; have k5 := (hk.cell (lt_of_cell q3) (fun h => absurd (show w3.heap.size = w.heap.size + 2 from h) (by omega))).trans q3; have k7 := (hk.cell (lt_of_cell s0) (fun h => absurd (show w.heap.size + 1 = w.heap.size + 2 from h) (by omega))).trans s0; go_simp; (first | done | with_reducible rfl | exact rfl))); (try simp only [Act.put, List.setIfInBounds_toArray, List.set_cons_zero, List.set_cons_succ])) | (refine RT.pl_skip rfl rfl ?_; (try simp only [Act.put, List.setIfInBounds_toArray, List.set_cons_zero, List.set_cons_succ])))
      refine RT.pl_nil ⟨rfl, RT.stores_block 25 (.tmp 4) (.tmp 36) rfl rfl rfl b2 (by kernel_rfl) rfl (by simp [Value.oneCell']), ?_⟩
      rintro w5 ⟨hk5, b5⟩
      simp only [List.drop_succ_cons, List.drop_zero]
      replace vB := vB.trans (hk5.below vB.size (fun g hg => by omega))
      go_wp2_with fail
      refine bodyPost_ret (results_cell_tmp2 rfl _ _ _ _ _ _ _ (by rfl) b5 Tryz.underlying25 rfl (by kernel_rfl)) rfl ⟨?_, vB⟩
      rw [HE.out, HA.out]
      rfl
  · have HE := Lib.hid (show putV f ⟨data, cut, m⟩ = .tuple #[flV f, .bool false, .int .i64 (Dw.plan f data).2] from if_neg hpe)
    have hpb : ((Dw.plan f data).2 != 0) = true := by simpa using hpe
    clear own hpe
    generalize (Dw.plan f data).2 = pe at *
    go_wp2_with (refine wpList_store_block rfl 25 (.tmp 4) (.tmp 21) rfl rfl rfl b2 (by kernel_rfl) rfl (by simp [Value.oneCell']) ?_)
    refine bodyPost_ret (results_cell_tmp2 rfl _ _ _ _ _ _ _ (by rfl) (setRow_heap _ _ _ _ _ _ b2) Tryz.underlying25 rfl (by kernel_rfl)) rfl ⟨?_, below_setRow vB (by omega) _⟩
    rw [HE.out]
    rfl
end Go.Proofs.YtaniehjhmjecjaaGreatDoor
