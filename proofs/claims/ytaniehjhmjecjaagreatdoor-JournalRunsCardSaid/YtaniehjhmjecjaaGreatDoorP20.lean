/- What the statement's proof stands on, part 20: Run, PlainJour, Big12, Ev12, Shown12. -/
import Derived.Test.YtaniehjhmjecjaaGreatDoorP19
import Derived.Test.YtaniehjhmjecjaaGreatDoorP10

/- Layer 12: Run; a slice of steps. -/
namespace Go.Proofs.YtaniehjhmjecjaaGreatDoor
open Go.RowKit Go.Shelf
attribute [local go_sem] Oper.semAt_some

namespace Dw
theorem playJ_ok {l : Lg} (hf : FlOk l.f) (s : Stp) : FlOk (playJ l s).f := by
  unfold playJ
  by_cases hp : (plan l.f s.data).2 = 0
  · obtain ⟨L, hlen, hok, _, _⟩ := plan_ok hf hp
    have h := (play_ok s.cut s.mask _ l.f 0 hf hlen hok).1
    rw [if_neg (fun h => h hp)]
    split
    · exact h
    · split <;> exact h
  · rw [if_pos hp]; exact hf
theorem playJ_acked (l : Lg) (s : Stp) : (playJ l s).acked = l.acked ∨ (playJ l s).acked = l.acked + 1 := by
  unfold playJ
  split
  · exact .inl rfl
  · split
    · exact .inr rfl
    · split <;> exact .inl rfl
def runJ (l : Lg) (ss : List Stp) : Lg := ss.foldl playJ l
theorem runJ_ok : ∀ (ss : List Stp) (l : Lg), FlOk l.f → FlOk (runJ l ss).f
  | [], _, h => h
  | s :: ss, l, h => runJ_ok ss (playJ l s) (playJ_ok h s)
theorem runJ_acked : ∀ (ss : List Stp) (l : Lg), l.acked ≤ (runJ l ss).acked ∧ (runJ l ss).acked ≤ l.acked + ss.length
  | [], l => ⟨Int.le_refl _, by simp [runJ]⟩
  | s :: ss, l => by
    have h := runJ_acked ss (playJ l s)
    have h2 := playJ_acked l s
    change l.acked ≤ (runJ (playJ l s) ss).acked ∧ (runJ (playJ l s) ss).acked ≤ l.acked + ((ss.length + 1 : Nat) : Int)
    omega
theorem runJ_next (l : Lg) (ss : List Stp) {k : Nat} {s : Stp} (h : ss[k]? = some s) : runJ l (ss.take (k + 1)) = playJ (runJ l (ss.take k)) s := by
  unfold runJ
  obtain ⟨hk, hs⟩ := List.getElem?_eq_some_iff.1 h
  rw [← List.take_append_getElem hk, List.foldl_append, hs]
  rfl
def lg0 (f : Fl) : Lg := ⟨f, 0, 0, false, 0⟩
end Dw

/-- A slice of steps. -/
def StepsAt (w : World) (v : Value) (l : List Dw.Stp) : Prop :=
  ∃ sa cap, v = .slice sa l.length cap ∧ (∀ s ∈ l, s.data < 18446744073709551616) ∧
    (l = [] ∨ ∃ b off, sa = some ⟨b, off, none⟩ ∧ ∀ j s, l[j]? = some s → w.cell? ⟨b, off + j * 3, none⟩ = some (.int .u64 s.data) ∧ w.cell? ⟨b, off + j * 3 + 1, none⟩ = some (.int .i64 s.cut) ∧ w.cell? ⟨b, off + j * 3 + 2, none⟩ = some (.string ⟨s.mask.toArray⟩))
theorem StepsAt.next {w w' : World} {v : Value} {l : List Dw.Stp} (h : StepsAt w v l) (hb : Below w.heap.size w w') : StepsAt w' v l := by
  obtain ⟨sa, cap, rfl, hd, h⟩ := h
  refine ⟨sa, cap, rfl, hd, ?_⟩
  rcases h with h | ⟨b, off, rfl, hc⟩
  · exact .inl h
  · refine .inr ⟨b, off, rfl, fun j s hj => ?_⟩
    obtain ⟨q0, q1, q2⟩ := hc j s hj
    exact ⟨(hb.cell (lt_of_cell q0)).trans q0, (hb.cell (lt_of_cell q1)).trans q1, (hb.cell (lt_of_cell q2)).trans q2⟩

set_option maxRecDepth 100000 in
theorem run1_any (N : Nat) (l : Dw.Lg) (hf : Dw.FlOk l.f) (ha : 0 ≤ l.acked ∧ l.acked ≤ 1000000) (s : Dw.Stp) (hd : s.data < 18446744073709551616) (w : World) (hl : w.heap[N]? = some (.cells (lgC l) 61 (0, 0))) (hn : NoneAt w) :
    Calls Tryz.prog 47 #[stpV s, .pointer (some ⟨N, 0, none⟩)] w fun e w' => e = .returned (.tuple #[]) ∧ At1 w N (lgC (Dw.playJ l s)) 61 w' := by
  have HP := Lib.hid (fun w hn => play12_any l hf ha s hd w hn)
  generalize Dw.playJ l s = l2 at *
  have b1 := heap_alloc_new w (.cells (stpC s) 49)
  have b0 := (heap_alloc_old w (.cells (stpC s) 49) _ (block_lt hl)).trans hl
  have vB := (Below.refl w.heap.size w).alloc (Nat.le_refl _) (.cells (stpC s) 49)
  obtain ⟨l0, l1, l2', l3, l4, l5, l6, l7, l8⟩ := cells9 b0
  obtain ⟨s0, s1, s2⟩ := cells3 b1
  have hN := block_lt hl
  clear b1
  go_enter Tryz.func47, Tryz.ntmps47
  go_wp2_with fail
  refine (HP.out _ (hn.next vB)).mono ?_
  rintro e w1 ⟨rfl, hb⟩
  replace b0 := (hb.block _ (block_lt b0)).trans b0
  replace vB := vB.trans (hb.mono vB.size)
  clear hb l0 l1 l2' l3 l4 l5 l6 l7 l8 s0 s1 s2
  go_wp2_with (refine wpList_store_block rfl 61 (.tmp 1) (.tmp 5) rfl rfl rfl b0 (by kernel_rfl) rfl (by simp [Value.oneCell']) ?_)
  go_end0
  exact ⟨rfl, (KeepBut.of_below' vB).setRow (g := N) (X := fun k => k = N) rfl _, setRow_heap _ _ _ _ _ _ b0⟩

set_option maxRecDepth 100000 in
set_option maxHeartbeats 1000000 in
theorem run_any (f : Dw.Fl) (hf : Dw.FlOk f) (ss : List Dw.Stp) (hn : ss.length ≤ 1000) (v : Value) (w : World) (hv : StepsAt w v ss) (hN : NoneAt w) :
    Calls Tryz.prog 22 #[flV f, v] w fun e w' => e = .returned (lgV (Dw.runJ (Dw.lg0 f) ss)) ∧ Below w.heap.size w w' := by
  have hmf : ∀ (fn : Fn) (first cap : Array Value) (w : World), (Instr.makeFunc fn first cap).run Tryz.prog w = .ok (.func fn first cap) w := fun _ _ _ _ => rfl
  obtain ⟨sa, cap, rfl, hd, hs⟩ := hv
  obtain ⟨V, hV⟩ : ∃ V, ((w.alloc (.cells (flashC f.a f.b f.e0 f.e1 f.li) 25)).alloc (.cells (lgC ⟨⟨[], [], 0, 0, 0⟩, 0, 0, false, 0⟩) 61)).alloc (.cells (lgC (Dw.lg0 f)) 61) = V := ⟨_, rfl⟩
  obtain ⟨vz, vB, b0, b1, b2⟩ := alloc3 w _ _ _ V hV
  obtain ⟨c0, c1, c2, c3, c4⟩ := cells5 b0
  have HR := Lib.hid (fun k s (h : ss[k]? = some s) => Dw.runJ_next (Dw.lg0 f) ss h)
  have HO := Lib.hid (fun k => Dw.runJ_ok (ss.take k) (Dw.lg0 f) hf)
  have HA := Lib.hid (fun k => Dw.runJ_acked (ss.take k) (Dw.lg0 f))
  have HF := Lib.hid (show Dw.runJ (Dw.lg0 f) (ss.take ss.length) = Dw.runJ (Dw.lg0 f) ss from by rw [List.take_length])
  have HV := Lib.hid hV
  clear hV b0
  go_enter Tryz.func22, Tryz.ntmps22
  go_wp2_with fail
  generalize hW : World.alloc (World.alloc (World.alloc w _) _) _ = W
  obtain rfl : W = V := hW.symm.trans HV.out
  clear hW
  go_loopw [14] (fun i wr => ∃ k : Nat, k ≤ ss.length ∧ i = .int .i64 k ∧ wr.heap[w.heap.size + 1]? = some (.cells (lgC ⟨⟨[], [], 0, 0, 0⟩, 0, 0, false, 0⟩) 61 (0, 0)) ∧ wr.heap[w.heap.size + 2]? = some (.cells (lgC (Dw.runJ (Dw.lg0 f) (ss.take k))) 61 (0, 0)) ∧ Below w.heap.size w wr) (fun i _ => ss.length - (intOf i).toNat)
  case atStart => exact ⟨0, Nat.zero_le _, rfl, b1, b2, vB⟩
  case round =>
    obtain ⟨k, hk, rfl, d1, d2, dB⟩ := hrel
    clear b1 b2 vB HV c0 c1 c2 c3 c4
    by_cases hlt : k < ss.length
    · obtain ⟨s, hse⟩ : ∃ s, ss[k]? = some s := ⟨ss[k], List.getElem?_eq_getElem hlt⟩
      rcases hs with hs | ⟨b, off, rfl, hc⟩
      · exact absurd hlt (by rw [hs]; simp)
      obtain ⟨q0, q1, q2⟩ := hc k s hse
      have k0 := (dB.cell (lt_of_cell q0)).trans q0
      have k1 := (dB.cell (lt_of_cell q1)).trans q1
      have k2 := (dB.cell (lt_of_cell q2)).trans q2
      have hds := hd s (List.mem_of_getElem? hse)
      have hnx := HR.out k s hse
      have hok := HO.out k
      have hac := HA.out k
      have hacl : (ss.take k).length ≤ 1000 := by rw [List.length_take]; omega
      generalize Dw.runJ (Dw.lg0 f) (ss.take k) = lk at *
      have hac2 : 0 ≤ lk.acked ∧ lk.acked ≤ 1000000 := by
        have : (Dw.lg0 f).acked = 0 := rfl
        omega
      clear hac hacl
      have e1 := (heap_alloc_old wr (.cells (stpC s) 49) _ (block_lt d1)).trans d1
      have e2 := (heap_alloc_old wr (.cells (stpC s) 49) _ (block_lt d2)).trans d2
      have eB := dB.alloc dB.size (.cells (stpC s) 49)
      obtain ⟨s0, s1, s2⟩ := cells3 (heap_alloc_new wr (.cells (stpC s) 49))
      have HK := Lib.hid hnx; have HE := Lib.hid hse
      have hlt' : (k : Int) < (ss.length : Int) := by omega
      clear hnx hse d1 d2 dB q0 q1 q2
      go_wp2_with fail
      refine (run1_any (w.heap.size + 2) lk hok hac2 s hds _ e2 (hN.next eB)).mono ?_
      rintro e w5 ⟨rfl, hat⟩
      have d2 := hat.2
      have d1 := (hat.1.block _ (block_lt e1) (by omega)).trans e1
      have dB := eB.trans (hat.1.below eB.size (fun g hg => by omega))
      rw [← HK.out] at d2
      clear hat e1 e2 eB s0 s1 s2 k0 k1 k2
      go_wp2_with fail
      go_roundw
      case rel => exact ⟨k + 1, hlt, by go_num, d1, d2, dB⟩
      case measure => simp [intOf]; omega
    · obtain rfl : k = ss.length := by omega
      rw [HF.out] at d2
      clear hs hd HO HA HR
      obtain ⟨lk, hlk⟩ : ∃ lk, Dw.runJ (Dw.lg0 f) ss = lk := ⟨_, rfl⟩
      have HG := Lib.hid hlk
      rw [hlk] at d2
      clear hlk
      have hge : ¬ (ss.length : Int) < (ss.length : Int) := by omega
      go_wp2_with (first | (refine wpList_load_block rfl 61 (.tmp 5) rfl rfl d2 Tryz.underlying61 rfl (by kernel_rfl) ?_) | (refine wpList_store_block rfl 61 (.tmp 4) (.tmp 22) rfl rfl rfl d1 (by kernel_rfl) rfl (by simp [Value.oneCell']) ?_))
      exact bodyPost_ret (results_cell_row rfl _ _ _ _ _ _ _ (by rfl) (setRow_heap _ _ _ _ _ _ d1) Tryz.underlying61 rfl (by kernel_rfl)) rfl ⟨by rw [HG.out], below_setRow dB (by omega) _⟩
end Go.Proofs.YtaniehjhmjecjaaGreatDoor

/- Layer 12, plain: what a log that began with a new flash says. -/
namespace Go.Proofs.YtaniehjhmjecjaaGreatDoor
open Go.RowKit Go.Shelf
namespace Dw
/-- What a log says of where its flash stands. -/
structure Rel (l : Lg) (c : Option Cur) : Prop where
  ac : 0 ≤ l.acked
  st : (l.flying = true ∧ ∃ k, c = some k ∧ k.data = l.flight) ∨ (l.flying = false ∧ ((l.acked = 0 ∧ c = none) ∨ (0 < l.acked ∧ ∃ k, c = some k ∧ k.data = l.last)))

theorem putG_eq (f : Fl) (s : Stp) : putG f s = playL f (plan f s.data).1 0 s.cut s.mask := rfl
theorem ack_true {n N : Nat} {f : Fl} {s : Stp} {c' : Cur} (hn : (putG f s).2 = (plan f s.data).1.length) (hd : c'.data = s.data) (hI : Inv n N (putG f s).1 (some c')) : ackB f s = true := by
  obtain ⟨r1, r2⟩ := inv_read hI
  unfold ackB
  rw [r1, r2, hn]
  simp [hd]
theorem ack_false {f : Fl} {s : Stp} (hn : (putG f s).2 < (plan f s.data).1.length) : ackB f s = false := by
  unfold ackB
  rw [decide_eq_false (by omega), Bool.false_and]
theorem seen_same {n N M : Nat} {f g : Fl} {c : Option Cur} (hf : Inv n N f c) (hg : Inv n M g c) : seenEq g.a g.b f.a f.b = true := by
  have h1 := inv_read hf; have h2 := inv_read hg
  unfold seenEq
  cases c with
  | none => obtain ⟨a, b⟩ := h1; obtain ⟨a', b'⟩ := h2; rw [a, b, a', b']; simp
  | some c => obtain ⟨a, b⟩ := h1; obtain ⟨a', b'⟩ := h2; rw [a, b, a', b']; simp
theorem seen_new {n N M : Nat} {f g : Fl} {c : Option Cur} {c' : Cur} (hf : Inv n N f c) (hg : Inv n M g (some c')) (hs : c'.seq = seqOf c + 1) : seenEq g.a g.b f.a f.b = false := by
  have h1 := inv_read hf; obtain ⟨a', b'⟩ := inv_read hg
  unfold seenEq
  rw [a', b']
  cases c with
  | none => obtain ⟨a, b⟩ := h1; rw [a, b]; simp
  | some c => obtain ⟨a, b⟩ := h1; rw [a, b]; simp [hs, seqOf]

/-- A step, from where a log stands. -/
structure Stepd (n N : Nat) (l : Lg) (c : Option Cur) (s : Stp) : Prop where
  err : (plan l.f s.data).2 = 0 ∨ ((plan l.f s.data).2 = 4 ∧ l.f.li ≤ N)
  ok : (plan l.f s.data).2 = 0 → (ackB l.f s = true ∧ ∃ c', c'.data = s.data ∧ Inv n (N + 1) (putG l.f s).1 (some c')) ∨
    (0 ≤ s.cut ∧ s.cut ≤ 5 ∧ (Inv n (N + 1) (putG l.f s).1 c ∨ ∃ c', c'.data = s.data ∧ Inv n (N + 1) (putG l.f s).1 (some c')))
  next : ∃ c', Inv n (N + 1) (playJ l s).f c' ∧ Rel (playJ l s) c' ∧ (playJ l s).f.li = l.f.li
theorem step_log {n N : Nat} {l : Lg} {c : Option Cur} (hI : Inv n N l.f c) (hr : Rel l c) (hN : N + 1 < 18446744073709551615) (s : Stp) (hd : s.data < 18446744073709551616) : Stepd n N l c s := by
  rcases step_done hI hN s.data s.cut s.mask hd with ⟨h4, _, hli⟩ | hD
  · refine ⟨.inr ⟨h4, hli⟩, fun h => absurd (h4.symm.trans h) (by decide), c, ?_⟩
    have : playJ l s = l := by unfold playJ; rw [if_pos (by rw [h4]; decide)]
    rw [this]
    exact ⟨inv_mono hI (Nat.le_succ _), hr, rfl⟩
  · have hp : ¬ (plan l.f s.data).2 ≠ 0 := fun h => h hD.ok
    have hli := hD.li
    have hmost := hD.most
    rw [← putG_eq] at hli
    rcases hD.res with ⟨_, hn, c', _, hda, hI'⟩ | ⟨h0, h1, hn, hrest⟩
    · rw [← putG_eq] at hn hI'
      have ha := ack_true hn hda hI'
      refine ⟨.inl hD.ok, fun _ => .inl ⟨ha, c', hda, hI'⟩, some c', ?_⟩
      have : playJ l s = ⟨(putG l.f s).1, l.acked + 1, s.data, false, 0⟩ := by unfold playJ; rw [if_neg hp, if_pos ha]
      rw [this]
      have := hr.ac
      exact ⟨hI', ⟨by show 0 ≤ l.acked + 1; omega, .inr ⟨rfl, .inr ⟨by show 0 < l.acked + 1; omega, c', rfl, hda⟩⟩⟩, hli⟩
    · rw [← putG_eq] at hn
      have ha : ¬ ackB l.f s = true := by rw [ack_false hn]; decide
      rcases hrest with hI' | ⟨c', hq, hda, hI'⟩
      · rw [← putG_eq] at hI'
        refine ⟨.inl hD.ok, fun _ => .inr ⟨h0, by omega, .inl hI'⟩, c, ?_⟩
        have : playJ l s = ⟨(putG l.f s).1, l.acked, l.last, l.flying, l.flight⟩ := by unfold playJ; rw [if_neg hp, if_neg ha, if_neg (by rw [seen_same hI hI']; decide)]
        rw [this]
        exact ⟨hI', ⟨hr.ac, hr.st⟩, hli⟩
      · rw [← putG_eq] at hI'
        refine ⟨.inl hD.ok, fun _ => .inr ⟨h0, by omega, .inr ⟨c', hda, hI'⟩⟩, some c', ?_⟩
        have : playJ l s = ⟨(putG l.f s).1, l.acked, l.last, true, s.data⟩ := by unfold playJ; rw [if_neg hp, if_neg ha, if_pos (seen_new hI hI' hq)]
        rw [this]
        exact ⟨hI', ⟨hr.ac, .inl ⟨rfl, c', rfl, hda⟩⟩, hli⟩

def fNew (n : Nat) (li : Int) : Fl := ⟨ffs (24 * n + 24), ffs (24 * n + 24), 0, 0, li⟩
theorem new_inv {n : Nat} (h1 : 1 ≤ n) (h2 : n ≤ 12) (li : Int) : Inv n 0 (fNew n li) none :=
  ⟨h1, h2, ⟨Int.le_refl 0, Int.le_refl 0⟩, ⟨Int.le_refl 0, Int.le_refl 0⟩, ⟨ffs_length _, by show Hd (place (ffs (24 * n + 24)) 0); rw [place_ffs n 0 (Nat.zero_le _)]; exact hd_ffs⟩, ⟨ffs_length _, by show Hd (place (ffs (24 * n + 24)) 0); rw [place_ffs n 0 (Nat.zero_le _)]; exact hd_ffs⟩⟩
theorem new_rel (f : Fl) : Rel (lg0 f) none := ⟨Int.le_refl _, .inr ⟨rfl, .inl ⟨rfl, rfl⟩⟩⟩
theorem new_ok {n : Nat} (h2 : n ≤ 12) {li : Int} (hl : li ≤ 1000) : FlOk (fNew n li) := ⟨by show (ffs _).length ≤ 400; rw [ffs_length]; omega, by show (ffs _).length ≤ 400; rw [ffs_length]; omega, by show li ≤ _; omega, (by decide : (-9223372036854775808 : Int) ≤ 0), (by decide : (-9223372036854775808 : Int) ≤ 0)⟩

/-- Behind any steps. -/
theorem run_log {n : Nat} : ∀ (ss : List Stp) (N : Nat) (l : Lg) (c : Option Cur), Inv n N l.f c → Rel l c → N + ss.length < 18446744073709551615 → (∀ s ∈ ss, s.data < 18446744073709551616) →
    ∃ c', Inv n (N + ss.length) (runJ l ss).f c' ∧ Rel (runJ l ss) c' ∧ (runJ l ss).f.li = l.f.li
  | [], _, _, c, h, hr, _, _ => ⟨c, h, hr, rfl⟩
  | s :: ss, N, l, c, h, hr, hN, hd => by
    simp only [List.length_cons] at hN
    obtain ⟨c1, h1, r1, l1⟩ := (step_log h hr (by omega) s (hd s (List.mem_cons_self ..))).next
    obtain ⟨c2, h2, r2, l2⟩ := run_log ss (N + 1) (playJ l s) c1 h1 r1 (by omega) fun x hx => hd x (List.mem_cons_of_mem _ hx)
    refine ⟨c2, ?_, r2, l2.trans l1⟩
    rw [List.length_cons, show N + (ss.length + 1) = N + 1 + ss.length from by omega]
    exact h2

/-- What a log says is read. -/
theorem rel_read {n N : Nat} {l : Lg} {c : Option Cur} (h : Inv n N l.f c) (hr : Rel l c) :
    (decide (readE l.f.a l.f.b = 0) = (decide (0 < l.acked) || l.flying)) ∧ (readE l.f.a l.f.b = 0 → if l.flying = true then (readS l.f.a l.f.b).data = l.flight else (readS l.f.a l.f.b).data = l.last) := by
  have hi := inv_read h
  rcases hr.st with ⟨hf, k, rfl, hk⟩ | ⟨hf, ⟨ha, rfl⟩ | ⟨ha, k, rfl, hk⟩⟩
  · rw [hi.1, hi.2, hf]; simp [hk]
  · rw [hi.2, hf]; simp [ha]
  · rw [hi.1, hi.2, hf]; simp [hk, ha]

/-- The error does not hang on what is written. -/
theorem plan_err (f : Fl) (d d' : Nat) : (plan f d).2 = (plan f d').2 := by
  unfold plan
  simp only [apply_ite Prod.snd]
theorem worn_stays (l : Lg) (h : (plan l.f 0).2 ≠ 0) : ∀ ss : List Stp, runJ l ss = l
  | [] => rfl
  | s :: ss => by
    have : playJ l s = l := by unfold playJ; rw [if_pos (by rw [plan_err l.f s.data 0]; exact h)]
    show runJ (playJ l s) ss = l
    rw [this]
    exact worn_stays l h ss
end Dw
end Go.Proofs.YtaniehjhmjecjaaGreatDoor

/- Layer 12: big. -/
namespace Go.Proofs.YtaniehjhmjecjaaGreatDoor
open Go.RowKit Go.Shelf
attribute [local go_sem] Oper.semAt_some

namespace Dw
def big12 (f : Fl) (ss : List Stp) : Bool := (ss.take 70).any (fun s => decide (400 < s.mask.length)) || decide (400 < f.a.length ∨ 400 < f.b.length ∨ 60 < ss.length)
theorem take_all {ss : List Stp} {k : Nat} {s : Stp} (h : ss[k]? = some s) (ha : (ss.take k).any (fun s => decide (400 < s.mask.length)) = false) (hs : ¬ 400 < s.mask.length) : (ss.take (k + 1)).any (fun s => decide (400 < s.mask.length)) = false := by
  obtain ⟨hk, he⟩ := List.getElem?_eq_some_iff.1 h
  rw [← List.take_append_getElem hk, List.any_append, ha, he]
  simp; omega
theorem big_of {f : Fl} {ss : List Stp} {k : Nat} {s : Stp} (h : ss[k]? = some s) (hk : k < 70) (hs : 400 < s.mask.length) : big12 f ss = true := by
  unfold big12
  rw [show (ss.take 70).any (fun s => decide (400 < s.mask.length)) = true from List.any_eq_true.2 ⟨s, List.mem_of_getElem? (by rw [List.getElem?_take_of_lt hk]; exact h : (ss.take 70)[k]? = some s), by simpa using hs⟩]
  rfl
theorem big_rest {f : Fl} {ss : List Stp} {k : Nat} (hk : k ≤ ss.length) (h70 : k ≤ 70) (he : ¬ (k < ss.length ∧ k < 70)) (ha : (ss.take k).any (fun s => decide (400 < s.mask.length)) = false) : big12 f ss = decide (400 < f.a.length ∨ 400 < f.b.length ∨ 60 < ss.length) := by
  unfold big12
  rw [show ss.take 70 = ss.take k from ?_, ha, Bool.false_or]
  by_cases h : k = 70
  · rw [h]
  · have : k = ss.length := by omega
    rw [this, List.take_length, List.take_of_length_le (by omega)]
theorem not_big {f : Fl} {ss : List Stp} (h : big12 f ss = false) : f.a.length ≤ 400 ∧ f.b.length ≤ 400 ∧ ss.length ≤ 60 := by
  unfold big12 at h
  simp at h
  omega
end Dw

set_option maxRecDepth 100000 in
set_option maxHeartbeats 1000000 in
theorem big12_any (f : Dw.Fl) (ss : List Dw.Stp) (v : Value) (w : World) (hv : StepsAt w v ss) :
    Calls Tryz.prog 16 #[flV f, v] w fun e w' => e = .returned (.bool (Dw.big12 f ss)) ∧ Below w.heap.size w w' := by
  obtain ⟨sa, cap, rfl, hd, hs⟩ := hv
  have b0 := heap_alloc_new w (.cells (flashC f.a f.b f.e0 f.e1 f.li) 25)
  have vB := (Below.refl w.heap.size w).alloc (Nat.le_refl _) (.cells (flashC f.a f.b f.e0 f.e1 f.li) 25)
  obtain ⟨c0, c1, c2, c3, c4⟩ := cells5 b0
  have HB := Lib.hid (fun k s h1 h2 h3 => Dw.big_of (f := f) (ss := ss) (k := k) (s := s) h1 h2 h3)
  have HR := Lib.hid (fun k h1 h2 h3 h4 => Dw.big_rest (f := f) (ss := ss) (k := k) h1 h2 h3 h4)
  have HT := Lib.hid (fun k s h1 h2 h3 => Dw.take_all (ss := ss) (k := k) (s := s) h1 h2 h3)
  clear b0
  go_enter Tryz.func16, Tryz.ntmps16
  go_wp2_with fail
  generalize w.alloc _ = W at *
  go_loopw [5] (fun i wr => ∃ k : Nat, k ≤ ss.length ∧ k ≤ 70 ∧ i = .int .i64 k ∧ (ss.take k).any (fun s => decide (400 < s.mask.length)) = false ∧ wr = W) (fun i _ => 70 - (intOf i).toNat)
  case atStart => exact ⟨0, Nat.zero_le _, Nat.zero_le _, rfl, rfl, rfl⟩
  case round =>
    obtain ⟨k, hk, hk7, rfl, hany, rfl⟩ := hrel
    have HN := Lib.hid hany
    clear hany
    by_cases hlt : k < ss.length
    · have hlt' : (k : Int) < (ss.length : Int) := by omega
      by_cases h7 : k < 70
      · have h7' : (k : Int) < 70 := by omega
        obtain ⟨s, hse⟩ : ∃ s, ss[k]? = some s := ⟨ss[k], List.getElem?_eq_getElem hlt⟩
        rcases hs with hs | ⟨b, off, rfl, hc⟩
        · exact absurd hlt (by rw [hs]; simp)
        obtain ⟨q0, q1, q2⟩ := hc k s hse
        have k2 := (vB.cell (lt_of_cell q2)).trans q2
        have HE := Lib.hid hse
        clear hse q0 q1 q2 hc hd
        by_cases hm : 400 < s.mask.length
        · have hm' : (400 : Int) < (s.mask.length : Int) := by omega
          have H2 := Lib.hid (HB.out k s HE.out h7 hm)
          go_wp2_with fail
          go_ret
          exact ⟨by rw [H2.out]; rfl, vB⟩
        · have hm' : ¬ (400 : Int) < (s.mask.length : Int) := by omega
          have H2 := Lib.hid (HT.out k s HE.out HN.out hm)
          go_wp2_with fail
          go_roundw
          case rel => exact ⟨k + 1, hlt, h7, by go_num, H2.out, trivial⟩
          case measure => simp [intOf]; omega
      · have h7' : ¬ (k : Int) < 70 := by omega
        have H2 := Lib.hid (HR.out k hk hk7 (by omega) HN.out)
        by_cases ha : (400 : Int) < (f.a.length : Int)
        · have H3 := Lib.hid (show decide (400 < f.a.length ∨ 400 < f.b.length ∨ 60 < ss.length) = true from by simp; omega)
          go_wp2_with fail
          go_ret
          exact ⟨by rw [H2.out, H3.out]; rfl, vB⟩
        · by_cases hb : (400 : Int) < (f.b.length : Int)
          · have H3 := Lib.hid (show decide (400 < f.a.length ∨ 400 < f.b.length ∨ 60 < ss.length) = true from by simp; omega)
            go_wp2_with fail
            go_ret
            exact ⟨by rw [H2.out, H3.out]; rfl, vB⟩
          · by_cases hl : (60 : Int) < (ss.length : Int)
            · have H3 := Lib.hid (show decide (400 < f.a.length ∨ 400 < f.b.length ∨ 60 < ss.length) = true from by simp; omega)
              go_wp2_with fail
              go_ret
              exact ⟨by rw [H2.out, H3.out]; rfl, vB⟩
            · exact absurd hl (by omega)
    · have hlt' : ¬ (k : Int) < (ss.length : Int) := by omega
      have H2 := Lib.hid (HR.out k hk hk7 (by omega) HN.out)
      by_cases ha : (400 : Int) < (f.a.length : Int)
      · have H3 := Lib.hid (show decide (400 < f.a.length ∨ 400 < f.b.length ∨ 60 < ss.length) = true from by simp; omega)
        go_wp2_with fail
        go_ret
        exact ⟨by rw [H2.out, H3.out]; rfl, vB⟩
      · by_cases hb : (400 : Int) < (f.b.length : Int)
        · have H3 := Lib.hid (show decide (400 < f.a.length ∨ 400 < f.b.length ∨ 60 < ss.length) = true from by simp; omega)
          go_wp2_with fail
          go_ret
          exact ⟨by rw [H2.out, H3.out]; rfl, vB⟩
        · by_cases hl : (60 : Int) < (ss.length : Int)
          · have H3 := Lib.hid (show decide (400 < f.a.length ∨ 400 < f.b.length ∨ 60 < ss.length) = true from by simp; omega)
            go_wp2_with fail
            go_ret
            exact ⟨by rw [H2.out, H3.out]; rfl, vB⟩
          · have H3 := Lib.hid (show decide (400 < f.a.length ∨ 400 < f.b.length ∨ 60 < ss.length) = false from by simp; omega)
            go_wp2_with fail
            go_ret
            exact ⟨by rw [H2.out, H3.out]; rfl, vB⟩
end Go.Proofs.YtaniehjhmjecjaaGreatDoor

/- Layer 12: what shown shows. -/
namespace Go.Proofs.YtaniehjhmjecjaaGreatDoor
open Go.RowKit Go.Shelf
namespace Dw
def f72 : Fl := ⟨ffs 72, ffs 72, 0, 0, 5⟩
def s12a : List Stp := [⟨7, -1, []⟩, ⟨8, 1, [255, 255]⟩]
def s12b : List Stp := [⟨7, -1, []⟩, ⟨8, 1, []⟩, ⟨9, 0, [64]⟩]
theorem ev12a : runJ (lg0 f72) s12a = ⟨(runJ (lg0 f72) s12a).f, 1, 7, true, 8⟩ := by kernel_rfl
theorem ev12b : (readS (runJ (lg0 f72) s12a).f.a (runJ (lg0 f72) s12a).f.b).data = 8 := by kernel_rfl
theorem ev12c : readE (runJ (lg0 f72) s12a).f.a (runJ (lg0 f72) s12a).f.b = 0 := by decide +kernel
theorem ev12d : (runJ (lg0 f72) s12b).flying = false := by kernel_rfl
theorem ev12e : (readS (runJ (lg0 f72) s12b).f.a (runJ (lg0 f72) s12b).f.b).data = 7 := by kernel_rfl
theorem ev12f : readE (runJ (lg0 f72) s12b).f.a (runJ (lg0 f72) s12b).f.b = 0 := by decide +kernel
theorem ev12g : readE f72.a f72.b = 10 := by decide +kernel
theorem ev12h : (runJ (lg0 f72) s12a).f.e0 = 1 ∧ (runJ (lg0 f72) s12a).f.e1 = 0 := by decide +kernel
theorem ok72 : FlOk f72 := ⟨by rw [f72, ffs_length]; omega, by rw [f72, ffs_length]; omega, by decide, by decide, by decide⟩
end Dw
end Go.Proofs.YtaniehjhmjecjaaGreatDoor

/- Layer 12: shown. -/
namespace Go.Proofs.YtaniehjhmjecjaaGreatDoor
open Go.RowKit Go.Shelf
attribute [local go_sem] Oper.semAt_some

theorem s12a_at {w : World} {b : Nat} (h : w.heap[b]? = some (.cells #[.int .u64 7, .int .i64 (-1), .string ⟨#[]⟩, .int .u64 8, .int .i64 1, .string ⟨#[255, 255]⟩] 49 (0, 0))) : StepsAt w (.slice (some ⟨b, 0, none⟩) 2 2) Dw.s12a := by
  refine ⟨_, _, rfl, by decide, .inr ⟨b, 0, rfl, ?_⟩⟩
  rintro (_ | _ | j) s hj <;> cases hj <;> refine ⟨?_, ?_, ?_⟩ <;> exact cell_of_row _ _ _ _ _ _ h
theorem s12b_at {w : World} {b : Nat} (h : w.heap[b]? = some (.cells #[.int .u64 7, .int .i64 (-1), .string ⟨#[]⟩, .int .u64 8, .int .i64 1, .string ⟨#[]⟩, .int .u64 9, .int .i64 0, .string ⟨#[64]⟩] 49 (0, 0))) : StepsAt w (.slice (some ⟨b, 0, none⟩) 3 3) Dw.s12b := by
  refine ⟨_, _, rfl, by decide, .inr ⟨b, 0, rfl, ?_⟩⟩
  rintro (_ | _ | _ | j) s hj <;> cases hj <;> refine ⟨?_, ?_, ?_⟩ <;> exact cell_of_row _ _ _ _ _ _ h

set_option maxRecDepth 100000 in
set_option maxHeartbeats 8000000 in
theorem shown12_walk (F g h : Dw.Fl) (ac la fi dd : Int) (w0 : World) (hn : NoneAt w0)
    (hnew : ∀ w, Calls Tryz.prog 28 #[.int .i64 72, .int .i64 5] w fun e w' => e = .returned (flV F) ∧ Below w.heap.size w w')
    (hra : ∀ v w, StepsAt w v Dw.s12a → NoneAt w → Calls Tryz.prog 22 #[flV F, v] w fun e w' => e = .returned (.agg #[.string ⟨g.a.toArray⟩, .string ⟨g.b.toArray⟩, .int .i64 g.e0, .int .i64 g.e1, .int .i64 g.li, .int .i64 1, .int .u64 7, .bool true, .int .u64 8]) ∧ Below w.heap.size w w')
    (hrb : ∀ v w, StepsAt w v Dw.s12b → NoneAt w → Calls Tryz.prog 22 #[flV F, v] w fun e w' => e = .returned (.agg #[.string ⟨h.a.toArray⟩, .string ⟨h.b.toArray⟩, .int .i64 h.e0, .int .i64 h.e1, .int .i64 h.li, .int .i64 ac, .int .u64 la, .bool false, .int .u64 fi]) ∧ Below w.heap.size w w')
    (hsa : ∀ w, NoneAt w → Calls Tryz.prog 25 #[.agg #[.string ⟨g.a.toArray⟩, .string ⟨g.b.toArray⟩, .int .i64 g.e0, .int .i64 g.e1, .int .i64 g.li, .int .i64 1, .int .u64 7, .bool true, .int .u64 8]] w fun e w' => e = .returned (.tuple #[.int .u64 8, .bool true]) ∧ Below w.heap.size w w')
    (hsb : ∀ w, NoneAt w → Calls Tryz.prog 25 #[.agg #[.string ⟨h.a.toArray⟩, .string ⟨h.b.toArray⟩, .int .i64 h.e0, .int .i64 h.e1, .int .i64 h.li, .int .i64 ac, .int .u64 la, .bool false, .int .u64 fi]] w fun e w' => e = .returned (.tuple #[.int .u64 7, .bool true]) ∧ Below w.heap.size w w')
    (hsc : ∀ w, NoneAt w → Calls Tryz.prog 25 #[lgV ⟨F, 0, 0, false, 0⟩] w fun e w' => e = .returned (.tuple #[.int .u64 dd, .bool false]) ∧ Below w.heap.size w w')
    (hw : ∀ w, Calls Tryz.prog 20 #[flV g] w fun e w' => e = .returned (.int .i64 1) ∧ Below w.heap.size w w') :
    Calls Tryz.prog 17 #[] w0 fun e w' => e = .returned (.bool true) ∧ Below w0.heap.size w0 w' := by
  have hB := Below.refl w0.heap.size w0
  have HNEW := Lib.hid hnew; have HRA := Lib.hid hra; have HRB := Lib.hid hrb; have HSA := Lib.hid hsa; have HSB := Lib.hid hsb; have HSC := Lib.hid hsc; have HW := Lib.hid hw
  clear hnew hra hrb hsa hsb hsc hw
  go_enter Tryz.func17, Tryz.ntmps17
  go_wp2_with fail
  refine (HNEW.out _).mono ?_
  rintro e w1 ⟨rfl, hb⟩
  replace hB := hB.trans (hb.mono hB.size)
  clear hb
  have hz1 := hB.size
  have hF := heap_alloc2_old w1 (.cells (flashC F.a F.b F.e0 F.e1 F.li) 25) (.cells #[.int .u64 7, .int .i64 (-1), .string ⟨#[]⟩, .int .u64 8, .int .i64 1, .string ⟨#[255, 255]⟩] 49)
  have hS := heap_alloc2_new w1 (.cells (flashC F.a F.b F.e0 F.e1 F.li) 25) (.cells #[.int .u64 7, .int .i64 (-1), .string ⟨#[]⟩, .int .u64 8, .int .i64 1, .string ⟨#[255, 255]⟩] 49)
  replace hB := (hB.alloc hB.size (.cells (flashC F.a F.b F.e0 F.e1 F.li) 25)).alloc (by simp; omega) (.cells #[.int .u64 7, .int .i64 (-1), .string ⟨#[]⟩, .int .u64 8, .int .i64 1, .string ⟨#[255, 255]⟩] 49)
  go_wp2_with fail
  generalize World.alloc (World.alloc w1 _) _ = W2 at *
  generalize w1.heap.size = f1 at *
  refine (HRA.out _ _ (s12a_at hS) (hn.next hB)).mono ?_
  rintro e w3 ⟨rfl, hb⟩
  replace hF := (hb.block _ (block_lt hF)).trans hF
  replace hB := hB.trans (hb.mono hB.size)
  clear hb hS
  obtain ⟨c0, c1, c2, c3, c4⟩ := cells5 hF
  have hf3 := block_lt hF
  have hA := heap_alloc2_old w3 (.cells #[.string ⟨g.a.toArray⟩, .string ⟨g.b.toArray⟩, .int .i64 g.e0, .int .i64 g.e1, .int .i64 g.li, .int .i64 1, .int .u64 7, .bool true, .int .u64 8] 61) (.cells #[.int .u64 7, .int .i64 (-1), .string ⟨#[]⟩, .int .u64 8, .int .i64 1, .string ⟨#[]⟩, .int .u64 9, .int .i64 0, .string ⟨#[64]⟩] 49)
  have hS := heap_alloc2_new w3 (.cells #[.string ⟨g.a.toArray⟩, .string ⟨g.b.toArray⟩, .int .i64 g.e0, .int .i64 g.e1, .int .i64 g.li, .int .i64 1, .int .u64 7, .bool true, .int .u64 8] 61) (.cells #[.int .u64 7, .int .i64 (-1), .string ⟨#[]⟩, .int .u64 8, .int .i64 1, .string ⟨#[]⟩, .int .u64 9, .int .i64 0, .string ⟨#[64]⟩] 49)
  have hF1 := (heap_alloc_old w3 (.cells #[.string ⟨g.a.toArray⟩, .string ⟨g.b.toArray⟩, .int .i64 g.e0, .int .i64 g.e1, .int .i64 g.li, .int .i64 1, .int .u64 7, .bool true, .int .u64 8] 61) _ (block_lt hF)).trans hF
  replace hF := (heap_alloc_old (w3.alloc (.cells #[.string ⟨g.a.toArray⟩, .string ⟨g.b.toArray⟩, .int .i64 g.e0, .int .i64 g.e1, .int .i64 g.li, .int .i64 1, .int .u64 7, .bool true, .int .u64 8] 61)) (.cells #[.int .u64 7, .int .i64 (-1), .string ⟨#[]⟩, .int .u64 8, .int .i64 1, .string ⟨#[]⟩, .int .u64 9, .int .i64 0, .string ⟨#[64]⟩] 49) _ (block_lt hF1)).trans hF1
  replace hB := (hB.alloc hB.size (.cells #[.string ⟨g.a.toArray⟩, .string ⟨g.b.toArray⟩, .int .i64 g.e0, .int .i64 g.e1, .int .i64 g.li, .int .i64 1, .int .u64 7, .bool true, .int .u64 8] 61)).alloc (by have := hB.size; simp; omega) (.cells #[.int .u64 7, .int .i64 (-1), .string ⟨#[]⟩, .int .u64 8, .int .i64 1, .string ⟨#[]⟩, .int .u64 9, .int .i64 0, .string ⟨#[64]⟩] 49)
  have hN := hn.next hB
  obtain ⟨d0, d1, d2, d3, d4⟩ := cells5 hF1
  have HN := Lib.hid hN; have HB := Lib.hid hB; have HF := Lib.hid hF; have HA := Lib.hid hA; have HS := Lib.hid hS
  clear hN hB hF hA hS c0 c1 c2 c3 c4 hF1
  go_wp2_with fail
  have hF := HF.out; have hA := HA.out; have hS := HS.out; have hB := HB.out; have hN := HN.out
  clear HN HB HF HA HS d0 d1 d2 d3 d4
  generalize World.alloc (World.alloc w3 _) _ = W4 at *
  generalize hgA : w3.heap.size = ga at *
  refine (HRB.out _ _ (s12b_at hS) hN).mono ?_
  rintro e w5 ⟨rfl, hb⟩
  replace hF := (hb.block _ (block_lt hF)).trans hF
  replace hA := (hb.block _ (block_lt hA)).trans hA
  replace hB := hB.trans (hb.mono hB.size)
  clear hb hS hN
  have hgA2 := block_lt hA
  obtain ⟨d0, d1, d2, d3, d4, d5, d6, d7, d8⟩ := cells9 ((heap_alloc_old w5 (.cells #[.string ⟨h.a.toArray⟩, .string ⟨h.b.toArray⟩, .int .i64 h.e0, .int .i64 h.e1, .int .i64 h.li, .int .i64 ac, .int .u64 la, .bool false, .int .u64 fi] 61) _ (block_lt hA)).trans hA)
  have hC := heap_alloc_new w5 (.cells #[.string ⟨h.a.toArray⟩, .string ⟨h.b.toArray⟩, .int .i64 h.e0, .int .i64 h.e1, .int .i64 h.li, .int .i64 ac, .int .u64 la, .bool false, .int .u64 fi] 61)
  replace hF := (heap_alloc_old w5 (.cells #[.string ⟨h.a.toArray⟩, .string ⟨h.b.toArray⟩, .int .i64 h.e0, .int .i64 h.e1, .int .i64 h.li, .int .i64 ac, .int .u64 la, .bool false, .int .u64 fi] 61) _ (block_lt hF)).trans hF
  replace hA := (heap_alloc_old w5 (.cells #[.string ⟨h.a.toArray⟩, .string ⟨h.b.toArray⟩, .int .i64 h.e0, .int .i64 h.e1, .int .i64 h.li, .int .i64 ac, .int .u64 la, .bool false, .int .u64 fi] 61) _ (block_lt hA)).trans hA
  replace hB := hB.alloc hB.size (.cells #[.string ⟨h.a.toArray⟩, .string ⟨h.b.toArray⟩, .int .i64 h.e0, .int .i64 h.e1, .int .i64 h.li, .int .i64 ac, .int .u64 la, .bool false, .int .u64 fi] 61)
  have hN := hn.next hB
  have HN := Lib.hid hN; have HB := Lib.hid hB; have HF := Lib.hid hF; have HA := Lib.hid hA; have HC := Lib.hid hC
  clear hN hB hF hA hC
  go_wp2_with fail
  have hF := HF.out; have hA := HA.out; have hC := HC.out; have hB := HB.out; have hN := HN.out
  clear HN HB HF HA HC d0 d1 d2 d3 d4 d5 d6 d7 d8
  generalize World.alloc w5 _ = W5 at *
  generalize hgC : w5.heap.size = gc at *
  refine (HSA.out _ hN).mono ?_
  rintro e w6 ⟨rfl, hb⟩
  replace hF := (hb.block _ (block_lt hF)).trans hF
  replace hA := (hb.block _ (block_lt hA)).trans hA
  replace hC := (hb.block _ (block_lt hC)).trans hC
  replace hB := hB.trans (hb.mono hB.size)
  clear hb hN
  obtain ⟨d0, d1, d2, d3, d4, d5, d6, d7, d8⟩ := cells9 hC
  have hN := hn.next hB
  have HN := Lib.hid hN; have HB := Lib.hid hB; have HF := Lib.hid hF; have HA := Lib.hid hA; have HC := Lib.hid hC
  clear hN hB hF hA hC
  go_wp2_with fail
  have hF := HF.out; have hA := HA.out; have hC := HC.out; have hB := HB.out; have hN := HN.out
  clear HN HB HF HA HC d0 d1 d2 d3 d4 d5 d6 d7 d8
  refine (HSB.out _ hN).mono ?_
  rintro e w7 ⟨rfl, hb⟩
  replace hF := (hb.block _ (block_lt hF)).trans hF
  replace hA := (hb.block _ (block_lt hA)).trans hA
  replace hC := (hb.block _ (block_lt hC)).trans hC
  replace hB := hB.trans (hb.mono hB.size)
  clear hb hN
  obtain ⟨c0, c1, c2, c3, c4⟩ := cells5 hF
  have hN := hn.next hB
  have HN := Lib.hid hN; have HB := Lib.hid hB; have HF := Lib.hid hF; have HA := Lib.hid hA; have HC := Lib.hid hC
  clear hN hB hF hA hC
  go_wp2_with fail
  have hF := HF.out; have hA := HA.out; have hC := HC.out; have hB := HB.out; have hN := HN.out
  clear HN HB HF HA HC c0 c1 c2 c3 c4
  refine (HSC.out _ hN).mono ?_
  rintro e w8 ⟨rfl, hb⟩
  replace hA := (hb.block _ (block_lt hA)).trans hA
  replace hC := (hb.block _ (block_lt hC)).trans hC
  replace hB := hB.trans (hb.mono hB.size)
  clear hb hN hF
  obtain ⟨d0, d1, d2, d3, d4, d5, d6, d7, d8⟩ := cells9 hA
  obtain ⟨x0, x1, x2, x3, x4, x5, x6, x7, x8⟩ := cells9 hC
  clear hA hC
  go_wp2_with fail
  refine (HW.out _).mono ?_
  rintro e w9 ⟨rfl, hb⟩
  replace hB := hB.trans (hb.mono hB.size)
  clear hb d0 d1 d2 d3 d4 d5 d6 d7 d8 x0 x1 x2 x3 x4 x5 x6 x7 x8
  go_wp2_with fail
  go_ret
  exact ⟨rfl, hB⟩

theorem shown12_any (w : World) (hn : NoneAt w) :
    Calls Tryz.prog 17 #[] w fun e w' => e = .returned (.bool true) ∧ Below w.heap.size w w' := by
  have ha := Dw.ev12a
  have hoa := Dw.runJ_ok Dw.s12a (Dw.lg0 Dw.f72) Dw.ok72
  have hob := Dw.runJ_ok Dw.s12b (Dw.lg0 Dw.f72) Dw.ok72
  have e1 := Dw.ev12b; have e2 := Dw.ev12c; have e3 := Dw.ev12d; have e4 := Dw.ev12e; have e5 := Dw.ev12f; have e6 := Dw.ev12g; have e7 := Dw.ev12h
  have hra := fun v w hv hN => run_any Dw.f72 Dw.ok72 Dw.s12a (by decide) v w hv hN
  have hrb := fun v w hv hN => run_any Dw.f72 Dw.ok72 Dw.s12b (by decide) v w hv hN
  have hsa := fun w hN => state12_any _ hoa w hN
  have hsb := fun w hN => state12_any _ hob w hN
  have hsc := fun w hN => state12_any (Dw.lg0 Dw.f72) Dw.ok72 w hN
  have hw := fun w => wear_any (Dw.runJ (Dw.lg0 Dw.f72) Dw.s12a).f (by rw [e7.1]; decide) (by rw [e7.2]; decide) w
  generalize Dw.runJ (Dw.lg0 Dw.f72) Dw.s12a = LA at *
  generalize Dw.runJ (Dw.lg0 Dw.f72) Dw.s12b = LB at *
  obtain ⟨g, x1, x2, x3, x4⟩ := LA
  obtain ⟨h, y1, y2, y3, y4⟩ := LB
  simp only [Dw.Lg.mk.injEq, true_and] at ha
  obtain ⟨rfl, rfl, rfl, rfl⟩ := ha
  simp only at e1 e2 e3 e4 e5 e7
  subst e3
  simp only [e1, e2] at hsa
  simp only [e4, e5] at hsb
  simp only [Dw.lg0, e6] at hsc
  simp only [e7.1, e7.2] at hw
  exact shown12_walk Dw.f72 g h _ _ _ _ w hn (fun w => new_any 72 5 (by decide) (by decide) w) hra hrb hsa hsb hsc hw
end Go.Proofs.YtaniehjhmjecjaaGreatDoor
