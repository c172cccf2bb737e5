/- What the statement's proof stands on, part 17: Fresh, First, Plan. -/
import Derived.Test.YtaniehjhmjecjaaGreatDoorP16

/- Layer 11: Fresh. -/
namespace Go.Proofs.YtaniehjhmjecjaaGreatDoor
open Go.RowKit Go.Shelf
attribute [local go_sem] Oper.semAt_some

theorem own_weaken {B B' : Nat} {w : World} {v : Value} {ops : List Dw.Op} (h : OwnOps B' w v ops) (hB : B ≤ B') : OwnOps B w v ops := by
  refine ⟨h.1, h.2.imp id ?_⟩
  rintro ⟨g, cap, cur, h1, h2, h3⟩
  exact ⟨g, cap, cur, h1, Nat.le_trans hB h2, h3⟩
theorem own_below {B : Nat} {w w' : World} {v : Value} {ops : List Dw.Op} (h : OwnOps B w v ops) (hk : Keep w w') : OwnOps B w' v ops := ownsRow_keep h hk (fun _ _ h => h)
theorem news_one {w : World} {b : Nat} {o : Dw.Op} (h : w.heap[b]? = some (.cells (opC o) 46 (0, 0))) : ∀ (j : Nat) (u : Value), (opsCells [o])[j]? = some u → w.cell? ((⟨b, 0, none⟩ : Addr).add j) = some u := by
  intro j u hu
  rw [addr_add, cell_of_row _ _ j _ _ _ h]
  rw [opsCells_cons, show opsCells [] = [] from rfl, List.append_nil, Array.getElem?_toList] at hu
  exact hu
/-- One op is appended. -/
theorem append_one {ops : Array Oper} {rest : List Oper} {o : Oper} {a : Act} {Q : Exit → Act → World → Prop} {w W : World} (hgd : o.guard = none) (s x : Operand)
    (ho : o.op = .call { callee := .builtin .append, args := #[s, x], argTypes := #[29, 29] }) {B : Nat} (hB : Below B W w) (hBW : B ≤ W.heap.size)
    {v : Value} {l : List Dw.Op} {p : Dw.Op} {g m c : Nat} (hs : a.eval s = v) (hown : OwnOps B w v l) (hl : l.length ≤ 100) (hx : a.eval x = .slice (some ⟨g, 0, none⟩) m c) (hm : m = 1) (hg : w.heap[g]? = some (.cells (opC p) 46 (0, 0)))
    (h : ∀ v' w', OwnOps B w' v' (l ++ [p]) → KeepBut (fun k => B ≤ k ∧ ∃ c, v = .slice (some ⟨k, 0, none⟩) l.length c) w w' → Below B W w' → wpList Tryz.prog ops Q rest (a.put o.dst v') w') : wpList Tryz.prog ops Q (o :: rest) a w := by
  subst hm
  obtain ⟨i0, hi, hz0, hz1, hz2⟩ := info_parts infoOp
  refine wpList_append_own _ hgd s x _ ho B 46 i0 _ 4 40 Tryz.underlying29 hi hz0 hz1 hz2 rfl (by decide) v _ _ hs hown ⟨g, 0, none⟩ 1 c (opsCells [p]) hx (by rw [opsCells_len]; rfl) (news_one hg) (opsCells_one [p]) (Nat.le_trans (Nat.add_le_add_right hl 1) (by decide)) (Nat.le_trans (Nat.mul_le_mul_right 40 (Nat.add_le_add_right hl 1)) (by decide)) (Nat.le_trans hBW hB.size) ?_
  intro v2 w2 hown2 hgrow2 _
  have hkb : KeepBut (fun k => B ≤ k ∧ ∃ c, v = .slice (some ⟨k, 0, none⟩) l.length c) w w2 := (KeepBut.refl _ w).grown hgrow2 (fun g e => by
    rcases hown.2 with ⟨h1, _⟩ | ⟨g', cap, cur, h1, h2, _⟩
    · rw [h1] at e; cases e
    · rw [h1] at e
      obtain rfl : g' = g := by simpa [Value.ownBlock] using e
      exact ⟨h2, cap, h1⟩)
  refine h v2 w2 ?_ hkb (hB.trans (hkb.below (Nat.le_trans hBW hB.size) (fun _ h => h.1)))
  have := hown2
  rw [← opsCells_append] at this
  rw [OwnOps, List.length_append]
  exact this

set_option maxRecDepth 100000 in
set_option maxHeartbeats 2000000 in
theorem pfresh_true (b : Nat) (g q d : Nat) (hg : g < 18446744073709551616) (hq : q < 18446744073709551616) (hd : d < 18446744073709551616) (w : World) :
    Calls Tryz.prog 58 #[.int .i64 b, .bool true, .int .u64 g, .int .u64 q, .int .u64 d] w fun e w' => (∃ v, e = .returned v ∧ OwnOps w.heap.size w' v (Dw.freshOps b true g q d)) ∧ Below w.heap.size w w' := by
  have H3 := Lib.hid (fun w => write_any b 1 (by decide) 3 q d (by decide) hq hd w)
  have H1 := Lib.hid (fun w => write_any b 0 (by decide) 1 g 0 (by decide) hg (by decide) w)
  clear hg hq hd
  have hBw := (Below.refl w.heap.size w).alloc (Nat.le_refl _) (.cells #[.int .i64 b] 118)
  have hM := heap_alloc_new w (.cells #[.int .i64 b] 118)
  obtain ⟨W0, hW0⟩ : ∃ W0, w.alloc (.cells #[.int .i64 b] 118) = W0 := ⟨_, rfl⟩
  have hs0 : W0.heap.size = w.heap.size + 1 := by rw [← hW0]; simp
  rw [hW0] at hBw hM
  have hB0 := Below.refl W0.heap.size W0
  have c0 := cells1 hM
  go_enter Tryz.func58, Tryz.ntmps58
  go_wp2_with fail
  refine (mprogram_any b 0 0 rfl [0, 0] _).mono ?_
  rintro e w1 ⟨rfl, hb⟩
  replace hM := (hb.block _ (block_lt hM)).trans hM
  replace hB0 := hB0.trans (hb.mono hB0.size)
  clear hb c0 hW0
  have hn1 := heap_alloc_new w1 (.cells (opC ⟨1, b, 0, [0, 0]⟩) 46)
  have hM1 := (heap_alloc_old w1 (.cells (opC ⟨1, b, 0, [0, 0]⟩) 46) _ (block_lt hM)).trans hM
  have hB1 := hB0.alloc hB0.size (.cells (opC ⟨1, b, 0, [0, 0]⟩) 46)
  go_wp2_with (at_builtin; first | (refine append_one (by rfl) _ _ (by rfl) hB1 (Nat.le_refl _) (l := []) (by rfl) (World.ownsRow_nil _ _ _ _) (by decide) (by rfl) rfl hn1 ?_; intro v2 w2 own2 hk2 hB2; have hM2 := (hk2.block _ (block_lt hM1) (by rintro ⟨h, c, e⟩; omega)).trans hM1; have hn2 := heap_alloc_new w2 (.cells (opC ⟨2, b, 0, []⟩) 46); have hM3 := (heap_alloc_old w2 (.cells (opC ⟨2, b, 0, []⟩) 46) _ (block_lt hM2)).trans hM2; have hB3 := hB2.alloc hB2.size (.cells (opC ⟨2, b, 0, []⟩) 46); have own3 := own_below own2 ((KeepBut.refl (fun _ => False) w2).alloc (.cells (opC ⟨2, b, 0, []⟩) 46)); clear hM1 hB1 hn1 hk2 hM2 hB2 own2) | (go_loud (refine append_one (by rfl) _ _ (by rfl) hB3 (Nat.le_refl _) (by rfl) own3 (by simp) (by rfl) rfl hn2 ?_; intro v4 w4 own4 hk4 hB4; have hM4 := (hk4.block _ (block_lt hM3) (by rintro ⟨h, c, e⟩; omega)).trans hM3; clear hM3 hB3 own3 hn2 hk4)))
  have c0 := cells1 hM4
  have P4 := own_part own4 (by simp)
  clear own4
  refine wp_letters [0, 1, 2, 3, 4, 6, 7, 8] [5, 9, 10, 11] 12 (by kernel_rfl) (by kernel_rfl) (by kernel_rfl) rfl ?_
  (refine pl_value (v := ?_) rfl rfl ?_ ?_; rotate_left 1; (focus (intro w' hk; have k0 := look hk c0; go_simp; (first | done | with_reducible rfl | exact rfl))); (try simp only [Act.put, List.setIfInBounds_toArray, List.set_cons_zero, List.set_cons_succ]))
  (refine pl_value (v := ?_) rfl rfl ?_ ?_; rotate_left 1; (focus (intro w' hk; have k0 := look hk c0; go_simp; (first | done | with_reducible rfl | exact rfl))); (try simp only [Act.put, List.setIfInBounds_toArray, List.set_cons_zero, List.set_cons_succ]))
  (refine pl_value (v := ?_) rfl rfl ?_ ?_; rotate_left 1; (focus (intro w' hk; have k0 := look hk c0; go_simp; (first | done | with_reducible rfl | exact rfl))); (try simp only [Act.put, List.setIfInBounds_toArray, List.set_cons_zero, List.set_cons_succ]))
  (refine pl_value (v := ?_) rfl rfl ?_ ?_; rotate_left 1; (focus (intro w' hk; have k0 := look hk c0; go_simp; (first | done | with_reducible rfl | exact rfl))); (try simp only [Act.put, List.setIfInBounds_toArray, List.set_cons_zero, List.set_cons_succ]))
  (refine pl_value (v := ?_) rfl rfl ?_ ?_; rotate_left 1; (focus (intro w' hk; have k0 := look hk c0; go_simp; (first | done | with_reducible rfl | exact rfl))); (try simp only [Act.put, List.setIfInBounds_toArray, List.set_cons_zero, List.set_cons_succ]))
  (refine pl_value (v := ?_) rfl rfl ?_ ?_; rotate_left 1; (focus (intro w' hk; have k0 := look hk c0; go_simp; (first | done | with_reducible rfl | exact rfl))); (try simp only [Act.put, List.setIfInBounds_toArray, List.set_cons_zero, List.set_cons_succ]))
  (refine pl_value (v := ?_) rfl rfl ?_ ?_; rotate_left 1; (focus (intro w' hk; have k0 := look hk c0; go_simp; (first | done | with_reducible rfl | exact rfl))); (try simp only [Act.put, List.setIfInBounds_toArray, List.set_cons_zero, List.set_cons_succ]))
  (refine pl_value (v := ?_) rfl rfl ?_ ?_; rotate_left 1; (focus (intro w' hk; have k0 := look hk c0; go_simp; (first | done | with_reducible rfl | exact rfl))); (try simp only [Act.put, List.setIfInBounds_toArray, List.set_cons_zero, List.set_cons_succ]))
  refine pl_nil ?_
  (refine ll_call (f := ?_) (args := ?_) rfl rfl ?_ ?_; rotate_left 2; (focus (intro w' hk; go_simp; (first | done | (constructor <;> with_reducible rfl) | with_reducible rfl))))
  intro w5 hk5
  refine (H3.out _).mono ?_
  rintro e w6 ⟨⟨v6, rfl, own6⟩, hb6⟩
  refine ⟨v6, rfl, KeepBut.of_below' hb6, ?_⟩
  (try simp only [Act.put, List.setIfInBounds_toArray, List.set_cons_zero, List.set_cons_succ])
  replace P4 := (P4.keep hk5.whole).keep hb6
  have P6 := own_part own6 (by simp)
  replace hB4 := (hB4.trans (hk5.whole.mono hB4.size)).trans (hb6.mono (Nat.le_trans hB4.size hk5.size))
  clear own6 hk5 hb6 hM4 c0
  (refine ll_call (f := ?_) (args := ?_) rfl rfl ?_ ?_; rotate_left 2; (focus (intro w' hk; go_simp; (first | done | (constructor <;> with_reducible rfl) | with_reducible rfl))))
  intro w7 hk7
  refine (H1.out _).mono ?_
  rintro e w8 ⟨⟨v8, rfl, own8⟩, hb8⟩
  refine ⟨v8, rfl, KeepBut.of_below' hb8, ?_⟩
  (try simp only [Act.put, List.setIfInBounds_toArray, List.set_cons_zero, List.set_cons_succ])
  replace P4 := (P4.keep hk7.whole).keep hb8
  replace P6 := (P6.keep hk7.whole).keep hb8
  have P8 := own_part own8 (by simp)
  replace hB4 := (hB4.trans (hk7.whole.mono hB4.size)).trans (hb8.mono (Nat.le_trans hB4.size hk7.size))
  clear own8 hk7 hb8
  obtain ⟨g4, cap4, rfl, hg4, hc4⟩ := P4
  obtain ⟨g6, cap6, rfl, hg6, hc6⟩ := P6
  obtain ⟨g8, cap8, rfl, hg8, hc8⟩ := P8
  refine ll_value rfl rfl fun w9 hk9 => ⟨.slice (some ⟨w9.heap.size, 0, none⟩) 3 3, w9.alloc (.cells #[.slice (some ⟨g4, 0, none⟩) 2 cap4, .slice (some ⟨g6, 0, none⟩) 2 cap6, .slice (some ⟨g8, 0, none⟩) 2 cap8] 29), ?_, (KeepBut.refl _ _).alloc _, ?_⟩
  · go_simp
  (try simp only [Act.put, List.setIfInBounds_toArray, List.set_cons_zero, List.set_cons_succ])
  have P4 : PartAt w9 _ _ := PartAt.keep ⟨g4, cap4, rfl, hg4, hc4⟩ hk9.whole
  have P6 : PartAt w9 _ _ := PartAt.keep ⟨g6, cap6, rfl, hg6, hc6⟩ hk9.whole
  have P8 : PartAt w9 _ _ := PartAt.keep ⟨g8, cap8, rfl, hg8, hc8⟩ hk9.whole
  replace hB4 := hB4.trans (hk9.whole.mono hB4.size)
  clear hk9 hg4 hc4 hg6 hc6 hg8 hc8
  have hnw := heap_alloc_new w9 (.cells #[.slice (some ⟨g4, 0, none⟩) 2 cap4, .slice (some ⟨g6, 0, none⟩) 2 cap6, .slice (some ⟨g8, 0, none⟩) 2 cap8] 29)
  have hBa := hB4.alloc hB4.size (.cells #[.slice (some ⟨g4, 0, none⟩) 2 cap4, .slice (some ⟨g6, 0, none⟩) 2 cap6, .slice (some ⟨g8, 0, none⟩) 2 cap8] 29)
  have ka : Below w9.heap.size w9 (w9.alloc (.cells #[.slice (some ⟨g4, 0, none⟩) 2 cap4, .slice (some ⟨g6, 0, none⟩) 2 cap6, .slice (some ⟨g8, 0, none⟩) 2 cap8] 29)) := (Below.refl _ _).alloc (Nat.le_refl _) _
  replace P4 := P4.keep ka
  replace P6 := P6.keep ka
  replace P8 := P8.keep ka
  clear ka
  (refine ll_call (f := ?_) (args := ?_) rfl rfl ?_ ?_; rotate_left 2; (focus (intro w' hk; go_simp; (first | done | (constructor <;> with_reducible rfl) | with_reducible rfl))))
  intro wa hka
  replace P4 := P4.keep hka.whole
  replace P6 := P6.keep hka.whole
  replace P8 := P8.keep hka.whole
  have hnb := (hka.block _ (block_lt hnw) id).trans hnw
  obtain ⟨x0, x1, x2⟩ := cells3 hnb
  replace hBa := hBa.trans (hka.whole.mono hBa.size)
  refine (gather_any w9.heap.size 3 3 [(_, [⟨1, b, 0, [0, 0]⟩, ⟨2, b, 0, []⟩]), (_, [⟨1, b, 24 * 1 + 0, Dw.body 3 q d⟩, ⟨1, b, 24 * 1 + 22, [90, 60]⟩]), (_, [⟨1, b, 24 * 0 + 0, Dw.body 1 g 0⟩, ⟨1, b, 24 * 0 + 22, [90, 60]⟩])] rfl (by decide) (fun k => by rcases k with _ | _ | _ | k <;> simp) wa (block_lt hnb) (fun i p hp => by
    rcases i with _ | _ | _ | i
    · obtain rfl := Option.some.inj hp; exact ⟨x0, P4⟩
    · obtain rfl := Option.some.inj hp; exact ⟨x1, P6⟩
    · obtain rfl := Option.some.inj hp; exact ⟨x2, P8⟩
    · simp at hp)).mono ?_
  rintro e wb ⟨⟨vb, rfl, ownb⟩, hbb⟩
  refine ⟨vb, rfl, KeepBut.of_below' hbb, ?_⟩
  (try simp only [Act.put, List.setIfInBounds_toArray, List.set_cons_zero, List.set_cons_succ])
  intro wc hkc
  simp only [List.drop_succ_cons, List.drop_zero]
  go_wp2_with fail
  go_ret
  have hsz := hBa.size
  refine ⟨⟨_, rfl, own_weaken (own_below ownb hkc) (by omega)⟩, ?_⟩
  have b1 := (hBa.trans (hbb.mono hBa.size))
  exact hBw.trans ((b1.trans (hkc.whole.mono b1.size)).mono (by omega))

set_option maxRecDepth 100000 in
set_option maxHeartbeats 2000000 in
theorem pfresh_false (b : Nat) (g q d : Nat) (hg : g < 18446744073709551616) (hq : q < 18446744073709551616) (hd : d < 18446744073709551616) (w : World) :
    Calls Tryz.prog 58 #[.int .i64 b, .bool false, .int .u64 g, .int .u64 q, .int .u64 d] w fun e w' => (∃ v, e = .returned v ∧ OwnOps w.heap.size w' v (Dw.freshOps b false g q d)) ∧ Below w.heap.size w w' := by
  have H3 := Lib.hid (fun w => write_any b 1 (by decide) 3 q d (by decide) hq hd w)
  have H1 := Lib.hid (fun w => write_any b 0 (by decide) 1 g 0 (by decide) hg (by decide) w)
  clear hg hq hd
  have hBw := (Below.refl w.heap.size w).alloc (Nat.le_refl _) (.cells #[.int .i64 b] 118)
  have hM := heap_alloc_new w (.cells #[.int .i64 b] 118)
  obtain ⟨W0, hW0⟩ : ∃ W0, w.alloc (.cells #[.int .i64 b] 118) = W0 := ⟨_, rfl⟩
  have hs0 : W0.heap.size = w.heap.size + 1 := by rw [← hW0]; simp
  rw [hW0] at hBw hM
  have hB0 := Below.refl W0.heap.size W0
  have c0 := cells1 hM
  go_enter Tryz.func58, Tryz.ntmps58
  have hn2 := heap_alloc_new W0 (.cells (opC ⟨2, b, 0, []⟩) 46)
  rw [hs0] at hn2
  have hM3 := (heap_alloc_old W0 (.cells (opC ⟨2, b, 0, []⟩) 46) _ (block_lt hM)).trans hM
  have hB3 := hB0.alloc hB0.size (.cells (opC ⟨2, b, 0, []⟩) 46)
  go_wp2_with (at_builtin; (go_loud (refine append_one (by rfl) _ _ (by rfl) hB3 (Nat.le_refl _) (l := []) (by rfl) (World.ownsRow_nil _ _ _ _) (by decide) (by rfl) rfl hn2 ?_; intro v4 w4 own4 hk4 hB4; have hM4 := (hk4.block _ (block_lt hM3) (by rintro ⟨h, c, e⟩; omega)).trans hM3; clear hM3 hB3 hn2 hk4)))
  have c0 := cells1 hM4
  have P4 := own_part own4 (by simp)
  clear own4
  refine wp_letters [0, 1, 2, 3, 4, 6, 7, 8] [5, 9, 10, 11] 12 (by kernel_rfl) (by kernel_rfl) (by kernel_rfl) rfl ?_
  (refine pl_value (v := ?_) rfl rfl ?_ ?_; rotate_left 1; (focus (intro w' hk; have k0 := look hk c0; go_simp; (first | done | with_reducible rfl | exact rfl))); (try simp only [Act.put, List.setIfInBounds_toArray, List.set_cons_zero, List.set_cons_succ]))
  (refine pl_value (v := ?_) rfl rfl ?_ ?_; rotate_left 1; (focus (intro w' hk; have k0 := look hk c0; go_simp; (first | done | with_reducible rfl | exact rfl))); (try simp only [Act.put, List.setIfInBounds_toArray, List.set_cons_zero, List.set_cons_succ]))
  (refine pl_value (v := ?_) rfl rfl ?_ ?_; rotate_left 1; (focus (intro w' hk; have k0 := look hk c0; go_simp; (first | done | with_reducible rfl | exact rfl))); (try simp only [Act.put, List.setIfInBounds_toArray, List.set_cons_zero, List.set_cons_succ]))
  (refine pl_value (v := ?_) rfl rfl ?_ ?_; rotate_left 1; (focus (intro w' hk; have k0 := look hk c0; go_simp; (first | done | with_reducible rfl | exact rfl))); (try simp only [Act.put, List.setIfInBounds_toArray, List.set_cons_zero, List.set_cons_succ]))
  (refine pl_value (v := ?_) rfl rfl ?_ ?_; rotate_left 1; (focus (intro w' hk; have k0 := look hk c0; go_simp; (first | done | with_reducible rfl | exact rfl))); (try simp only [Act.put, List.setIfInBounds_toArray, List.set_cons_zero, List.set_cons_succ]))
  (refine pl_value (v := ?_) rfl rfl ?_ ?_; rotate_left 1; (focus (intro w' hk; have k0 := look hk c0; go_simp; (first | done | with_reducible rfl | exact rfl))); (try simp only [Act.put, List.setIfInBounds_toArray, List.set_cons_zero, List.set_cons_succ]))
  (refine pl_value (v := ?_) rfl rfl ?_ ?_; rotate_left 1; (focus (intro w' hk; have k0 := look hk c0; go_simp; (first | done | with_reducible rfl | exact rfl))); (try simp only [Act.put, List.setIfInBounds_toArray, List.set_cons_zero, List.set_cons_succ]))
  (refine pl_value (v := ?_) rfl rfl ?_ ?_; rotate_left 1; (focus (intro w' hk; have k0 := look hk c0; go_simp; (first | done | with_reducible rfl | exact rfl))); (try simp only [Act.put, List.setIfInBounds_toArray, List.set_cons_zero, List.set_cons_succ]))
  refine pl_nil ?_
  (refine ll_call (f := ?_) (args := ?_) rfl rfl ?_ ?_; rotate_left 2; (focus (intro w' hk; go_simp; (first | done | (constructor <;> with_reducible rfl) | with_reducible rfl))))
  intro w5 hk5
  refine (H3.out _).mono ?_
  rintro e w6 ⟨⟨v6, rfl, own6⟩, hb6⟩
  refine ⟨v6, rfl, KeepBut.of_below' hb6, ?_⟩
  (try simp only [Act.put, List.setIfInBounds_toArray, List.set_cons_zero, List.set_cons_succ])
  replace P4 := (P4.keep hk5.whole).keep hb6
  have P6 := own_part own6 (by simp)
  replace hB4 := (hB4.trans (hk5.whole.mono hB4.size)).trans (hb6.mono (Nat.le_trans hB4.size hk5.size))
  clear own6 hk5 hb6 hM4 c0
  (refine ll_call (f := ?_) (args := ?_) rfl rfl ?_ ?_; rotate_left 2; (focus (intro w' hk; go_simp; (first | done | (constructor <;> with_reducible rfl) | with_reducible rfl))))
  intro w7 hk7
  refine (H1.out _).mono ?_
  rintro e w8 ⟨⟨v8, rfl, own8⟩, hb8⟩
  refine ⟨v8, rfl, KeepBut.of_below' hb8, ?_⟩
  (try simp only [Act.put, List.setIfInBounds_toArray, List.set_cons_zero, List.set_cons_succ])
  replace P4 := (P4.keep hk7.whole).keep hb8
  replace P6 := (P6.keep hk7.whole).keep hb8
  have P8 := own_part own8 (by simp)
  replace hB4 := (hB4.trans (hk7.whole.mono hB4.size)).trans (hb8.mono (Nat.le_trans hB4.size hk7.size))
  clear own8 hk7 hb8
  obtain ⟨g4, cap4, rfl, hg4, hc4⟩ := P4
  obtain ⟨g6, cap6, rfl, hg6, hc6⟩ := P6
  obtain ⟨g8, cap8, rfl, hg8, hc8⟩ := P8
  refine ll_value rfl rfl fun w9 hk9 => ⟨.slice (some ⟨w9.heap.size, 0, none⟩) 3 3, w9.alloc (.cells #[.slice (some ⟨g4, 0, none⟩) 1 cap4, .slice (some ⟨g6, 0, none⟩) 2 cap6, .slice (some ⟨g8, 0, none⟩) 2 cap8] 29), ?_, (KeepBut.refl _ _).alloc _, ?_⟩
  · go_simp
  (try simp only [Act.put, List.setIfInBounds_toArray, List.set_cons_zero, List.set_cons_succ])
  have P4 : PartAt w9 _ _ := PartAt.keep ⟨g4, cap4, rfl, hg4, hc4⟩ hk9.whole
  have P6 : PartAt w9 _ _ := PartAt.keep ⟨g6, cap6, rfl, hg6, hc6⟩ hk9.whole
  have P8 : PartAt w9 _ _ := PartAt.keep ⟨g8, cap8, rfl, hg8, hc8⟩ hk9.whole
  replace hB4 := hB4.trans (hk9.whole.mono hB4.size)
  clear hk9 hg4 hc4 hg6 hc6 hg8 hc8
  have hnw := heap_alloc_new w9 (.cells #[.slice (some ⟨g4, 0, none⟩) 1 cap4, .slice (some ⟨g6, 0, none⟩) 2 cap6, .slice (some ⟨g8, 0, none⟩) 2 cap8] 29)
  have hBa := hB4.alloc hB4.size (.cells #[.slice (some ⟨g4, 0, none⟩) 1 cap4, .slice (some ⟨g6, 0, none⟩) 2 cap6, .slice (some ⟨g8, 0, none⟩) 2 cap8] 29)
  have ka : Below w9.heap.size w9 (w9.alloc (.cells #[.slice (some ⟨g4, 0, none⟩) 1 cap4, .slice (some ⟨g6, 0, none⟩) 2 cap6, .slice (some ⟨g8, 0, none⟩) 2 cap8] 29)) := (Below.refl _ _).alloc (Nat.le_refl _) _
  replace P4 := P4.keep ka
  replace P6 := P6.keep ka
  replace P8 := P8.keep ka
  clear ka
  (refine ll_call (f := ?_) (args := ?_) rfl rfl ?_ ?_; rotate_left 2; (focus (intro w' hk; go_simp; (first | done | (constructor <;> with_reducible rfl) | with_reducible rfl))))
  intro wa hka
  replace P4 := P4.keep hka.whole
  replace P6 := P6.keep hka.whole
  replace P8 := P8.keep hka.whole
  have hnb := (hka.block _ (block_lt hnw) id).trans hnw
  obtain ⟨x0, x1, x2⟩ := cells3 hnb
  replace hBa := hBa.trans (hka.whole.mono hBa.size)
  refine (gather_any w9.heap.size 3 3 [(_, [⟨2, b, 0, []⟩]), (_, [⟨1, b, 24 * 1 + 0, Dw.body 3 q d⟩, ⟨1, b, 24 * 1 + 22, [90, 60]⟩]), (_, [⟨1, b, 24 * 0 + 0, Dw.body 1 g 0⟩, ⟨1, b, 24 * 0 + 22, [90, 60]⟩])] rfl (by decide) (fun k => by rcases k with _ | _ | _ | k <;> simp) wa (block_lt hnb) (fun i p hp => by
    rcases i with _ | _ | _ | i
    · obtain rfl := Option.some.inj hp; exact ⟨x0, P4⟩
    · obtain rfl := Option.some.inj hp; exact ⟨x1, P6⟩
    · obtain rfl := Option.some.inj hp; exact ⟨x2, P8⟩
    · simp at hp)).mono ?_
  rintro e wb ⟨⟨vb, rfl, ownb⟩, hbb⟩
  refine ⟨vb, rfl, KeepBut.of_below' hbb, ?_⟩
  (try simp only [Act.put, List.setIfInBounds_toArray, List.set_cons_zero, List.set_cons_succ])
  intro wc hkc
  simp only [List.drop_succ_cons, List.drop_zero]
  go_wp2_with fail
  go_ret
  have hsz := hBa.size
  refine ⟨⟨_, rfl, own_weaken (own_below ownb hkc) (by omega)⟩, ?_⟩
  have b1 := (hBa.trans (hbb.mono hBa.size))
  exact hBw.trans ((b1.trans (hkc.whole.mono b1.size)).mono (by omega))
end Go.Proofs.YtaniehjhmjecjaaGreatDoor

/- Layer 11: fresh, first. -/
namespace Go.Proofs.YtaniehjhmjecjaaGreatDoor
open Go.RowKit Go.Shelf
attribute [local go_sem] Oper.semAt_some

set_option maxHeartbeats 1000000 in
theorem freshA (f : Dw.Fl) (hl : (f.a).length ≤ 400) (g q d : Nat) (hg : g < 18446744073709551616) (hq : q < 18446744073709551616) (hd : d < 18446744073709551616) (w : World) :
    Calls Tryz.prog 39 #[flV f, .int .i64 0, .int .u64 g, .int .u64 q, .int .u64 d] w fun e w' => (∃ v, e = .returned v ∧ OwnOps w.heap.size w' v (Dw.freshF f 0 g q d)) ∧ Below w.heap.size w w' := by
  have HT := Lib.hid (fun w => pfresh_true 0 g q d hg hq hd w)
  have HF := Lib.hid (fun w => pfresh_false 0 g q d hg hq hd w)
  clear hg hq hd
  have hB := (Below.refl w.heap.size w).alloc (Nat.le_refl _) (.cells (flashC f.a f.b f.e0 f.e1 f.li) 25)
  have hF := heap_alloc_new w (.cells (flashC f.a f.b f.e0 f.e1 f.li) 25)
  obtain ⟨c0, c1, c2, c3, c4⟩ := cells5 hF
  by_cases hs : Dw.state (f.a) 0 = 2
  · have HE := Lib.hid (show Dw.freshF f 0 g q d = Dw.freshOps 0 true g q d from by unfold Dw.freshF; rw [show f.bk 0 = f.a from rfl, hs]; rfl)
    have hsb : ((Dw.state (f.a) 0 : Int) == 2) = true := by rw [hs]; rfl
    clear hs
    go_enter Tryz.func39, Tryz.ntmps39
    go_wp2_with fail
    refine (state_any (f.a) hl 0 0 rfl _).mono ?_
    rintro e w1 ⟨rfl, hb⟩
    replace hB := hB.trans (hb.mono hB.size)
    clear hb hF c0 c1 c2 c3 c4
    generalize Dw.state (f.a) 0 = st at *
    go_wp2_with fail
    refine (HT.out _).mono ?_
    rintro e w2 ⟨⟨v, rfl, own⟩, hb⟩
    go_wp2_with fail
    go_ret
    have hsz := hB.size
    exact ⟨⟨_, rfl, by rw [HE.out]; exact own_weaken own (by omega)⟩, hB.trans (hb.mono hB.size)⟩
  · have HE := Lib.hid (show Dw.freshF f 0 g q d = Dw.freshOps 0 false g q d from by unfold Dw.freshF; rw [show f.bk 0 = f.a from rfl, decide_eq_false hs])
    have hsb : ((Dw.state (f.a) 0 : Int) == 2) = false := by rw [beq_eq_false_iff_ne]; omega
    clear hs
    go_enter Tryz.func39, Tryz.ntmps39
    go_wp2_with fail
    refine (state_any (f.a) hl 0 0 rfl _).mono ?_
    rintro e w1 ⟨rfl, hb⟩
    replace hB := hB.trans (hb.mono hB.size)
    clear hb hF c0 c1 c2 c3 c4
    generalize Dw.state (f.a) 0 = st at *
    go_wp2_with fail
    refine (HF.out _).mono ?_
    rintro e w2 ⟨⟨v, rfl, own⟩, hb⟩
    go_wp2_with fail
    go_ret
    have hsz := hB.size
    exact ⟨⟨_, rfl, by rw [HE.out]; exact own_weaken own (by omega)⟩, hB.trans (hb.mono hB.size)⟩
set_option maxHeartbeats 1000000 in
theorem freshB (f : Dw.Fl) (hl : (f.b).length ≤ 400) (g q d : Nat) (hg : g < 18446744073709551616) (hq : q < 18446744073709551616) (hd : d < 18446744073709551616) (w : World) :
    Calls Tryz.prog 39 #[flV f, .int .i64 1, .int .u64 g, .int .u64 q, .int .u64 d] w fun e w' => (∃ v, e = .returned v ∧ OwnOps w.heap.size w' v (Dw.freshF f 1 g q d)) ∧ Below w.heap.size w w' := by
  have HT := Lib.hid (fun w => pfresh_true 1 g q d hg hq hd w)
  have HF := Lib.hid (fun w => pfresh_false 1 g q d hg hq hd w)
  clear hg hq hd
  have hB := (Below.refl w.heap.size w).alloc (Nat.le_refl _) (.cells (flashC f.a f.b f.e0 f.e1 f.li) 25)
  have hF := heap_alloc_new w (.cells (flashC f.a f.b f.e0 f.e1 f.li) 25)
  obtain ⟨c0, c1, c2, c3, c4⟩ := cells5 hF
  by_cases hs : Dw.state (f.b) 0 = 2
  · have HE := Lib.hid (show Dw.freshF f 1 g q d = Dw.freshOps 1 true g q d from by unfold Dw.freshF; rw [show f.bk 1 = f.b from rfl, hs]; rfl)
    have hsb : ((Dw.state (f.b) 0 : Int) == 2) = true := by rw [hs]; rfl
    clear hs
    go_enter Tryz.func39, Tryz.ntmps39
    go_wp2_with fail
    refine (state_any (f.b) hl 0 0 rfl _).mono ?_
    rintro e w1 ⟨rfl, hb⟩
    replace hB := hB.trans (hb.mono hB.size)
    clear hb hF c0 c1 c2 c3 c4
    generalize Dw.state (f.b) 0 = st at *
    go_wp2_with fail
    refine (HT.out _).mono ?_
    rintro e w2 ⟨⟨v, rfl, own⟩, hb⟩
    go_wp2_with fail
    go_ret
    have hsz := hB.size
    exact ⟨⟨_, rfl, by rw [HE.out]; exact own_weaken own (by omega)⟩, hB.trans (hb.mono hB.size)⟩
  · have HE := Lib.hid (show Dw.freshF f 1 g q d = Dw.freshOps 1 false g q d from by unfold Dw.freshF; rw [show f.bk 1 = f.b from rfl, decide_eq_false hs])
    have hsb : ((Dw.state (f.b) 0 : Int) == 2) = false := by rw [beq_eq_false_iff_ne]; omega
    clear hs
    go_enter Tryz.func39, Tryz.ntmps39
    go_wp2_with fail
    refine (state_any (f.b) hl 0 0 rfl _).mono ?_
    rintro e w1 ⟨rfl, hb⟩
    replace hB := hB.trans (hb.mono hB.size)
    clear hb hF c0 c1 c2 c3 c4
    generalize Dw.state (f.b) 0 = st at *
    go_wp2_with fail
    refine (HF.out _).mono ?_
    rintro e w2 ⟨⟨v, rfl, own⟩, hb⟩
    go_wp2_with fail
    go_ret
    have hsz := hB.size
    exact ⟨⟨_, rfl, by rw [HE.out]; exact own_weaken own (by omega)⟩, hB.trans (hb.mono hB.size)⟩
theorem fresh_any (f : Dw.Fl) (hf : Dw.FlOk f) (k : Nat) (hk : k < 2) (g q d : Nat) (hg : g < 18446744073709551616) (hq : q < 18446744073709551616) (hd : d < 18446744073709551616) (w : World) :
    Calls Tryz.prog 39 #[flV f, .int .i64 k, .int .u64 g, .int .u64 q, .int .u64 d] w fun e w' => (∃ v, e = .returned v ∧ OwnOps w.heap.size w' v (Dw.freshF f k g q d)) ∧ Below w.heap.size w w' := by
  rcases (by omega : k = 0 ∨ k = 1) with rfl | rfl
  · exact freshA f hf.a g q d hg hq hd w
  · exact freshB f hf.b g q d hg hq hd w

namespace Dw
def firstP (f : Fl) (d : Nat) : List Op × Int := if wornB f 0 = false then (freshF f 0 1 1 d, 0) else if wornB f 1 = false then (freshF f 1 1 1 d, 0) else ([], 4)
end Dw
set_option maxHeartbeats 1000000 in
theorem first_any (f : Dw.Fl) (hf : Dw.FlOk f) (d : Nat) (hd : d < 18446744073709551616) (w : World) :
    Calls Tryz.prog 34 #[flV f, .int .u64 d] w fun e w' => (∃ v, e = .returned (.tuple #[v, .int .i64 (Dw.firstP f d).2]) ∧ OwnOps w.heap.size w' v (Dw.firstP f d).1) ∧ Below w.heap.size w w' := by
  have H := Lib.hid (fun k hk w => fresh_any f hf k hk 1 1 d (by decide) (by decide) hd w)
  clear hd
  have hB := (Below.refl w.heap.size w).alloc (Nat.le_refl _) (.cells (flashC f.a f.b f.e0 f.e1 f.li) 25)
  have hF := heap_alloc_new w (.cells (flashC f.a f.b f.e0 f.e1 f.li) 25)
  have HP := Lib.hid (show Dw.firstP f d = if Dw.wornB f 0 = false then (Dw.freshF f 0 1 1 d, 0) else if Dw.wornB f 1 = false then (Dw.freshF f 1 1 1 d, 0) else ([], 4) from rfl)
  go_enter Tryz.func34, Tryz.ntmps34
  go_wp2_with fail
  generalize w.alloc _ = W0 at *
  go_loopw [7] (fun i wr => ∃ k : Nat, k ≤ 2 ∧ i = .int .i64 k ∧ (∀ j, j < k → Dw.wornB f j = true) ∧ wr.heap[w.heap.size]? = some (.cells (flashC f.a f.b f.e0 f.e1 f.li) 25 (0, 0)) ∧ Below w.heap.size w wr) (fun i _ => 2 - (intOf i).toNat)
  case atStart => exact ⟨0, Nat.zero_le _, rfl, fun _ h => by omega, hF, hB⟩
  case round =>
    clear hF hB
    obtain ⟨k, hk, rfl, hall, hF, hB⟩ := hrel
    by_cases hlt : k < 2
    · have hx : (k : Int) < 2 := by omega
      obtain ⟨c0, c1, c2, c3, c4⟩ := cells5 hF
      go_wp2_with fail
      refine (worn_any f k hlt _).mono ?_
      rintro e w1 ⟨rfl, hb⟩
      replace hF := (hb.block _ (block_lt hF)).trans hF
      replace hB := hB.trans (hb.mono hB.size)
      clear hb c0 c1 c2 c3 c4
      obtain ⟨c0, c1, c2, c3, c4⟩ := cells5 hF
      cases hw : Dw.wornB f k with
      | true =>
        have HW := Lib.hid hw
        clear hw
        go_wp2_with fail
        go_roundw
        case rel =>
          refine ⟨k + 1, by omega, by go_num, fun j hj => ?_, hF, hB⟩
          by_cases e : j = k
          · rw [e]; exact HW.out
          · exact hall j (by omega)
        case measure => simp [intOf]; omega
      | false =>
        have HE := Lib.hid (show Dw.firstP f d = (Dw.freshF f k 1 1 d, 0) from by
          rw [HP.out]
          rcases (by omega : k = 0 ∨ k = 1) with rfl | rfl
          · rw [if_pos hw]
          · rw [if_neg (by rw [hall 0 (by omega)]; decide), if_pos hw])
        clear hw hall
        go_wp2_with fail
        refine (H.out k hlt _).mono ?_
        rintro e w2 ⟨⟨v, rfl, own⟩, hb⟩
        go_wp2_with fail
        refine bodyPost_ret (results_tmp2 rfl _ _ _) rfl ?_
        have hsz := hB.size
        rw [HE.out]
        exact ⟨⟨_, rfl, own_weaken own (by omega)⟩, hB.trans (hb.mono hB.size)⟩
    · obtain rfl : k = 2 := by omega
      have HE := Lib.hid (show Dw.firstP f d = ([], 4) from by rw [HP.out, if_neg (by rw [hall 0 (by omega)]; decide), if_neg (by rw [hall 1 (by omega)]; decide)])
      clear hall
      go_wp2_with fail
      refine bodyPost_ret (results_tmp2 rfl _ _ _) rfl ?_
      rw [HE.out]
      exact ⟨⟨_, rfl, World.ownsRow_nil _ _ _ _⟩, hB⟩
end Go.Proofs.YtaniehjhmjecjaaGreatDoor

/- Layer 11: Plan. -/
namespace Go.Proofs.YtaniehjhmjecjaaGreatDoor
open Go.RowKit Go.Shelf
attribute [local go_sem] Oper.semAt_some

namespace Dw
theorem dec_lt (p : List UInt8) : (decodeR p).seq < 18446744073709551616 ∧ (decodeR p).data < 18446744073709551616 := by
  unfold decodeR
  split
  · unfold recOf
    have h1 := get_lt ((p.drop 2).take 8)
    have h2 := get_lt ((p.drop 10).take 8)
    have e1 : ((p.drop 2).take 8).length ≤ 8 := by simp; omega
    have e2 : ((p.drop 10).take 8).length ≤ 8 := by simp; omega
    exact ⟨Nat.lt_of_lt_of_le h1 (pow256 e1), Nat.lt_of_lt_of_le h2 (pow256 e2)⟩
  · exact ⟨by decide, by decide⟩
theorem lastN_lt (s : List UInt8) (k : Nat) : (lastN s k).1.seq < 18446744073709551616 ∧ (lastN s k).1.data < 18446744073709551616 := by
  induction k with
  | zero =>
    unfold lastN
    rw [List.range_zero, List.foldl_nil]
    exact ⟨by decide, by decide⟩
  | succ k ih =>
    rw [lastN_succ]
    unfold lastStep
    split
    · exact dec_lt _
    · exact ih
theorem gen_lt (s : List UInt8) : genN s < 18446744073709551616 := by
  unfold genN
  split
  · exact (dec_lt _).1
  · decide
theorem ofT_lt (s : List UInt8) (i : Int) : (ofT s i).gen < 18446744073709551616 ∧ (ofT s i).seq < 18446744073709551616 ∧ (ofT s i).data < 18446744073709551616 := ⟨gen_lt s, (lastN_lt s _).1, (lastN_lt s _).2⟩
theorem bank_five (a b : List UInt8) : ((best a b).bank = -1 ∧ sound a = false ∧ sound b = false) ∨ ((best a b).bank = 0 ∧ sound a = true ∧ sound b = false) ∨ ((best a b).bank = 0 ∧ sound a = true ∧ sound b = true ∧ genN b ≤ genN a) ∨
    ((best a b).bank = 1 ∧ sound b = true ∧ sound a = false) ∨ ((best a b).bank = 1 ∧ sound b = true ∧ sound a = true ∧ genN a < genN b) := by
  unfold best ofS
  cases ha : sound a <;> cases hb : sound b <;> simp [psNone]
  by_cases h : genN a < genN b
  · rw [if_pos h]; exact .inr ⟨rfl, h⟩
  · rw [if_neg h]; exact .inl ⟨rfl, by omega⟩
theorem next_le (s : List UInt8) : next s ≤ 12 := by
  have h := slots_le s.length
  unfold next
  split <;> omega
/-- What is read: nothing, or one of the two banks. -/
theorem read_two (a b : List UInt8) : (readS a b = psZero ∧ readE a b = 10 ∧ sound a = false ∧ sound b = false) ∨ (∃ k : Nat, k < 2 ∧ ∃ g q d : Nat, g < 18446744073709551616 ∧ q < 18446744073709551616 ∧ d < 18446744073709551616 ∧ readS a b = ⟨k, g, q, d⟩ ∧ readE a b = 0) := by
  rcases bank_five a b with ⟨_, h2, h3⟩ | ⟨_, h2, h3⟩ | ⟨_, h2, h3, h4⟩ | ⟨_, h2, h3⟩ | ⟨_, h2, h3, h4⟩
  · obtain ⟨r1, r2⟩ := rdN a b h2 h3
    exact .inl ⟨r1, r2, h2, h3⟩
  · obtain ⟨r1, r2⟩ := rd0 a b h2 (.inl h3)
    obtain ⟨l1, l2, l3⟩ := ofT_lt a 0
    exact .inr ⟨0, by decide, _, _, _, l1, l2, l3, r1, r2⟩
  · obtain ⟨r1, r2⟩ := rd0 a b h2 (.inr h4)
    obtain ⟨l1, l2, l3⟩ := ofT_lt a 0
    exact .inr ⟨0, by decide, _, _, _, l1, l2, l3, r1, r2⟩
  · obtain ⟨r1, r2⟩ := rd1 a b h2 (.inl h3)
    obtain ⟨l1, l2, l3⟩ := ofT_lt b 1
    exact .inr ⟨1, by decide, _, _, _, l1, l2, l3, r1, r2⟩
  · obtain ⟨r1, r2⟩ := rd1 a b h2 (.inr h4)
    obtain ⟨l1, l2, l3⟩ := ofT_lt b 1
    exact .inr ⟨1, by decide, _, _, _, l1, l2, l3, r1, r2⟩
end Dw

set_option maxRecDepth 100000 in
set_option maxHeartbeats 4000000 in
theorem plan_any (f : Dw.Fl) (hf : Dw.FlOk f) (d : Nat) (hd : d < 18446744073709551616) (w : World) (hn : NoneAt w) :
    Calls Tryz.prog 11 #[flV f, .int .u64 d] w fun e w' => (∃ v, e = .returned (.tuple #[v, .int .i64 (Dw.plan f d).2]) ∧ OwnOps w.heap.size w' v (Dw.plan f d).1) ∧ Below w.heap.size w w' := by
  have H1 := Lib.hid (fun w => first_any f hf d hd w)
  have HF := Lib.hid (fun k hk g q hg hq w => fresh_any f hf k hk g q d hg hq hd w)
  have HA := Lib.hid (fun b s q hs hq w => pappend_any b s q d hs hq hd w)
  clear hd
  have hB := (Below.refl w.heap.size w).alloc (Nat.le_refl _) (.cells (flashC f.a f.b f.e0 f.e1 f.li) 25)
  have hF0 := heap_alloc_new w (.cells (flashC f.a f.b f.e0 f.e1 f.li) 25)
  obtain ⟨c0, c1, c2, c3, c4⟩ := cells5 hF0
  have HF0 := Lib.hid hF0
  have hrd := Dw.read_two f.a f.b
  go_enter Tryz.func11, Tryz.ntmps11
  go_wp2_with fail
  refine (even_any f.a f.b hf.a hf.b f.e0 f.e1 f.li _).mono ?_
  rintro e w1 ⟨rfl, hb⟩
  have hF := (hb.block _ (block_lt HF0.out)).trans HF0.out
  replace hB := hB.trans (hb.mono hB.size)
  clear hb HF0 hF0 c0 c1 c2 c3 c4
  obtain ⟨c0, c1, c2, c3, c4⟩ := cells5 hF
  cases hev : Dw.even f.a f.b with
  | false =>
    have HE := Lib.hid (show Dw.plan f d = ([], 1) from by unfold Dw.plan; rw [if_pos hev])
    clear hev hrd
    go_wp2_with fail
    refine bodyPost_ret (results_tmp2 rfl _ _ _) rfl ?_
    rw [HE.out]
    exact ⟨⟨_, rfl, World.ownsRow_nil _ _ _ _⟩, hB⟩
  | true =>
    have HEV := Lib.hid hev
    clear hev
    go_wp2_with fail
    refine (read_any f.a f.b hf.a hf.b f.e0 f.e1 f.li _ (hn.next hB)).mono ?_
    rintro e w2 ⟨rfl, hb⟩
    replace hF := (hb.block _ (block_lt hF)).trans hF
    replace hB := hB.trans (hb.mono hB.size)
    clear hb c0 c1 c2 c3 c4
    rcases hrd with ⟨r1, r2, _⟩ | ⟨k, hk, g, q, d0, hg, hq, _, r1, r2⟩
    · have HE := Lib.hid (show Dw.plan f d = Dw.firstP f d from by unfold Dw.plan; rw [if_neg (by rw [HEV.out]; decide), if_pos (by rw [r2]; decide)]; rfl)
      rw [r1, r2, show Dw.psZero = ⟨0, 0, 0, 0⟩ from rfl]
      clear r1 r2
      have hA := heap_alloc_new w2 (.cells #[.int .i64 0, .int .u64 0, .int .u64 0, .int .u64 0] 78)
      replace hF := (heap_alloc_old w2 (.cells #[.int .i64 0, .int .u64 0, .int .u64 0, .int .u64 0] 78) _ (block_lt hF)).trans hF
      replace hB := hB.alloc hB.size (.cells #[.int .i64 0, .int .u64 0, .int .u64 0, .int .u64 0] 78)
      obtain ⟨c0, c1, c2, c3, c4⟩ := cells5 hF
      clear hA
      go_wp2_with fail
      refine (H1.out _).mono ?_
      rintro e w3 ⟨⟨v, rfl, own⟩, hb⟩
      go_wp2_with fail
      refine bodyPost_ret (results_tmp2 rfl _ _ _) rfl ?_
      have hsz := hB.size
      rw [HE.out]
      exact ⟨⟨_, rfl, own_weaken own (by omega)⟩, hB.trans (hb.mono hB.size)⟩
    · have HP := Lib.hid (show Dw.plan f d = if q = 18446744073709551615 then ([], 11) else if 0 < Dw.next (f.bk k) then (Dw.appendOps k (Dw.next (f.bk k)) (q + 1) d, 0) else if g = 18446744073709551615 then ([], 11) else if Dw.wornB f (Dw.other k) = true then ([], 4) else (Dw.freshF f (Dw.other k) (g + 1) (q + 1) d, 0) from by
        unfold Dw.plan
        rw [if_neg (by rw [HEV.out]; decide), if_neg (by rw [r2]; decide), r1]
        rfl)
      rw [r1, r2]
      clear r1 r2
      obtain ⟨q1, hq1⟩ : ∃ q1 : Nat, q1 = (q + 1) % 18446744073709551616 := ⟨_, rfl⟩
      obtain ⟨g1, hg1⟩ : ∃ g1 : Nat, g1 = (g + 1) % 18446744073709551616 := ⟨_, rfl⟩
      have hq1l : q1 < 18446744073709551616 := by omega
      have hg1l : g1 < 18446744073709551616 := by omega
      have hw1 : IntKind.u64.wrap ((q : Int) + 1) = (q1 : Int) := by rw [show IntKind.u64.wrap ((q : Int) + 1) = ((q : Int) + 1) % 18446744073709551616 from by simp [IntKind.wrap, IntKind.bits, IntKind.signed]]; omega
      have hw2 : ((q : Int) + 1) % 18446744073709551616 = (q1 : Int) := by omega
      have hw3 : IntKind.u64.wrap ((g : Int) + 1) = (g1 : Int) := by rw [show IntKind.u64.wrap ((g : Int) + 1) = ((g : Int) + 1) % 18446744073709551616 from by simp [IntKind.wrap, IntKind.bits, IntKind.signed]]; omega
      have hw4 : ((g : Int) + 1) % 18446744073709551616 = (g1 : Int) := by omega
      have Hq1 := Lib.hid hq1; have Hg1 := Lib.hid hg1; have Hq := Lib.hid hq; have Hg := Lib.hid hg; have Hq1l := Lib.hid hq1l; have Hg1l := Lib.hid hg1l
      clear hq1 hg1 hq hg hq1l hg1l
      rcases (by omega : k = 0 ∨ k = 1) with rfl | rfl
      · have hz2 := hB.size
        have hA := heap_alloc_new w2 (.cells #[.int .i64 0, .int .u64 g, .int .u64 q, .int .u64 d0] 78)
        replace hF := (heap_alloc_old w2 (.cells #[.int .i64 0, .int .u64 g, .int .u64 q, .int .u64 d0] 78) _ (block_lt hF)).trans hF
        replace hB := hB.alloc hB.size (.cells #[.int .i64 0, .int .u64 g, .int .u64 q, .int .u64 d0] 78)
        have hns := Dw.next_le (f.a)
        rw [show f.bk 0 = f.a from rfl, show Dw.other 0 = 1 from rfl] at HP
        obtain ⟨c0, c1, c2, c3, c4⟩ := cells5 hF
        obtain ⟨a0, a1, a2, a3⟩ := cells4 hA
        go_wp2_with fail
        generalize w2.alloc _ = W at *
        generalize w2.heap.size = ga at *
        refine wp_pure (List.range 11) 11 (by kernel_rfl) (by kernel_rfl) rfl ?_
        rw [show List.range 11 = [0, 1, 2, 3, 4, 5, 6, 7, 8, 9, 10] from rfl]
        (refine pl_value (v := ?_) rfl rfl ?_ ?_; rotate_left 1; (focus (intro w' hk; have k0 := look hk a0; have k1 := look hk c0; go_simp; (first | done | with_reducible rfl | exact rfl))); (try simp only [Act.put, List.setIfInBounds_toArray, List.set_cons_zero, List.set_cons_succ]))
        (refine pl_value (v := ?_) rfl rfl ?_ ?_; rotate_left 1; (focus (intro w' hk; have k0 := look hk a0; have k1 := look hk c0; go_simp; (first | done | with_reducible rfl | exact rfl))); (try simp only [Act.put, List.setIfInBounds_toArray, List.set_cons_zero, List.set_cons_succ]))
        (refine pl_call (v := ?_) (f := ?_) (args := ?_) rfl rfl ?_ ?_ ?_; rotate_left 3; (focus (intro w' hk; have k0 := look hk a0; have k1 := look hk c0; go_simp; (first | done | (constructor <;> with_reducible rfl) | with_reducible rfl))); (focus (intro w' hk; exact other_any _ 0 rfl (by decide) w')); (try simp only [Act.put, List.setIfInBounds_toArray, List.set_cons_zero, List.set_cons_succ]))
        (refine pl_value (v := ?_) rfl rfl ?_ ?_; rotate_left 1; (focus (intro w' hk; have k0 := look hk a0; have k1 := look hk c0; go_simp; (first | done | with_reducible rfl | exact rfl))); (try simp only [Act.put, List.setIfInBounds_toArray, List.set_cons_zero, List.set_cons_succ]))
        (refine pl_value (v := ?_) rfl rfl ?_ ?_; rotate_left 1; (focus (intro w' hk; have k0 := look hk a0; have k1 := look hk c0; go_simp; (first | done | with_reducible rfl | exact rfl))); (try simp only [Act.put, List.setIfInBounds_toArray, List.set_cons_zero, List.set_cons_succ]))
        (refine pl_value (v := ?_) rfl rfl ?_ ?_; rotate_left 1; (focus (intro w' hk; have k0 := look hk a0; have k1 := look hk c0; go_simp; (first | done | with_reducible rfl | exact rfl))); (try simp only [Act.put, List.setIfInBounds_toArray, List.set_cons_zero, List.set_cons_succ]))
        (refine pl_value (v := ?_) rfl rfl ?_ ?_; rotate_left 1; (focus (intro w' hk; have k0 := look hk a0; have k1 := look hk c0; go_simp; (first | done | with_reducible rfl | exact rfl))); (try simp only [Act.put, List.setIfInBounds_toArray, List.set_cons_zero, List.set_cons_succ]))
        (refine pl_value (v := ?_) rfl rfl ?_ ?_; rotate_left 1; (focus (intro w' hk; have k0 := look hk a0; have k1 := look hk c0; go_simp; (first | done | with_reducible rfl | exact rfl))); (try simp only [Act.put, List.setIfInBounds_toArray, List.set_cons_zero, List.set_cons_succ]))
        (refine pl_call (v := ?_) (f := ?_) (args := ?_) rfl rfl ?_ ?_ ?_; rotate_left 3; (focus (intro w' hk; have k0 := look hk a0; have k1 := look hk c0; go_simp; (first | done | (constructor <;> with_reducible rfl) | with_reducible rfl))); (focus (intro w' hk; exact next_any (f.a) (by first | exact hf.a | exact hf.b) w')); (try simp only [Act.put, List.setIfInBounds_toArray, List.set_cons_zero, List.set_cons_succ]))
        (refine pl_value (v := ?_) rfl rfl ?_ ?_; rotate_left 1; (focus (intro w' hk; have k0 := look hk a0; have k1 := look hk c0; go_simp; (first | done | with_reducible rfl | exact rfl))); (try simp only [Act.put, List.setIfInBounds_toArray, List.set_cons_zero, List.set_cons_succ]))
        (refine pl_value (v := ?_) rfl rfl ?_ ?_; rotate_left 1; (focus (intro w' hk; have k0 := look hk a0; have k1 := look hk c0; go_simp; (first | done | with_reducible rfl | exact rfl))); (try simp only [Act.put, List.setIfInBounds_toArray, List.set_cons_zero, List.set_cons_succ]))
        refine pl_nil ?_
        intro W3 hk3
        simp only [List.drop_succ_cons, List.drop_zero]
        replace hF := (hk3.block _ (block_lt hF) id).trans hF
        replace hA := (hk3.block _ (block_lt hA) id).trans hA
        replace hB := hB.trans (hk3.whole.mono hB.size)
        clear hk3 c0 c1 c2 c3 c4 a0 a1 a2 a3
        obtain ⟨c0, c1, c2, c3, c4⟩ := cells5 hF
        obtain ⟨a0, a1, a2, a3⟩ := cells4 hA
        rw [show Dw.other 0 = 1 from rfl]
        generalize Dw.next (f.a) = nx at *
        have hsz := hB.size
        by_cases e1 : q = 18446744073709551615
        · have HE := Lib.hid (show Dw.plan f d = ([], 11) from by rw [HP.out, if_pos e1])
          have b1 : ((q : Int) == 18446744073709551615) = true := by rw [beq_iff_eq]; omega
          clear e1 HP
          go_wp2_with fail
          refine bodyPost_ret (results_tmp2 rfl _ _ _) rfl ?_
          rw [HE.out]
          exact ⟨⟨_, rfl, World.ownsRow_nil _ _ _ _⟩, hB⟩
        · have b1 : ((q : Int) == 18446744073709551615) = false := by rw [beq_eq_false_iff_ne]; omega
          have hq1e : q1 = q + 1 := by have := Hq1.out; have := Hq.out; omega
          have hp2 := HP.out.trans (if_neg e1)
          rw [← hq1e] at hp2
          have HP2 := Lib.hid hp2
          clear HP e1 hq1e hp2
          by_cases e2 : 0 < nx
          · have HE := Lib.hid (HP2.out.trans (if_pos e2))
            clear HP2
            have b2 : (0 : Int) < (nx : Int) := by omega
            go_wp2_with fail
            refine (HA.out 0 nx q1 (by omega) Hq1l.out _).mono ?_
            rintro e w4 ⟨⟨v, rfl, own⟩, hb⟩
            go_wp2_with fail
            refine bodyPost_ret (results_tmp2 rfl _ _ _) rfl ?_
            rw [HE.out]
            exact ⟨⟨_, rfl, own_weaken own (by omega)⟩, hB.trans (hb.mono hB.size)⟩
          · have b2 : ¬ (0 : Int) < (nx : Int) := by omega
            have HP3 := Lib.hid (HP2.out.trans (if_neg e2))
            clear e2 HP2
            by_cases e3 : g = 18446744073709551615
            · have b3 : ((g : Int) == 18446744073709551615) = true := by rw [beq_iff_eq]; omega
              have HE := Lib.hid (HP3.out.trans (if_pos e3))
              clear e3 HP3
              go_wp2_with fail
              refine bodyPost_ret (results_tmp2 rfl _ _ _) rfl ?_
              rw [HE.out]
              exact ⟨⟨_, rfl, World.ownsRow_nil _ _ _ _⟩, hB⟩
            · have b3 : ((g : Int) == 18446744073709551615) = false := by rw [beq_eq_false_iff_ne]; omega
              have hg1e : g1 = g + 1 := by have := Hg1.out; have := Hg.out; omega
              have hp4 := HP3.out.trans (if_neg e3)
              rw [← hg1e] at hp4
              have HP4 := Lib.hid hp4
              clear e3 hg1e HP3 hp4
              generalize hfr : Dw.freshF f 1 g1 q1 d = fr at *
              have Hfr := Lib.hid hfr
              clear hfr
              generalize hwo : Dw.wornB f 1 = wo at *
              have Hwo := Lib.hid hwo
              clear hwo
              go_wp2_with fail
              refine (worn_any f 1 (by decide) _).mono ?_
              rintro e w4 ⟨rfl, hb⟩
              replace hF := (hb.block _ (block_lt hF)).trans hF
              replace hA := (hb.block _ (block_lt hA)).trans hA
              replace hB := hB.trans (hb.mono hB.size)
              clear hb c0 c1 c2 c3 c4 a0 a1 a2 a3
              obtain ⟨c0, c1, c2, c3, c4⟩ := cells5 hF
              obtain ⟨a0, a1, a2, a3⟩ := cells4 hA
              rw [Hwo.out]
              cases wo with
              | true =>
                have HE := Lib.hid (HP4.out.trans (if_pos rfl))
                clear HP4
                go_wp2_with fail
                refine bodyPost_ret (results_tmp2 rfl _ _ _) rfl ?_
                rw [HE.out]
                exact ⟨⟨_, rfl, World.ownsRow_nil _ _ _ _⟩, hB⟩
              | false =>
                have HE := Lib.hid (HP4.out.trans (if_neg (by decide)))
                clear HP4
                go_wp2_with fail
                refine (HF.out 1 (by decide) g1 q1 Hg1l.out Hq1l.out _).mono ?_
                rintro e w5 ⟨⟨v, rfl, own⟩, hb⟩
                rw [Hfr.out] at own
                go_wp2_with fail
                refine bodyPost_ret (results_tmp2 rfl _ _ _) rfl ?_
                have hsz2 := hB.size
                rw [HE.out]
                exact ⟨⟨_, rfl, own_weaken own (by omega)⟩, hB.trans (hb.mono hB.size)⟩
      · have hz2 := hB.size
        have hA := heap_alloc_new w2 (.cells #[.int .i64 1, .int .u64 g, .int .u64 q, .int .u64 d0] 78)
        replace hF := (heap_alloc_old w2 (.cells #[.int .i64 1, .int .u64 g, .int .u64 q, .int .u64 d0] 78) _ (block_lt hF)).trans hF
        replace hB := hB.alloc hB.size (.cells #[.int .i64 1, .int .u64 g, .int .u64 q, .int .u64 d0] 78)
        have hns := Dw.next_le (f.b)
        rw [show f.bk 1 = f.b from rfl, show Dw.other 1 = 0 from rfl] at HP
        obtain ⟨c0, c1, c2, c3, c4⟩ := cells5 hF
        obtain ⟨a0, a1, a2, a3⟩ := cells4 hA
        go_wp2_with fail
        generalize w2.alloc _ = W at *
        generalize w2.heap.size = ga at *
        refine wp_pure (List.range 11) 11 (by kernel_rfl) (by kernel_rfl) rfl ?_
        rw [show List.range 11 = [0, 1, 2, 3, 4, 5, 6, 7, 8, 9, 10] from rfl]
        (refine pl_value (v := ?_) rfl rfl ?_ ?_; rotate_left 1; (focus (intro w' hk; have k0 := look hk a0; have k1 := look hk c1; go_simp; (first | done | with_reducible rfl | exact rfl))); (try simp only [Act.put, List.setIfInBounds_toArray, List.set_cons_zero, List.set_cons_succ]))
        (refine pl_value (v := ?_) rfl rfl ?_ ?_; rotate_left 1; (focus (intro w' hk; have k0 := look hk a0; have k1 := look hk c1; go_simp; (first | done | with_reducible rfl | exact rfl))); (try simp only [Act.put, List.setIfInBounds_toArray, List.set_cons_zero, List.set_cons_succ]))
        (refine pl_call (v := ?_) (f := ?_) (args := ?_) rfl rfl ?_ ?_ ?_; rotate_left 3; (focus (intro w' hk; have k0 := look hk a0; have k1 := look hk c1; go_simp; (first | done | (constructor <;> with_reducible rfl) | with_reducible rfl))); (focus (intro w' hk; exact other_any _ 1 rfl (by decide) w')); (try simp only [Act.put, List.setIfInBounds_toArray, List.set_cons_zero, List.set_cons_succ]))
        (refine pl_value (v := ?_) rfl rfl ?_ ?_; rotate_left 1; (focus (intro w' hk; have k0 := look hk a0; have k1 := look hk c1; go_simp; (first | done | with_reducible rfl | exact rfl))); (try simp only [Act.put, List.setIfInBounds_toArray, List.set_cons_zero, List.set_cons_succ]))
        (refine pl_value (v := ?_) rfl rfl ?_ ?_; rotate_left 1; (focus (intro w' hk; have k0 := look hk a0; have k1 := look hk c1; go_simp; (first | done | with_reducible rfl | exact rfl))); (try simp only [Act.put, List.setIfInBounds_toArray, List.set_cons_zero, List.set_cons_succ]))
        (refine pl_value (v := ?_) rfl rfl ?_ ?_; rotate_left 1; (focus (intro w' hk; have k0 := look hk a0; have k1 := look hk c1; go_simp; (first | done | with_reducible rfl | exact rfl))); (try simp only [Act.put, List.setIfInBounds_toArray, List.set_cons_zero, List.set_cons_succ]))
        (refine pl_value (v := ?_) rfl rfl ?_ ?_; rotate_left 1; (focus (intro w' hk; have k0 := look hk a0; have k1 := look hk c1; go_simp; (first | done | with_reducible rfl | exact rfl))); (try simp only [Act.put, List.setIfInBounds_toArray, List.set_cons_zero, List.set_cons_succ]))
        (refine pl_value (v := ?_) rfl rfl ?_ ?_; rotate_left 1; (focus (intro w' hk; have k0 := look hk a0; have k1 := look hk c1; go_simp; (first | done | with_reducible rfl | exact rfl))); (try simp only [Act.put, List.setIfInBounds_toArray, List.set_cons_zero, List.set_cons_succ]))
        (refine pl_call (v := ?_) (f := ?_) (args := ?_) rfl rfl ?_ ?_ ?_; rotate_left 3; (focus (intro w' hk; have k0 := look hk a0; have k1 := look hk c1; go_simp; (first | done | (constructor <;> with_reducible rfl) | with_reducible rfl))); (focus (intro w' hk; exact next_any (f.b) (by first | exact hf.a | exact hf.b) w')); (try simp only [Act.put, List.setIfInBounds_toArray, List.set_cons_zero, List.set_cons_succ]))
        (refine pl_value (v := ?_) rfl rfl ?_ ?_; rotate_left 1; (focus (intro w' hk; have k0 := look hk a0; have k1 := look hk c1; go_simp; (first | done | with_reducible rfl | exact rfl))); (try simp only [Act.put, List.setIfInBounds_toArray, List.set_cons_zero, List.set_cons_succ]))
        (refine pl_value (v := ?_) rfl rfl ?_ ?_; rotate_left 1; (focus (intro w' hk; have k0 := look hk a0; have k1 := look hk c1; go_simp; (first | done | with_reducible rfl | exact rfl))); (try simp only [Act.put, List.setIfInBounds_toArray, List.set_cons_zero, List.set_cons_succ]))
        refine pl_nil ?_
        intro W3 hk3
        simp only [List.drop_succ_cons, List.drop_zero]
        replace hF := (hk3.block _ (block_lt hF) id).trans hF
        replace hA := (hk3.block _ (block_lt hA) id).trans hA
        replace hB := hB.trans (hk3.whole.mono hB.size)
        clear hk3 c0 c1 c2 c3 c4 a0 a1 a2 a3
        obtain ⟨c0, c1, c2, c3, c4⟩ := cells5 hF
        obtain ⟨a0, a1, a2, a3⟩ := cells4 hA
        rw [show Dw.other 1 = 0 from rfl]
        generalize Dw.next (f.b) = nx at *
        have hsz := hB.size
        by_cases e1 : q = 18446744073709551615
        · have HE := Lib.hid (show Dw.plan f d = ([], 11) from by rw [HP.out, if_pos e1])
          have b1 : ((q : Int) == 18446744073709551615) = true := by rw [beq_iff_eq]; omega
          clear e1 HP
          go_wp2_with fail
          refine bodyPost_ret (results_tmp2 rfl _ _ _) rfl ?_
          rw [HE.out]
          exact ⟨⟨_, rfl, World.ownsRow_nil _ _ _ _⟩, hB⟩
        · have b1 : ((q : Int) == 18446744073709551615) = false := by rw [beq_eq_false_iff_ne]; omega
          have hq1e : q1 = q + 1 := by have := Hq1.out; have := Hq.out; omega
          have hp2 := HP.out.trans (if_neg e1)
          rw [← hq1e] at hp2
          have HP2 := Lib.hid hp2
          clear HP e1 hq1e hp2
          by_cases e2 : 0 < nx
          · have HE := Lib.hid (HP2.out.trans (if_pos e2))
            clear HP2
            have b2 : (0 : Int) < (nx : Int) := by omega
            go_wp2_with fail
            refine (HA.out 1 nx q1 (by omega) Hq1l.out _).mono ?_
            rintro e w4 ⟨⟨v, rfl, own⟩, hb⟩
            go_wp2_with fail
            refine bodyPost_ret (results_tmp2 rfl _ _ _) rfl ?_
            rw [HE.out]
            exact ⟨⟨_, rfl, own_weaken own (by omega)⟩, hB.trans (hb.mono hB.size)⟩
          · have b2 : ¬ (0 : Int) < (nx : Int) := by omega
            have HP3 := Lib.hid (HP2.out.trans (if_neg e2))
            clear e2 HP2
            by_cases e3 : g = 18446744073709551615
            · have b3 : ((g : Int) == 18446744073709551615) = true := by rw [beq_iff_eq]; omega
              have HE := Lib.hid (HP3.out.trans (if_pos e3))
              clear e3 HP3
              go_wp2_with fail
              refine bodyPost_ret (results_tmp2 rfl _ _ _) rfl ?_
              rw [HE.out]
              exact ⟨⟨_, rfl, World.ownsRow_nil _ _ _ _⟩, hB⟩
            · have b3 : ((g : Int) == 18446744073709551615) = false := by rw [beq_eq_false_iff_ne]; omega
              have hg1e : g1 = g + 1 := by have := Hg1.out; have := Hg.out; omega
              have hp4 := HP3.out.trans (if_neg e3)
              rw [← hg1e] at hp4
              have HP4 := Lib.hid hp4
              clear e3 hg1e HP3 hp4
              generalize hfr : Dw.freshF f 0 g1 q1 d = fr at *
              have Hfr := Lib.hid hfr
              clear hfr
              generalize hwo : Dw.wornB f 0 = wo at *
              have Hwo := Lib.hid hwo
              clear hwo
              go_wp2_with fail
              refine (worn_any f 0 (by decide) _).mono ?_
              rintro e w4 ⟨rfl, hb⟩
              replace hF := (hb.block _ (block_lt hF)).trans hF
              replace hA := (hb.block _ (block_lt hA)).trans hA
              replace hB := hB.trans (hb.mono hB.size)
              clear hb c0 c1 c2 c3 c4 a0 a1 a2 a3
              obtain ⟨c0, c1, c2, c3, c4⟩ := cells5 hF
              obtain ⟨a0, a1, a2, a3⟩ := cells4 hA
              rw [Hwo.out]
              cases wo with
              | true =>
                have HE := Lib.hid (HP4.out.trans (if_pos rfl))
                clear HP4
                go_wp2_with fail
                refine bodyPost_ret (results_tmp2 rfl _ _ _) rfl ?_
                rw [HE.out]
                exact ⟨⟨_, rfl, World.ownsRow_nil _ _ _ _⟩, hB⟩
              | false =>
                have HE := Lib.hid (HP4.out.trans (if_neg (by decide)))
                clear HP4
                go_wp2_with fail
                refine (HF.out 0 (by decide) g1 q1 Hg1l.out Hq1l.out _).mono ?_
                rintro e w5 ⟨⟨v, rfl, own⟩, hb⟩
                rw [Hfr.out] at own
                go_wp2_with fail
                refine bodyPost_ret (results_tmp2 rfl _ _ _) rfl ?_
                have hsz2 := hB.size
                rw [HE.out]
                exact ⟨⟨_, rfl, own_weaken own (by omega)⟩, hB.trans (hb.mono hB.size)⟩
end Go.Proofs.YtaniehjhmjecjaaGreatDoor
