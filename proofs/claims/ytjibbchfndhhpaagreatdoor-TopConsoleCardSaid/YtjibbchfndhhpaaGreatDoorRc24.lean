/- What the statement's proof stands on, part 24: Fresh, First. -/
import Derived.Test.YtjibbchfndhhpaaGreatDoorRc23
set_option linter.unusedSimpArgs false
set_option linter.unusedVariables false
set_option maxRecDepth 100000
set_option maxHeartbeats 4000000
namespace Go.Proofs.YtjibbchfndhhpaaGreatDoor
open Go.RowKit Go.Shelf
attribute [local go_sem] Oper.semAt_some
theorem own_weaken {B B' : Nat} {w : World} {v : Value} {ops : List Dw.Op} (h : OwnOps B' w v ops) (hB : B ≤ B') : OwnOps B w v ops := by
  refine ⟨h.1, h.2.imp id ?_⟩
  rintro ⟨g, cap, cur, h1, h2, h3⟩
  exact ⟨g, cap, cur, h1, Nat.le_trans hB h2, h3⟩
theorem own_below {B : Nat} {w w' : World} {v : Value} {ops : List Dw.Op} (h : OwnOps B w v ops) (hk : Keep w w') : OwnOps B w' v ops := ownsRow_keep h hk (fun _ _ h => h)
theorem news_one {w : World} {b : Nat} {o : Dw.Op} (h : w.heap[b]? = some (.cells (opC o) 243 (0, 0))) : ∀ (j : Nat) (u : Value), (opsCells [o])[j]? = some u → w.cell? ((⟨b, 0, none⟩ : Addr).add j) = some u := by
  intro j u hu
  rw [addr_add, cell_of_row _ _ j _ _ _ h]
  rw [opsCells_cons, show opsCells [] = [] from rfl, List.append_nil, Array.getElem?_toList] at hu
  exact hu
theorem append_one {ops : Array Oper} {rest : List Oper} {o : Oper} {a : Act} {Q : Exit → Act → World → Prop} {w W : World} (hgd : o.guard = none) (s x : Operand)
    (ho : o.op = .call { callee := .builtin .append, args := #[s, x], argTypes := #[181, 181] }) {B : Nat} (hB : Below B W w) (hBW : B ≤ W.heap.size)
    {v : Value} {l : List Dw.Op} {p : Dw.Op} {g m c : Nat} (hs : a.eval s = v) (hown : OwnOps B w v l) (hl : l.length ≤ 100) (hx : a.eval x = .slice (some ⟨g, 0, none⟩) m c) (hm : m = 1) (hg : w.heap[g]? = some (.cells (opC p) 243 (0, 0)))
    (h : ∀ v' w', OwnOps B w' v' (l ++ [p]) → KeepBut (fun k => B ≤ k ∧ ∃ c, v = .slice (some ⟨k, 0, none⟩) l.length c) w w' → Below B W w' → wpList Tryz.prog ops Q rest (a.put o.dst v') w') : wpList Tryz.prog ops Q (o :: rest) a w := by
  subst hm
  obtain ⟨i0, hi, hz0, hz1, hz2⟩ := info_parts infoOp
  refine wpList_append_own _ hgd s x _ ho B 243 i0 _ 4 40 Tryz.underlying181 hi hz0 hz1 hz2 rfl (by decide) v _ _ hs hown ⟨g, 0, none⟩ 1 c (opsCells [p]) hx (by rw [opsCells_len]; rfl) (news_one hg) (opsCells_one [p]) (Nat.le_trans (Nat.add_le_add_right hl 1) (by decide)) (Nat.le_trans (Nat.mul_le_mul_right 40 (Nat.add_le_add_right hl 1)) (by decide)) (Nat.le_trans hBW hB.size) ?_
  intro v2 w2 hown2 hgrow2 _
  have hkb : KeepBut (fun k => B ≤ k ∧ ∃ c, v = .slice (some ⟨k, 0, none⟩) l.length c) w w2 := (KeepBut.refl _ w).grown hgrow2 (fun g e => by
    rcases hown.2 with ⟨h1, _⟩ | ⟨g', cap, cur, h1, h2, _⟩
    · rw [h1] at e; cases e
    · rw [h1] at e
      obtain rfl : g' = g := by simpa [Value.ownBlock] using e
      exact ⟨h2, cap, h1⟩)
  refine h v2 w2 ?_ hkb (hB.trans (hkb.below (Nat.le_trans hBW hB.size) (fun _ h => h.1)))
  have := hown2
  rw [← opsCells_append] at this
  rw [OwnOps, List.length_append]
  exact this
theorem pfresh_true (b : Nat) (g q d : Nat) (hg : g < 18446744073709551616) (hq : q < 18446744073709551616) (hd : d < 18446744073709551616) (w : World) :
    Calls Tryz.prog 192 #[.int .i64 b, .bool true, .int .u64 g, .int .u64 q, .int .u64 d] w fun e w' => (∃ v, e = .returned v ∧ OwnOps w.heap.size w' v (Dw.freshOps b true g q d)) ∧ Below w.heap.size w w' := by
  have H3 := Lib.hid (fun w => write_any b 1 (by decide) 3 q d (by decide) hq hd w)
  have H1 := Lib.hid (fun w => write_any b 0 (by decide) 1 g 0 (by decide) hg (by decide) w)
  clear hg hq hd
  have hBw := (Below.refl w.heap.size w).alloc (Nat.le_refl _) (.cells #[.int .i64 b] 281)
  have hM := han w (.cells #[.int .i64 b] 281)
  obtain ⟨W0, hW0⟩ : ∃ W0, w.alloc (.cells #[.int .i64 b] 281) = W0 := ⟨_, rfl⟩
  have hs0 : W0.heap.size = w.heap.size + 1 := by rw [← hW0]; simp
  rw [hW0] at hBw hM
  have hB0 := Below.refl W0.heap.size W0
  have c0 := cells1 hM
  go_enter Tryz.func192, Tryz.ntmps192
  go_wp2_with fail
  refine cb (mprogram_any b 0 0 rfl [0, 0] _) fun w1 hb => ?_
  replace hM := kp hb hM
  replace hB0 := tr hB0 hb
  clear hb c0 hW0
  have hn1 := han w1 (.cells (opC ⟨1, b, 0, [0, 0]⟩) 243)
  have hM1 := hao w1 (.cells (opC ⟨1, b, 0, [0, 0]⟩) 243) hM
  have hB1 := hB0.alloc hB0.size (.cells (opC ⟨1, b, 0, [0, 0]⟩) 243)
  go_wp2_with (at_builtin; first | (refine append_one (by rfl) _ _ (by rfl) hB1 (Nat.le_refl _) (l := []) (by rfl) (World.ownsRow_nil _ _ _ _) (by decide) (by rfl) rfl hn1 ?_; intro v2 w2 own2 hk2 hB2; have hM2 := (hk2.block _ (block_lt hM1) (by rintro ⟨h, c, e⟩; omega)).trans hM1; have hn2 := han w2 (.cells (opC ⟨2, b, 0, []⟩) 243); have hM3 := hao w2 (.cells (opC ⟨2, b, 0, []⟩) 243) hM2; have hB3 := hB2.alloc hB2.size (.cells (opC ⟨2, b, 0, []⟩) 243); have own3 := own_below own2 ((KeepBut.refl (fun _ => False) w2).alloc (.cells (opC ⟨2, b, 0, []⟩) 243)); clear hM1 hB1 hn1 hk2 hM2 hB2 own2) | (go_loud (refine append_one (by rfl) _ _ (by rfl) hB3 (Nat.le_refl _) (by rfl) own3 (by simp) (by rfl) rfl hn2 ?_; intro v4 w4 own4 hk4 hB4; have hM4 := (hk4.block _ (block_lt hM3) (by rintro ⟨h, c, e⟩; omega)).trans hM3; clear hM3 hB3 own3 hn2 hk4)))
  have c0 := cells1 hM4
  have P4 := own_part own4 (by simp)
  clear own4
  refine wp_letters [0, 1, 2, 3, 4, 6, 7, 8] [5, 9, 10, 11] 12 (by kernel_rfl) (by kernel_rfl) (by kernel_rfl) rfl ?_
  (apply rat; (focus (intro w' hk; have k0 := look hk c0; (iterate 8 (refine' rv ?_ rfl rfl (by go_simp; first | done | with_reducible rfl | exact rfl); try simp only [Act.put, List.setIfInBounds_toArray, List.set_cons_zero, List.set_cons_succ])); (exact rn))))
  (refine ll_call (f := ?_) (args := ?_) rfl rfl ?_ ?_; rotate_left 2; (focus (intro w' hk; go_simp; (first | done | (constructor <;> with_reducible rfl) | with_reducible rfl))))
  intro w5 hk5
  refine (H3.out _).mono ?_
  rintro e w6 ⟨⟨v6, rfl, own6⟩, hb6⟩
  refine ⟨v6, rfl, KeepBut.of_below' hb6, ?_⟩
  (try simp only [Act.put, List.setIfInBounds_toArray, List.set_cons_zero, List.set_cons_succ])
  replace P4 := (P4.keep hk5.whole).keep hb6
  have P6 := own_part own6 (by simp)
  replace hB4 := (hB4.trans (hk5.whole.mono hB4.size)).trans (hb6.mono (Nat.le_trans hB4.size hk5.size))
  clear own6 hk5 hb6 hM4 c0
  (refine ll_call (f := ?_) (args := ?_) rfl rfl ?_ ?_; rotate_left 2; (focus (intro w' hk; go_simp; (first | done | (constructor <;> with_reducible rfl) | with_reducible rfl))))
  intro w7 hk7
  refine (H1.out _).mono ?_
  rintro e w8 ⟨⟨v8, rfl, own8⟩, hb8⟩
  refine ⟨v8, rfl, KeepBut.of_below' hb8, ?_⟩
  (try simp only [Act.put, List.setIfInBounds_toArray, List.set_cons_zero, List.set_cons_succ])
  replace P4 := (P4.keep hk7.whole).keep hb8
  replace P6 := (P6.keep hk7.whole).keep hb8
  have P8 := own_part own8 (by simp)
  replace hB4 := (hB4.trans (hk7.whole.mono hB4.size)).trans (hb8.mono (Nat.le_trans hB4.size hk7.size))
  clear own8 hk7 hb8
  obtain ⟨g4, cap4, rfl, hg4, hc4⟩ := P4
  obtain ⟨g6, cap6, rfl, hg6, hc6⟩ := P6
  obtain ⟨g8, cap8, rfl, hg8, hc8⟩ := P8
  refine ll_value rfl rfl fun w9 hk9 => ⟨.slice (some ⟨w9.heap.size, 0, none⟩) 3 3, w9.alloc (.cells #[.slice (some ⟨g4, 0, none⟩) 2 cap4, .slice (some ⟨g6, 0, none⟩) 2 cap6, .slice (some ⟨g8, 0, none⟩) 2 cap8] 181), ?_, (KeepBut.refl _ _).alloc _, ?_⟩
  · go_simp
  (try simp only [Act.put, List.setIfInBounds_toArray, List.set_cons_zero, List.set_cons_succ])
  have P4 : PartAt w9 _ _ := PartAt.keep ⟨g4, cap4, rfl, hg4, hc4⟩ hk9.whole
  have P6 : PartAt w9 _ _ := PartAt.keep ⟨g6, cap6, rfl, hg6, hc6⟩ hk9.whole
  have P8 : PartAt w9 _ _ := PartAt.keep ⟨g8, cap8, rfl, hg8, hc8⟩ hk9.whole
  replace hB4 := hB4.trans (hk9.whole.mono hB4.size)
  clear hk9 hg4 hc4 hg6 hc6 hg8 hc8
  have hnw := han w9 (.cells #[.slice (some ⟨g4, 0, none⟩) 2 cap4, .slice (some ⟨g6, 0, none⟩) 2 cap6, .slice (some ⟨g8, 0, none⟩) 2 cap8] 181)
  have hBa := hB4.alloc hB4.size (.cells #[.slice (some ⟨g4, 0, none⟩) 2 cap4, .slice (some ⟨g6, 0, none⟩) 2 cap6, .slice (some ⟨g8, 0, none⟩) 2 cap8] 181)
  have ka : Below w9.heap.size w9 (w9.alloc (.cells #[.slice (some ⟨g4, 0, none⟩) 2 cap4, .slice (some ⟨g6, 0, none⟩) 2 cap6, .slice (some ⟨g8, 0, none⟩) 2 cap8] 181)) := (Below.refl _ _).alloc (Nat.le_refl _) _
  replace P4 := P4.keep ka
  replace P6 := P6.keep ka
  replace P8 := P8.keep ka
  clear ka
  (refine ll_call (f := ?_) (args := ?_) rfl rfl ?_ ?_; rotate_left 2; (focus (intro w' hk; go_simp; (first | done | (constructor <;> with_reducible rfl) | with_reducible rfl))))
  intro wa hka
  replace P4 := P4.keep hka.whole
  replace P6 := P6.keep hka.whole
  replace P8 := P8.keep hka.whole
  have hnb := kpi hka hnw
  obtain ⟨x0, x1, x2⟩ := cells3 hnb
  replace hBa := hBa.trans (hka.whole.mono hBa.size)
  refine (gather_any w9.heap.size 3 3 [(_, [⟨1, b, 0, [0, 0]⟩, ⟨2, b, 0, []⟩]), (_, [⟨1, b, 24 * 1 + 0, Dw.body 3 q d⟩, ⟨1, b, 24 * 1 + 22, [90, 60]⟩]), (_, [⟨1, b, 24 * 0 + 0, Dw.body 1 g 0⟩, ⟨1, b, 24 * 0 + 22, [90, 60]⟩])] rfl (by decide) (fun k => by rcases k with _ | _ | _ | k <;> simp) wa (block_lt hnb) (fun i p hp => by
    rcases i with _ | _ | _ | i
    · obtain rfl := Option.some.inj hp; exact ⟨x0, P4⟩
    · obtain rfl := Option.some.inj hp; exact ⟨x1, P6⟩
    · obtain rfl := Option.some.inj hp; exact ⟨x2, P8⟩
    · simp at hp)).mono ?_
  rintro e wb ⟨⟨vb, rfl, ownb⟩, hbb⟩
  refine ⟨vb, rfl, KeepBut.of_below' hbb, ?_⟩
  (try simp only [Act.put, List.setIfInBounds_toArray, List.set_cons_zero, List.set_cons_succ])
  intro wc hkc
  simp only [List.drop_succ_cons, List.drop_zero]
  go_wp2_with fail
  go_ret
  have hsz := hBa.size
  refine ⟨⟨_, rfl, own_weaken (own_below ownb hkc) (by omega)⟩, ?_⟩
  have b1 := (hBa.trans (hbb.mono hBa.size))
  exact hBw.trans ((b1.trans (hkc.whole.mono b1.size)).mono (by omega))
theorem pfresh_false (b : Nat) (g q d : Nat) (hg : g < 18446744073709551616) (hq : q < 18446744073709551616) (hd : d < 18446744073709551616) (w : World) :
    Calls Tryz.prog 192 #[.int .i64 b, .bool false, .int .u64 g, .int .u64 q, .int .u64 d] w fun e w' => (∃ v, e = .returned v ∧ OwnOps w.heap.size w' v (Dw.freshOps b false g q d)) ∧ Below w.heap.size w w' := by
  have H3 := Lib.hid (fun w => write_any b 1 (by decide) 3 q d (by decide) hq hd w)
  have H1 := Lib.hid (fun w => write_any b 0 (by decide) 1 g 0 (by decide) hg (by decide) w)
  clear hg hq hd
  have hBw := (Below.refl w.heap.size w).alloc (Nat.le_refl _) (.cells #[.int .i64 b] 281)
  have hM := han w (.cells #[.int .i64 b] 281)
  obtain ⟨W0, hW0⟩ : ∃ W0, w.alloc (.cells #[.int .i64 b] 281) = W0 := ⟨_, rfl⟩
  have hs0 : W0.heap.size = w.heap.size + 1 := by rw [← hW0]; simp
  rw [hW0] at hBw hM
  have hB0 := Below.refl W0.heap.size W0
  have c0 := cells1 hM
  go_enter Tryz.func192, Tryz.ntmps192
  have hn2 := han W0 (.cells (opC ⟨2, b, 0, []⟩) 243)
  rw [hs0] at hn2
  have hM3 := hao W0 (.cells (opC ⟨2, b, 0, []⟩) 243) hM
  have hB3 := hB0.alloc hB0.size (.cells (opC ⟨2, b, 0, []⟩) 243)
  go_wp2_with (at_builtin; (go_loud (refine append_one (by rfl) _ _ (by rfl) hB3 (Nat.le_refl _) (l := []) (by rfl) (World.ownsRow_nil _ _ _ _) (by decide) (by rfl) rfl hn2 ?_; intro v4 w4 own4 hk4 hB4; have hM4 := (hk4.block _ (block_lt hM3) (by rintro ⟨h, c, e⟩; omega)).trans hM3; clear hM3 hB3 hn2 hk4)))
  have c0 := cells1 hM4
  have P4 := own_part own4 (by simp)
  clear own4
  refine wp_letters [0, 1, 2, 3, 4, 6, 7, 8] [5, 9, 10, 11] 12 (by kernel_rfl) (by kernel_rfl) (by kernel_rfl) rfl ?_
  (apply rat; (focus (intro w' hk; have k0 := look hk c0; (iterate 8 (refine' rv ?_ rfl rfl (by go_simp; first | done | with_reducible rfl | exact rfl); try simp only [Act.put, List.setIfInBounds_toArray, List.set_cons_zero, List.set_cons_succ])); (exact rn))))
  (refine ll_call (f := ?_) (args := ?_) rfl rfl ?_ ?_; rotate_left 2; (focus (intro w' hk; go_simp; (first | done | (constructor <;> with_reducible rfl) | with_reducible rfl))))
  intro w5 hk5
  refine (H3.out _).mono ?_
  rintro e w6 ⟨⟨v6, rfl, own6⟩, hb6⟩
  refine ⟨v6, rfl, KeepBut.of_below' hb6, ?_⟩
  (try simp only [Act.put, List.setIfInBounds_toArray, List.set_cons_zero, List.set_cons_succ])
  replace P4 := (P4.keep hk5.whole).keep hb6
  have P6 := own_part own6 (by simp)
  replace hB4 := (hB4.trans (hk5.whole.mono hB4.size)).trans (hb6.mono (Nat.le_trans hB4.size hk5.size))
  clear own6 hk5 hb6 hM4 c0
  (refine ll_call (f := ?_) (args := ?_) rfl rfl ?_ ?_; rotate_left 2; (focus (intro w' hk; go_simp; (first | done | (constructor <;> with_reducible rfl) | with_reducible rfl))))
  intro w7 hk7
  refine (H1.out _).mono ?_
  rintro e w8 ⟨⟨v8, rfl, own8⟩, hb8⟩
  refine ⟨v8, rfl, KeepBut.of_below' hb8, ?_⟩
  (try simp only [Act.put, List.setIfInBounds_toArray, List.set_cons_zero, List.set_cons_succ])
  replace P4 := (P4.keep hk7.whole).keep hb8
  replace P6 := (P6.keep hk7.whole).keep hb8
  have P8 := own_part own8 (by simp)
  replace hB4 := (hB4.trans (hk7.whole.mono hB4.size)).trans (hb8.mono (Nat.le_trans hB4.size hk7.size))
  clear own8 hk7 hb8
  obtain ⟨g4, cap4, rfl, hg4, hc4⟩ := P4
  obtain ⟨g6, cap6, rfl, hg6, hc6⟩ := P6
  obtain ⟨g8, cap8, rfl, hg8, hc8⟩ := P8
  refine ll_value rfl rfl fun w9 hk9 => ⟨.slice (some ⟨w9.heap.size, 0, none⟩) 3 3, w9.alloc (.cells #[.slice (some ⟨g4, 0, none⟩) 1 cap4, .slice (some ⟨g6, 0, none⟩) 2 cap6, .slice (some ⟨g8, 0, none⟩) 2 cap8] 181), ?_, (KeepBut.refl _ _).alloc _, ?_⟩
  · go_simp
  (try simp only [Act.put, List.setIfInBounds_toArray, List.set_cons_zero, List.set_cons_succ])
  have P4 : PartAt w9 _ _ := PartAt.keep ⟨g4, cap4, rfl, hg4, hc4⟩ hk9.whole
  have P6 : PartAt w9 _ _ := PartAt.keep ⟨g6, cap6, rfl, hg6, hc6⟩ hk9.whole
  have P8 : PartAt w9 _ _ := PartAt.keep ⟨g8, cap8, rfl, hg8, hc8⟩ hk9.whole
  replace hB4 := hB4.trans (hk9.whole.mono hB4.size)
  clear hk9 hg4 hc4 hg6 hc6 hg8 hc8
  have hnw := han w9 (.cells #[.slice (some ⟨g4, 0, none⟩) 1 cap4, .slice (some ⟨g6, 0, none⟩) 2 cap6, .slice (some ⟨g8, 0, none⟩) 2 cap8] 181)
  have hBa := hB4.alloc hB4.size (.cells #[.slice (some ⟨g4, 0, none⟩) 1 cap4, .slice (some ⟨g6, 0, none⟩) 2 cap6, .slice (some ⟨g8, 0, none⟩) 2 cap8] 181)
  have ka : Below w9.heap.size w9 (w9.alloc (.cells #[.slice (some ⟨g4, 0, none⟩) 1 cap4, .slice (some ⟨g6, 0, none⟩) 2 cap6, .slice (some ⟨g8, 0, none⟩) 2 cap8] 181)) := (Below.refl _ _).alloc (Nat.le_refl _) _
  replace P4 := P4.keep ka
  replace P6 := P6.keep ka
  replace P8 := P8.keep ka
  clear ka
  (refine ll_call (f := ?_) (args := ?_) rfl rfl ?_ ?_; rotate_left 2; (focus (intro w' hk; go_simp; (first | done | (constructor <;> with_reducible rfl) | with_reducible rfl))))
  intro wa hka
  replace P4 := P4.keep hka.whole
  replace P6 := P6.keep hka.whole
  replace P8 := P8.keep hka.whole
  have hnb := kpi hka hnw
  obtain ⟨x0, x1, x2⟩ := cells3 hnb
  replace hBa := hBa.trans (hka.whole.mono hBa.size)
  refine (gather_any w9.heap.size 3 3 [(_, [⟨2, b, 0, []⟩]), (_, [⟨1, b, 24 * 1 + 0, Dw.body 3 q d⟩, ⟨1, b, 24 * 1 + 22, [90, 60]⟩]), (_, [⟨1, b, 24 * 0 + 0, Dw.body 1 g 0⟩, ⟨1, b, 24 * 0 + 22, [90, 60]⟩])] rfl (by decide) (fun k => by rcases k with _ | _ | _ | k <;> simp) wa (block_lt hnb) (fun i p hp => by
    rcases i with _ | _ | _ | i
    · obtain rfl := Option.some.inj hp; exact ⟨x0, P4⟩
    · obtain rfl := Option.some.inj hp; exact ⟨x1, P6⟩
    · obtain rfl := Option.some.inj hp; exact ⟨x2, P8⟩
    · simp at hp)).mono ?_
  rintro e wb ⟨⟨vb, rfl, ownb⟩, hbb⟩
  refine ⟨vb, rfl, KeepBut.of_below' hbb, ?_⟩
  (try simp only [Act.put, List.setIfInBounds_toArray, List.set_cons_zero, List.set_cons_succ])
  intro wc hkc
  simp only [List.drop_succ_cons, List.drop_zero]
  go_wp2_with fail
  go_ret
  have hsz := hBa.size
  refine ⟨⟨_, rfl, own_weaken (own_below ownb hkc) (by omega)⟩, ?_⟩
  have b1 := (hBa.trans (hbb.mono hBa.size))
  exact hBw.trans ((b1.trans (hkc.whole.mono b1.size)).mono (by omega))
theorem freshA (f : Dw.Fl) (hl : (f.a).length ≤ 400) (g q d : Nat) (hg : g < 18446744073709551616) (hq : q < 18446744073709551616) (hd : d < 18446744073709551616) (w : World) :
    Calls Tryz.prog 166 #[flV f, .int .i64 0, .int .u64 g, .int .u64 q, .int .u64 d] w fun e w' => (∃ v, e = .returned v ∧ OwnOps w.heap.size w' v (Dw.freshF f 0 g q d)) ∧ Below w.heap.size w w' := by
  have HT := Lib.hid (fun w => pfresh_true 0 g q d hg hq hd w)
  have HF := Lib.hid (fun w => pfresh_false 0 g q d hg hq hd w)
  clear hg hq hd
  have hB := (Below.refl w.heap.size w).alloc (Nat.le_refl _) (.cells (flashC f.a f.b f.e0 f.e1 f.li) 41)
  have hF := han w (.cells (flashC f.a f.b f.e0 f.e1 f.li) 41)
  obtain ⟨c0, c1, c2, c3, c4⟩ := cells5 hF
  by_cases hs : Dw.state (f.a) 0 = 2
  · have HE := Lib.hid (show Dw.freshF f 0 g q d = Dw.freshOps 0 true g q d from by unfold Dw.freshF; rw [show f.bk 0 = f.a from rfl, hs]; rfl)
    have hsb : ((Dw.state (f.a) 0 : Int) == 2) = true := by rw [hs]; rfl
    clear hs
    go_enter Tryz.func166, Tryz.ntmps166
    go_wp2_with fail
    refine cb (state_any (f.a) hl 0 0 rfl _) fun w1 hb => ?_
    replace hB := tr hB hb
    clear hb hF c0 c1 c2 c3 c4
    generalize Dw.state (f.a) 0 = st at *
    go_wp2_with fail
    refine (HT.out _).mono ?_
    rintro e w2 ⟨⟨v, rfl, own⟩, hb⟩
    go_wp2_with fail
    go_ret
    have hsz := hB.size
    exact ⟨⟨_, rfl, by rw [HE.out]; exact own_weaken own (by omega)⟩, hB.trans (hb.mono hB.size)⟩
  · have HE := Lib.hid (show Dw.freshF f 0 g q d = Dw.freshOps 0 false g q d from by unfold Dw.freshF; rw [show f.bk 0 = f.a from rfl, decide_eq_false hs])
    have hsb : ((Dw.state (f.a) 0 : Int) == 2) = false := by rw [beq_eq_false_iff_ne]; omega
    clear hs
    go_enter Tryz.func166, Tryz.ntmps166
    go_wp2_with fail
    refine cb (state_any (f.a) hl 0 0 rfl _) fun w1 hb => ?_
    replace hB := tr hB hb
    clear hb hF c0 c1 c2 c3 c4
    generalize Dw.state (f.a) 0 = st at *
    go_wp2_with fail
    refine (HF.out _).mono ?_
    rintro e w2 ⟨⟨v, rfl, own⟩, hb⟩
    go_wp2_with fail
    go_ret
    have hsz := hB.size
    exact ⟨⟨_, rfl, by rw [HE.out]; exact own_weaken own (by omega)⟩, hB.trans (hb.mono hB.size)⟩
theorem freshB (f : Dw.Fl) (hl : (f.b).length ≤ 400) (g q d : Nat) (hg : g < 18446744073709551616) (hq : q < 18446744073709551616) (hd : d < 18446744073709551616) (w : World) :
    Calls Tryz.prog 166 #[flV f, .int .i64 1, .int .u64 g, .int .u64 q, .int .u64 d] w fun e w' => (∃ v, e = .returned v ∧ OwnOps w.heap.size w' v (Dw.freshF f 1 g q d)) ∧ Below w.heap.size w w' := by
  have HT := Lib.hid (fun w => pfresh_true 1 g q d hg hq hd w)
  have HF := Lib.hid (fun w => pfresh_false 1 g q d hg hq hd w)
  clear hg hq hd
  have hB := (Below.refl w.heap.size w).alloc (Nat.le_refl _) (.cells (flashC f.a f.b f.e0 f.e1 f.li) 41)
  have hF := han w (.cells (flashC f.a f.b f.e0 f.e1 f.li) 41)
  obtain ⟨c0, c1, c2, c3, c4⟩ := cells5 hF
  by_cases hs : Dw.state (f.b) 0 = 2
  · have HE := Lib.hid (show Dw.freshF f 1 g q d = Dw.freshOps 1 true g q d from by unfold Dw.freshF; rw [show f.bk 1 = f.b from rfl, hs]; rfl)
    have hsb : ((Dw.state (f.b) 0 : Int) == 2) = true := by rw [hs]; rfl
    clear hs
    go_enter Tryz.func166, Tryz.ntmps166
    go_wp2_with fail
    refine cb (state_any (f.b) hl 0 0 rfl _) fun w1 hb => ?_
    replace hB := tr hB hb
    clear hb hF c0 c1 c2 c3 c4
    generalize Dw.state (f.b) 0 = st at *
    go_wp2_with fail
    refine (HT.out _).mono ?_
    rintro e w2 ⟨⟨v, rfl, own⟩, hb⟩
    go_wp2_with fail
    go_ret
    have hsz := hB.size
    exact ⟨⟨_, rfl, by rw [HE.out]; exact own_weaken own (by omega)⟩, hB.trans (hb.mono hB.size)⟩
  · have HE := Lib.hid (show Dw.freshF f 1 g q d = Dw.freshOps 1 false g q d from by unfold Dw.freshF; rw [show f.bk 1 = f.b from rfl, decide_eq_false hs])
    have hsb : ((Dw.state (f.b) 0 : Int) == 2) = false := by rw [beq_eq_false_iff_ne]; omega
    clear hs
    go_enter Tryz.func166, Tryz.ntmps166
    go_wp2_with fail
    refine cb (state_any (f.b) hl 0 0 rfl _) fun w1 hb => ?_
    replace hB := tr hB hb
    clear hb hF c0 c1 c2 c3 c4
    generalize Dw.state (f.b) 0 = st at *
    go_wp2_with fail
    refine (HF.out _).mono ?_
    rintro e w2 ⟨⟨v, rfl, own⟩, hb⟩
    go_wp2_with fail
    go_ret
    have hsz := hB.size
    exact ⟨⟨_, rfl, by rw [HE.out]; exact own_weaken own (by omega)⟩, hB.trans (hb.mono hB.size)⟩
theorem fresh_any (f : Dw.Fl) (hf : Dw.FlOk f) (k : Nat) (hk : k < 2) (g q d : Nat) (hg : g < 18446744073709551616) (hq : q < 18446744073709551616) (hd : d < 18446744073709551616) (w : World) :
    Calls Tryz.prog 166 #[flV f, .int .i64 k, .int .u64 g, .int .u64 q, .int .u64 d] w fun e w' => (∃ v, e = .returned v ∧ OwnOps w.heap.size w' v (Dw.freshF f k g q d)) ∧ Below w.heap.size w w' := by
  rcases (by omega : k = 0 ∨ k = 1) with rfl | rfl
  · exact freshA f hf.a g q d hg hq hd w
  · exact freshB f hf.b g q d hg hq hd w
namespace Dw
def firstP (f : Fl) (d : Nat) : List Op × Int := if wornB f 0 = false then (freshF f 0 1 1 d, 0) else if wornB f 1 = false then (freshF f 1 1 1 d, 0) else ([], 4)
end Dw
theorem first_any (f : Dw.Fl) (hf : Dw.FlOk f) (d : Nat) (hd : d < 18446744073709551616) (w : World) :
    Calls Tryz.prog 161 #[flV f, .int .u64 d] w fun e w' => (∃ v, e = .returned (.tuple #[v, .int .i64 (Dw.firstP f d).2]) ∧ OwnOps w.heap.size w' v (Dw.firstP f d).1) ∧ Below w.heap.size w w' := by
  have H := Lib.hid (fun k hk w => fresh_any f hf k hk 1 1 d (by decide) (by decide) hd w)
  clear hd
  have hB := (Below.refl w.heap.size w).alloc (Nat.le_refl _) (.cells (flashC f.a f.b f.e0 f.e1 f.li) 41)
  have hF := han w (.cells (flashC f.a f.b f.e0 f.e1 f.li) 41)
  have HP := Lib.hid (show Dw.firstP f d = if Dw.wornB f 0 = false then (Dw.freshF f 0 1 1 d, 0) else if Dw.wornB f 1 = false then (Dw.freshF f 1 1 1 d, 0) else ([], 4) from rfl)
  go_enter Tryz.func161, Tryz.ntmps161
  go_wp2_with fail
  generalize w.alloc _ = W0 at *
  go_loopw [7] (fun i wr => ∃ k : Nat, k ≤ 2 ∧ i = .int .i64 k ∧ (∀ j, j < k → Dw.wornB f j = true) ∧ wr.heap[w.heap.size]? = some (.cells (flashC f.a f.b f.e0 f.e1 f.li) 41 (0, 0)) ∧ Below w.heap.size w wr) (fun i _ => 2 - (intOf i).toNat)
  case atStart => exact ⟨0, Nat.zero_le _, rfl, fun _ h => by omega, hF, hB⟩
  case round =>
    clear hF hB
    obtain ⟨k, hk, rfl, hall, hF, hB⟩ := hrel
    by_cases hlt : k < 2
    · have hx : (k : Int) < 2 := by omega
      obtain ⟨c0, c1, c2, c3, c4⟩ := cells5 hF
      go_wp2_with fail
      refine cb (worn_any f k hlt _) fun w1 hb => ?_
      replace hF := kp hb hF
      replace hB := tr hB hb
      clear hb c0 c1 c2 c3 c4
      obtain ⟨c0, c1, c2, c3, c4⟩ := cells5 hF
      cases hw : Dw.wornB f k with
      | true =>
        have HW := Lib.hid hw
        clear hw
        go_wp2_with fail
        go_roundw
        case rel =>
          refine ⟨k + 1, by omega, by go_num, fun j hj => ?_, hF, hB⟩
          by_cases e : j = k
          · rw [e]; exact HW.out
          · exact hall j (by omega)
        case measure => simp [intOf]; omega
      | false =>
        have HE := Lib.hid (show Dw.firstP f d = (Dw.freshF f k 1 1 d, 0) from by
          rw [HP.out]
          rcases (by omega : k = 0 ∨ k = 1) with rfl | rfl
          · rw [if_pos hw]
          · rw [if_neg (by rw [hall 0 (by omega)]; decide), if_pos hw])
        clear hw hall
        go_wp2_with fail
        refine (H.out k hlt _).mono ?_
        rintro e w2 ⟨⟨v, rfl, own⟩, hb⟩
        go_wp2_with fail
        refine bodyPost_ret (results_tmp2 rfl _ _ _) rfl ?_
        have hsz := hB.size
        rw [HE.out]
        exact ⟨⟨_, rfl, own_weaken own (by omega)⟩, hB.trans (hb.mono hB.size)⟩
    · obtain rfl : k = 2 := by omega
      have HE := Lib.hid (show Dw.firstP f d = ([], 4) from by rw [HP.out, if_neg (by rw [hall 0 (by omega)]; decide), if_neg (by rw [hall 1 (by omega)]; decide)])
      clear hall
      go_wp2_with fail
      refine bodyPost_ret (results_tmp2 rfl _ _ _) rfl ?_
      rw [HE.out]
      exact ⟨⟨_, rfl, World.ownsRow_nil _ _ _ _⟩, hB⟩
end Go.Proofs.YtjibbchfndhhpaaGreatDoor
