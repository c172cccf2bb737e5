/- What the statement's proof stands on, part 40: Grow. -/
import Derived.Test.YtjibbchfndhhpaaGreatDoorRc4
import Derived.Test.YtjibbchfndhhpaaGreatDoorRc17
import Derived.ArgAppend
set_option linter.unusedSimpArgs false
set_option linter.unusedVariables false
set_option maxRecDepth 100000
set_option maxHeartbeats 4000000
namespace Go.Proofs.YtjibbchfndhhpaaGreatDoor
open Go.RowKit Go.Shelf
theorem addr0 (b j : Nat) : (⟨b, 0, none⟩ : Addr).add j = ⟨b, j, none⟩ := by rw [Addr.add_lit, Nat.zero_add]
theorem own_setRow {w : World} {B n k : Nat} {e : TypeId} {v : Value} {xs : List Value} (h : w.ownsRow B e k v n xs) {g : Nat} (hg : g < B) (c : Array Value) : (w.setRow g c).ownsRow B e k v n xs := by
  obtain ⟨hl, h | ⟨b, cap, cur, h1, h2, h3, h4⟩⟩ := h
  · exact ⟨hl, .inl h⟩
  · exact ⟨hl, .inr ⟨b, cap, cur, h1, h2, (setRow_other w g b c (by omega)).trans h3, h4⟩⟩
theorem own_setCell {w : World} {B n k : Nat} {e : TypeId} {v : Value} {xs : List Value} (h : w.ownsRow B e k v n xs) {g : Nat} (hg : g < B) (o : Nat) (u : Value) : (w.setCell ⟨g, o, none⟩ u).ownsRow B e k v n xs := by
  obtain ⟨hl, h | ⟨b, cap, cur, h1, h2, h3, h4⟩⟩ := h
  · exact ⟨hl, .inl h⟩
  · exact ⟨hl, .inr ⟨b, cap, cur, h1, h2, (heap_setCell_other w ⟨g, o, none⟩ b u (by show b ≠ g; omega)).trans h3, h4⟩⟩
def SlAt (w : World) (v : Value) (n : Nat) (cs : List Value) : Prop :=
  ∃ ao cap, v = .slice ao n cap ∧ n ≤ cap ∧ (ao = none → n = 0) ∧ ∀ b, ao = some b → ∀ j u, cs[j]? = some u → w.cell? (b.add j) = some u
theorem SlAt.next {w w' : World} {v : Value} {n : Nat} {cs : List Value} (h : SlAt w v n cs) (hb : Below w.heap.size w w') : SlAt w' v n cs := by
  obtain ⟨ao, cap, h1, h2, h3, h4⟩ := h
  refine ⟨ao, cap, h1, h2, h3, fun b hb' j u hj => ?_⟩
  have q := h4 b hb' j u hj
  exact (hb.cell (lt_of_cell q)).trans q
theorem SlAt.keep {w w' : World} {v : Value} {n : Nat} {cs : List Value} (h : SlAt w v n cs) (hk : Keep w w') : SlAt w' v n cs := h.next hk.whole
theorem slAt_own {w : World} {B : Nat} {e : TypeId} {size n : Nat} {v : Value} {xs : List Value} (h : w.ownsRow B e size v n xs) : SlAt w v n xs := by
  obtain ⟨hl, ⟨rfl, rfl⟩ | ⟨g, cap, cur, rfl, _, hg, hc, _, hs, ht⟩⟩ := h
  · exact ⟨none, 0, rfl, Nat.le_refl _, fun _ => rfl, fun _ h => by cases h⟩
  · refine ⟨_, cap, rfl, hc, (fun h => by cases h), fun b hb j u hj => ?_⟩
    cases hb
    rw [addr0, cell_of_row _ _ j _ _ _ hg]
    have hj2 : j < n * size := by rw [← hl]; exact (List.getElem?_eq_some_iff.1 hj).1
    rw [← ht, List.getElem?_take_of_lt hj2, Array.getElem?_toList] at hj
    exact hj
section
variable {P : Program} {ops : Array Oper} {rest : List Oper} {o : Oper} {a : Act} {w : World} {Q : Exit → Act → World → Prop} {t e : TypeId}
theorem exec_full {x h m : Operand} {ao : Option Addr} {n cap k : Nat} (hop : o.op = .slice t x none (some h) (some m)) (hx : a.eval x = .slice ao n cap) (hh : a.eval h = .int .i64 n) (hm : a.eval m = .int .i64 n)
    (hu : P.underlying t = some (.slice e)) (hz : (sizeOf e).run P w = .ok k w) (hc : n ≤ cap) : (execOp a.eval o).run P w = .ok (.value (.slice ao n n)) w := by
  have h1 : (0 : Int) ≤ (n : Int) := by omega
  have h2 : (n : Int) ≤ (cap : Int) := by omega
  have he : P.elem t = e := by simp [Program.elem, hu]
  have hs : (Instr.sliceAt t (.slice ao n cap) none (some (.int .i64 n)) (some (.int .i64 n))).run P w = .ok (.slice ao n n) w := by
    rw [run_sliceAt_slice w t _ _ _ _ (by rw [he]; exact hu), run_slice_hm w t ao n cap (by rw [he]; exact hu) _ _ _ _ h1 (Int.le_refl _) h2, he, hz]
    cases ao <;> simp [sliced, Result.andThen, Addr.add]
  simp [execOp, hop, hx, hh, hm, hs, Result.andThen]
theorem append_full (hg : o.guard = none) {s x : Operand} (hop : o.op = .call { callee := .builtin .append, args := #[s, x], argTypes := #[t, t] }) {z : Value} {k bytes : Nat} (hu : P.underlying t = some (.slice e))
    (hi : (P.info? e).map (fun i => (i.zero, i.size, i.bytes)) = some (some z, k, bytes)) (hz : z.cells.size = k) (hk : 0 < k) (hby : bytes ≤ 1000) {n : Nat} {cs : List Value} {v0 : Value} (hcs : SlAt w v0 n cs) (hlen : cs.length = n * k) (hn : n ≤ 1000000)
    {ao : Option Addr} {cap : Nat} (hv0 : v0 = .slice ao n cap) (hs : a.eval s = .slice ao n n) {b : Nat} {c : Array Value} {T : TypeId} {fr : Nat × Nat} (hb : w.heap[b]? = some (.cells c T fr)) (hx : a.eval x = .slice (some ⟨b, 0, none⟩) 1 1) (hc : c.size = k) (h1 : c.all (·.oneCell') = true)
    (h : ∀ v' w', w'.ownsRow w.heap.size e k v' (n + 1) (cs ++ c.toList) → Keep w w' → wpList P ops Q rest (a.put o.dst v') w') : wpList P ops Q (o :: rest) a w := by
  obtain ⟨i, hi1, hi2, hi3, hi4⟩ := info_parts hi
  subst hv0
  obtain ⟨ao', cap', he, hle, hnil, hcell⟩ := hcs
  cases he
  refine wpList_append_grows w hg s x t hop e i z k bytes hu hi1 hi2 hi3 hi4 hz hk ao n n cs hs (fun h => ⟨hnil h, hnil h⟩) hlen hcell ⟨b, 0, none⟩ 1 1 c.toList hx (by simp [hc]) (fun j u hj => ?_) (fun u hu => (Array.all_eq_true_iff_forall_mem.1 h1) u (by simpa using hu)) (by omega) (by simp only [maxLen]; omega) ?_ fun v' w' ho hgr => h v' w' ho ((KeepBut.refl _ w).grown hgr (fun _ h => by cases h))
  · rw [addr0, cell_of_row _ _ j _ _ _ hb]
    simpa using hj
  · have : (n + 1) * bytes ≤ 1000001 * 1000 := Nat.mul_le_mul (by omega) hby
    omega
end
theorem run_loadVar_cells {P : Program} (w : World) (b off : Nat) (ty : TypeId) (c : Array Value) (hd : rowOk P ty c.size = true) (h : ∀ i u, c.toList[i]? = some u → w.cell? ⟨b, off + i, none⟩ = some u) : (loadVar ty ⟨b, off, none⟩).run P w = .ok (.agg c) w := by
  obtain ⟨d, hu, hdd, hi⟩ := rowOk_spec hd
  have hl : (loadCells ⟨b, off, none⟩ c.toList.length).run P w = .ok c.toList.toArray w := run_loadCells_list (P := P) w ⟨b, off, none⟩ c.toList (fun j v hv => by rw [add_off]; exact h j v hv)
  cases hq : P.info? ty with
  | none => simp [hq] at hi
  | some i =>
    have hs : i.size = c.size := by simpa [hq] using hi
    have hagg : (isAgg ty).run P w = .ok true w := by
      unfold isAgg
      rw [Sem.run_bind, run_underlying hu w]
      rcases hdd with ⟨_, rfl⟩ | ⟨_, _, rfl⟩ <;> simp
    simp only [Array.length_toList, Array.toArray_toList] at hl
    simp [loadVar, Sem.run_bind, hagg, sizeOf, typeInfo, hq, hs, hl]
section
variable {P : Program} {ops : Array Oper} {rest : List Oper} {o : Oper} {a : Act} {w : World} {Q : Exit → Act → World → Prop} {t : TypeId} {p : Operand} {b off : Nat}
theorem exec_cells (c : Array Value) (h : ∀ i u, c.toList[i]? = some u → w.cell? ⟨b, off + i, none⟩ = some u) (hop : o.op = .load t p) (hp : a.eval p = .pointer (some ⟨b, off, none⟩)) (hd : rowOk P t c.size = true) : (execOp a.eval o).run P w = .ok (.value (.agg c)) w := by
  have hl := run_loadVar_cells (P := P) w b off t c hd h
  simp [execOp, hop, hp, Instr.loadAt, Instr.sureAddr, hl, Result.andThen]
theorem lr (c : Array Value) (h : ∀ i u, c.toList[i]? = some u → w.cell? ⟨b, off + i, none⟩ = some u) (hg : Region.wanted o (yielded ops a.tmps) = true) (hop : o.op = .load t p) (hp : a.eval p = .pointer (some ⟨b, off, none⟩)) (hd : rowOk P t c.size = true)
    (hK : wpList P ops Q rest (a.put o.dst (.agg c)) w) : wpList P ops Q (o :: rest) a w := by
  refine BigFrame.wpList_want hg fun K hK' => ?_
  unfold Oper.wp
  rw [exec_cells c h hop hp hd]
  exact hK' _ _ hK
end
theorem allocs2 (w : World) (o0 o1 : Obj) (V : World) (h : (w.alloc o0).alloc o1 = V) : V.heap[w.heap.size]? = some o0 ∧ V.heap[w.heap.size + 1]? = some o1 ∧ Below w.heap.size w V := by
  subst h
  exact ⟨heap_alloc2_old _ _ _, heap_alloc2_new _ _ _, ((Below.refl _ w).alloc (Nat.le_refl _) _).alloc (by simp) _⟩
theorem allocs3 (w : World) (o0 o1 o2 : Obj) (V : World) (h : ((w.alloc o0).alloc o1).alloc o2 = V) : V.heap[w.heap.size]? = some o0 ∧ V.heap[w.heap.size + 1]? = some o1 ∧ V.heap[w.heap.size + 2]? = some o2 ∧ Below w.heap.size w V := by
  subst h
  have h2 : ((w.alloc o0).alloc o1).heap.size = w.heap.size + 2 := by simp
  have q := han ((w.alloc o0).alloc o1) o2
  rw [h2] at q
  exact ⟨hao _ o2 (heap_alloc2_old _ _ _), hao _ o2 (heap_alloc2_new _ _ _), q, (((Below.refl _ w).alloc (Nat.le_refl _) _).alloc (by simp) _).alloc (by simp; omega) _⟩
def NewRow1 (w : World) (c : Array Value) (ty : TypeId) (v : Value) (w' : World) : Prop := ∃ b, v = .slice (some ⟨b, 0, none⟩) 1 1 ∧ w.heap.size ≤ b ∧ w'.heap[b]? = some (.cells c ty (0, 0))
theorem NewRow1.keep {w : World} {c : Array Value} {ty : TypeId} {v : Value} {A B : World} (h : NewRow1 w c ty v A) (hk : Keep A B) : NewRow1 w c ty v B := by
  obtain ⟨b, e, hb, hc⟩ := h
  exact ⟨b, e, hb, (hk.block b (Array.getElem?_eq_some_iff.1 hc).1 id).trans hc⟩
theorem sure_row1 {P : Program} {w : World} {s : Sem Next} {c : Array Value} {ty : TypeId} (h : ∀ w', Keep w w' → s.run P w' = .ok (.value (.slice (some ⟨w'.heap.size, 0, none⟩) 1 1)) (w'.alloc (.cells c ty))) : SureSome P w s (NewRow1 w c ty) :=
  fun w' hk => .inl ⟨_, _, h w' hk, (KeepBut.refl _ _).alloc _, w'.heap.size, rfl, hk.size, World.alloc_heap_new _ _⟩
end Go.Proofs.YtjibbchfndhhpaaGreatDoor
