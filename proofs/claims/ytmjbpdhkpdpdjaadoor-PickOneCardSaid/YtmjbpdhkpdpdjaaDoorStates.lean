/- Layer 8: bank.States. -/
import Derived.Test.YtmjbpdhkpdpdjaaDoorState
namespace Go.Proofs.YtmjbpdhkpdpdjaaDoor
open Go.RowKit Go.Shelf
attribute [local go_sem] Oper.semAt_some

namespace Dw
def states (s : List UInt8) : List Nat := (List.range (slots s.length)).map fun i => state s (i + 1)
def sts (l : List (Nat × List UInt8)) : List Nat := (l.filter fun x => decide (0 < x.1)).map fun x => stateOf x.1 x.2
theorem sts_snoc (l : List (Nat × List UInt8)) (x : Nat × List UInt8) : sts (l ++ [x]) = if 0 < x.1 then sts l ++ [stateOf x.1 x.2] else sts l := by
  unfold sts
  rw [List.filter_append, List.map_append]
  by_cases h : 0 < x.1 <;> simp [h]
theorem sts_places (s : List UInt8) : sts (places s) = states s := by
  unfold places states
  by_cases h : slots s.length = 0
  · rw [if_pos h, h]; rfl
  · rw [if_neg h, List.range_succ_eq_map]
    unfold sts
    simp only [List.map_cons, List.map_map, List.filter_cons]
    rw [if_neg (by simp), List.filter_eq_self.2 (by simp), List.map_map]
    apply List.map_congr_left
    intro i hi
    rw [List.mem_range] at hi
    simp only [Function.comp_apply]
    unfold state slot
    rw [if_pos (by omega)]
theorem sts_length (l : List (Nat × List UInt8)) : (sts l).length ≤ l.length := by unfold sts; rw [List.length_map]; exact List.length_filter_le _ _
theorem states_length (s : List UInt8) : (states s).length = slots s.length := by simp [states]
theorem places_len (s : List UInt8) : (places s).length ≤ 13 := by
  unfold places
  have := slots_le s.length
  split <;> simp; omega
end Dw
abbrev natCells (l : List Nat) : List Value := l.map fun n : Nat => Value.int .i64 (n : Int)
/-- A slice that holds numbers. -/
def NatsAt (B : Nat) (w : World) (v : Value) (l : List Nat) : Prop :=
  (v = .slice none 0 0 ∧ l = []) ∨ ∃ g cap, v = .slice (some ⟨g, 0, none⟩) l.length cap ∧ l.length ≤ cap ∧ B ≤ g ∧ g < w.heap.size ∧ ∀ j (h : j < l.length), w.cell? ⟨g, j, none⟩ = some (.int .i64 (l[j] : Nat))
theorem infoI : (Tryd.prog.info? 3).map (fun i => (i.zero, i.size, i.bytes)) = some (some (.int .i64 0), 1, 8) := by kernel_rfl
/-- A letter that is a slice of a new block. -/
def NewRow (w : World) (c : Array Value) (ty : TypeId) (v : Value) (w' : World) : Prop :=
  ∃ b, v = .slice (some ⟨b, 0, none⟩) c.size c.size ∧ w.heap.size ≤ b ∧ w'.heap[b]? = some (.cells c ty (0, 0))
theorem NewRow.keep {w : World} {c : Array Value} {ty : TypeId} {v : Value} {A B : World} (h : NewRow w c ty v A) (hk : Keep A B) : NewRow w c ty v B := by
  obtain ⟨b, e, hb, hc⟩ := h
  exact ⟨b, e, hb, (hk.block b (block_lt hc) id).trans hc⟩
theorem sure_row {P : Program} {w : World} {s : Sem Next} {c : Array Value} {ty : TypeId} (h : ∀ w', Keep w w' → s.run P w' = .ok (.value (.slice (some ⟨w'.heap.size, 0, none⟩) c.size c.size)) (w'.alloc (.cells c ty))) : SureSome P w s (NewRow w c ty) :=
  fun w' hk => .inl ⟨_, _, h w' hk, (KeepBut.refl _ _).alloc _, w'.heap.size, rfl, hk.size, World.alloc_heap_new _ _⟩

theorem news_of_block {w : World} {b : Nat} {c : Array Value} {t : TypeId} {fr : Nat × Nat} (h : w.heap[b]? = some (.cells c t fr)) : ∀ j u, c.toList[j]? = some u → w.cell? ((⟨b, 0, none⟩ : Addr).add j) = some u := by
  intro j u hu
  rw [addr_add, cell_of_row _ _ j _ _ _ h]
  simpa using hu
theorem slice_of_own {w : World} {base : Nat} {e : TypeId} {size n : Nat} {v : Value} {xs : List Value} (h : w.ownsRow base e size v n xs) : ∃ a m c, v = .slice a m c := by
  rcases h.2 with ⟨h1, _⟩ | ⟨g, cap, cur, h1, _⟩
  · exact ⟨_, _, _, h1⟩
  · exact ⟨_, _, _, h1⟩

set_option maxRecDepth 100000 in
set_option maxHeartbeats 2000000 in
theorem states_any (s : List UInt8) (hs : s.length ≤ 400) (w : World) :
    Calls Tryd.prog 77 #[.string ⟨s.toArray⟩] w fun e w' => (∃ v, e = .returned v ∧ NatsAt w.heap.size w' v (Dw.states s)) ∧ Below w.heap.size w w' := by
  obtain ⟨i0, hi, hz0, hz1, hz2⟩ := info_parts infoI
  refine (callsIn_wide (n := 9)).1 (callsIn_of_wp_marks Tryd.func77 rfl trivial (wpIn_wide.2 ?_) rfl)
  simp only [Tryd.ntmps77, List.size_toArray, List.length_cons, List.length_nil, Nat.reduceAdd, Nat.reduceSub, Array.replicate_succ, Array.replicate_zero, List.push_toArray, List.append_toArray, List.nil_append, List.cons_append]
  go_wp2_with fail
  refine (places_any _ _).mono ?_
  rintro e w1 ⟨rfl, rfl⟩
  go_wp2_with fail
  obtain ⟨V, hV⟩ : ∃ V, (w.alloc (.cells #[.slice none 0 0] 124)).alloc (.cells #[.string ⟨s.toArray⟩] 9) = V := ⟨_, rfl⟩
  have kV : Keep w V := by rw [← hV]; exact ((KeepBut.refl _ w).alloc _).alloc _
  have vz : V.heap.size = w.heap.size + 2 := by rw [← hV]; simp
  have hB0 : V.heap[w.heap.size]? = some (.cells #[.slice none 0 0] 124 (0, 0)) := by rw [← hV]; exact heap_alloc2_old _ _ _
  have hB1 : V.heap[w.heap.size + 1]? = some (.cells #[.string ⟨s.toArray⟩] 9 (0, 0)) := by rw [← hV]; exact heap_alloc2_new _ _ _
  rw [hV]
  have T := places_tellsG (w.heap.size + 1) s hs (fun k => k = w.heap.size ∨ w.heap.size + 4 ≤ k) V (by omega) (cells1 hB1)
  clear hV hB1
  refine wpIn_wide.1 (wp_tellsG (n := 7) (gf := 108) (lb := #[.pointer (some ⟨w.heap.size + 1, 0, none⟩)]) rfl (enters_of Tryd.func108 (by kernel_rfl) rfl) T
    (fun _ => False) (fun _ _ _ h => h) (fun _ h => h.elim) (by omega) (fun _ => rfl)
    (fun pre U => ∃ v, U.heap[w.heap.size]? = some (.cells #[v] 124 (0, 0)) ∧ U.ownsRow (w.heap.size + 4) 3 1 v (Dw.sts pre).length (natCells (Dw.sts pre)) ∧ Below w.heap.size w U)
    (fun _ _ _ => False)
    ?hI (fun _ _ _ _ h _ => h) ⟨_, hB0, World.ownsRow_nil _ _ _ _, kV.whole⟩
    (fun x => { tmps := #[.string ⟨s.toArray⟩, undef, .pointer (some ⟨w.heap.size, 0, none⟩), .int .i64 x.1, .string ⟨x.2.toArray⟩, .string ⟨s.toArray⟩, .func (.func 108) #[] #[.pointer (some ⟨w.heap.size + 1, 0, none⟩)], .int .i64 x.1, .string ⟨x.2.toArray⟩, undef, undef, undef, undef, undef, undef, undef, undef, undef], defers := [] })
    (fun pre x U => ∃ v, U.heap[w.heap.size]? = some (.cells #[v] 124 (0, 0)) ∧ U.ownsRow (w.heap.size + 4) 3 1 v (Dw.sts pre).length (natCells (Dw.sts pre)) ∧ Below w.heap.size w U)
    ?hIA ?assign ?body ?done ?stop)
  case hI =>
    rintro pre A B ⟨v, h1, h2, h3⟩ k
    have k' : KeepBut (fun k => k = V.heap.size ∨ k = V.heap.size + 1) A B := k.mono (fun _ _ h => h.elim (fun h => h.elim) id)
    refine ⟨v, (k'.block _ (block_lt h1) (by omega)).trans h1, ?_, h3.trans (k'.below (by have := h3.size; omega) (by omega))⟩
    exact ownsRow_keep h2 k' (fun g hg => by omega)
  case hIA =>
    rintro pre x A B ⟨v, h1, h2, h3⟩ k
    refine ⟨v, (k.block _ (block_lt h1) (by omega)).trans h1, ?_, h3.trans (k.below (by have := h3.size; omega) (by omega))⟩
    exact ownsRow_keep h2 k (fun g hg => by omega)
  case assign =>
    rintro l pre x suf U _ _ hI K hK
    gi_wp2
    exact hK _ (KeepBut.refl _ _) hI
  case body =>
    rintro l pre x suf U hsuf hU ⟨v, h1, h2, h3⟩
    obtain ⟨x1, x2⟩ := x
    obtain ⟨sa, sn, sc, rfl⟩ := slice_of_own h2
    have c1 := cells1 h1
    have f1 := frozen0 h1 0
    have Hsn := Lib.hid (Dw.sts_snoc pre (x1, x2))
    have hlen : (Dw.sts pre).length ≤ 12 := by
      have e1 := Dw.sts_length pre
      have e2 := Dw.places_len s
      rw [hsuf] at e2
      simp at e2
      omega
    have hlt1 := block_lt h1
    have HU := h3.size
    have H1 := Lib.hid h1; have H2 := Lib.hid h2; have H3 := Lib.hid h3
    clear h1 h2 h3 hsuf
    by_cases hx : 0 < x1
    · have hx' : (0 : Int) < (x1 : Int) := by omega
      gi_wp2
      refine wpIn_letter (open_round l) [0, 1, 2, 3] 4 5 (some 15) (NewRow U #[.int .i64 ((Dw.stateOf x1 x2 : Nat) : Int)] 3) rfl rfl (by kernel_rfl) (by kernel_rfl) (by kernel_rfl) rfl (fun v A B h hk => h.keep hk) ?_
      repeat' (first | (refine pl_nil ?_) | (refine pl_value (v := ?_) rfl rfl ?_ ?_; rotate_left 1; (focus (intro w' hk; have k1 := look hk c1; go_simp; (first | done | with_reducible rfl | exact rfl))); (try simp only [Act.put, List.setIfInBounds_toArray, List.set_cons_zero, List.set_cons_succ])) | (refine pl_call (v := ?_) (f := ?_) (args := ?_) rfl rfl ?_ ?_ ?_; rotate_left 3; (focus (intro w' hk; have k1 := look hk c1; go_simp; (first | done | (constructor <;> with_reducible rfl) | with_reducible rfl))); (focus (intro w' hk; exact stateOf_any _ x1 rfl x2 w')); (try simp only [Act.put, List.setIfInBounds_toArray, List.set_cons_zero, List.set_cons_succ])) | (refine pl_skip rfl rfl ?_; (try simp only [Act.put, List.setIfInBounds_toArray, List.set_cons_zero, List.set_cons_succ])))
      refine ⟨rfl, sure_row (fun w' _ => by go_simp), ?_⟩
      rintro v2 W2 hk2 ⟨b, rfl, hb, hbc⟩
      simp only [List.drop_succ_cons, List.drop_zero, List.setIfInBounds_toArray, List.set_cons_zero, List.set_cons_succ, List.size_toArray, List.length_cons, List.length_nil, Nat.zero_add]
      have hbs : U.heap.size ≤ b := hb
      have h1' := (hk2.block _ hlt1 id).trans H1.out
      have h2' := ownsRow_keep H2.out hk2 (fun _ _ h => h.elim)
      have hW2 := hk2.size
      have c1' := cells1 h1'
      have f1' := frozen0 h1' 0
      have H1' := Lib.hid h1'
      have hL : (Dw.sts pre).length + 1 ≤ maxLen := by unfold maxLen; omega
      have hL2 : ((Dw.sts pre).length + 1) * 8 ≤ 140737488355328 := by omega
      clear h1'
      refine wpListIn_append_own _ (by rfl) _ _ 124 (by rfl) (w.heap.size + 4) 3 i0 (.int .i64 0) 1 8 Tryd.underlying124 hi hz0 hz1 hz2 rfl (by decide) _ _ _ (by rfl) h2' ⟨b, 0, none⟩ 1 1 [.int .i64 ((Dw.stateOf x1 x2 : Nat) : Int)] (by rfl) rfl (news_of_block hbc) (by simp [Value.oneCell']) hL hL2 (by omega) ?_
      intro v3 W3 hown3 hgrow3 _
      have h13 := (hgrow3.block w.heap.size (by omega) (fun e => by have := h2'.lt _ e.symm; omega)).trans H1'.out
      have c13 := cells1 h13
      have f13 := frozen0 h13 0
      have H13 := Lib.hid h13
      clear h13 c1' f1' c1 f1
      obtain ⟨ta, tn, tc, rfl⟩ := slice_of_own hown3
      gi_wp2
      have hk3 : KeepBut (fun k => k = w.heap.size ∨ w.heap.size + 4 ≤ k) U W3 := (hk2.mono (fun _ _ h => h.elim)).grown hgrow3 (fun k e => .inr (by have := h2'.lt k e; omega))
      refine ⟨hk3.setCell (p := ⟨w.heap.size, 0, none⟩) (.inl rfl) _, .slice ta tn tc, ?_, ?_, ?_⟩
      · rw [heap_setCell_same W3 w.heap.size 0 _ 124 (.slice ta tn tc) H13.out]; rfl
      · rw [Hsn.out, if_pos hx, List.length_append, List.length_singleton]
        have e := ownsRow_keep hown3 ((KeepBut.refl (fun k => k = w.heap.size) W3).setCell (p := ⟨w.heap.size, 0, none⟩) rfl (.slice ta tn tc)) (fun g hg => by omega)
        simpa [natCells] using e
      · exact (H3.out.trans (hk3.below (by omega) (by omega))).setCell (p := ⟨w.heap.size, 0, none⟩) (Nat.le_refl _) _
    · obtain rfl : x1 = 0 := by omega
      gi_wp2
      refine ⟨KeepBut.refl _ _, _, H1.out, ?_, H3.out⟩
      rw [Hsn.out, if_neg (by simp)]
      exact H2.out
  case done =>
    rintro D U hD ⟨v, h1, h2, h3⟩ hK
    obtain ⟨sa, sn, sc, rfl⟩ := slice_of_own h2
    have c1 := cells1 h1
    have f1 := frozen0 h1 0
    have H1 := Lib.hid h1; have H2 := Lib.hid h2
    clear h1 h2
    go_wp2
    have hZ := heap_setCell_same U w.heap.size 0 _ 124 (.slice sa sn sc) H1.out
    have hbZ := h3.setCell (p := ⟨w.heap.size, 0, none⟩) (Nat.le_refl _) (.slice sa sn sc)
    have hoZ := ownsRow_keep H2.out ((KeepBut.refl (fun k => k = w.heap.size) U).setCell (p := ⟨w.heap.size, 0, none⟩) rfl (.slice sa sn sc)) (fun g hg => by omega)
    have hKZ : (U.setCell ⟨w.heap.size, 0, none⟩ (.slice sa sn sc)).heap[D]? = some (.deferred (some [])) := by
      rw [heap_setCell_other _ _ _ _ (by simp; omega)]; exact hK
    generalize U.setCell _ _ = Z at *
    have d0 := cells1 ((World.putObj_heap_other (w := Z) (r := D) (k := w.heap.size) (o := .deferred none) (by omega)).trans hZ)
    refine ⟨by simp, .inl ⟨_, _, rfl, run_takeDeferred hKZ, .slice sa sn sc, by simp [results, Tryd.results77, go_sem, d0], ⟨_, rfl, ?_⟩, ?_⟩⟩
    · rw [← Dw.sts_places]
      rcases hoZ.2 with ⟨e1, e2⟩ | ⟨g, cap, cur, e1, e2, e3, e4, e5, e6, e7⟩
      · exact .inl ⟨e1, List.eq_nil_of_length_eq_zero e2⟩
      · have hgD : g ≠ D := fun e => by subst e; rw [e3] at hKZ; cases hKZ
        have e3' := (World.putObj_heap_other (w := Z) (r := D) (k := g) (o := .deferred none) hgD).trans e3
        refine .inr ⟨g, cap, e1, e4, by omega, block_lt e3', fun j hj => ?_⟩
        rw [cell_of_row _ _ j _ _ _ e3']
        have := congrArg (fun l : List Value => l[j]?) e7
        simp only [Nat.mul_one] at this
        rw [List.getElem?_take_of_lt hj] at this
        rw [Array.getElem?_toList] at this
        rw [this]
        simp [natCells, hj]
    · exact hbZ.trans ((KeepBut.putObj (X := fun k => k = D) (w := Z) (.deferred none) rfl).below (by have := hbZ.size; omega) (by omega))
  case stop => exact fun _ _ _ _ _ _ h _ => h.elim
end Go.Proofs.YtmjbpdhkpdpdjaaDoor
