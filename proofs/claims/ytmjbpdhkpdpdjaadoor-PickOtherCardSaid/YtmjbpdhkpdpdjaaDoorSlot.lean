/- Layer 8: bank.nth, Slot. -/
import Derived.Test.YtmjbpdhkpdpdjaaDoorBank
namespace Go.Proofs.YtmjbpdhkpdpdjaaDoor
open Go.RowKit Go.Shelf
attribute [local go_sem] Oper.semAt_some

theorem places_any (s : ByteArray) (w : World) :
    Calls Tryd.prog 94 #[.string s] w fun e w' => e = .returned (.func (.func 108) #[] #[.pointer (some ⟨w.heap.size, 0, none⟩)]) ∧ w' = w.alloc (.cells #[.string s] 9) := by
  go_enter Tryd.func94, Tryd.ntmps94
  go_wp2
  go_ret
  exact ⟨rfl, rfl⟩

namespace Dw
theorem slot_none (s : List UInt8) (i : Nat) (h : ∀ x ∈ places s, x.1 ≠ i) : slot s i = [] := by
  unfold slot
  rw [if_neg]
  rintro ⟨h1, h2⟩
  refine h (i, place s i) ?_ rfl
  unfold places
  rw [if_neg (by omega), List.mem_map]
  exact ⟨i, List.mem_range.2 (by omega), rfl⟩
theorem slot_some (s : List UInt8) (i : Nat) (p : List UInt8) (h : (i, p) ∈ places s) : slot s i = p := by
  unfold places at h
  split at h
  · cases h
  · rw [List.mem_map] at h
    obtain ⟨j, hj, e⟩ := h
    rw [List.mem_range] at hj
    cases e
    unfold slot
    rw [if_pos (by omega)]
theorem mem_prefix {α : Type} {pre xs : List α} {x : α} (h : pre ++ [x] <+: xs) : x ∈ xs := h.subset (by simp)
end Dw

set_option maxRecDepth 100000 in
set_option maxHeartbeats 2000000 in
theorem nth_any (Bs : Nat) (s : List UInt8) (hs : s.length ≤ 400) (i : Nat) (w : World) (hc : w.cell? ⟨Bs, 0, none⟩ = some (.string ⟨s.toArray⟩)) :
    Calls Tryd.prog 109 #[.func (.func 108) #[] #[.pointer (some ⟨Bs, 0, none⟩)], .int .i64 i] w fun e w' => e = .returned (.string ⟨(Dw.slot s i).toArray⟩) ∧ Below w.heap.size w w' := by
  have hB := lt_of_cell hc
  refine (callsIn_wide (n := 9)).1 (callsIn_of_wp_marks Tryd.func109 rfl trivial (wpIn_wide.2 ?_) rfl)
  simp only [Tryd.ntmps109, List.size_toArray, List.length_cons, List.length_nil, Nat.reduceAdd, Nat.reduceSub, Array.replicate_succ, Array.replicate_zero, List.push_toArray, List.append_toArray, List.nil_append, List.cons_append]
  go_wp2_with fail
  obtain ⟨V, hV⟩ : ∃ V, (w.alloc (.cells #[.int .i64 i] 3)).alloc (.cells #[.string ⟨#[]⟩] 9) = V := ⟨_, rfl⟩
  have kV : Keep w V := by rw [← hV]; exact ((KeepBut.refl _ w).alloc _).alloc _
  have vz : V.heap.size = w.heap.size + 2 := by rw [← hV]; simp
  have hB0 : V.heap[w.heap.size]? = some (.cells #[.int .i64 i] 3 (0, 0)) := by rw [← hV]; exact heap_alloc2_old _ _ _
  have hB1 : V.heap[w.heap.size + 1]? = some (.cells #[.string ⟨#[]⟩] 9 (0, 0)) := by rw [← hV]; exact heap_alloc2_new _ _ _
  rw [hV]
  have T := places_tells Bs s hs (fun k => k = w.heap.size + 1) (fun _ => False) V (by have : Bs < w.heap.size := hB; omega) ((kV.cell hB id).trans hc)
  clear hV
  refine wpIn_wide.1 (wp_tells (n := 7) (gf := 108) (lb := #[.pointer (some ⟨Bs, 0, none⟩)]) rfl (enters_of Tryd.func108 (by kernel_rfl) rfl) T
    (by omega) (fun _ h => h.elim) (fun _ => rfl)
    (fun pre U => (∀ x ∈ pre, x.1 ≠ i) ∧ U.heap[w.heap.size]? = some (.cells #[.int .i64 i] 3 (0, 0)) ∧ U.heap[w.heap.size + 1]? = some (.cells #[.string ⟨#[]⟩] 9 (0, 0)) ∧ Below w.heap.size w U)
    (fun c pre U => c = Code.ret ∧ (∃ pre' x, pre = pre' ++ [x] ∧ x.1 = i ∧ U.heap[w.heap.size + 1]? = some (.cells #[.string ⟨x.2.toArray⟩] 9 (0, 0))) ∧ Below w.heap.size w U)
    ?hI ?hIx ⟨fun _ h => (List.not_mem_nil h).elim, hB0, hB1, kV.whole⟩
    (fun x => { tmps := #[.func (.func 108) #[] #[.pointer (some ⟨Bs, 0, none⟩)], .int .i64 i, undef, .pointer (some ⟨w.heap.size, 0, none⟩), .pointer (some ⟨w.heap.size + 1, 0, none⟩), .int .i64 x.1, .string ⟨x.2.toArray⟩, .func (.func 108) #[] #[.pointer (some ⟨Bs, 0, none⟩)], .int .i64 x.1, .string ⟨x.2.toArray⟩, undef, undef, undef, undef, undef], defers := [] })
    (fun pre x U => (∀ x ∈ pre, x.1 ≠ i) ∧ U.heap[w.heap.size]? = some (.cells #[.int .i64 i] 3 (0, 0)) ∧ U.heap[w.heap.size + 1]? = some (.cells #[.string ⟨#[]⟩] 9 (0, 0)) ∧ Below w.heap.size w U)
    ?hIA ?assign ?body ?done ?stop)
  case hI =>
    rintro pre A B ⟨h1, h2, h3, h4⟩ k
    have k' : KeepBut (fun k => w.heap.size + 2 ≤ k) A B := k.mono (fun _ _ h => h.elim (fun h => h.elim) (fun h => by omega))
    exact ⟨h1, (k'.block _ (block_lt h2) (by simp)).trans h2, (k'.block _ (block_lt h3) (by simp)).trans h3, h4.trans (k'.below (by have := h4.size; omega) (by omega))⟩
  case hIx =>
    rintro c pre A B ⟨h1, ⟨p', x, e1, e2, h3⟩, h4⟩ k
    have k' : KeepBut (fun k => w.heap.size + 2 ≤ k) A B := k.mono (fun _ _ h => h.elim (fun h => h.elim) (fun h => by omega))
    exact ⟨h1, ⟨p', x, e1, e2, (k'.block _ (block_lt h3) (by simp)).trans h3⟩, h4.trans (k'.below (by have := h4.size; omega) (by omega))⟩
  case hIA =>
    rintro pre x A B ⟨h1, h2, h3, h4⟩ k
    have k' : KeepBut (fun k => w.heap.size + 2 ≤ k) A B := k.mono (fun _ _ h => by omega)
    exact ⟨h1, (k'.block _ (block_lt h2) (by simp)).trans h2, (k'.block _ (block_lt h3) (by simp)).trans h3, h4.trans (k'.below (by have := h4.size; omega) (by omega))⟩
  case assign =>
    rintro l pre x suf U _ _ hI K hK
    gi_wp2
    exact hK _ (KeepBut.refl _ _) hI
  case body =>
    rintro l pre x suf U _ _ ⟨h1, h2, h3, h4⟩
    have c0 := cells1 h2
    have c1 := cells1 h3
    have f1 := frozen0 h3 0
    by_cases hx : x.1 = i
    · have hx' : (x.1 : Int) = (i : Int) := by omega
      have H2 := Lib.hid h2; have H3 := Lib.hid h3; have H1 := Lib.hid h1; have Hx := Lib.hid hx
      clear h1 h2 h3 hx
      gi_wp2
      refine ⟨(KeepBut.refl (fun k => k = w.heap.size + 1) _).setCell (p := ⟨w.heap.size + 1, 0, none⟩) rfl _, rfl, ⟨pre, x, rfl, Hx.out, ?_⟩, h4.setCell (p := ⟨w.heap.size + 1, 0, none⟩) (by simp) _⟩
      rw [heap_setCell_same U (w.heap.size + 1) 0 _ 9 (.string ⟨x.2.toArray⟩) H3.out]; rfl
    · have hx' : ¬ (x.1 : Int) = (i : Int) := by omega
      have H2 := Lib.hid h2; have H3 := Lib.hid h3; have H1 := Lib.hid h1
      clear h1 h2 h3
      gi_wp2
      refine ⟨KeepBut.refl _ _, fun y hy => ?_, H2.out, H3.out, h4⟩
      rcases List.mem_append.1 hy with hy | hy
      · exact H1.out y hy
      · rw [List.mem_singleton] at hy; subst hy; exact hx
  case done =>
    rintro D U hD ⟨h1, h2, h3, h4⟩ hK
    have c1 := cells1 h3
    have f1 := frozen0 h3 0
    have H3 := Lib.hid h3
    clear h2 h3
    go_wp2
    have hZ := heap_setCell_same U (w.heap.size + 1) 0 _ 9 (.string ⟨#[]⟩) H3.out
    have hbZ := h4.setCell (p := ⟨w.heap.size + 1, 0, none⟩) (by simp) (.string ⟨#[]⟩)
    have hKZ : (U.setCell ⟨w.heap.size + 1, 0, none⟩ (.string ⟨#[]⟩)).heap[D]? = some (.deferred (some [])) := by
      rw [heap_setCell_other _ _ _ _ (by simp; omega)]; exact hK
    generalize U.setCell _ _ = Z at *
    have d0 := cells1 ((World.putObj_heap_other (w := Z) (r := D) (k := w.heap.size + 1) (o := .deferred none) (by omega)).trans hZ)
    refine ⟨by simp, .inl ⟨_, _, rfl, run_takeDeferred hKZ, .string ⟨#[]⟩, by simp [results, Tryd.results109, go_sem, d0], ?_, ?_⟩⟩
    · rw [Dw.slot_none s i h1]
    · exact hbZ.trans ((KeepBut.putObj (X := fun k => k = D) (w := Z) (.deferred none) rfl).below (by have := hbZ.size; omega) (by omega))
  case stop =>
    rintro D c pre U hD hpre ⟨rfl, ⟨p', x, rfl, hx, h3⟩, h4⟩ hK
    obtain ⟨x1, x2⟩ := x
    have hs := Dw.slot_some s x1 x2 (Dw.mem_prefix hpre)
    have hx : x1 = i := hx
    subst hx
    have d0 := cells1 ((World.putObj_heap_other (w := U) (r := D) (k := w.heap.size + 1) (o := .deferred none) (by omega)).trans h3)
    have H3 := Lib.hid h3
    have Hs := Lib.hid hs
    clear h3 hs hpre
    gi_wp2
    refine ⟨by simp, .inl ⟨_, _, rfl, run_takeDeferred hK, .string ⟨x2.toArray⟩, by simp [results, Tryd.results109, go_sem, d0], ?_, ?_⟩⟩
    · rw [Hs.out]
    · exact h4.trans ((KeepBut.putObj (X := fun k => k = D) (w := U) (.deferred none) rfl).below (by have := h4.size; omega) (by omega))

theorem slot_any (s : List UInt8) (hs : s.length ≤ 400) (I : Int) (i : Nat) (hI : I = (i : Int)) (w : World) :
    Calls Tryd.prog 101 #[.string ⟨s.toArray⟩, .int .i64 I] w fun e w' => e = .returned (.string ⟨(Dw.slot s i).toArray⟩) ∧ Below w.heap.size w w' := by
  subst hI
  go_enter Tryd.func101, Tryd.ntmps101
  go_wp2_with fail
  refine (places_any _ _).mono ?_
  rintro e w1 ⟨rfl, rfl⟩
  go_wp2_with fail
  refine (nth_any w.heap.size s hs i _ (by simp [go_sem])).mono ?_
  rintro e w2 ⟨rfl, hb2⟩
  go_wp2_with fail
  go_ret
  exact ⟨rfl, ((Below.refl w.heap.size w).alloc (Nat.le_refl _) _).trans (hb2.mono (by simp))⟩
end Go.Proofs.YtmjbpdhkpdpdjaaDoor
