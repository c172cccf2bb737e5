/- What the statement's proof stands on, part 15: Bank, Slot, State, States, RBank. -/
import Derived.Test.YtjibbchfndhhpaaGreatDoorRc13
import Derived.Test.YtjibbchfndhhpaaGreatDoorRc14
import Derived.Test.YtjibbchfndhhpaaGreatDoorRc1
import Derived.Test.YtjibbchfndhhpaaGreatDoorRc4
set_option linter.unusedSimpArgs false
set_option linter.unusedVariables false
set_option maxRecDepth 100000
set_option maxHeartbeats 4000000
namespace Go.Proofs.YtjibbchfndhhpaaGreatDoor
open Go.RowKit Go.Shelf
attribute [local go_sem] Oper.semAt_some
namespace Dw
def place (s : List UInt8) (i : Nat) : List UInt8 := (s.drop (24 * i)).take 24
def places (s : List UInt8) : List (Nat × List UInt8) := if slots s.length = 0 then [] else (List.range (slots s.length + 1)).map fun i => (i, place s i)
def slot (s : List UInt8) (i : Nat) : List UInt8 := if 0 < slots s.length ∧ i ≤ slots s.length then place s i else []
theorem places_length (s : List UInt8) (h : 0 < slots s.length) : (places s).length = slots s.length + 1 := by unfold places; rw [if_neg (by omega)]; simp
theorem places_split (s : List UInt8) (k : Nat) (h : 0 < slots s.length) (hk : k ≤ slots s.length) : places s = (places s).take k ++ (k, place s k) :: (places s).drop (k + 1) := by
  have hl := places_length s h
  have hk' : k < (places s).length := by omega
  have e : (places s)[k] = (k, place s k) := by unfold places; simp [show ¬ slots s.length = 0 from by omega]
  rw [← e]
  simp
theorem places_snoc (s : List UInt8) (k : Nat) (h : 0 < slots s.length) (hk : k ≤ slots s.length) : (places s).take (k + 1) = (places s).take k ++ [(k, place s k)] := by
  have hl := places_length s h
  have hk' : k < (places s).length := by omega
  have e : (places s)[k] = (k, place s k) := by unfold places; simp [show ¬ slots s.length = 0 from by omega]
  rw [← e, List.take_succ_eq_append_getElem hk']
end Dw
abbrev placeV (x : Nat × List UInt8) : Array Value := #[.int .i64 x.1, .string ⟨x.2.toArray⟩]
theorem callsIn_any {n m : Nat} {P : Program} {f : FuncId} {args : Array Value} {w : World} {R : Ending → World → Prop} (h : CallsIn Fence.wide n P f args w R) : CallsIn Fence.wide m P f args w R :=
  callsIn_wide.2 (callsIn_wide.1 h)
theorem places_tellsG (Bs : Nat) (s : List UInt8) (hs : s.length ≤ 400) (X : Nat → Prop) (w : World) (hX : ¬ X Bs) (hc : w.cell? ⟨Bs, 0, none⟩ = some (.string ⟨s.toArray⟩)) :
    TellsG Tryz.prog 225 #[.pointer (some ⟨Bs, 0, none⟩)] placeV (Dw.places s) X (fun _ _ => False) w := fun n l J Jx W hW _ _ hJ _ hY h0 => by
  have hc0 := (hW.cell (p := ⟨Bs, 0, none⟩) (lt_of_cell hc) id).trans hc
  have hBlt := lt_of_cell hc0
  clear hc hW
  refine callsIn_any (n := n + 1) ?_
  refine callsIn_of_wp Tryz.func225 rfl trivial ?_ rfl
  simp only [Tryz.ntmps225, List.size_toArray, List.length_cons, List.length_nil, Nat.reduceAdd, Nat.reduceSub, Array.replicate_succ, Array.replicate_zero, List.push_toArray, List.append_toArray, List.nil_append, List.cons_append]
  gi_wp2
  refine ⟨trivial, ?_⟩
  refine cbi (callsIn_wide.2 (slots_any s.length (by omega) _)) fun w1 hb1 => ?_
  have hc1 := (hb1.cell (p := ⟨Bs, 0, none⟩) hBlt).trans hc0
  have h1 := hJ _ _ _ h0 (KeepBut.of_below' hb1)
  have hsz := hb1.size
  have hle := Dw.slots_le s.length
  clear hb1 hc0 h0
  by_cases hz : Dw.slots s.length = 0
  · have Hp := Lib.hid (show Dw.places s = [] from by unfold Dw.places; rw [if_pos hz])
    gi_wp2
    gi_loopw [4] (fun i wr => i = .int .i64 0 ∧ J [] wr) (fun _ _ => 0)
    case atStart => exact ⟨rfl, h1⟩
    case round =>
      obtain ⟨rfl, hJs⟩ := hrel
      gi_wp2
      go_end0
      exact ⟨⟨_, rfl⟩, .inl (by rw [Hp.out]; exact hJs)⟩
  · have hpos : 0 < Dw.slots s.length := by omega
    have hsp := Dw.slots_pos hpos
    have hpl := Dw.places_length s hpos
    have Hsplit := Lib.hid (Dw.places_split s)
    have Hsnoc := Lib.hid (Dw.places_snoc s)
    have Hplace := Lib.hid (show ∀ k, (⟨(s.drop (24 * k)).toArray⟩ : ByteArray).extract 0 24 = ⟨(Dw.place s k).toArray⟩ from fun k => by rw [bs_extract]; rfl)
    generalize hn : Dw.slots s.length = m at *
    clear hn
    have Hl := Lib.hid hpl
    obtain ⟨hsl, hm12⟩ := hsp
    have Hsl := Lib.hid hsl
    clear hpl hz hsl
    gi_wp2
    gi_loopw [4] (fun i wr => ∃ k : Nat, k ≤ m + 1 ∧ i = .int .i64 k ∧ J ((Dw.places s).take k) wr ∧ KeepBut X w1 wr) (fun i _ => m + 1 - (intOf i).toNat)
    case atStart => exact ⟨0, Nat.zero_le _, rfl, h1, KeepBut.refl _ _⟩
    case round =>
      obtain ⟨k, hk, rfl, hJs, hkx⟩ := hrel
      have hcx := (hkx.cell (p := ⟨Bs, 0, none⟩) (lt_of_cell hc1) hX).trans hc1
      by_cases hlt : k ≤ m
      · gi_wp2
        have hsl := Hsl.out
        have b1 : (0 : Int) ≤ 24 * (k : Int) := by omega
        have b2 : 24 * (k : Int) ≤ (s.length : Int) := by omega
        have b3 : (24 * (k : Int)).toNat = 24 * k := by omega
        have b4 : 24 ≤ s.length - 24 * k := by omega
        have b7 : (24 : Int) ≤ ((s.length - 24 * k : Nat) : Int) := by omega
        have b5 : (s.drop (24 * k)).length = s.length - 24 * k := by simp
        have b6 : Dw.at_ (k : Int) = 24 * (k : Int) := by unfold Dw.at_; rw [if_pos (by omega)]
        have e1 : (⟨s.toArray⟩ : ByteArray).extract (24 * k) s.length = ⟨(s.drop (24 * k)).toArray⟩ := by rw [bs_extract, List.take_length]
        have e2 := Hplace.out k
        clear hsl
        refine wpIn_pure open_wide [0,1,2,3,4,5,6] 7 (by kernel_rfl) (by kernel_rfl) (by kernel_rfl) rfl ?_
        (apply rat; (focus (intro w' hk; have c1 := look hk hcx; repeat' (first | exact rn | ((first | refine' rv ?_ rfl rfl (by go_simp; first | done | with_reducible rfl | exact rfl) | refine' rc ?_ (by exact rfl) (by exact rfl) (by go_simp; first | done | (constructor <;> with_reducible rfl) | with_reducible rfl) (by exact at_any (k : Int) w') | refine' rs ?_ rfl rfl); try simp only [Act.put, List.setIfInBounds_toArray, List.set_cons_zero, List.set_cons_succ])))))
        intro w2 hk2
        simp only [List.drop_succ_cons, List.drop_zero]
        have hJ2 := hJ _ _ _ hJs hk2
        have hkx2 := hkx.trans (hk2.mono (fun _ _ h => h.elim))
        have Hs1 := Lib.hid (Hsnoc.out k hpos hlt)
        have Hs2 := Lib.hid (Hsplit.out k hpos hlt)
        obtain ⟨fn, tmps, assign, body, hy, hR⟩ := hY _ (k, Dw.place s k) _ w2 Hs2.out hJ2
        clear hJs hkx hcx hk2 e1 e2 b1 b2 b3 b4 b5 b6 b7
        gi_wp2
        refine hR.mono ?_
        rintro e W3 (⟨rfl, hJ3, hk3⟩ | ⟨rfl, hJx3, _⟩)
        · gi_wp2
          go_roundw
          case rel => exact ⟨k + 1, by omega, by go_num, by rw [Hs1.out]; exact hJ3, hkx2.trans hk3⟩
          case measure => simp [intOf]; omega
        · gi_wp2
          refine bodyPost_ret (results_none rfl _ _ _) rfl ?_
          exact ⟨⟨_, rfl⟩, .inr ⟨_, ⟨_, by rw [List.append_assoc]; exact Hs2.out.symm⟩, hJx3⟩⟩
      · obtain rfl : k = m + 1 := by omega
        gi_wp2
        go_end0
        exact ⟨⟨_, rfl⟩, .inl (by rw [← Hl.out, List.take_length] at hJs; exact hJs)⟩
theorem places_tells (Bs : Nat) (s : List UInt8) (hs : s.length ≤ 400) (X Y : Nat → Prop) (w : World) (hX : ¬ X Bs) (hc : w.cell? ⟨Bs, 0, none⟩ = some (.string ⟨s.toArray⟩)) :
    Tells Tryz.prog 225 #[.pointer (some ⟨Bs, 0, none⟩)] placeV (Dw.places s) X Y w :=
  ((places_tellsG Bs s hs X w hX hc).mono (fun _ _ h => h.elim)).tells
end Go.Proofs.YtjibbchfndhhpaaGreatDoor
namespace Go.Proofs.YtjibbchfndhhpaaGreatDoor
open Go.RowKit Go.Shelf
attribute [local go_sem] Oper.semAt_some
theorem places_any (s : ByteArray) (w : World) :
    Calls Tryz.prog 209 #[.string s] w fun e w' => e = .returned (.func (.func 225) #[] #[.pointer (some ⟨w.heap.size, 0, none⟩)]) ∧ w' = w.alloc (.cells #[.string s] 9) := by
  go_enter Tryz.func209, Tryz.ntmps209
  go_wp2
  go_ret
  exact ⟨rfl, rfl⟩
namespace Dw
theorem slot_none (s : List UInt8) (i : Nat) (h : ∀ x ∈ places s, x.1 ≠ i) : slot s i = [] := by
  unfold slot
  rw [if_neg]
  rintro ⟨h1, h2⟩
  refine h (i, place s i) ?_ rfl
  unfold places
  rw [if_neg (by omega), List.mem_map]
  exact ⟨i, List.mem_range.2 (by omega), rfl⟩
theorem slot_some (s : List UInt8) (i : Nat) (p : List UInt8) (h : (i, p) ∈ places s) : slot s i = p := by
  unfold places at h
  split at h
  · cases h
  · rw [List.mem_map] at h
    obtain ⟨j, hj, e⟩ := h
    rw [List.mem_range] at hj
    cases e
    unfold slot
    rw [if_pos (by omega)]
theorem mem_prefix {α : Type} {pre xs : List α} {x : α} (h : pre ++ [x] <+: xs) : x ∈ xs := h.subset (by simp)
end Dw
theorem nth_any (Bs : Nat) (s : List UInt8) (hs : s.length ≤ 400) (i : Nat) (w : World) (hc : w.cell? ⟨Bs, 0, none⟩ = some (.string ⟨s.toArray⟩)) :
    Calls Tryz.prog 228 #[.func (.func 225) #[] #[.pointer (some ⟨Bs, 0, none⟩)], .int .i64 i] w fun e w' => e = .returned (.string ⟨(Dw.slot s i).toArray⟩) ∧ Below w.heap.size w w' := by
  have hB := lt_of_cell hc
  refine (callsIn_wide (n := 9)).1 (callsIn_of_wp_marks Tryz.func228 rfl trivial (wpIn_wide.2 ?_) rfl)
  simp only [Tryz.ntmps228, List.size_toArray, List.length_cons, List.length_nil, Nat.reduceAdd, Nat.reduceSub, Array.replicate_succ, Array.replicate_zero, List.push_toArray, List.append_toArray, List.nil_append, List.cons_append]
  go_wp2_with fail
  obtain ⟨V, hV⟩ : ∃ V, (w.alloc (.cells #[.int .i64 i] 3)).alloc (.cells #[.string ⟨#[]⟩] 9) = V := ⟨_, rfl⟩
  have kV : Keep w V := by rw [← hV]; exact ((KeepBut.refl _ w).alloc _).alloc _
  have vz : V.heap.size = w.heap.size + 2 := by rw [← hV]; simp
  have hB0 : V.heap[w.heap.size]? = some (.cells #[.int .i64 i] 3 (0, 0)) := by rw [← hV]; exact heap_alloc2_old _ _ _
  have hB1 : V.heap[w.heap.size + 1]? = some (.cells #[.string ⟨#[]⟩] 9 (0, 0)) := by rw [← hV]; exact heap_alloc2_new _ _ _
  rw [hV]
  have T := places_tells Bs s hs (fun k => k = w.heap.size + 1) (fun _ => False) V (by have : Bs < w.heap.size := hB; omega) ((kV.cell hB id).trans hc)
  clear hV
  refine wpIn_wide.1 (wp_tells (n := 7) (gf := 225) (lb := #[.pointer (some ⟨Bs, 0, none⟩)]) rfl (enters_of Tryz.func225 (by kernel_rfl) rfl) T
    (by omega) (fun _ h => h.elim) (fun _ => rfl)
    (fun pre U => (∀ x ∈ pre, x.1 ≠ i) ∧ U.heap[w.heap.size]? = some (.cells #[.int .i64 i] 3 (0, 0)) ∧ U.heap[w.heap.size + 1]? = some (.cells #[.string ⟨#[]⟩] 9 (0, 0)) ∧ Below w.heap.size w U)
    (fun c pre U => c = Code.ret ∧ (∃ pre' x, pre = pre' ++ [x] ∧ x.1 = i ∧ U.heap[w.heap.size + 1]? = some (.cells #[.string ⟨x.2.toArray⟩] 9 (0, 0))) ∧ Below w.heap.size w U)
    ?hI ?hIx ⟨fun _ h => (List.not_mem_nil h).elim, hB0, hB1, kV.whole⟩
    (fun x => { tmps := #[.func (.func 225) #[] #[.pointer (some ⟨Bs, 0, none⟩)], .int .i64 i, undef, .pointer (some ⟨w.heap.size, 0, none⟩), .pointer (some ⟨w.heap.size + 1, 0, none⟩), .int .i64 x.1, .string ⟨x.2.toArray⟩, .func (.func 225) #[] #[.pointer (some ⟨Bs, 0, none⟩)], .int .i64 x.1, .string ⟨x.2.toArray⟩, undef, undef, undef, undef, undef], defers := [] })
    (fun pre x U => (∀ x ∈ pre, x.1 ≠ i) ∧ U.heap[w.heap.size]? = some (.cells #[.int .i64 i] 3 (0, 0)) ∧ U.heap[w.heap.size + 1]? = some (.cells #[.string ⟨#[]⟩] 9 (0, 0)) ∧ Below w.heap.size w U)
    ?hIA ?assign ?body ?done ?stop)
  case hI =>
    rintro pre A B ⟨h1, h2, h3, h4⟩ k
    have k' : KeepBut (fun k => w.heap.size + 2 ≤ k) A B := k.mono (fun _ _ h => h.elim (fun h => h.elim) (fun h => by omega))
    exact ⟨h1, (k'.block _ (block_lt h2) (by simp)).trans h2, (k'.block _ (block_lt h3) (by simp)).trans h3, h4.trans (k'.below (by have := h4.size; omega) (by omega))⟩
  case hIx =>
    rintro c pre A B ⟨h1, ⟨p', x, e1, e2, h3⟩, h4⟩ k
    have k' : KeepBut (fun k => w.heap.size + 2 ≤ k) A B := k.mono (fun _ _ h => h.elim (fun h => h.elim) (fun h => by omega))
    exact ⟨h1, ⟨p', x, e1, e2, (k'.block _ (block_lt h3) (by simp)).trans h3⟩, h4.trans (k'.below (by have := h4.size; omega) (by omega))⟩
  case hIA =>
    rintro pre x A B ⟨h1, h2, h3, h4⟩ k
    have k' : KeepBut (fun k => w.heap.size + 2 ≤ k) A B := k.mono (fun _ _ h => by omega)
    exact ⟨h1, (k'.block _ (block_lt h2) (by simp)).trans h2, (k'.block _ (block_lt h3) (by simp)).trans h3, h4.trans (k'.below (by have := h4.size; omega) (by omega))⟩
  case assign =>
    rintro l pre x suf U _ _ hI K hK
    gi_wp2
    exact hK _ (KeepBut.refl _ _) hI
  case body =>
    rintro l pre x suf U _ _ ⟨h1, h2, h3, h4⟩
    have c0 := cells1 h2
    have c1 := cells1 h3
    have f1 := frozen0 h3 0
    by_cases hx : x.1 = i
    · have hx' : (x.1 : Int) = (i : Int) := by omega
      have H2 := Lib.hid h2; have H3 := Lib.hid h3; have H1 := Lib.hid h1; have Hx := Lib.hid hx
      clear h1 h2 h3 hx
      gi_wp2
      refine ⟨(KeepBut.refl (fun k => k = w.heap.size + 1) _).setCell (p := ⟨w.heap.size + 1, 0, none⟩) rfl _, rfl, ⟨pre, x, rfl, Hx.out, ?_⟩, h4.setCell (p := ⟨w.heap.size + 1, 0, none⟩) (by simp) _⟩
      rw [heap_setCell_same U (w.heap.size + 1) 0 _ 9 (.string ⟨x.2.toArray⟩) H3.out]; rfl
    · have hx' : ¬ (x.1 : Int) = (i : Int) := by omega
      have H2 := Lib.hid h2; have H3 := Lib.hid h3; have H1 := Lib.hid h1
      clear h1 h2 h3
      gi_wp2
      refine ⟨KeepBut.refl _ _, fun y hy => ?_, H2.out, H3.out, h4⟩
      rcases List.mem_append.1 hy with hy | hy
      · exact H1.out y hy
      · rw [List.mem_singleton] at hy; subst hy; exact hx
  case done =>
    rintro D U hD ⟨h1, h2, h3, h4⟩ hK
    have c1 := cells1 h3
    have f1 := frozen0 h3 0
    have H3 := Lib.hid h3
    clear h2 h3
    go_wp2
    have hZ := heap_setCell_same U (w.heap.size + 1) 0 _ 9 (.string ⟨#[]⟩) H3.out
    have hbZ := h4.setCell (p := ⟨w.heap.size + 1, 0, none⟩) (by simp) (.string ⟨#[]⟩)
    have hKZ : (U.setCell ⟨w.heap.size + 1, 0, none⟩ (.string ⟨#[]⟩)).heap[D]? = some (.deferred (some [])) := by
      rw [heap_setCell_other _ _ _ _ (by simp; omega)]; exact hK
    generalize U.setCell _ _ = Z at *
    have d0 := cells1 ((World.putObj_heap_other (w := Z) (r := D) (k := w.heap.size + 1) (o := .deferred none) (by omega)).trans hZ)
    refine ⟨by simp, .inl ⟨_, _, rfl, run_takeDeferred hKZ, .string ⟨#[]⟩, by simp [results, Tryz.results228, go_sem, d0], ?_, ?_⟩⟩
    · rw [Dw.slot_none s i h1]
    · exact hbZ.trans ((KeepBut.putObj (X := fun k => k = D) (w := Z) (.deferred none) rfl).below (by have := hbZ.size; omega) (by omega))
  case stop =>
    rintro D c pre U hD hpre ⟨rfl, ⟨p', x, rfl, hx, h3⟩, h4⟩ hK
    obtain ⟨x1, x2⟩ := x
    have hs := Dw.slot_some s x1 x2 (Dw.mem_prefix hpre)
    have hx : x1 = i := hx
    subst hx
    have d0 := cells1 ((World.putObj_heap_other (w := U) (r := D) (k := w.heap.size + 1) (o := .deferred none) (by omega)).trans h3)
    have H3 := Lib.hid h3
    have Hs := Lib.hid hs
    clear h3 hs hpre
    gi_wp2
    refine ⟨by simp, .inl ⟨_, _, rfl, run_takeDeferred hK, .string ⟨x2.toArray⟩, by simp [results, Tryz.results228, go_sem, d0], ?_, ?_⟩⟩
    · rw [Hs.out]
    · exact h4.trans ((KeepBut.putObj (X := fun k => k = D) (w := U) (.deferred none) rfl).below (by have := h4.size; omega) (by omega))
theorem slot_any (s : List UInt8) (hs : s.length ≤ 400) (I : Int) (i : Nat) (hI : I = (i : Int)) (w : World) :
    Calls Tryz.prog 217 #[.string ⟨s.toArray⟩, .int .i64 I] w fun e w' => e = .returned (.string ⟨(Dw.slot s i).toArray⟩) ∧ Below w.heap.size w w' := by
  subst hI
  go_enter Tryz.func217, Tryz.ntmps217
  go_wp2_with fail
  refine (places_any _ _).mono ?_
  rintro e w1 ⟨rfl, rfl⟩
  go_wp2_with fail
  refine cb (nth_any w.heap.size s hs i _ (by simp [go_sem])) fun w2 hb2 => ?_
  go_wp2_with fail
  go_ret
  exact ⟨rfl, ((Below.refl w.heap.size w).alloc (Nat.le_refl _) _).trans (hb2.mono (by simp))⟩
end Go.Proofs.YtjibbchfndhhpaaGreatDoor
namespace Go.Proofs.YtjibbchfndhhpaaGreatDoor
open Go.RowKit Go.Shelf
attribute [local go_sem] Oper.semAt_some
namespace Dw
def stateOf (i : Nat) (p : List UInt8) : Nat := if decodeE p = 5 then 0 else if decodeE p = 0 ∧ ((decodeR p).kind = 1 ↔ i = 0) then 2 else 1
def state (s : List UInt8) (i : Nat) : Nat := stateOf i (slot s i)
def genE (s : List UInt8) : Int := if state s 0 = 2 then 0 else 10
def genN (s : List UInt8) : Nat := if state s 0 = 2 then (decodeR (slot s 0)).seq else 0
end Dw
theorem stateOf_cases (i : Nat) (p : List UInt8) : (Dw.decodeE p = 5 ∧ Dw.stateOf i p = 0) ∨ (Dw.decodeE p ≠ 5 ∧ Dw.decodeE p ≠ 0 ∧ Dw.stateOf i p = 1) ∨
    (Dw.decodeE p = 0 ∧ i = 0 ∧ (Dw.decodeR p).kind = 1 ∧ Dw.stateOf i p = 2) ∨ (Dw.decodeE p = 0 ∧ i = 0 ∧ (Dw.decodeR p).kind ≠ 1 ∧ Dw.stateOf i p = 1) ∨
    (Dw.decodeE p = 0 ∧ i ≠ 0 ∧ (Dw.decodeR p).kind = 1 ∧ Dw.stateOf i p = 1) ∨ (Dw.decodeE p = 0 ∧ i ≠ 0 ∧ (Dw.decodeR p).kind ≠ 1 ∧ Dw.stateOf i p = 2) := by
  unfold Dw.stateOf
  by_cases h5 : Dw.decodeE p = 5
  · exact .inl ⟨h5, by rw [if_pos h5]⟩
  · by_cases h0 : Dw.decodeE p = 0
    · by_cases hi : i = 0 <;> by_cases hk : (Dw.decodeR p).kind = 1 <;> simp [h0, hi, hk]
    · exact .inr (.inl ⟨h5, h0, by rw [if_neg h5, if_neg (fun h => h0 h.1)]⟩)
theorem stateOf_any (I : Int) (i : Nat) (hI : I = (i : Int)) (p : List UInt8) (w : World) :
    Calls Tryz.prog 210 #[.int .i64 I, .string ⟨p.toArray⟩] w fun e w' => e = .returned (.int .i64 ((Dw.stateOf i p : Nat) : Int)) ∧ Below w.heap.size w w' := by
  subst hI
  have hcs := stateOf_cases i p
  go_enter Tryz.func210, Tryz.ntmps210
  go_wp2_with fail
  refine cb (decode_any p _) fun w1 hb1 => ?_
  generalize Dw.decodeE p = er at *
  generalize Dw.decodeR p = r at *
  obtain ⟨k, q, d⟩ := r
  have hB := hb1.alloc hb1.size (.cells #[.int .i64 k, .int .u64 q, .int .u64 d] 256)
  rcases hcs with ⟨rfl, hst⟩ | ⟨h5, h0, hst⟩ | ⟨rfl, rfl, hk, hst⟩ | ⟨rfl, rfl, hk, hst⟩ | ⟨rfl, hi, hk, hst⟩ | ⟨rfl, hi, hk, hst⟩ <;> (have Hst := Lib.hid hst; clear hst)
  · go_wp2_with fail
    go_ret
    exact ⟨by rw [Hst.out]; rfl, hB⟩
  · have b5 : (er == 5) = false := by simpa using h5
    have b0 : (er != 0) = true := by simpa using h0
    go_wp2_with fail
    go_ret
    exact ⟨by rw [Hst.out]; rfl, hB⟩
  · change k = 1 at hk
    subst hk
    go_wp2_with fail
    go_ret
    exact ⟨by rw [Hst.out]; rfl, hB⟩
  · change k ≠ 1 at hk
    have bk : ((k : Int) != 1) = true := by rw [bne_iff_ne]; omega
    go_wp2_with fail
    go_ret
    exact ⟨by rw [Hst.out]; rfl, hB⟩
  · change k = 1 at hk
    subst hk
    have bi : ((i : Int) == 0) = false := by rw [beq_eq_false_iff_ne]; omega
    have bi2 : ((i : Int) != 0) = true := by rw [bne_iff_ne]; omega
    go_wp2_with fail
    go_ret
    exact ⟨by rw [Hst.out]; rfl, hB⟩
  · change k ≠ 1 at hk
    have bi : ((i : Int) == 0) = false := by rw [beq_eq_false_iff_ne]; omega
    have bi2 : ((i : Int) != 0) = true := by rw [bne_iff_ne]; omega
    have bk : ((k : Int) == 1) = false := by rw [beq_eq_false_iff_ne]; omega
    go_wp2_with fail
    go_ret
    exact ⟨by rw [Hst.out]; rfl, hB⟩
theorem state_any (s : List UInt8) (hs : s.length ≤ 400) (I : Int) (i : Nat) (hI : I = (i : Int)) (w : World) :
    Calls Tryz.prog 193 #[.string ⟨s.toArray⟩, .int .i64 I] w fun e w' => e = .returned (.int .i64 ((Dw.state s i : Nat) : Int)) ∧ Below w.heap.size w w' := by
  subst hI
  go_enter Tryz.func193, Tryz.ntmps193
  go_wp2_with fail
  refine cb (slot_any s hs _ i rfl _) fun w1 hb1 => ?_
  go_wp2_with fail
  refine cb (stateOf_any _ i rfl _ _) fun w2 hb2 => ?_
  go_wp2_with fail
  go_ret
  exact ⟨rfl, hb1.trans (hb2.mono hb1.size)⟩
theorem brecord_any (s : List UInt8) (hs : s.length ≤ 400) (I : Int) (i : Nat) (hI : I = (i : Int)) (w : World) :
    Calls Tryz.prog 201 #[.string ⟨s.toArray⟩, .int .i64 I] w fun e w' => e = .returned (.tuple #[recV (Dw.decodeR (Dw.slot s i)), .int .i64 (Dw.decodeE (Dw.slot s i))]) ∧ Below w.heap.size w w' := by
  subst hI
  have hB0 := (Below.refl w.heap.size w).alloc (Nat.le_refl _) (.cells #[.int .i64 0, .int .u64 0, .int .u64 0] 256)
  have hC0 := han w (.cells #[.int .i64 0, .int .u64 0, .int .u64 0] 256)
  go_enter Tryz.func201, Tryz.ntmps201
  go_wp2_with fail
  refine cb (slot_any s hs _ i rfl _) fun w1 hb1 => ?_
  have hC1 := (hb1.block w.heap.size (by simp)).trans hC0
  have hB1 := tr hB0 hb1
  clear hB0 hC0 hb1
  go_wp2_with fail
  refine cb (decode_any _ _) fun w2 hb2 => ?_
  have hC2 := (hb2.block w.heap.size (block_lt hC1)).trans hC1
  have hB2 := tr hB1 hb2
  clear hB1 hC1 hb2
  generalize hr : Dw.decodeR (Dw.slot s i) = r at *
  have Hr := Lib.hid hr; clear hr
  obtain ⟨k, q, d⟩ := r
  go_wp2_with (first | (refine lb hC2 rfl rfl rfl (by kernel_rfl) ?_) | (refine sb hC2 rfl rfl rfl rfl (by kernel_rfl) ?_))
  refine bodyPost_ret (rct rfl (srh hC2) (by rfl) (by kernel_rfl)) rfl ⟨?_, below_setRow hB2 (Nat.le_refl _) _⟩
  rw [Hr.out]; rfl
theorem gen_any (s : List UInt8) (hs : s.length ≤ 400) (w : World) :
    Calls Tryz.prog 173 #[.string ⟨s.toArray⟩] w fun e w' => e = .returned (.tuple #[.int .u64 ((Dw.genN s : Nat) : Int), .int .i64 (Dw.genE s)]) ∧ Below w.heap.size w w' := by
  by_cases h2 : Dw.state s 0 = 2
  · have HN := Lib.hid (show Dw.genN s = (Dw.decodeR (Dw.slot s 0)).seq from by unfold Dw.genN; rw [if_pos h2])
    have HE := Lib.hid (show Dw.genE s = 0 from by unfold Dw.genE; rw [if_pos h2])
    have HD := Lib.hid (show Dw.decodeE (Dw.slot s 0) = 0 from by
      have := stateOf_cases 0 (Dw.slot s 0)
      change Dw.stateOf 0 (Dw.slot s 0) = 2 at h2
      omega)
    have H2 := Lib.hid h2; clear h2
    go_enter Tryz.func173, Tryz.ntmps173
    go_wp2_with fail
    refine cb (state_any s hs _ 0 rfl _) fun w1 hb1 => ?_
    rw [H2.out]
    go_wp2_with fail
    refine cb (brecord_any s hs _ 0 rfl _) fun w2 hb2 => ?_
    rw [HD.out]
    generalize hr : Dw.decodeR (Dw.slot s 0) = r at *
    have Hr := Lib.hid hr; clear hr
    obtain ⟨k, q, d⟩ := r
    go_wp2_with fail
    go_ret2
    refine ⟨?_, (hb1.trans (hb2.mono hb1.size)).alloc (Nat.le_trans hb1.size hb2.size) _⟩
    rw [HN.out, HE.out]; rfl
  · have HN := Lib.hid (show Dw.genN s = 0 from by unfold Dw.genN; rw [if_neg h2])
    have HE := Lib.hid (show Dw.genE s = 10 from by unfold Dw.genE; rw [if_neg h2])
    go_enter Tryz.func173, Tryz.ntmps173
    go_wp2_with fail
    refine cb (state_any s hs _ 0 rfl _) fun w1 hb1 => ?_
    generalize Dw.state s 0 = st at *
    have b2 : ((st : Int) != 2) = true := by rw [bne_iff_ne]; omega
    go_wp2_with fail
    go_ret2
    exact ⟨by rw [HN.out, HE.out]; rfl, hb1⟩
end Go.Proofs.YtjibbchfndhhpaaGreatDoor
namespace Go.Proofs.YtjibbchfndhhpaaGreatDoor
open Go.RowKit Go.Shelf
attribute [local go_sem] Oper.semAt_some
namespace Dw
def states (s : List UInt8) : List Nat := (List.range (slots s.length)).map fun i => state s (i + 1)
def sts (l : List (Nat × List UInt8)) : List Nat := (l.filter fun x => decide (0 < x.1)).map fun x => stateOf x.1 x.2
theorem sts_snoc (l : List (Nat × List UInt8)) (x : Nat × List UInt8) : sts (l ++ [x]) = if 0 < x.1 then sts l ++ [stateOf x.1 x.2] else sts l := by
  unfold sts
  rw [List.filter_append, List.map_append]
  by_cases h : 0 < x.1 <;> simp [h]
theorem sts_places (s : List UInt8) : sts (places s) = states s := by
  unfold places states
  by_cases h : slots s.length = 0
  · rw [if_pos h, h]; rfl
  · rw [if_neg h, List.range_succ_eq_map]
    unfold sts
    simp only [List.map_cons, List.map_map, List.filter_cons]
    rw [if_neg (by simp), List.filter_eq_self.2 (by simp), List.map_map]
    apply List.map_congr_left
    intro i hi
    rw [List.mem_range] at hi
    simp only [Function.comp_apply]
    unfold state slot
    rw [if_pos (by omega)]
theorem sts_length (l : List (Nat × List UInt8)) : (sts l).length ≤ l.length := by unfold sts; rw [List.length_map]; exact List.length_filter_le _ _
theorem states_length (s : List UInt8) : (states s).length = slots s.length := by simp [states]
theorem places_len (s : List UInt8) : (places s).length ≤ 13 := by
  unfold places
  have := slots_le s.length
  split <;> simp; omega
end Dw
abbrev natCells (l : List Nat) : List Value := l.map fun n : Nat => Value.int .i64 (n : Int)
def NatsAt (B : Nat) (w : World) (v : Value) (l : List Nat) : Prop :=
  (v = .slice none 0 0 ∧ l = []) ∨ ∃ g cap, v = .slice (some ⟨g, 0, none⟩) l.length cap ∧ l.length ≤ cap ∧ B ≤ g ∧ g < w.heap.size ∧ ∀ j (h : j < l.length), w.cell? ⟨g, j, none⟩ = some (.int .i64 (l[j] : Nat))
theorem infoI : (Tryz.prog.info? 3).map (fun i => (i.zero, i.size, i.bytes)) = some (some (.int .i64 0), 1, 8) := by kernel_rfl
def NewRow (w : World) (c : Array Value) (ty : TypeId) (v : Value) (w' : World) : Prop :=
  ∃ b, v = .slice (some ⟨b, 0, none⟩) c.size c.size ∧ w.heap.size ≤ b ∧ w'.heap[b]? = some (.cells c ty (0, 0))
theorem NewRow.keep {w : World} {c : Array Value} {ty : TypeId} {v : Value} {A B : World} (h : NewRow w c ty v A) (hk : Keep A B) : NewRow w c ty v B := by
  obtain ⟨b, e, hb, hc⟩ := h
  exact ⟨b, e, hb, (hk.block b (block_lt hc) id).trans hc⟩
theorem sure_row {P : Program} {w : World} {s : Sem Next} {c : Array Value} {ty : TypeId} (h : ∀ w', Keep w w' → s.run P w' = .ok (.value (.slice (some ⟨w'.heap.size, 0, none⟩) c.size c.size)) (w'.alloc (.cells c ty))) : SureSome P w s (NewRow w c ty) :=
  fun w' hk => .inl ⟨_, _, h w' hk, (KeepBut.refl _ _).alloc _, w'.heap.size, rfl, hk.size, World.alloc_heap_new _ _⟩
theorem news_of_block {w : World} {b : Nat} {c : Array Value} {t : TypeId} {fr : Nat × Nat} (h : w.heap[b]? = some (.cells c t fr)) : ∀ j u, c.toList[j]? = some u → w.cell? ((⟨b, 0, none⟩ : Addr).add j) = some u := by
  intro j u hu
  rw [addr_add, cell_of_row _ _ j _ _ _ h]
  simpa using hu
theorem slice_of_own {w : World} {base : Nat} {e : TypeId} {size n : Nat} {v : Value} {xs : List Value} (h : w.ownsRow base e size v n xs) : ∃ a m c, v = .slice a m c := by
  rcases h.2 with ⟨h1, _⟩ | ⟨g, cap, cur, h1, _⟩
  · exact ⟨_, _, _, h1⟩
  · exact ⟨_, _, _, h1⟩
theorem states_any (s : List UInt8) (hs : s.length ≤ 400) (w : World) :
    Calls Tryz.prog 190 #[.string ⟨s.toArray⟩] w fun e w' => (∃ v, e = .returned v ∧ NatsAt w.heap.size w' v (Dw.states s)) ∧ Below w.heap.size w w' := by
  obtain ⟨i0, hi, hz0, hz1, hz2⟩ := info_parts infoI
  refine (callsIn_wide (n := 9)).1 (callsIn_of_wp_marks Tryz.func190 rfl trivial (wpIn_wide.2 ?_) rfl)
  simp only [Tryz.ntmps190, List.size_toArray, List.length_cons, List.length_nil, Nat.reduceAdd, Nat.reduceSub, Array.replicate_succ, Array.replicate_zero, List.push_toArray, List.append_toArray, List.nil_append, List.cons_append]
  go_wp2_with fail
  refine (places_any _ _).mono ?_
  rintro e w1 ⟨rfl, rfl⟩
  go_wp2_with fail
  obtain ⟨V, hV⟩ : ∃ V, (w.alloc (.cells #[.slice none 0 0] 94)).alloc (.cells #[.string ⟨s.toArray⟩] 9) = V := ⟨_, rfl⟩
  have kV : Keep w V := by rw [← hV]; exact ((KeepBut.refl _ w).alloc _).alloc _
  have vz : V.heap.size = w.heap.size + 2 := by rw [← hV]; simp
  have hB0 : V.heap[w.heap.size]? = some (.cells #[.slice none 0 0] 94 (0, 0)) := by rw [← hV]; exact heap_alloc2_old _ _ _
  have hB1 : V.heap[w.heap.size + 1]? = some (.cells #[.string ⟨s.toArray⟩] 9 (0, 0)) := by rw [← hV]; exact heap_alloc2_new _ _ _
  rw [hV]
  have T := places_tellsG (w.heap.size + 1) s hs (fun k => k = w.heap.size ∨ w.heap.size + 4 ≤ k) V (by omega) (cells1 hB1)
  clear hV hB1
  refine wpIn_wide.1 (wp_tellsG (n := 7) (gf := 225) (lb := #[.pointer (some ⟨w.heap.size + 1, 0, none⟩)]) rfl (enters_of Tryz.func225 (by kernel_rfl) rfl) T
    (fun _ => False) (fun _ _ _ h => h) (fun _ h => h.elim) (by omega) (fun _ => rfl)
    (fun pre U => ∃ v, U.heap[w.heap.size]? = some (.cells #[v] 94 (0, 0)) ∧ U.ownsRow (w.heap.size + 4) 3 1 v (Dw.sts pre).length (natCells (Dw.sts pre)) ∧ Below w.heap.size w U)
    (fun _ _ _ => False)
    ?hI (fun _ _ _ _ h _ => h) ⟨_, hB0, World.ownsRow_nil _ _ _ _, kV.whole⟩
    (fun x => { tmps := #[.string ⟨s.toArray⟩, undef, .pointer (some ⟨w.heap.size, 0, none⟩), .int .i64 x.1, .string ⟨x.2.toArray⟩, .string ⟨s.toArray⟩, .func (.func 225) #[] #[.pointer (some ⟨w.heap.size + 1, 0, none⟩)], .int .i64 x.1, .string ⟨x.2.toArray⟩, undef, undef, undef, undef, undef, undef, undef, undef, undef], defers := [] })
    (fun pre x U => ∃ v, U.heap[w.heap.size]? = some (.cells #[v] 94 (0, 0)) ∧ U.ownsRow (w.heap.size + 4) 3 1 v (Dw.sts pre).length (natCells (Dw.sts pre)) ∧ Below w.heap.size w U)
    ?hIA ?assign ?body ?done ?stop)
  case hI =>
    rintro pre A B ⟨v, h1, h2, h3⟩ k
    have k' : KeepBut (fun k => k = V.heap.size ∨ k = V.heap.size + 1) A B := k.mono (fun _ _ h => h.elim (fun h => h.elim) id)
    refine ⟨v, (k'.block _ (block_lt h1) (by omega)).trans h1, ?_, h3.trans (k'.below (by have := h3.size; omega) (by omega))⟩
    exact ownsRow_keep h2 k' (fun g hg => by omega)
  case hIA =>
    rintro pre x A B ⟨v, h1, h2, h3⟩ k
    refine ⟨v, (k.block _ (block_lt h1) (by omega)).trans h1, ?_, h3.trans (k.below (by have := h3.size; omega) (by omega))⟩
    exact ownsRow_keep h2 k (fun g hg => by omega)
  case assign =>
    rintro l pre x suf U _ _ hI K hK
    gi_wp2
    exact hK _ (KeepBut.refl _ _) hI
  case body =>
    rintro l pre x suf U hsuf hU ⟨v, h1, h2, h3⟩
    obtain ⟨x1, x2⟩ := x
    obtain ⟨sa, sn, sc, rfl⟩ := slice_of_own h2
    have c1 := cells1 h1
    have f1 := frozen0 h1 0
    have Hsn := Lib.hid (Dw.sts_snoc pre (x1, x2))
    have hlen : (Dw.sts pre).length ≤ 12 := by
      have e1 := Dw.sts_length pre
      have e2 := Dw.places_len s
      rw [hsuf] at e2
      simp at e2
      omega
    have hlt1 := block_lt h1
    have HU := h3.size
    have H1 := Lib.hid h1; have H2 := Lib.hid h2; have H3 := Lib.hid h3
    clear h1 h2 h3 hsuf
    by_cases hx : 0 < x1
    · have hx' : (0 : Int) < (x1 : Int) := by omega
      gi_wp2
      refine wpIn_letter (open_round l) [0, 1, 2, 3] 4 5 (some 15) (NewRow U #[.int .i64 ((Dw.stateOf x1 x2 : Nat) : Int)] 3) rfl rfl (by kernel_rfl) (by kernel_rfl) (by kernel_rfl) rfl (fun v A B h hk => h.keep hk) ?_
      (apply rat; (focus (intro w' hk; have k1 := look hk c1; repeat' (first | exact rn | ((first | refine' rv ?_ rfl rfl (by go_simp; first | done | with_reducible rfl | exact rfl) | refine' rc ?_ (by exact rfl) (by exact rfl) (by go_simp; first | done | (constructor <;> with_reducible rfl) | with_reducible rfl) (by exact stateOf_any _ x1 rfl x2 w') | refine' rs ?_ rfl rfl); try simp only [Act.put, List.setIfInBounds_toArray, List.set_cons_zero, List.set_cons_succ])))))
      refine ⟨rfl, sure_row (fun w' _ => by go_simp), ?_⟩
      rintro v2 W2 hk2 ⟨b, rfl, hb, hbc⟩
      simp only [List.drop_succ_cons, List.drop_zero, List.setIfInBounds_toArray, List.set_cons_zero, List.set_cons_succ, List.size_toArray, List.length_cons, List.length_nil, Nat.zero_add]
      have hbs : U.heap.size ≤ b := hb
      have h1' := (hk2.block _ hlt1 id).trans H1.out
      have h2' := ownsRow_keep H2.out hk2 (fun _ _ h => h.elim)
      have hW2 := hk2.size
      have c1' := cells1 h1'
      have f1' := frozen0 h1' 0
      have H1' := Lib.hid h1'
      have hL : (Dw.sts pre).length + 1 ≤ maxLen := by unfold maxLen; omega
      have hL2 : ((Dw.sts pre).length + 1) * 8 ≤ 140737488355328 := by omega
      clear h1'
      refine wpListIn_append_own _ (by rfl) _ _ 94 (by rfl) (w.heap.size + 4) 3 i0 (.int .i64 0) 1 8 Tryz.underlying94 hi hz0 hz1 hz2 rfl (by decide) _ _ _ (by rfl) h2' ⟨b, 0, none⟩ 1 1 [.int .i64 ((Dw.stateOf x1 x2 : Nat) : Int)] (by rfl) rfl (news_of_block hbc) (by simp [Value.oneCell']) hL hL2 (by omega) ?_
      intro v3 W3 hown3 hgrow3 _
      have h13 := (hgrow3.block w.heap.size (by omega) (fun e => by have := h2'.lt _ e.symm; omega)).trans H1'.out
      have c13 := cells1 h13
      have f13 := frozen0 h13 0
      have H13 := Lib.hid h13
      clear h13 c1' f1' c1 f1
      obtain ⟨ta, tn, tc, rfl⟩ := slice_of_own hown3
      gi_wp2
      have hk3 : KeepBut (fun k => k = w.heap.size ∨ w.heap.size + 4 ≤ k) U W3 := (hk2.mono (fun _ _ h => h.elim)).grown hgrow3 (fun k e => .inr (by have := h2'.lt k e; omega))
      refine ⟨hk3.setCell (p := ⟨w.heap.size, 0, none⟩) (.inl rfl) _, .slice ta tn tc, ?_, ?_, ?_⟩
      · rw [heap_setCell_same W3 w.heap.size 0 _ 94 (.slice ta tn tc) H13.out]; rfl
      · rw [Hsn.out, if_pos hx, List.length_append, List.length_singleton]
        have e := ownsRow_keep hown3 ((KeepBut.refl (fun k => k = w.heap.size) W3).setCell (p := ⟨w.heap.size, 0, none⟩) rfl (.slice ta tn tc)) (fun g hg => by omega)
        simpa [natCells] using e
      · exact (H3.out.trans (hk3.below (by omega) (by omega))).setCell (p := ⟨w.heap.size, 0, none⟩) (Nat.le_refl _) _
    · obtain rfl : x1 = 0 := by omega
      gi_wp2
      refine ⟨KeepBut.refl _ _, _, H1.out, ?_, H3.out⟩
      rw [Hsn.out, if_neg (by simp)]
      exact H2.out
  case done =>
    rintro D U hD ⟨v, h1, h2, h3⟩ hK
    obtain ⟨sa, sn, sc, rfl⟩ := slice_of_own h2
    have c1 := cells1 h1
    have f1 := frozen0 h1 0
    have H1 := Lib.hid h1; have H2 := Lib.hid h2
    clear h1 h2
    go_wp2
    have hZ := heap_setCell_same U w.heap.size 0 _ 94 (.slice sa sn sc) H1.out
    have hbZ := h3.setCell (p := ⟨w.heap.size, 0, none⟩) (Nat.le_refl _) (.slice sa sn sc)
    have hoZ := ownsRow_keep H2.out ((KeepBut.refl (fun k => k = w.heap.size) U).setCell (p := ⟨w.heap.size, 0, none⟩) rfl (.slice sa sn sc)) (fun g hg => by omega)
    have hKZ : (U.setCell ⟨w.heap.size, 0, none⟩ (.slice sa sn sc)).heap[D]? = some (.deferred (some [])) := by
      rw [heap_setCell_other _ _ _ _ (by simp; omega)]; exact hK
    generalize U.setCell _ _ = Z at *
    have d0 := cells1 ((World.putObj_heap_other (w := Z) (r := D) (k := w.heap.size) (o := .deferred none) (by omega)).trans hZ)
    refine ⟨by simp, .inl ⟨_, _, rfl, run_takeDeferred hKZ, .slice sa sn sc, by simp [results, Tryz.results190, go_sem, d0], ⟨_, rfl, ?_⟩, ?_⟩⟩
    · rw [← Dw.sts_places]
      rcases hoZ.2 with ⟨e1, e2⟩ | ⟨g, cap, cur, e1, e2, e3, e4, e5, e6, e7⟩
      · exact .inl ⟨e1, List.eq_nil_of_length_eq_zero e2⟩
      · have hgD : g ≠ D := fun e => by subst e; rw [e3] at hKZ; cases hKZ
        have e3' := (World.putObj_heap_other (w := Z) (r := D) (k := g) (o := .deferred none) hgD).trans e3
        refine .inr ⟨g, cap, e1, e4, by omega, block_lt e3', fun j hj => ?_⟩
        rw [cell_of_row _ _ j _ _ _ e3']
        have := congrArg (fun l : List Value => l[j]?) e7
        simp only [Nat.mul_one] at this
        rw [List.getElem?_take_of_lt hj] at this
        rw [Array.getElem?_toList] at this
        rw [this]
        simp [natCells, hj]
    · exact hbZ.trans ((KeepBut.putObj (X := fun k => k = D) (w := Z) (.deferred none) rfl).below (by have := hbZ.size; omega) (by omega))
  case stop => exact fun _ _ _ _ _ _ h _ => h.elim
end Go.Proofs.YtjibbchfndhhpaaGreatDoor
namespace Go.Proofs.YtjibbchfndhhpaaGreatDoor
open Go.RowKit Go.Shelf
attribute [local go_sem] Oper.semAt_some
end Go.Proofs.YtjibbchfndhhpaaGreatDoor
