/- What the statement's proof stands on, part 50: Lines, Shown23, TopCon23. -/
import Derived.Test.YtjibbchfndhhpaaGreatDoorRc48
import Derived.Test.YtjibbchfndhhpaaGreatDoorRc30
import Derived.Test.YtjibbchfndhhpaaGreatDoorRc22
import Derived.Test.YtjibbchfndhhpaaGreatDoorRc49
import Derived.Test.YtjibbchfndhhpaaGreatDoorRc42
set_option linter.unusedSimpArgs false
set_option linter.unusedVariables false
set_option maxRecDepth 100000
set_option maxHeartbeats 4000000
namespace Go.Proofs.YtjibbchfndhhpaaGreatDoor
open Go.RowKit Go.Shelf
attribute [local go_sem] Oper.semAt_some
theorem splitseq_any (s : List UInt8) (w : World) :
    Calls Tryz.prog 16 #[.string ⟨s.toArray⟩, .string ⟨#[10]⟩] w fun e w' =>
      e = .returned (.func (.func 75) #[] #[.pointer (some ⟨w.heap.size + 1, 0, none⟩), .pointer (some ⟨w.heap.size, 0, none⟩), .pointer (some ⟨w.heap.size + 2, 0, none⟩)]) ∧
      w' = ((w.alloc (.cells #[.string ⟨s.toArray⟩] 9)).alloc (.cells #[.string ⟨#[10]⟩] 9)).alloc (.cells #[.int .i64 0] 3) := by
  have h1 : Calls Tryz.prog 35 #[.string ⟨s.toArray⟩, .string ⟨#[10]⟩, .int .i64 0] w fun e w' =>
      e = .returned (.func (.func 75) #[] #[.pointer (some ⟨w.heap.size + 1, 0, none⟩), .pointer (some ⟨w.heap.size, 0, none⟩), .pointer (some ⟨w.heap.size + 2, 0, none⟩)]) ∧
      w' = ((w.alloc (.cells #[.string ⟨s.toArray⟩] 9)).alloc (.cells #[.string ⟨#[10]⟩] 9)).alloc (.cells #[.int .i64 0] 3) := by
    go_enter Tryz.func35, Tryz.ntmps35
    go_wp2
    go_ret
    exact ⟨rfl, rfl⟩
  have H1 := Lib.hid h1
  clear h1
  go_enter Tryz.func16, Tryz.ntmps16
  go_wp2_with fail
  refine H1.out.mono ?_
  rintro en w1 ⟨rfl, rfl⟩
  go_wp2_with fail
  go_ret
  exact ⟨rfl, rfl⟩
namespace Dw
theorem splitL_small : ∀ (s : List UInt8), (splitL s).length ≤ s.length + 1 ∧ ∀ x ∈ splitL s, x.length ≤ s.length
  | [] => ⟨by decide, fun x hx => by
    have : x = [] := by simpa [splitL] using hx
    subst this
    exact Nat.le_refl _⟩
  | b :: r => by
    obtain ⟨h1, h2⟩ := splitL_small r
    unfold splitL
    split
    · refine ⟨by simp; omega, fun x hx => ?_⟩
      rcases List.mem_cons.1 hx with rfl | hx
      · simp
      · have := h2 x hx
        simp
        omega
    · cases h : splitL r with
      | nil => exact absurd h (splitL_ne r)
      | cons y ys =>
        rw [h] at h1 h2
        refine ⟨by simp at h1 ⊢; omega, fun x hx => ?_⟩
        rcases List.mem_cons.1 hx with rfl | hx
        · have := h2 y (by simp)
          simp
          omega
        · have := h2 x (by simp [hx])
          simp
          omega
theorem spans_most (p : Nat → Bool) (s : ByteArray) : ∀ (f pos : Nat) (st : Option Nat) (acc : List (Nat × Nat)), (Lib.spansFromP p s f pos st acc).1.length ≤ acc.length + f
  | 0, _, _, _ => Nat.le_refl _
  | f + 1, pos, st, acc => by
    have ih := fun pos st acc => spans_most p s f pos st acc
    unfold Lib.spansFromP
    split
    · split
      · cases st with
        | some a => have := ih (pos + (Utf8.decode s pos).2) none (acc ++ [(a, pos)]); simp at this ⊢; omega
        | none => have := ih (pos + (Utf8.decode s pos).2) none acc; simp at this ⊢; omega
      · cases st with
        | some a => have := ih (pos + (Utf8.decode s pos).2) (some a) acc; simp at this ⊢; omega
        | none => have := ih (pos + (Utf8.decode s pos).2) (some pos) acc; simp at this ⊢; omega
    · show acc.length ≤ _
      omega
theorem wordsL_small (l : List UInt8) : (wordsL l).length ≤ l.length + 1 ∧ ∀ x ∈ wordsL l, x.length ≤ l.length := by
  have hsz : (⟨l.toArray⟩ : ByteArray).size = l.length := by simp [ByteArray.size]
  constructor
  · unfold wordsL Lib.goFieldsP Lib.spansOfP
    rw [List.length_map, List.length_map]
    have := spans_most isB ⟨l.toArray⟩ (⟨l.toArray⟩ : ByteArray).size 0 none []
    unfold Lib.closeSpans
    split
    · simp at this ⊢
      omega
    · simp at this ⊢
      omega
  · intro x hx
    unfold wordsL Lib.goFieldsP at hx
    rw [List.map_map] at hx
    obtain ⟨y, _, rfl⟩ := List.mem_map.1 hx
    show ((⟨l.toArray⟩ : ByteArray).extract y.1 y.2).data.toList.length ≤ _
    rw [bs_extract]
    simp
    omega
theorem dok_row {k : Nat} {d : Dk} (h : Dok k d) (l : List UInt8) : Dok (k + 1) (rowD d l).1 := by
  unfold rowD
  split
  · exact h.more (Nat.le_succ _)
  · show Dok (k + 1) (lineD d _ _).1
    unfold lineD
    split
    · split
      · exact dok_do h _ _
      · exact h.more (Nat.le_succ _)
    · exact h.more (Nat.le_succ _)
theorem dok_rows : ∀ (ls : List (List UInt8)) (k : Nat) (d : Dk), Dok k d → Dok (k + ls.length) (rowsD d ls).1
  | [], _, _, h => h
  | l :: ls, k, d, h => by
    have := dok_rows ls (k + 1) _ (dok_row h l)
    rw [List.length_cons, show k + (ls.length + 1) = k + 1 + ls.length by omega]
    exact this
theorem rows_most : ∀ (ls : List (List UInt8)) (d : Dk), (rowsD d ls).2.length ≤ ls.length
  | [], _ => Nat.le_refl _
  | l :: ls, d => by
    have ih := rows_most ls (rowD d l).1
    have h1 : (rowD d l).2.length ≤ 1 := by unfold rowD; split <;> simp
    show ((rowD d l).2 ++ (rowsD (rowD d l).1 ls).2).length ≤ _
    simp
    omega
end Dw
theorem reps_keep {w w' : World} {v : Value} {l : List Dw.Rep} {Z : Nat → Prop} (h : RepsAt w v l) (hk : KeepBut Z w w') (hz : ∀ j, v.ownBlock = some j → ¬ Z j) : RepsAt w' v l := by
  obtain ⟨hl, h | ⟨b, cap, cur, he, h0, hb, hr⟩⟩ := h
  · exact ⟨hl, .inl h⟩
  · exact ⟨hl, .inr ⟨b, cap, cur, he, h0, (hk.block b (block_lt hb) (hz b (by rw [he]; rfl))).trans hb, hr⟩⟩
theorem reps_not {w : World} {v : Value} {l : List Dw.Rep} (h : RepsAt w v l) {j : Nat} {o : Obj} (hj : w.heap[j]? = some o) (ho : ∀ c, o ≠ .cells c 173 (0, 0)) : v.ownBlock ≠ some j := fun e => by
  obtain ⟨_, c, hc⟩ := own_blk h e
  rw [hj] at hc
  exact ho c (Option.some.inj hc)
theorem infoStr1 : (Tryz.prog.info? 9).map (fun i => (i.zero, i.size, i.bytes)) = some (some (.string ⟨#[]⟩), 1, 16) := by kernel_rfl
def LinAt (b g L : Nat) (w : World) (pre : List (List UInt8)) (U : World) : Prop :=
  ∃ (v vo : Value), U.heap[b]? = some (.cells #[vo] 23 (0, 0)) ∧ U.ownsRow (L + 2) 9 1 vo (Dw.rowsD Dw.desk0 pre).2.length (strCells (Dw.rowsD Dw.desk0 pre).2) ∧
    U.heap[g]? = some (.cells (deskC (Dw.rowsD Dw.desk0 pre).1.f.x v (Dw.rowsD Dw.desk0 pre).1.p) 53 (0, 0)) ∧ RepsAt U v (Dw.rowsD Dw.desk0 pre).1.f.out ∧
    (∀ j, v.ownBlock = some j → ¬ (j = g + 2 ∨ j = L ∨ j = L + 1)) ∧
    U.heap[g + 1]? = some (.cells #[.pointer (some ⟨g, 0, none⟩)] 37 (0, 0)) ∧ Below b w U
theorem LinAt.keep {b g L : Nat} {w : World} {pre : List (List UInt8)} {A B : World} (hb : w.heap.size = b) (hg : b < g) (hL : L = g + 5) (h : LinAt b g L w pre A) (hk : KeepBut (fun k => k = g + 2 ∨ k = L ∨ k = L + 1) A B) : LinAt b g L w pre B := by
  obtain ⟨v, vo, h1, h2, h3, h4, h5, h6, h7⟩ := h
  refine ⟨v, vo, (hk.block _ (block_lt h1) (by omega)).trans h1, ownsRow_keep h2 hk (fun j hj => by omega), (hk.block _ (block_lt h3) (by omega)).trans h3, reps_keep h4 hk h5, h5, (hk.block _ (block_lt h6) (by omega)).trans h6, h7.trans (hk.below (by have := h7.size; omega) (fun j hj => by omega))⟩
theorem rows_snoc (pre : List (List UInt8)) (l : List UInt8) (d : Dw.Dk) : Dw.rowsD d (pre ++ [l]) = ((Dw.rowD (Dw.rowsD d pre).1 l).1, (Dw.rowsD d pre).2 ++ (Dw.rowD (Dw.rowsD d pre).1 l).2) := by
  rw [Dw.rowsD_append]
  show ((Dw.rowD (Dw.rowsD d pre).1 l).1, (Dw.rowsD d pre).2 ++ ((Dw.rowD (Dw.rowsD d pre).1 l).2 ++ [])) = _
  rw [List.append_nil]
theorem lines_any (s : List UInt8) (hs : s.length ≤ 2000) (w : World) (hn : ConAt w) :
    Calls Tryz.prog 7 #[.string ⟨s.toArray⟩] w fun e w' => (∃ v, e = .returned v ∧ StrsAt w' v (Dw.linesS s)) ∧ Below w.heap.size w w' := by
  obtain ⟨i0, hi, hz0, hz1, hz2⟩ := info_parts infoStr1
  obtain ⟨X0, hX0⟩ : ∃ X, (Dw.beginF 4 100).x = X := ⟨_, rfl⟩
  have HBG := Lib.hid (show ∀ w, NoneAt w → Calls Tryz.prog 15 #[.int .i64 4, .int .i64 100] w fun e w' => e = .returned (fliV X0 (.slice none 0 0)) ∧ Below w.heap.size w w' from fun w hn => by rw [← hX0]; exact begin_any 4 100 w hn)
  have HX0 := Lib.hid (show Dw.desk0.f.x = X0 from hX0)
  have HN := Lib.hid hn
  clear hX0
  refine (callsIn_wide (n := 9)).1 (callsIn_of_wp_marks Tryz.func7 rfl trivial (wpIn_wide.2 ?_) rfl)
  simp only [Tryz.ntmps7, List.size_toArray, List.length_cons, List.length_nil, Nat.reduceAdd, Nat.reduceSub, Array.replicate_succ, Array.replicate_zero, List.push_toArray, List.append_toArray, List.nil_append, List.cons_append]
  go_wp2_with fail
  have hB0 : Below w.heap.size w (w.alloc (.cells #[.slice none 0 0] 23)) := (Below.refl _ w).alloc (Nat.le_refl _) _
  have b0 : (w.alloc (.cells #[.slice none 0 0] 23)).heap[w.heap.size]? = some (.cells #[.slice none 0 0] 23 (0, 0)) := han _ _
  refine (HBG.out _ (HN.out.none.next hB0)).mono ?_
  rintro en w1 ⟨rfl, hB1⟩
  have b1 := kp hB1 b0
  have z1 : w.heap.size < w1.heap.size := block_lt b1
  replace hB1 := tr hB0 hB1
  clear hB0 b0
  go_wp2_with fail
  refine (splitseq_any s _).mono ?_
  rintro en w2 ⟨rfl, rfl⟩
  go_wp2_with fail
  obtain ⟨V, hV⟩ : ∃ V, ((((w1.alloc (.cells #[.string ⟨X0.f.a.toArray⟩, .string ⟨X0.f.b.toArray⟩, .int .i64 X0.f.e0, .int .i64 X0.f.e1, .int .i64 X0.f.li, .int .i64 X0.s.mo, .bool X0.s.ar, .bool X0.s.ho, .int .i64 X0.s.la, .int .i64 X0.s.lo, .int .i64 X0.s.iso, .int .i64 X0.ph, .int .i64 X0.vo, .int .i64 X0.n, .slice none 0 0, .int .i64 (-1), .string ⟨#[]⟩] 53)).alloc (.cells #[.pointer (some ⟨w1.heap.size, 0, none⟩)] 37)).alloc (.cells #[.string ⟨s.toArray⟩] 9)).alloc (.cells #[.string ⟨#[10]⟩] 9)).alloc (.cells #[.int .i64 0] 3) = V := ⟨_, rfl⟩
  obtain ⟨vz, kV, c0, c1, c2, c3, c4⟩ := alloc5 w1 (.cells #[.string ⟨X0.f.a.toArray⟩, .string ⟨X0.f.b.toArray⟩, .int .i64 X0.f.e0, .int .i64 X0.f.e1, .int .i64 X0.f.li, .int .i64 X0.s.mo, .bool X0.s.ar, .bool X0.s.ho, .int .i64 X0.s.la, .int .i64 X0.s.lo, .int .i64 X0.s.iso, .int .i64 X0.ph, .int .i64 X0.vo, .int .i64 X0.n, .slice none 0 0, .int .i64 (-1), .string ⟨#[]⟩] 53) (.cells #[.pointer (some ⟨w1.heap.size, 0, none⟩)] 37) (.cells #[.string ⟨s.toArray⟩] 9) (.cells #[.string ⟨#[10]⟩] 9) (.cells #[.int .i64 0] 3) V hV
  have bO : V.heap[w.heap.size]? = some (.cells #[.slice none 0 0] 23 (0, 0)) := kp kV b1
  have hBV : Below w.heap.size w V := tr hB1 kV
  obtain ⟨g, hg⟩ : ∃ g, w1.heap.size = g := ⟨_, rfl⟩
  rw [hg] at vz z1 c0 c1 c2 c3 c4
  rw [hV, hg]
  clear hV b1 hB1 kV
  have T := split_tellsT (g + 3) (g + 2) (g + 4) ⟨by omega, by omega⟩ s (by omega) (fun k => k = w.heap.size ∨ k = g ∨ g + 5 + 2 ≤ k) V ⟨by omega, by omega, by omega⟩ (cells1 c3) c2 (cells1 c4)
  refine wpIn_wide.1 (wp_tellsT (n := 7) (gf := 75) (lb := #[.pointer (some ⟨g + 3, 0, none⟩), .pointer (some ⟨g + 2, 0, none⟩), .pointer (some ⟨g + 4, 0, none⟩)]) rfl (enters_of Tryz.func75 (by kernel_rfl) rfl) T
    (fun A B hA hk => by
      obtain ⟨c, hc⟩ := hA
      exact ⟨c, (hk.block _ (block_lt hc) (by rw [vz]; omega)).trans hc⟩)
    (fun k => k = g + 2) (fun _ _ _ h => h) (fun k h => by rw [vz]; omega) (fun k h => by rw [vz]; omega) (fun _ => rfl)
    (fun pre U => LinAt w.heap.size g (g + 5) w pre U) (fun _ _ _ => False)
    (fun pre A B h hk => h.keep rfl z1 rfl (hk.mono fun k _ hh => by rw [vz] at hh; exact hh)) (fun _ _ _ _ h _ => h)
    ?h0
    (fun x => { tmps := #[.string ⟨s.toArray⟩, undef, .pointer (some ⟨w.heap.size, 0, none⟩), .pointer (some ⟨g + 1, 0, none⟩), .string ⟨x.toArray⟩, undef, fliV X0 (.slice none 0 0), pwV Dw.noP, .agg #[.string ⟨X0.f.a.toArray⟩, .string ⟨X0.f.b.toArray⟩, .int .i64 X0.f.e0, .int .i64 X0.f.e1, .int .i64 X0.f.li, .int .i64 X0.s.mo, .bool X0.s.ar, .bool X0.s.ho, .int .i64 X0.s.la, .int .i64 X0.s.lo, .int .i64 X0.s.iso, .int .i64 X0.ph, .int .i64 X0.vo, .int .i64 X0.n, .slice none 0 0, .int .i64 (-1), .string ⟨#[]⟩], .pointer (some ⟨g, 0, none⟩), .string ⟨s.toArray⟩, .func (.func 75) #[] #[.pointer (some ⟨g + 3, 0, none⟩), .pointer (some ⟨g + 2, 0, none⟩), .pointer (some ⟨g + 4, 0, none⟩)], .string ⟨x.toArray⟩, undef, undef, undef, undef, undef, undef, undef, undef, undef, undef, undef, undef], defers := [] })
    (fun pre x U => LinAt w.heap.size g (g + 5) w pre U)
    (fun pre x A B h hk => h.keep rfl z1 rfl (hk.mono fun k _ hh => by rw [vz] at hh; omega)) ?assign ?body ?done ?stop)
  case h0 =>
    refine ⟨.slice none 0 0, .slice none 0 0, bO, World.ownsRow_nil _ _ _ _, ?_, World.ownsRow_nil _ _ _ _, (fun j hj => by cases hj), c1, hBV⟩
    show V.heap[g]? = some (.cells (deskC Dw.desk0.f.x (.slice none 0 0) Dw.noP) 53 (0, 0))
    rw [HX0.out]
    exact c0
  case assign =>
    rintro l pre x suf U _ _ hI K hK
    gi_wp2
    exact hK _ (KeepBut.refl _ _) hI
  case body =>
    rintro l pre x suf U hsuf hU ⟨v, vo, h1, h2, h3, h4, h5, h6, h7⟩ ⟨cT, hT⟩ ⟨oD, hD⟩ ⟨oL, hL⟩
    rw [vz] at hD hL hU
    obtain ⟨sz1, sz2⟩ := Dw.splitL_small s
    rw [hsuf] at sz1 sz2
    have hpl : pre.length ≤ 2000 := by simp at sz1; omega
    have hxl : x.length ≤ 2000 := Nat.le_trans (sz2 x (by simp)) hs
    have hrl : (Dw.rowsD Dw.desk0 pre).2.length ≤ 2000 := Nat.le_trans (Dw.rows_most _ _) hpl
    have hdk : Dw.Dok 99999 (Dw.rowsD Dw.desk0 pre).1 := (Dw.dok_rows pre 0 _ (Dw.dok_begin 4 100 Dw.noP 0)).more (by omega)
    have HSN := Lib.hid (rows_snoc pre x Dw.desk0)
    obtain ⟨wl, ws⟩ := Dw.wordsL_small x
    have HWD := Lib.hid (fun w => words_any x (by omega) w)
    generalize (Dw.rowsD Dw.desk0 pre).1 = d at *
    generalize (Dw.rowsD Dw.desk0 pre).2 = out at *
    clear sz1 sz2 hsuf hpl
    gi_wp2
    refine ⟨trivial, ?_⟩
    refine ((open_round l).calls (HWD.out _)).mono ?_
    rintro en U1 ⟨vw, rfl, hown, hb1⟩
    replace h1 := kp hb1 h1
    replace h2 := own_next h2 hb1
    replace h3 := kp hb1 h3
    replace h4 := reps_next h4 hb1
    replace h6 := kp hb1 h6
    replace hT := kp hb1 hT
    replace hD := kp hb1 hD
    replace hL := kp hb1 hL
    have hsz : U.heap.size ≤ U1.heap.size := hb1.size
    replace h7 := tr h7 hb1
    have kU : KeepBut (fun k => k = w.heap.size ∨ k = g ∨ g + 5 + 2 ≤ k) U U1 := (keepB hb1).mono fun _ _ h => h.elim
    clear hb1
    cases hw : Dw.wordsL x with
    | nil =>
      rw [hw] at hown
      obtain ⟨p, q, rfl⟩ := own_shape22 hown
      have HR := Lib.hid (show Dw.rowD d x = (d, []) by unfold Dw.rowD; rw [hw])
      have HKU := Lib.hid kU
      have HLIN := Lib.hid (show LinAt w.heap.size g (g + 5) w (pre ++ [x]) U1 from by
        unfold LinAt
        rw [HSN.out, HR.out, List.append_nil]
        exact ⟨v, vo, h1, h2, h3, h4, h5, h6, h7⟩)
      clear h1 h2 h3 h4 h5 h6 h7 hT hD hL hown hw kU
      gi_wp2
      exact ⟨HKU.out, HLIN.out⟩
    | cons w0 ws =>
      rw [hw] at hown wl
      have hv : StrsAt U1 vw (w0 :: ws) := slAt_own hown
      obtain ⟨p, q, rfl⟩ := own_shape22 hown
      have hlen : ((w0 :: ws).length : Int) = (ws.length : Int) + 1 := by simp
      have hwl : ws.length ≤ 100000 := by simp at wl; omega
      have hws : ∀ y ∈ ws, y.length ≤ 1000000 := fun y hy => by have := (Dw.wordsL_small x).2 y (by rw [hw]; simp [hy]); omega
      have HR := Lib.hid (show Dw.rowD d x = ((Dw.lineD d w0 ws).1, [(Dw.lineD d w0 ws).2]) by unfold Dw.rowD; rw [hw])
      have x0 : U1.cell? ⟨w.heap.size, 0, none⟩ = some vo := cells1 h1
      have x1 : U1.cell? ⟨g + 1, 0, none⟩ = some (.pointer (some ⟨g, 0, none⟩)) := cells1 h6
      have hne : ¬ w.heap.size = g := by omega
      have hgt : (0 : Int) < ((w0 :: ws).length : Int) := by simp only [List.length_cons]; omega
      have HDK := Lib.hid hdk; have HWL := Lib.hid hwl; have HWS := Lib.hid hws; have HKU := Lib.hid kU; have HV := Lib.hid hv
      have H1 := Lib.hid h1; have H2 := Lib.hid h2; have H3 := Lib.hid h3; have H4 := Lib.hid h4; have H6 := Lib.hid h6; have H7 := Lib.hid h7; have HT := Lib.hid hT; have HDD := Lib.hid hD; have HLL := Lib.hid hL
      have HG : Hid (∀ W, Keep U1 W → ConG g W) := Lib.hid (fun W hk => ⟨w, HN.out, by omega, tr H7.out hk.whole⟩)
      clear h1 h2 h3 h4 h6 h7 hT hD hL hown hw kU hdk hwl hws hv hlen wl
      gi_wp2
      refine RT.wpIn_lettersx (open_round l) (fun k => k = g) (fun k => k == 0) [0, 1, 2] [3, 4] 5 rfl (by kernel_rfl) (by kernel_rfl) (by kernel_rfl) rfl ?_
      (apply RT.rat; (focus (intro w' w'' hk hk2; have k0 := (hk2.cell (p := ⟨w.heap.size, 0, none⟩) (lt_of_cell x0) hne).trans x0; have k1 := look hk x1; (refine' RT.rl ?_ rfl rfl rfl (by go_simp; first | done | with_reducible rfl | exact rfl); try simp only [Act.put, List.setIfInBounds_toArray, List.set_cons_zero, List.set_cons_succ]); (iterate 2 (refine' RT.rv ?_ rfl rfl rfl (by go_simp; first | done | with_reducible rfl | exact rfl); try simp only [Act.put, List.setIfInBounds_toArray, List.set_cons_zero, List.set_cons_succ])); (exact RT.rn))))
      refine RT.pl_nil ?_
      obtain ⟨d', hd'⟩ : ∃ y, (Dw.lineD d w0 ws).1 = y := ⟨_, rfl⟩
      obtain ⟨r, hr'⟩ : ∃ y, (Dw.lineD d w0 ws).2 = y := ⟨_, rfl⟩
      have HLI := Lib.hid (fun w' h1 h2 h3 h4 => line_any d HDK.out w0 ws HWL.out HWS.out v (.slice p (ws.length + 1) q) g w' h1 h2 h3 h4)
      rw [hd', hr'] at HR HLI
      clear hd' hr'
      refine RT.lx_call (f := 20) (args := #[.pointer (some ⟨g, 0, none⟩), .slice p (ws.length + 1) q]) rfl rfl (fun w' hk => by go_simp; first | done | (constructor <;> with_reducible rfl) | with_reducible rfl) (fun w' hk => ?_)
      refine (HLI.out w' (kpi hk H3.out) (reps_next H4.out hk.whole) (HV.out.next hk.whole) (HG.out w' hk)).mono ?_
      rintro en w5 ⟨rfl, v5, hA5, hR5⟩
      refine ⟨_, rfl, hA5.1, ?_⟩
      refine RT.lx_value rfl rfl (fun w6 hk6 => ⟨.slice (some ⟨w6.heap.size, 0, none⟩) 1 1, w6.alloc (.cells #[.string ⟨r.toArray⟩] 9), by go_simp, (KeepBut.refl _ w6).alloc _, ?_⟩)
      refine RT.lx_nil (fun w7 hk7 => ?_)
      have kE : Keep w5 w7 := (hk6.trans ((KeepBut.refl _ w6).alloc _)).trans hk7
      have bN : w7.heap[w6.heap.size]? = some (.cells #[.string ⟨r.toArray⟩] 9 (0, 0)) := kpi hk7 (han _ _)
      have K57 : KeepBut (fun k => k = g) U1 w7 := ((hk.mono fun _ _ h => h.elim).trans hA5.1).trans (kE.mono fun _ _ h => h.elim)
      have q1 := (K57.block _ (block_lt H1.out) hne).trans H1.out
      have q2 := ownsRow_keep H2.out K57 (fun j hj => by omega)
      have q3 := kpi kE hA5.2
      have q4 := reps_next hR5 kE.whole
      have q6 := (K57.block _ (block_lt H6.out) (by omega)).trans H6.out
      have q7 := H7.out.trans (K57.below (by have := H7.out.size; omega) (fun j hj => by omega))
      have n1 := reps_not q4 ((K57.block _ (block_lt HT.out) (by omega)).trans HT.out) (fun c h => by injection h with _ h _; exact absurd h (by decide))
      have n2 := reps_not q4 ((K57.block _ (block_lt HDD.out) (by omega)).trans HDD.out) (fun c h => by cases h)
      have n3 := reps_not q4 ((K57.block _ (block_lt HLL.out) (by omega)).trans HLL.out) (fun c h => by cases h)
      have kX : KeepBut (fun k => k = w.heap.size ∨ k = g ∨ g + 5 + 2 ≤ k) U w7 := HKU.out.trans (K57.mono fun k _ h => .inr (.inl h))
      have z7 : g + 5 + 2 ≤ w7.heap.size := by have := kX.size; omega
      clear hk hA5 hR5 hk6 hk7 kE K57 HKU H1 H2 H3 H4 H6 H7 HT HDD HLL HV HG HLI HDK HWL HWS x0 x1
      have hlo : out.length + 1 ≤ maxLen := by unfold maxLen; omega
      have hlo2 : (out.length + 1) * 16 ≤ 140737488355328 := by omega
      simp only [List.drop_succ_cons, List.drop_zero, Act.put, List.setIfInBounds_toArray, List.set_cons_zero, List.set_cons_succ]
      refine wpListIn_append_own _ (by rfl) _ _ 23 (by rfl) (g + 5 + 2) 9 i0 (.string ⟨#[]⟩) 1 16 Tryz.underlying23 hi hz0 hz1 hz2 rfl (by decide) _ _ _ (by rfl) q2 ⟨w6.heap.size, 0, none⟩ 1 1 [.string ⟨r.toArray⟩] (by rfl) rfl (news_of_block bN) (by simp [Value.oneCell']) hlo hlo2 z7 ?_
      intro v8 w8 hown8 hgrow8 _
      have K8 : KeepBut (fun k => vo.ownBlock = some k) w7 w8 := (KeepBut.refl _ w7).grown hgrow8 (fun k e => e)
      have far : ∀ j, vo.ownBlock = some j → g + 5 + 2 ≤ j := fun j hj => (own_blk q2 hj).1
      have s1 := (K8.block _ (block_lt q1) (fun e => by have := far _ e; omega)).trans q1
      have s3 := (K8.block _ (block_lt q3) (fun e => by have := far _ e; omega)).trans q3
      have s4 : RepsAt w8 v5 d'.f.out := own_but q4 K8 (fun j hj => by
        obtain ⟨_, c, hc⟩ := own_blk q2 hj
        exact ⟨c, _, _, hc, by decide⟩)
      have s6 := (K8.block _ (block_lt q6) (fun e => by have := far _ e; omega)).trans q6
      have s7 := q7.trans (K8.below (by have := q7.size; omega) (fun j hj => by have := far _ hj; omega))
      have kX8 : KeepBut (fun k => k = w.heap.size ∨ k = g ∨ g + 5 + 2 ≤ k) U w8 := kX.trans (K8.mono fun k _ h => .inr (.inr (far _ h)))
      obtain ⟨ta, tn, tc, rfl⟩ := slice_of_own hown8
      have kS := (KeepBut.refl (fun k => k = w.heap.size) w8).setCell (p := ⟨w.heap.size, 0, none⟩) rfl (.slice ta tn tc)
      have HKX := Lib.hid (kX8.trans (kS.mono fun k _ h => .inl h))
      have HLIN := Lib.hid (show LinAt w.heap.size g (g + 5) w (pre ++ [x]) (w8.setCell ⟨w.heap.size, 0, none⟩ (.slice ta tn tc)) from by
        unfold LinAt
        rw [HSN.out, HR.out]
        dsimp only
        refine ⟨v5, .slice ta tn tc, ?_, ?_, (kS.block _ (block_lt s3) (by omega)).trans s3, ?_, ?_, (kS.block _ (block_lt s6) (by omega)).trans s6, ?_⟩
        · rw [heap_setCell_same w8 w.heap.size 0 _ 23 (.slice ta tn tc) s1]; rfl
        · rw [List.length_append, List.length_singleton, strCells_snoc]
          exact ownsRow_keep hown8 kS (fun j hj => by omega)
        · exact own_but s4 kS (fun j hj => by subst hj; exact ⟨_, _, _, s1, by decide⟩)
        · rintro j hj (rfl | rfl | rfl)
          · exact n1 hj
          · exact n2 hj
          · exact n3 hj
        · exact s7.trans (kS.below (by have := s7.size; omega) (fun j hj => by omega)))
      have cz := cells1 s1
      have fz := frozen0 s1 0
      clear K8 far s1 s3 s4 s6 s7 kX8 kS q1 q2 q3 q4 q6 q7 n1 n2 n3 kX hown8 hgrow8 bN
      gi_wp2
      exact ⟨HKX.out, HLIN.out⟩
  case done =>
    rintro D U hD ⟨v, vo, h1, h2, h3, h4, h5, h6, h7⟩ hK
    rw [vz] at hD
    obtain ⟨sa, sn, sc, rfl⟩ := slice_of_own h2
    have c1 := cells1 h1
    have f1 := frozen0 h1 0
    have H1 := Lib.hid h1; have H2 := Lib.hid h2
    clear h1 h2 h3 h4 h5 h6
    go_wp2
    have hZ := heap_setCell_same U w.heap.size 0 _ 23 (.slice sa sn sc) H1.out
    have hbZ := h7.setCell (p := ⟨w.heap.size, 0, none⟩) (Nat.le_refl _) (.slice sa sn sc)
    have hoZ := ownsRow_keep H2.out ((KeepBut.refl (fun k => k = w.heap.size) U).setCell (p := ⟨w.heap.size, 0, none⟩) rfl (.slice sa sn sc)) (fun g hg => by omega)
    have hKZ : (U.setCell ⟨w.heap.size, 0, none⟩ (.slice sa sn sc)).heap[D]? = some (.deferred (some [])) := by
      rw [heap_setCell_other _ _ _ _ (by simp; omega)]; exact hK
    generalize U.setCell _ _ = Z at *
    have d0 := cells1 ((World.putObj_heap_other (w := Z) (r := D) (k := w.heap.size) (o := .deferred none) (by omega)).trans hZ)
    have hoP : (Z.putObj D (.deferred none)).ownsRow (g + 5 + 2) 9 1 (.slice sa sn sc) (Dw.rowsD Dw.desk0 (Dw.splitL s)).2.length (strCells (Dw.rowsD Dw.desk0 (Dw.splitL s)).2) := by
      obtain ⟨hl, h | ⟨b', cap, cur, he, h0, hb, hr⟩⟩ := hoZ
      · exact ⟨hl, .inl h⟩
      · exact ⟨hl, .inr ⟨b', cap, cur, he, h0, (World.putObj_heap_other (fun e => by subst e; rw [hb] at hKZ; cases hKZ)).trans hb, hr⟩⟩
    refine ⟨by simp, .inl ⟨_, _, rfl, run_takeDeferred hKZ, .slice sa sn sc, by simp [results, Tryz.results7, go_sem, d0], ⟨_, rfl, slAt_own hoP⟩, ?_⟩⟩
    exact hbZ.trans ((KeepBut.putObj (X := fun k => k = D) (w := Z) (.deferred none) rfl).below (by have := hbZ.size; omega) (fun k hk => by omega))
  case stop => exact fun _ _ _ _ _ _ h _ => h.elim
end Go.Proofs.YtjibbchfndhhpaaGreatDoor
namespace Go.Proofs.YtjibbchfndhhpaaGreatDoor
open Go.RowKit Go.Shelf
attribute [local go_sem] Oper.semAt_some
namespace Dw
theorem scr_is (a b : Nat) (op : Bool) : scr a b op = [98, 101, 103, 105, 110, 32, 49, 50, 32, 57, 10, 103, 114, 111, 117, 110, 100, 10, 103, 114, 111, 117, 110, 100, 10, 103, 114, 111, 117, 110, 100, 10, 97, 114, 109, 10, 104, 111, 109, 101, 32] ++ itoaS a ++ [32] ++ itoaS b ++ [10, 103, 111, 32, 52, 10] ++ cutL op ++ [10, 103, 111, 32, 53, 10, 114, 101, 115, 101, 116, 10, 97, 105, 114, 10, 97, 105, 114, 10, 97, 105, 114] := by
  unfold scr homeL
  simp
def txtC (a b : Nat) : List UInt8 := [109, 111, 100, 101, 32, 52, 32, 97, 114, 109, 101, 100, 32, 104, 111, 109, 101, 32] ++ itoaS (8192 * (a : Int)) ++ [32] ++ itoaS (8192 * (b : Int)) ++ [32, 105, 115, 111, 32, 48]
theorem text_is (a b : Nat) : textS (sC a b) = txtC a b := by
  have e : ∀ (A O : List UInt8), Lib.join ([[109, 111, 100, 101, 32, 52]] ++ [[97, 114, 109, 101, 100]] ++ [[104, 111, 109, 101] ++ (32 :: A) ++ (32 :: O)] ++ [[105, 115, 111, 32, 48]]) [32] = [109, 111, 100, 101, 32, 52, 32, 97, 114, 109, 101, 100, 32, 104, 111, 109, 101, 32] ++ A ++ [32] ++ O ++ [32, 105, 115, 111, 32, 48] := by
    intro A O
    simp [Lib.join]
  have q1 : saidS [109, 111, 100, 101] [4] = [109, 111, 100, 101, 32, 52] := by decide +kernel
  have q2 : saidS [105, 115, 111] [0] = [105, 115, 111, 32, 48] := by decide +kernel
  unfold txtC
  rw [← e]
  unfold textS textL sC
  dsimp only
  rw [q1, q2]
  rfl
theorem rep_is (a b : Nat) : repS 1 0 (sC a b) = [114, 117, 110, 32] ++ txtC a b ∧ repS 3 26 (sC a b) = [101, 114, 114, 111, 114, 32, 50, 54, 32] ++ txtC a b ∧ repS 0 0 (sC a b) = [104, 111, 108, 100, 32] ++ txtC a b := by
  rw [← text_is]
  have q : errW 26 ++ [32] = [101, 114, 114, 111, 114, 32, 50, 54, 32] := by decide +kernel
  refine ⟨rfl, ?_, rfl⟩
  rw [← q]
  rfl
end Dw
theorem tcon_walk (la lo : Nat) (hla : la < 90) (hlo : lo < 180) (a b : Nat) (ha : a < 256) (hb : b < 256) (a1 : Int.tmod (a : Int) 90 = (la : Int)) (b1 : Int.tmod (b : Int) 180 = (lo : Int)) (op : Bool) (SC : ByteArray) (hsc : SC = ⟨(Dw.cutL op).toArray⟩)
    (hcut : (op = false ∧ SC = ⟨#[99, 117, 116, 32, 48, 32, 50, 53, 53]⟩) ∨ (op = true ∧ SC = ⟨#[99, 117, 116, 32, 49, 32, 48]⟩)) (w : World) (hn : ConAt w) :
    Calls Tryz.prog 3 #[.int .u8 (a : Int), .int .u8 (b : Int), .bool op] w fun e w' => e = .returned (.bool true) ∧ Below w.heap.size w w' := by
  have HN := Lib.hid hn
  have HT := Lib.hid (fun w h => tshown_any w h)
  have HA := Lib.hid (fun w => topdig_any la (by omega) w)
  have HO := Lib.hid (fun w => topdig_any lo (by omega) w)
  have HA8 := Lib.hid (show ∀ w, Calls Tryz.prog 6 #[.int .i64 (8192 * (la : Int))] w fun e w' => e = .returned (.string ⟨(Dw.itoaS (8192 * (la : Int))).toArray⟩) ∧ w' = w from fun w => by have := topdig_any (8192 * la) (by omega) w; rwa [Int.natCast_mul] at this)
  have HO8 := Lib.hid (show ∀ w, Calls Tryz.prog 6 #[.int .i64 (8192 * (lo : Int))] w fun e w' => e = .returned (.string ⟨(Dw.itoaS (8192 * (lo : Int))).toArray⟩) ∧ w' = w from fun w => by have := topdig_any (8192 * lo) (by omega) w; rwa [Int.natCast_mul] at this)
  obtain ⟨f1, f6, f8, f9, f12⟩ := Dw.con_flight la lo hla hlo op
  obtain ⟨r1, r2, r3⟩ := Dw.rep_is la lo
  rw [r1] at f6 f12
  rw [r2] at f8
  rw [r3] at f9
  have l1 := itoaS_len la
  have l2 := itoaS_len lo
  have l3 := itoaS_len (8192 * (la : Int))
  have l4 := itoaS_len (8192 * (lo : Int))
  have lc : (Dw.cutL op).length ≤ 9 := by cases op <;> decide
  have hlen : (Dw.scr la lo op).length ≤ 2000 := by rw [Dw.scr_is]; simp; omega
  have hL := fun w hn => lines_any (Dw.scr la lo op) hlen w hn
  -- the texts, opaque
  have k1 : (⟨#[98, 101, 103, 105, 110, 32, 49, 50, 32, 57, 10, 103, 114, 111, 117, 110, 100, 10, 103, 114, 111, 117, 110, 100, 10, 103, 114, 111, 117, 110, 100, 10, 97, 114, 109, 10, 104, 111, 109, 101, 32]⟩ : ByteArray) ++ ⟨(Dw.itoaS la).toArray⟩ = ⟨([98, 101, 103, 105, 110, 32, 49, 50, 32, 57, 10, 103, 114, 111, 117, 110, 100, 10, 103, 114, 111, 117, 110, 100, 10, 103, 114, 111, 117, 110, 100, 10, 97, 114, 109, 10, 104, 111, 109, 101, 32] ++ Dw.itoaS la).toArray⟩ := bs_append _ _
  have k2 : (⟨([98, 101, 103, 105, 110, 32, 49, 50, 32, 57, 10, 103, 114, 111, 117, 110, 100, 10, 103, 114, 111, 117, 110, 100, 10, 103, 114, 111, 117, 110, 100, 10, 97, 114, 109, 10, 104, 111, 109, 101, 32] ++ Dw.itoaS la).toArray⟩ : ByteArray) ++ ⟨#[32]⟩ = ⟨([98, 101, 103, 105, 110, 32, 49, 50, 32, 57, 10, 103, 114, 111, 117, 110, 100, 10, 103, 114, 111, 117, 110, 100, 10, 103, 114, 111, 117, 110, 100, 10, 97, 114, 109, 10, 104, 111, 109, 101, 32] ++ Dw.itoaS la ++ [32]).toArray⟩ := bs_append _ _
  have k3 : (⟨([98, 101, 103, 105, 110, 32, 49, 50, 32, 57, 10, 103, 114, 111, 117, 110, 100, 10, 103, 114, 111, 117, 110, 100, 10, 103, 114, 111, 117, 110, 100, 10, 97, 114, 109, 10, 104, 111, 109, 101, 32] ++ Dw.itoaS la ++ [32]).toArray⟩ : ByteArray) ++ ⟨(Dw.itoaS lo).toArray⟩ = ⟨([98, 101, 103, 105, 110, 32, 49, 50, 32, 57, 10, 103, 114, 111, 117, 110, 100, 10, 103, 114, 111, 117, 110, 100, 10, 103, 114, 111, 117, 110, 100, 10, 97, 114, 109, 10, 104, 111, 109, 101, 32] ++ Dw.itoaS la ++ [32] ++ Dw.itoaS lo).toArray⟩ := bs_append _ _
  have k4 : (⟨([98, 101, 103, 105, 110, 32, 49, 50, 32, 57, 10, 103, 114, 111, 117, 110, 100, 10, 103, 114, 111, 117, 110, 100, 10, 103, 114, 111, 117, 110, 100, 10, 97, 114, 109, 10, 104, 111, 109, 101, 32] ++ Dw.itoaS la ++ [32] ++ Dw.itoaS lo).toArray⟩ : ByteArray) ++ ⟨#[10, 103, 111, 32, 52, 10]⟩ = ⟨([98, 101, 103, 105, 110, 32, 49, 50, 32, 57, 10, 103, 114, 111, 117, 110, 100, 10, 103, 114, 111, 117, 110, 100, 10, 103, 114, 111, 117, 110, 100, 10, 97, 114, 109, 10, 104, 111, 109, 101, 32] ++ Dw.itoaS la ++ [32] ++ Dw.itoaS lo ++ [10, 103, 111, 32, 52, 10]).toArray⟩ := bs_append _ _
  have k5 : (⟨([98, 101, 103, 105, 110, 32, 49, 50, 32, 57, 10, 103, 114, 111, 117, 110, 100, 10, 103, 114, 111, 117, 110, 100, 10, 103, 114, 111, 117, 110, 100, 10, 97, 114, 109, 10, 104, 111, 109, 101, 32] ++ Dw.itoaS la ++ [32] ++ Dw.itoaS lo ++ [10, 103, 111, 32, 52, 10]).toArray⟩ : ByteArray) ++ SC = ⟨([98, 101, 103, 105, 110, 32, 49, 50, 32, 57, 10, 103, 114, 111, 117, 110, 100, 10, 103, 114, 111, 117, 110, 100, 10, 103, 114, 111, 117, 110, 100, 10, 97, 114, 109, 10, 104, 111, 109, 101, 32] ++ Dw.itoaS la ++ [32] ++ Dw.itoaS lo ++ [10, 103, 111, 32, 52, 10] ++ Dw.cutL op).toArray⟩ := by rw [hsc]; exact bs_append _ _
  have k6 : (⟨([98, 101, 103, 105, 110, 32, 49, 50, 32, 57, 10, 103, 114, 111, 117, 110, 100, 10, 103, 114, 111, 117, 110, 100, 10, 103, 114, 111, 117, 110, 100, 10, 97, 114, 109, 10, 104, 111, 109, 101, 32] ++ Dw.itoaS la ++ [32] ++ Dw.itoaS lo ++ [10, 103, 111, 32, 52, 10] ++ Dw.cutL op).toArray⟩ : ByteArray) ++ ⟨#[10, 103, 111, 32, 53, 10, 114, 101, 115, 101, 116, 10, 97, 105, 114, 10, 97, 105, 114, 10, 97, 105, 114]⟩ = ⟨(Dw.scr la lo op).toArray⟩ := by rw [Dw.scr_is]; exact bs_append _ _
  have m1 : (⟨#[109, 111, 100, 101, 32, 52, 32, 97, 114, 109, 101, 100, 32, 104, 111, 109, 101, 32]⟩ : ByteArray) ++ ⟨(Dw.itoaS (8192 * (la : Int))).toArray⟩ = ⟨([109, 111, 100, 101, 32, 52, 32, 97, 114, 109, 101, 100, 32, 104, 111, 109, 101, 32] ++ Dw.itoaS (8192 * (la : Int))).toArray⟩ := bs_append _ _
  have m2 : (⟨([109, 111, 100, 101, 32, 52, 32, 97, 114, 109, 101, 100, 32, 104, 111, 109, 101, 32] ++ Dw.itoaS (8192 * (la : Int))).toArray⟩ : ByteArray) ++ ⟨#[32]⟩ = ⟨([109, 111, 100, 101, 32, 52, 32, 97, 114, 109, 101, 100, 32, 104, 111, 109, 101, 32] ++ Dw.itoaS (8192 * (la : Int)) ++ [32]).toArray⟩ := bs_append _ _
  have m3 : (⟨([109, 111, 100, 101, 32, 52, 32, 97, 114, 109, 101, 100, 32, 104, 111, 109, 101, 32] ++ Dw.itoaS (8192 * (la : Int)) ++ [32]).toArray⟩ : ByteArray) ++ ⟨(Dw.itoaS (8192 * (lo : Int))).toArray⟩ = ⟨([109, 111, 100, 101, 32, 52, 32, 97, 114, 109, 101, 100, 32, 104, 111, 109, 101, 32] ++ Dw.itoaS (8192 * (la : Int)) ++ [32] ++ Dw.itoaS (8192 * (lo : Int))).toArray⟩ := bs_append _ _
  have m4 : (⟨([109, 111, 100, 101, 32, 52, 32, 97, 114, 109, 101, 100, 32, 104, 111, 109, 101, 32] ++ Dw.itoaS (8192 * (la : Int)) ++ [32] ++ Dw.itoaS (8192 * (lo : Int))).toArray⟩ : ByteArray) ++ ⟨#[32, 105, 115, 111, 32, 48]⟩ = ⟨(Dw.txtC la lo).toArray⟩ := bs_append _ _
  have n1 : (⟨#[114, 117, 110, 32]⟩ : ByteArray) ++ ⟨(Dw.txtC la lo).toArray⟩ = ⟨([114, 117, 110, 32] ++ Dw.txtC la lo).toArray⟩ := bs_append _ _
  have n2 : (⟨#[101, 114, 114, 111, 114, 32, 50, 54, 32]⟩ : ByteArray) ++ ⟨(Dw.txtC la lo).toArray⟩ = ⟨([101, 114, 114, 111, 114, 32, 50, 54, 32] ++ Dw.txtC la lo).toArray⟩ := bs_append _ _
  have n3 : (⟨#[104, 111, 108, 100, 32]⟩ : ByteArray) ++ ⟨(Dw.txtC la lo).toArray⟩ = ⟨([104, 111, 108, 100, 32] ++ Dw.txtC la lo).toArray⟩ := bs_append _ _
  have zt : (⟨(Dw.txtC la lo).toArray⟩ : ByteArray).size ≤ 100 := by show (Dw.txtC la lo).toArray.size ≤ 100; unfold Dw.txtC; simp; omega
  have zc : SC.size ≤ 9 := by rw [hsc]; show (Dw.cutL op).toArray.size ≤ 9; simpa using lc
  obtain ⟨A1, qA1⟩ : ∃ S : ByteArray, ⟨(Dw.itoaS la).toArray⟩ = S := ⟨_, rfl⟩
  have zA1 : A1.size ≤ 20 := by rw [← qA1]; show ((Dw.itoaS la).toArray).size ≤ 20; simpa using l1
  obtain ⟨O1, qO1⟩ : ∃ S : ByteArray, ⟨(Dw.itoaS lo).toArray⟩ = S := ⟨_, rfl⟩
  have zO1 : O1.size ≤ 20 := by rw [← qO1]; show ((Dw.itoaS lo).toArray).size ≤ 20; simpa using l2
  obtain ⟨A8, qA8⟩ : ∃ S : ByteArray, ⟨(Dw.itoaS (8192 * (la : Int))).toArray⟩ = S := ⟨_, rfl⟩
  have zA8 : A8.size ≤ 20 := by rw [← qA8]; show ((Dw.itoaS (8192 * (la : Int))).toArray).size ≤ 20; simpa using l3
  obtain ⟨O8, qO8⟩ : ∃ S : ByteArray, ⟨(Dw.itoaS (8192 * (lo : Int))).toArray⟩ = S := ⟨_, rfl⟩
  have zO8 : O8.size ≤ 20 := by rw [← qO8]; show ((Dw.itoaS (8192 * (lo : Int))).toArray).size ≤ 20; simpa using l4
  obtain ⟨S1, qS1⟩ : ∃ S : ByteArray, ⟨([98, 101, 103, 105, 110, 32, 49, 50, 32, 57, 10, 103, 114, 111, 117, 110, 100, 10, 103, 114, 111, 117, 110, 100, 10, 103, 114, 111, 117, 110, 100, 10, 97, 114, 109, 10, 104, 111, 109, 101, 32] ++ Dw.itoaS la).toArray⟩ = S := ⟨_, rfl⟩
  have zS1 : S1.size ≤ 200 := by rw [← qS1]; show ([98, 101, 103, 105, 110, 32, 49, 50, 32, 57, 10, 103, 114, 111, 117, 110, 100, 10, 103, 114, 111, 117, 110, 100, 10, 103, 114, 111, 117, 110, 100, 10, 97, 114, 109, 10, 104, 111, 109, 101, 32] ++ Dw.itoaS la).toArray.size ≤ 200; simp; omega
  obtain ⟨S2, qS2⟩ : ∃ S : ByteArray, ⟨([98, 101, 103, 105, 110, 32, 49, 50, 32, 57, 10, 103, 114, 111, 117, 110, 100, 10, 103, 114, 111, 117, 110, 100, 10, 103, 114, 111, 117, 110, 100, 10, 97, 114, 109, 10, 104, 111, 109, 101, 32] ++ Dw.itoaS la ++ [32]).toArray⟩ = S := ⟨_, rfl⟩
  have zS2 : S2.size ≤ 200 := by rw [← qS2]; show ([98, 101, 103, 105, 110, 32, 49, 50, 32, 57, 10, 103, 114, 111, 117, 110, 100, 10, 103, 114, 111, 117, 110, 100, 10, 103, 114, 111, 117, 110, 100, 10, 97, 114, 109, 10, 104, 111, 109, 101, 32] ++ Dw.itoaS la ++ [32]).toArray.size ≤ 200; simp; omega
  obtain ⟨S3, qS3⟩ : ∃ S : ByteArray, ⟨([98, 101, 103, 105, 110, 32, 49, 50, 32, 57, 10, 103, 114, 111, 117, 110, 100, 10, 103, 114, 111, 117, 110, 100, 10, 103, 114, 111, 117, 110, 100, 10, 97, 114, 109, 10, 104, 111, 109, 101, 32] ++ Dw.itoaS la ++ [32] ++ Dw.itoaS lo).toArray⟩ = S := ⟨_, rfl⟩
  have zS3 : S3.size ≤ 200 := by rw [← qS3]; show ([98, 101, 103, 105, 110, 32, 49, 50, 32, 57, 10, 103, 114, 111, 117, 110, 100, 10, 103, 114, 111, 117, 110, 100, 10, 103, 114, 111, 117, 110, 100, 10, 97, 114, 109, 10, 104, 111, 109, 101, 32] ++ Dw.itoaS la ++ [32] ++ Dw.itoaS lo).toArray.size ≤ 200; simp; omega
  obtain ⟨S4, qS4⟩ : ∃ S : ByteArray, ⟨([98, 101, 103, 105, 110, 32, 49, 50, 32, 57, 10, 103, 114, 111, 117, 110, 100, 10, 103, 114, 111, 117, 110, 100, 10, 103, 114, 111, 117, 110, 100, 10, 97, 114, 109, 10, 104, 111, 109, 101, 32] ++ Dw.itoaS la ++ [32] ++ Dw.itoaS lo ++ [10, 103, 111, 32, 52, 10]).toArray⟩ = S := ⟨_, rfl⟩
  have zS4 : S4.size ≤ 200 := by rw [← qS4]; show ([98, 101, 103, 105, 110, 32, 49, 50, 32, 57, 10, 103, 114, 111, 117, 110, 100, 10, 103, 114, 111, 117, 110, 100, 10, 103, 114, 111, 117, 110, 100, 10, 97, 114, 109, 10, 104, 111, 109, 101, 32] ++ Dw.itoaS la ++ [32] ++ Dw.itoaS lo ++ [10, 103, 111, 32, 52, 10]).toArray.size ≤ 200; simp; omega
  obtain ⟨S5, qS5⟩ : ∃ S : ByteArray, ⟨([98, 101, 103, 105, 110, 32, 49, 50, 32, 57, 10, 103, 114, 111, 117, 110, 100, 10, 103, 114, 111, 117, 110, 100, 10, 103, 114, 111, 117, 110, 100, 10, 97, 114, 109, 10, 104, 111, 109, 101, 32] ++ Dw.itoaS la ++ [32] ++ Dw.itoaS lo ++ [10, 103, 111, 32, 52, 10] ++ Dw.cutL op).toArray⟩ = S := ⟨_, rfl⟩
  have zS5 : S5.size ≤ 200 := by rw [← qS5]; show ([98, 101, 103, 105, 110, 32, 49, 50, 32, 57, 10, 103, 114, 111, 117, 110, 100, 10, 103, 114, 111, 117, 110, 100, 10, 103, 114, 111, 117, 110, 100, 10, 97, 114, 109, 10, 104, 111, 109, 101, 32] ++ Dw.itoaS la ++ [32] ++ Dw.itoaS lo ++ [10, 103, 111, 32, 52, 10] ++ Dw.cutL op).toArray.size ≤ 200; simp; omega
  obtain ⟨T1, qT1⟩ : ∃ S : ByteArray, ⟨([109, 111, 100, 101, 32, 52, 32, 97, 114, 109, 101, 100, 32, 104, 111, 109, 101, 32] ++ Dw.itoaS (8192 * (la : Int))).toArray⟩ = S := ⟨_, rfl⟩
  have zT1 : T1.size ≤ 200 := by rw [← qT1]; show ([109, 111, 100, 101, 32, 52, 32, 97, 114, 109, 101, 100, 32, 104, 111, 109, 101, 32] ++ Dw.itoaS (8192 * (la : Int))).toArray.size ≤ 200; simp; omega
  obtain ⟨T2, qT2⟩ : ∃ S : ByteArray, ⟨([109, 111, 100, 101, 32, 52, 32, 97, 114, 109, 101, 100, 32, 104, 111, 109, 101, 32] ++ Dw.itoaS (8192 * (la : Int)) ++ [32]).toArray⟩ = S := ⟨_, rfl⟩
  have zT2 : T2.size ≤ 200 := by rw [← qT2]; show ([109, 111, 100, 101, 32, 52, 32, 97, 114, 109, 101, 100, 32, 104, 111, 109, 101, 32] ++ Dw.itoaS (8192 * (la : Int)) ++ [32]).toArray.size ≤ 200; simp; omega
  obtain ⟨T3, qT3⟩ : ∃ S : ByteArray, ⟨([109, 111, 100, 101, 32, 52, 32, 97, 114, 109, 101, 100, 32, 104, 111, 109, 101, 32] ++ Dw.itoaS (8192 * (la : Int)) ++ [32] ++ Dw.itoaS (8192 * (lo : Int))).toArray⟩ = S := ⟨_, rfl⟩
  have zT3 : T3.size ≤ 200 := by rw [← qT3]; show ([109, 111, 100, 101, 32, 52, 32, 97, 114, 109, 101, 100, 32, 104, 111, 109, 101, 32] ++ Dw.itoaS (8192 * (la : Int)) ++ [32] ++ Dw.itoaS (8192 * (lo : Int))).toArray.size ≤ 200; simp; omega
  obtain ⟨SS, qSS⟩ : ∃ S : ByteArray, ⟨(Dw.scr la lo op).toArray⟩ = S := ⟨_, rfl⟩
  obtain ⟨TT, qTT⟩ : ∃ S : ByteArray, ⟨(Dw.txtC la lo).toArray⟩ = S := ⟨_, rfl⟩
  obtain ⟨R1, qR1⟩ : ∃ S : ByteArray, ⟨([114, 117, 110, 32] ++ Dw.txtC la lo).toArray⟩ = S := ⟨_, rfl⟩
  obtain ⟨R2, qR2⟩ : ∃ S : ByteArray, ⟨([101, 114, 114, 111, 114, 32, 50, 54, 32] ++ Dw.txtC la lo).toArray⟩ = S := ⟨_, rfl⟩
  obtain ⟨R3, qR3⟩ : ∃ S : ByteArray, ⟨([104, 111, 108, 100, 32] ++ Dw.txtC la lo).toArray⟩ = S := ⟨_, rfl⟩
  rw [qA1, qS1] at k1
  rw [qS1, qS2] at k2
  rw [qS2, qO1, qS3] at k3
  rw [qS3, qS4] at k4
  rw [qS4, qS5] at k5
  rw [qS5, qSS] at k6
  rw [qA8, qT1] at m1
  rw [qT1, qT2] at m2
  rw [qT2, qO8, qT3] at m3
  rw [qT3, qTT] at m4
  rw [qTT, qR1] at n1
  rw [qTT, qR2] at n2
  rw [qTT, qR3] at n3
  rw [qTT] at zt
  rw [qA1] at HA
  rw [qO1] at HO
  rw [qA8] at HA8
  rw [qO8] at HO8
  rw [qSS] at hL
  have HL := Lib.hid hL
  have HF : Hid (∀ (w1 : World) (bb off : Nat), (∀ (k : Nat) (s : List UInt8), (Dw.linesS (Dw.scr la lo op))[k]? = some s → w1.cell? ⟨bb, off + k, none⟩ = some (.string ⟨s.toArray⟩)) → w1.cell? ⟨bb, off + 6, none⟩ = some (.string R1) ∧ w1.cell? ⟨bb, off + 8, none⟩ = some (.string R2) ∧ w1.cell? ⟨bb, off + 9, none⟩ = some (.string R3) ∧ w1.cell? ⟨bb, off + 12, none⟩ = some (.string R1)) := Lib.hid (fun w1 bb off hc => by
    rw [← qR1, ← qR2, ← qR3]
    exact ⟨hc 6 _ f6, hc 8 _ f8, hc 9 _ f9, hc 12 _ f12⟩)
  have F1 := Lib.hid f1
  clear f1 f6 f8 f9 f12 r1 r2 r3 l1 l2 l3 l4 lc hlen hL hsc qA1 qO1 qA8 qO8 qS1 qS2 qS3 qS4 qS5 qT1 qT2 qT3 qSS qTT qR1 qR2 qR3 hn
  generalize Dw.linesS (Dw.scr la lo op) = M at *
  obtain ⟨nSC, ySC⟩ : ∃ n, SC.size = n := ⟨_, rfl⟩
  rw [ySC] at zc
  obtain ⟨nA1, yA1⟩ : ∃ n, A1.size = n := ⟨_, rfl⟩
  rw [yA1] at zA1
  obtain ⟨nO1, yO1⟩ : ∃ n, O1.size = n := ⟨_, rfl⟩
  rw [yO1] at zO1
  obtain ⟨nA8, yA8⟩ : ∃ n, A8.size = n := ⟨_, rfl⟩
  rw [yA8] at zA8
  obtain ⟨nO8, yO8⟩ : ∃ n, O8.size = n := ⟨_, rfl⟩
  rw [yO8] at zO8
  obtain ⟨nS1, yS1⟩ : ∃ n, S1.size = n := ⟨_, rfl⟩
  rw [yS1] at zS1
  obtain ⟨nS2, yS2⟩ : ∃ n, S2.size = n := ⟨_, rfl⟩
  rw [yS2] at zS2
  obtain ⟨nS3, yS3⟩ : ∃ n, S3.size = n := ⟨_, rfl⟩
  rw [yS3] at zS3
  obtain ⟨nS4, yS4⟩ : ∃ n, S4.size = n := ⟨_, rfl⟩
  rw [yS4] at zS4
  obtain ⟨nS5, yS5⟩ : ∃ n, S5.size = n := ⟨_, rfl⟩
  rw [yS5] at zS5
  obtain ⟨nT1, yT1⟩ : ∃ n, T1.size = n := ⟨_, rfl⟩
  rw [yT1] at zT1
  obtain ⟨nT2, yT2⟩ : ∃ n, T2.size = n := ⟨_, rfl⟩
  rw [yT2] at zT2
  obtain ⟨nT3, yT3⟩ : ∃ n, T3.size = n := ⟨_, rfl⟩
  rw [yT3] at zT3
  obtain ⟨nTT, yTT⟩ : ∃ n, TT.size = n := ⟨_, rfl⟩
  rw [yTT] at zt
  have g0 : ¬ 9223372036854775807 < 41 + nA1 := by omega
  have g1 : ¬ 9223372036854775807 < nS1 + 1 := by omega
  have g2 : ¬ 9223372036854775807 < nS2 + nO1 := by omega
  have g3 : ¬ 9223372036854775807 < nS3 + 6 := by omega
  have g4 : ¬ 9223372036854775807 < nS4 + nSC := by omega
  have g5 : ¬ 9223372036854775807 < nS5 + 23 := by omega
  have g6 : ¬ 9223372036854775807 < 18 + nA8 := by omega
  have g7 : ¬ 9223372036854775807 < nT1 + 1 := by omega
  have g8 : ¬ 9223372036854775807 < nT2 + nO8 := by omega
  have g9 : ¬ 9223372036854775807 < nT3 + 6 := by omega
  have g10 : ¬ 9223372036854775807 < 4 + nTT := by omega
  have g11 : ¬ 9223372036854775807 < 9 + nTT := by omega
  have g12 : ¬ 9223372036854775807 < 5 + nTT := by omega
  have w1 : wrap64 (a : Int) = (a : Int) := IntWalk.wrap64_in _ (by clear a1 b1; omega)
  have w2 : wrap64 (b : Int) = (b : Int) := IntWalk.wrap64_in _ (by clear a1 b1 w1; omega)
  have w3 : IntKind.i64.wrap (a : Int) = (a : Int) := IntWalk.i64_in _ (by clear a1 b1 w1 w2; omega)
  have w4 : IntKind.i64.wrap (b : Int) = (b : Int) := IntWalk.i64_in _ (by clear a1 b1 w1 w2 w3; omega)
  have w5 : IntKind.i64.wrap (la : Int) = (la : Int) := IntWalk.i64_in _ (by clear a1 b1 w1 w2 w3 w4; omega)
  have w6 : IntKind.i64.wrap (lo : Int) = (lo : Int) := IntWalk.i64_in _ (by clear a1 b1 w1 w2 w3 w4 w5; omega)
  have w7 : IntKind.i64.wrap (8192 * (la : Int)) = 8192 * (la : Int) := IntWalk.i64_in _ (by clear a1 b1 w1 w2 w3 w4 w5 w6; omega)
  have w8 : IntKind.i64.wrap (8192 * (lo : Int)) = 8192 * (lo : Int) := IntWalk.i64_in _ (by clear a1 b1 w1 w2 w3 w4 w5 w6 w7; omega)
  have HWA : Hid True := Lib.hid trivial
  rcases hcut with ⟨rfl, hcut⟩ | ⟨rfl, hcut⟩
  · have hcut' := hcut.symm
    clear hcut
    go_enter Tryz.func3, Tryz.ntmps3
    go_wp2_with fail
    refine (HA.out _).mono ?_
    rintro en w1 ⟨rfl, rfl⟩
    go_wp2_with fail
    refine (HO.out _).mono ?_
    rintro en w2 ⟨rfl, rfl⟩
    go_wp2_with fail
    refine (HL.out _ HN.out).mono ?_
    rintro en w3 ⟨⟨v, rfl, hv⟩, hb3⟩
    have HB3 := Lib.hid hb3
    obtain ⟨bb, off, cap, rfl, hcap, hc⟩ := strs_get hv (by rw [F1.out]; omega)
    obtain ⟨x6, x8, x9, x12⟩ := HF.out _ _ _ hc
    rw [F1.out] at hcap ⊢
    have HN3 := Lib.hid (HN.out.next hb3)
    clear hc hv hb3 HF HL F1 HN
    go_wp2_with fail
    refine (HA8.out _).mono ?_
    rintro en w4 ⟨rfl, rfl⟩
    go_wp2_with fail
    refine (HO8.out _).mono ?_
    rintro en w5 ⟨rfl, rfl⟩
    go_wp2_with fail
    refine (HT.out _ HN3.out.none).mono ?_
    rintro en w6 ⟨rfl, hb6⟩
    have HB6 := Lib.hid (tr HB3.out hb6)
    clear hb6
    go_wp2_with fail
    go_ret
    exact ⟨rfl, HB6.out⟩
  · have hcut' := hcut.symm
    clear hcut
    go_enter Tryz.func3, Tryz.ntmps3
    go_wp2_with fail
    refine (HA.out _).mono ?_
    rintro en w1 ⟨rfl, rfl⟩
    go_wp2_with fail
    refine (HO.out _).mono ?_
    rintro en w2 ⟨rfl, rfl⟩
    go_wp2_with fail
    refine (HL.out _ HN.out).mono ?_
    rintro en w3 ⟨⟨v, rfl, hv⟩, hb3⟩
    have HB3 := Lib.hid hb3
    obtain ⟨bb, off, cap, rfl, hcap, hc⟩ := strs_get hv (by rw [F1.out]; omega)
    obtain ⟨x6, x8, x9, x12⟩ := HF.out _ _ _ hc
    rw [F1.out] at hcap ⊢
    have HN3 := Lib.hid (HN.out.next hb3)
    clear hc hv hb3 HF HL F1 HN
    go_wp2_with fail
    refine (HA8.out _).mono ?_
    rintro en w4 ⟨rfl, rfl⟩
    go_wp2_with fail
    refine (HO8.out _).mono ?_
    rintro en w5 ⟨rfl, rfl⟩
    go_wp2_with fail
    refine (HT.out _ HN3.out.none).mono ?_
    rintro en w6 ⟨rfl, hb6⟩
    have HB6 := Lib.hid (tr HB3.out hb6)
    clear hb6
    go_wp2_with fail
    go_ret
    exact ⟨rfl, HB6.out⟩
theorem tcon_any (a b : Nat) (ha : a < 256) (hb : b < 256) (op : Bool) (w : World) (hn : ConAt w) :
    Calls Tryz.prog 3 #[.int .u8 (a : Int), .int .u8 (b : Int), .bool op] w fun e w' => e = .returned (.bool true) ∧ Below w.heap.size w w' := by
  refine tcon_walk (a % 90) (b % 180) (by omega) (by omega) a b ha hb rfl rfl op ⟨(Dw.cutL op).toArray⟩ rfl ?_ w hn
  cases op with
  | false => exact .inl ⟨rfl, rfl⟩
  | true => exact .inr ⟨rfl, rfl⟩
end Go.Proofs.YtjibbchfndhhpaaGreatDoor
