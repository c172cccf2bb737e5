/- What the statement's proof stands on, part 16: Scan, RScan, Pick, Read. -/
import Derived.Test.YtjibbchfndhhpaaGreatDoorRc15
import Derived.WalkMore
set_option linter.unusedSimpArgs false
set_option linter.unusedVariables false
set_option maxRecDepth 100000
set_option maxHeartbeats 4000000
namespace Go.Proofs.YtjibbchfndhhpaaGreatDoor
open Go.RowKit Go.Shelf
attribute [local go_sem] Oper.semAt_some
namespace Dw
def lastStep (s : List UInt8) (b : Rec × Int) (i : Nat) : Rec × Int := if state s i = 2 ∧ (b.2 ≠ 0 ∨ b.1.seq ≤ (decodeR (slot s i)).seq) then (decodeR (slot s i), 0) else b
def lastN (s : List UInt8) (k : Nat) : Rec × Int := (List.range k).foldl (fun b i => lastStep s b (i + 1)) (zeroRec, 10)
def last (s : List UInt8) : Rec × Int := lastN s (slots s.length)
theorem lastN_succ (s : List UInt8) (k : Nat) : lastN s (k + 1) = lastStep s (lastN s k) (k + 1) := by unfold lastN; rw [List.range_succ, List.foldl_append]; rfl
theorem states_at (s : List UInt8) (k : Nat) (h : k < (states s).length) : (states s)[k] = state s (k + 1) := by simp [states]
end Dw
theorem KeepBut.setRow {X : Nat → Prop} {a w : World} (h : KeepBut X a w) {g : Nat} (hg : X g) (c : Array Value) : KeepBut X a (w.setRow g c) :=
  h.trans ⟨rfl, rfl, rfl, by simp [World.setRow], fun k _ hk => setRow_other w g k _ (fun e => hk (e ▸ hg))⟩
theorem last_any (s : List UInt8) (hs : s.length ≤ 400) (w : World) :
    Calls Tryz.prog 174 #[.string ⟨s.toArray⟩] w fun e w' => e = .returned (.tuple #[recV (Dw.last s).1, .int .i64 (Dw.last s).2]) ∧ Below w.heap.size w w' := by
  have hB0 := (Below.refl w.heap.size w).alloc (Nat.le_refl _) (.cells #[.int .i64 0, .int .u64 0, .int .u64 0] 256)
  have hC0 := han w (.cells #[.int .i64 0, .int .u64 0, .int .u64 0] 256)
  have hle := Dw.slots_le s.length
  go_enter Tryz.func174, Tryz.ntmps174
  go_wp2_with fail
  go_step3
  go_wp2_with fail
  go_step3
  go_wp2_with fail
  refine (states_any s hs _).mono ?_
  rintro e w1 ⟨⟨v, rfl, hv⟩, hb1⟩
  have hC1 := (hb1.block w.heap.size (by simp)).trans hC0
  have hB1 := tr hB0 hb1
  clear hB0 hC0 hb1
  have hs1 := block_lt hC1
  have HB1 := Lib.hid hB1
  clear hB1
  rcases hv with ⟨rfl, hnil⟩ | ⟨g, cap, rfl, hcap, hgB, hg, hcs⟩
  · have hn : Dw.slots s.length = 0 := by rw [← Dw.states_length, hnil]; rfl
    have HL := Lib.hid (show Dw.last s = (Dw.zeroRec, 10) from by unfold Dw.last; rw [hn]; rfl)
    clear hn hnil
    go_wp2_with fail
    go_loopw [3, 11] (fun e i wr => e = .int .i64 10 ∧ i = .int .i64 0 ∧ wr = w1) (fun _ _ _ => 0)
    case atStart => exact ⟨rfl, rfl, rfl⟩
    case round =>
      obtain ⟨rfl, rfl, rfl⟩ := hrel
      go_wp2_with (first | (refine lb hC1 rfl rfl rfl (by kernel_rfl) ?_) | (refine sb hC1 rfl rfl rfl rfl (by kernel_rfl) ?_))
      (try rw [Exit.noGoto_ret])
      refine bodyPost_ret (rct rfl (srh hC1) (by rfl) (by kernel_rfl)) rfl ⟨?_, below_setRow HB1.out (Nat.le_refl _) _⟩
      rw [HL.out]; rfl
  · have hn := Dw.states_length s
    have hlen : (Dw.states s).length ≤ 12 := by omega
    have hcs' : ∀ j, j < (Dw.states s).length → w1.cell? ⟨g, j, none⟩ = some (.int .i64 (Dw.state s (j + 1) : Nat)) := fun j hj => by rw [hcs j hj, Dw.states_at]
    have HL := Lib.hid (show Dw.last s = Dw.lastN s (Dw.states s).length from by rw [hn]; rfl)
    have hgs : g ≠ w.heap.size := by simp at hgB; omega
    have Hcs := Lib.hid hcs'
    clear hcs hn hcs'
    generalize (Dw.states s).length = n at *
    go_wp2_with fail
    go_loopw [3, 11] (fun e i wr => ∃ k : Nat, k ≤ n ∧ i = .int .i64 k ∧ e = .int .i64 (Dw.lastN s k).2 ∧ wr.heap[w.heap.size]? = some (.cells #[.int .i64 (Dw.lastN s k).1.kind, .int .u64 (Dw.lastN s k).1.seq, .int .u64 (Dw.lastN s k).1.data] 256 (0, 0)) ∧ KeepBut (fun k => k = w.heap.size) w1 wr) (fun _ i _ => n - (intOf i).toNat)
    case atStart => exact ⟨0, Nat.zero_le _, rfl, rfl, hC1, KeepBut.refl _ _⟩
    case round =>
      obtain ⟨k, hk, rfl, rfl, hC, hK⟩ := hrel
      have hgk := hK.size
      by_cases hlt : k < n
      · have hcell : wr.cell? ⟨g, k, none⟩ = some (.int .i64 (Dw.state s (k + 1) : Nat)) := (hK.cell (p := ⟨g, k, none⟩) hg hgs).trans (Hcs.out k hlt)
        have Hstep := Lib.hid (Dw.lastN_succ s k)
        have hwr : w.heap.size < wr.heap.size := block_lt hC
        generalize hb : Dw.lastN s k = b at *
        have Hb := Lib.hid hb; clear hb
        obtain ⟨⟨bk, bq, bd⟩, be⟩ := b
        by_cases hst : Dw.state s (k + 1) = 2
        · have Hst := Lib.hid hst
          rw [hst] at hcell
          clear hst
          have HC := Lib.hid hC; clear hC
          go_wp2_with fail
          refine cb (brecord_any s hs _ (k + 1) (by omega) _) fun w2 hb2 => ?_
          have hC2 := (hb2.block _ hwr).trans HC.out
          have hK2 := hK.trans (KeepBut.of_below' hb2)
          have hsz2 := hb2.size
          generalize Dw.decodeE (Dw.slot s (k + 1)) = er at *
          generalize hr : Dw.decodeR (Dw.slot s (k + 1)) = r at *
          have Hr := Lib.hid hr; clear hr
          obtain ⟨rk, rq, rd⟩ := r
          have hC3 := hao w2 (.cells #[.int .i64 rk, .int .u64 rq, .int .u64 rd] 256) hC2
          have hK3 := hK2.alloc (.cells #[.int .i64 rk, .int .u64 rq, .int .u64 rd] 256)
          obtain ⟨cA, cB, cC⟩ := cells3 hC2
          have hlt2 := block_lt hC2
          have hsz3 : w.heap.size < w2.heap.size := hlt2
          clear hb2 hcell
          by_cases h0 : be = 0 ∧ rq < bq
          · obtain ⟨h0, hq⟩ := h0
            have hq' : (rq : Int) < (bq : Int) := by omega
            subst h0
            have HC3 := Lib.hid hC3; have HC2 := Lib.hid hC2; clear hC3 hC2
            go_wp2_with fail
            go_roundw
            case rel =>
              have e : Dw.lastN s (k + 1) = (⟨bk, bq, bd⟩, 0) := by
                rw [Hstep.out]; unfold Dw.lastStep; rw [Hr.out, if_neg]
                rintro ⟨_, h | h⟩
                · exact h rfl
                · simp at h; omega
              exact ⟨k + 1, by omega, by go_num, by rw [e], by rw [e]; exact HC3.out, hK3⟩
            case measure => simp [intOf]; omega
          · have e : Dw.lastN s (k + 1) = (⟨rk, rq, rd⟩, 0) := by
              rw [Hstep.out]; unfold Dw.lastStep; rw [Hr.out, if_pos]
              refine ⟨Hst.out, ?_⟩
              by_cases hbe : be = 0
              · exact .inr (by simp; omega)
              · exact .inl hbe
            have E := Lib.hid e
            clear e
            have fin : (((w2.alloc (.cells #[.int .i64 rk, .int .u64 rq, .int .u64 rd] 256))).setRow w.heap.size #[.int .i64 rk, .int .u64 rq, .int .u64 rd]).heap[w.heap.size]? = some (.cells #[.int .i64 rk, .int .u64 rq, .int .u64 rd] 256 (0, 0)) := srh hC3
            have finK : KeepBut (fun k => k = w.heap.size) w1 (((w2.alloc (.cells #[.int .i64 rk, .int .u64 rq, .int .u64 rd] 256))).setRow w.heap.size #[.int .i64 rk, .int .u64 rq, .int .u64 rd]) := hK3.setRow rfl _
            have hR3 := han w2 (.cells #[.int .i64 rk, .int .u64 rq, .int .u64 rd] 256)
            have HF := Lib.hid fin; have HK := Lib.hid finK; clear fin finK hC2
            by_cases hbe : be = 0
            · have hq : ¬ rq < bq := fun h => h0 ⟨hbe, h⟩
              have hq' : ¬ (rq : Int) < (bq : Int) := by omega
              subst hbe
              clear hq h0
              go_wp2_with (first | (refine lb hR3 rfl rfl rfl (by kernel_rfl) ?_) | (refine sb hR3 rfl rfl rfl rfl (by kernel_rfl) ?_) | (refine lb hC3 rfl rfl rfl (by kernel_rfl) ?_) | (refine sb hC3 rfl rfl rfl rfl (by kernel_rfl) ?_))
              go_roundw
              case rel => exact ⟨k + 1, by omega, by go_num, by rw [E.out], by rw [E.out]; exact HF.out, HK.out⟩
              case measure => simp [intOf]; omega
            · have hbe' : (be == 0) = false := by simpa using hbe
              clear hbe h0
              go_wp2_with (first | (refine lb hR3 rfl rfl rfl (by kernel_rfl) ?_) | (refine sb hR3 rfl rfl rfl rfl (by kernel_rfl) ?_) | (refine lb hC3 rfl rfl rfl (by kernel_rfl) ?_) | (refine sb hC3 rfl rfl rfl rfl (by kernel_rfl) ?_))
              go_roundw
              case rel => exact ⟨k + 1, by omega, by go_num, by rw [E.out], by rw [E.out]; exact HF.out, HK.out⟩
              case measure => simp [intOf]; omega
        · have hst' : (((Dw.state s (k + 1) : Nat) : Int) != 2) = true := by rw [bne_iff_ne]; omega
          have Hst := Lib.hid hst; clear hst
          have HC := Lib.hid hC; clear hC
          go_wp2_with fail
          go_roundw
          case rel =>
            have e : Dw.lastN s (k + 1) = (⟨bk, bq, bd⟩, be) := by rw [Hstep.out]; unfold Dw.lastStep; rw [if_neg (fun h => Hst.out h.1)]
            exact ⟨k + 1, by omega, by go_num, by rw [e], by rw [e]; exact HC.out, hK⟩
          case measure => simp [intOf]; omega
      · obtain rfl : k = n := by omega
        have hCk := hC
        generalize hb : Dw.lastN s k = b at *
        have Hb := Lib.hid hb; clear hb
        obtain ⟨⟨bk, bq, bd⟩, be⟩ := b
        have HbB := Lib.hid (HB1.out.trans (hK.below (by omega) (by omega)))
        go_wp2_with (first | (refine lb hCk rfl rfl rfl (by kernel_rfl) ?_) | (refine sb hCk rfl rfl rfl rfl (by kernel_rfl) ?_))
        (try rw [Exit.noGoto_ret])
        refine bodyPost_ret (rct rfl (srh hCk) (by rfl) (by kernel_rfl)) rfl ⟨?_, below_setRow HbB.out (Nat.le_refl _) _⟩
        rw [HL.out]; rfl
end Go.Proofs.YtjibbchfndhhpaaGreatDoor
namespace Go.Proofs.YtjibbchfndhhpaaGreatDoor
open Go.RowKit Go.Shelf
attribute [local go_sem] Oper.semAt_some
namespace Dw
def sound (s : List UInt8) : Bool := decide (genE s = 0 ∧ (last s).2 = 0)
theorem lastN_e (s : List UInt8) (k : Nat) : (lastN s k).2 = 0 ∨ (lastN s k).2 = 10 := by
  induction k with
  | zero => exact .inr rfl
  | succ k ih =>
    rw [lastN_succ]
    unfold lastStep
    split
    · exact .inl rfl
    · exact ih
theorem last_e (s : List UInt8) : (last s).2 = 0 ∨ (last s).2 = 10 := lastN_e s _
theorem genE_e (s : List UInt8) : genE s = 0 ∨ genE s = 10 := by unfold genE; split <;> simp
end Dw
end Go.Proofs.YtjibbchfndhhpaaGreatDoor
namespace Go.Proofs.YtjibbchfndhhpaaGreatDoor
open Go.RowKit Go.Shelf
attribute [local go_sem] Oper.semAt_some
namespace Dw
structure PS where
  bank : Int
  gen : Nat
  seq : Nat
  data : Nat
def psNone : PS := ⟨-1, 0, 0, 0⟩
def ofS (s : List UInt8) (i : Int) : PS := if sound s = true then ⟨i, genN s, (last s).1.seq, (last s).1.data⟩ else psNone
end Dw
abbrev psV (p : Dw.PS) : Value := .agg #[.int .i64 p.bank, .int .u64 p.gen, .int .u64 p.seq, .int .u64 p.data]
def NoneAt (w : World) : Prop := w.cell? ⟨0, 0, none⟩ = some (.int .i64 (-1)) ∧ w.cell? ⟨0, 1, none⟩ = some (.int .u64 0) ∧ w.cell? ⟨0, 2, none⟩ = some (.int .u64 0) ∧ w.cell? ⟨0, 3, none⟩ = some (.int .u64 0)
theorem NoneAt.below {w w' : World} {B : Nat} (h : NoneAt w) (hb : Below B w w') (hB : 0 < B) : NoneAt w' :=
  ⟨(hb.cell (p := ⟨0, 0, none⟩) hB).trans h.1, (hb.cell (p := ⟨0, 1, none⟩) hB).trans h.2.1, (hb.cell (p := ⟨0, 2, none⟩) hB).trans h.2.2.1, (hb.cell (p := ⟨0, 3, none⟩) hB).trans h.2.2.2⟩
theorem NoneAt.pos {w : World} (h : NoneAt w) : 0 < w.heap.size := lt_of_cell h.1
theorem NoneAt.next {w w' : World} (h : NoneAt w) (hb : Below w.heap.size w w') : NoneAt w' := h.below hb h.pos
theorem NoneAt.keep {w w' : World} (h : NoneAt w) (hk : Keep w w') : NoneAt w' := h.next hk.whole
theorem of_any (s : List UInt8) (hs : s.length ≤ 400) (i : Int) (w : World) (hn : NoneAt w) :
    Calls Tryz.prog 139 #[.string ⟨s.toArray⟩, .int .i64 i] w fun e w' => e = .returned (psV (Dw.ofS s i)) ∧ Below w.heap.size w w' := by
  have hge := Dw.genE_e s
  have hla := Dw.last_e s
  have hpos := hn.pos
  have HS := Lib.hid (show Dw.ofS s i = if Dw.genE s = 0 ∧ (Dw.last s).2 = 0 then ⟨i, Dw.genN s, (Dw.last s).1.seq, (Dw.last s).1.data⟩ else Dw.psNone from by unfold Dw.ofS Dw.sound; simp)
  go_enter Tryz.func139, Tryz.ntmps139
  go_wp2_with fail
  have hB0 := (Below.refl w.heap.size w).alloc (Nat.le_refl _) (.cells #[.int .i64 0, .int .u64 0, .int .u64 0, .int .u64 0] 106)
  have hC0 := han w (.cells #[.int .i64 0, .int .u64 0, .int .u64 0, .int .u64 0] 106)
  refine cb (gen_any s hs _) fun w1 hb1 => ?_
  have hC1 := (hb1.block w.heap.size (by simp)).trans hC0
  have hB1 := tr hB0 hb1
  have hl1 := block_lt hC1
  have HC1 := Lib.hid hC1
  clear hB0 hC0 hb1 hC1
  generalize hg : Dw.genE s = ge at *
  generalize hgn : Dw.genN s = gn at *
  have Hgn := Lib.hid hgn; have Hg := Lib.hid hg
  clear hg hgn
  go_wp2_with fail
  refine cb (last_any s hs _) fun w2 hb2 => ?_
  have hC2 := (hb2.block _ hl1).trans HC1.out
  have hB2 := tr hB1 hb2
  generalize hl : Dw.last s = la at *
  have Hl := Lib.hid hl; clear hl
  obtain ⟨⟨bk, bq, bd⟩, be⟩ := la
  have hC3 := hao w2 (.cells #[.int .i64 bk, .int .u64 bq, .int .u64 bd] 256) hC2
  have hB3 := hB2.alloc hB2.size (.cells #[.int .i64 bk, .int .u64 bq, .int .u64 bd] 256)
  have HN := Lib.hid (hn.below hB3 hpos)
  have hz2 := hb2.size
  clear hb2 hC2 hB2 HC1 hB1
  rcases hge with rfl | rfl
  · rcases hla with h | h
    · change be = 0 at h
      subst h
      go_wp2_with (first | (refine lb hC3 rfl rfl rfl (by kernel_rfl) ?_) | (refine sb hC3 rfl rfl rfl rfl (by kernel_rfl) ?_))
      refine bodyPost_ret (rcr rfl (srh hC3) (by rfl) (by kernel_rfl)) rfl ⟨?_, below_setRow hB3 (Nat.le_refl _) _⟩
      rw [HS.out]; rfl
    · change be = 10 at h
      subst h
      obtain ⟨n0, n1, n2, n3⟩ := HN.out
      go_wp2_with (first | (refine lb hC3 rfl rfl rfl (by kernel_rfl) ?_) | (refine sb hC3 rfl rfl rfl rfl (by kernel_rfl) ?_))
      refine bodyPost_ret (rcr rfl (srh hC3) (by rfl) (by kernel_rfl)) rfl ⟨?_, below_setRow hB3 (Nat.le_refl _) _⟩
      rw [HS.out, if_neg (by simp)]; rfl
  · obtain ⟨n0, n1, n2, n3⟩ := HN.out
    go_wp2_with (first | (refine lb hC3 rfl rfl rfl (by kernel_rfl) ?_) | (refine sb hC3 rfl rfl rfl rfl (by kernel_rfl) ?_))
    refine bodyPost_ret (rcr rfl (srh hC3) (by rfl) (by kernel_rfl)) rfl ⟨?_, below_setRow hB3 (Nat.le_refl _) _⟩
    rw [HS.out, if_neg (by simp)]; rfl
theorem cells8 {w : World} {b : Nat} {x0 x1 x2 x3 x4 x5 x6 x7 : Value} {t : TypeId} {fr : Nat × Nat} (h : w.heap[b]? = some (.cells #[x0, x1, x2, x3, x4, x5, x6, x7] t fr)) : (w.cell? ⟨b, 0, none⟩ = some x0 ∧ w.cell? ⟨b, 1, none⟩ = some x1 ∧ w.cell? ⟨b, 2, none⟩ = some x2 ∧ w.cell? ⟨b, 3, none⟩ = some x3) ∧ w.cell? ⟨b, 4, none⟩ = some x4 ∧ w.cell? ⟨b, 5, none⟩ = some x5 ∧ w.cell? ⟨b, 6, none⟩ = some x6 ∧ w.cell? ⟨b, 7, none⟩ = some x7 := by
  simp [cell_of_row _ _ _ _ _ _ h]
namespace Dw
def best (a b : List UInt8) : PS := if sound b = false then ofS a 0 else if sound a = false ∨ genN a < genN b then ofS b 1 else ofS a 0
end Dw
theorem cast0 : ((0 : Nat) : Int) = 0 := rfl
theorem ofS_cases (s : List UInt8) (i : Int) : (Dw.sound s = true ∧ (Dw.ofS s i).bank = i ∧ (Dw.ofS s i).gen = Dw.genN s) ∨ (Dw.sound s = false ∧ Dw.ofS s i = Dw.psNone) := by
  unfold Dw.ofS
  cases h : Dw.sound s
  · exact .inr ⟨rfl, by rw [if_neg (by simp)]⟩
  · exact .inl ⟨rfl, by rw [if_pos rfl], by rw [if_pos rfl]⟩
theorem best_cases (a b : List UInt8) : (Dw.ofS b 1 = Dw.psNone ∧ Dw.best a b = Dw.ofS a 0) ∨ ((Dw.ofS b 1).bank = 1 ∧ Dw.ofS a 0 = Dw.psNone ∧ Dw.best a b = Dw.ofS b 1) ∨
    ((Dw.ofS b 1).bank = 1 ∧ (Dw.ofS a 0).bank = 0 ∧ (Dw.ofS a 0).gen < (Dw.ofS b 1).gen ∧ Dw.best a b = Dw.ofS b 1) ∨ ((Dw.ofS b 1).bank = 1 ∧ (Dw.ofS a 0).bank = 0 ∧ ¬ (Dw.ofS a 0).gen < (Dw.ofS b 1).gen ∧ Dw.best a b = Dw.ofS a 0) := by
  unfold Dw.best
  rcases ofS_cases b 1 with ⟨hb, e1, e2⟩ | ⟨hb, e⟩
  · rw [if_neg (by simp [hb]), e1, e2]
    rcases ofS_cases a 0 with ⟨ha, e3, e4⟩ | ⟨ha, e3⟩
    · rw [e3, e4]
      by_cases h : Dw.genN a < Dw.genN b
      · exact .inr (.inr (.inl ⟨rfl, rfl, h, by rw [if_pos (.inr h)]⟩))
      · exact .inr (.inr (.inr ⟨rfl, rfl, h, by rw [if_neg (by simp [ha, h])]⟩))
    · exact .inr (.inl ⟨rfl, e3, by rw [if_pos (.inl ha)]⟩)
  · exact .inl ⟨e, by rw [if_pos hb]⟩
theorem best_any (a b : List UInt8) (ha : a.length ≤ 400) (hb : b.length ≤ 400) (e0 e1 li : Int) (w : World) (hn : NoneAt w) :
    Calls Tryz.prog 99 #[.agg #[.string ⟨a.toArray⟩, .string ⟨b.toArray⟩, .int .i64 e0, .int .i64 e1, .int .i64 li]] w fun e w' => e = .returned (psV (Dw.best a b)) ∧ Below w.heap.size w w' := by
  have hpos := hn.pos
  go_enter Tryz.func99, Tryz.ntmps99
  go_wp2_with fail
  obtain ⟨W, hW⟩ : ∃ W, (w.alloc (.cells #[.string ⟨a.toArray⟩, .string ⟨b.toArray⟩, .int .i64 e0, .int .i64 e1, .int .i64 li] 41)).alloc (.cells #[.int .i64 0, .int .u64 0, .int .u64 0, .int .u64 0] 106) = W := ⟨_, rfl⟩
  have hF := hW ▸ heap_alloc2_old w (.cells #[.string ⟨a.toArray⟩, .string ⟨b.toArray⟩, .int .i64 e0, .int .i64 e1, .int .i64 li] 41) (.cells #[.int .i64 0, .int .u64 0, .int .u64 0, .int .u64 0] 106)
  have hC := hW ▸ heap_alloc2_new w (.cells #[.string ⟨a.toArray⟩, .string ⟨b.toArray⟩, .int .i64 e0, .int .i64 e1, .int .i64 li] 41) (.cells #[.int .i64 0, .int .u64 0, .int .u64 0, .int .u64 0] 106)
  have hB : Below w.heap.size w W := hW ▸ ((Below.refl w.heap.size w).alloc (Nat.le_refl _) _).alloc (by simp) _
  have hN := hn.next hB
  rw [hW]
  clear hW
  obtain ⟨f0, f1, _⟩ := cells5 hF
  have hlC := block_lt hC
  have HC := Lib.hid hC
  clear hF hC
  refine wp_letterD [0,1,2,3,4,5,6,7,8] 9 10 (some 3) (NewBlock W #[.int .i64 0, .int .u64 0, .int .u64 0, .int .u64 0, .int .i64 0, .int .u64 0, .int .u64 0, .int .u64 0] 198) rfl rfl (by kernel_rfl) (by kernel_rfl) rfl (fun v A B h hk => h.keep hk) ?_
  (apply rat; (focus (intro w' hk; obtain ⟨k0,k1⟩ := look2 hk f0 f1; (iterate 3 (refine' rv ?_ rfl rfl (by go_simp; first | done | with_reducible rfl | exact rfl); try simp only [Act.put, List.setIfInBounds_toArray, List.set_cons_zero, List.set_cons_succ])); (refine' rc ?_ (by exact rfl) (by exact rfl) (by go_simp; first | done | (constructor <;> with_reducible rfl) | with_reducible rfl) (by exact of_any a ha 0 w' (hN.keep hk)); try simp only [Act.put, List.setIfInBounds_toArray, List.set_cons_zero, List.set_cons_succ]); (iterate 3 (refine' rv ?_ rfl rfl (by go_simp; first | done | with_reducible rfl | exact rfl); try simp only [Act.put, List.setIfInBounds_toArray, List.set_cons_zero, List.set_cons_succ])); (refine' rc ?_ (by exact rfl) (by exact rfl) (by go_simp; first | done | (constructor <;> with_reducible rfl) | with_reducible rfl) (by exact of_any b hb 1 w' (hN.keep hk)); try simp only [Act.put, List.setIfInBounds_toArray, List.set_cons_zero, List.set_cons_succ]); (refine' rv ?_ rfl rfl (by go_simp; first | done | with_reducible rfl | exact rfl); try simp only [Act.put, List.setIfInBounds_toArray, List.set_cons_zero, List.set_cons_succ]); (exact rn))))
  refine ⟨rfl, sure_new (fun w' _ => by go_simp), ?_⟩
  rintro v W2 hk2 ⟨g, rfl, hg, hgc⟩
  simp only [List.drop_succ_cons, List.drop_zero, List.setIfInBounds_toArray, List.set_cons_zero, List.set_cons_succ]
  have hC2 := (hk2.block _ hlC id).trans HC.out
  have hN2 := hN.keep hk2
  have hB2 := hB.trans (hk2.whole.mono hB.size)
  have hgC : g ≠ w.heap.size + 1 := by have : W.heap.size ≤ g := hg; omega
  have hgB : w.heap.size ≤ g := by have : W.heap.size ≤ g := hg; omega
  have hBest := best_cases a b
  clear HC f0 f1 hk2 hB hN hg hlC
  generalize Dw.ofS a 0 = oa at *
  generalize Dw.ofS b 1 = ob at *
  obtain ⟨oab, oag, oaq, oad⟩ := oa
  obtain ⟨obb, obg, obq, obd⟩ := ob
  have hR := setRow_heap W2 g _ #[.int .i64 oab, .int .u64 oag, .int .u64 oaq, .int .u64 oad, .int .i64 obb, .int .u64 obg, .int .u64 obq, .int .u64 obd] _ _ hgc
  obtain ⟨⟨q0, q1, q2, q3⟩, q4, q5, q6, q7⟩ := cells8 hR
  have hC3 := (setRow_other W2 g (w.heap.size + 1) #[.int .i64 oab, .int .u64 oag, .int .u64 oaq, .int .u64 oad, .int .i64 obb, .int .u64 obg, .int .u64 obq, .int .u64 obd] (Ne.symm hgC)).trans hC2
  have hB3 := below_setRow hB2 hgB #[.int .i64 oab, .int .u64 oag, .int .u64 oaq, .int .u64 oad, .int .i64 obb, .int .u64 obg, .int .u64 obq, .int .u64 obd]
  have hpl := hpos
  obtain ⟨n0, n1, n2, n3⟩ := hn.below hB3 hpl
  have HB3 := Lib.hid hB3
  clear hC2 hN2 hB2 hgB hB3 hR hn
  refine sb hgc rfl rfl rfl rfl (by kernel_rfl) ?_
  generalize World.setRow W2 g _ = W3 at *
  clear hgc W2
  rcases hBest with ⟨h1, hbest⟩ | ⟨h1, h2, hbest⟩ | ⟨h1, h2, h3, hbest⟩ | ⟨h1, h2, h3, hbest⟩ <;> have Hb := Lib.hid hbest <;> clear hbest
  · have h1 : (⟨obb, obg, obq, obd⟩ : Dw.PS) = Dw.psNone := h1
    cases h1
    simp only [cast0] at *
    go_wp2_with (first | (refine lb hC3 rfl rfl rfl (by kernel_rfl) ?_) | (refine sb hC3 rfl rfl rfl rfl (by kernel_rfl) ?_))
    refine bodyPost_ret (rcr rfl (srh hC3) (by rfl) (by kernel_rfl)) rfl ⟨?_, below_setRow HB3.out (by omega) _⟩
    rw [Hb.out]
  · have h1 : obb = 1 := h1
    subst h1
    have h2 : (⟨oab, oag, oaq, oad⟩ : Dw.PS) = Dw.psNone := h2
    cases h2
    simp only [cast0] at *
    go_wp2_with (first | (refine lb hC3 rfl rfl rfl (by kernel_rfl) ?_) | (refine sb hC3 rfl rfl rfl rfl (by kernel_rfl) ?_))
    refine bodyPost_ret (rcr rfl (srh hC3) (by rfl) (by kernel_rfl)) rfl ⟨?_, below_setRow HB3.out (by omega) _⟩
    rw [Hb.out]
  · have h1 : obb = 1 := h1
    subst h1
    have h2 : oab = 0 := h2
    subst h2
    have h3 : (oag : Int) < (obg : Int) := Int.ofNat_lt.2 h3
    go_wp2_with (first | (refine lb hC3 rfl rfl rfl (by kernel_rfl) ?_) | (refine sb hC3 rfl rfl rfl rfl (by kernel_rfl) ?_))
    refine bodyPost_ret (rcr rfl (srh hC3) (by rfl) (by kernel_rfl)) rfl ⟨?_, below_setRow HB3.out (by omega) _⟩
    rw [Hb.out]
  · have h1 : obb = 1 := h1
    subst h1
    have h2 : oab = 0 := h2
    subst h2
    have h3 : ¬ (oag : Int) < (obg : Int) := fun h => h3 (Int.ofNat_lt.1 h)
    go_wp2_with (first | (refine lb hC3 rfl rfl rfl (by kernel_rfl) ?_) | (refine sb hC3 rfl rfl rfl rfl (by kernel_rfl) ?_))
    refine bodyPost_ret (rcr rfl (srh hC3) (by rfl) (by kernel_rfl)) rfl ⟨?_, below_setRow HB3.out (by omega) _⟩
    rw [Hb.out]
end Go.Proofs.YtjibbchfndhhpaaGreatDoor
namespace Go.Proofs.YtjibbchfndhhpaaGreatDoor
open Go.RowKit Go.Shelf
attribute [local go_sem] Oper.semAt_some
namespace Dw
def psZero : PS := ⟨0, 0, 0, 0⟩
def readS (a b : List UInt8) : PS := if (best a b).bank = -1 then psZero else best a b
def readE (a b : List UInt8) : Int := if (best a b).bank = -1 then 10 else 0
theorem ofS_none (s : List UInt8) (i : Int) (h : (ofS s i).bank = -1) (hi : i ≠ -1) : ofS s i = psNone := by
  unfold ofS at *
  split
  · rename_i hs; rw [if_pos hs] at h; exact absurd h hi
  · rfl
theorem best_none (a b : List UInt8) (h : (best a b).bank = -1) : best a b = psNone := by
  unfold best at *
  split
  · rename_i h1; rw [if_pos h1] at h; exact ofS_none _ _ h (by decide)
  · rename_i h1; rw [if_neg h1] at h
    split
    · rename_i h2; rw [if_pos h2] at h; exact ofS_none _ _ h (by decide)
    · rename_i h2; rw [if_neg h2] at h; exact ofS_none _ _ h (by decide)
end Dw
abbrev flashV (a b : List UInt8) (e0 e1 li : Int) : Value := .agg #[.string ⟨a.toArray⟩, .string ⟨b.toArray⟩, .int .i64 e0, .int .i64 e1, .int .i64 li]
abbrev flashC (a b : List UInt8) (e0 e1 li : Int) : Array Value := #[.string ⟨a.toArray⟩, .string ⟨b.toArray⟩, .int .i64 e0, .int .i64 e1, .int .i64 li]
theorem read_any (a b : List UInt8) (ha : a.length ≤ 400) (hb : b.length ≤ 400) (e0 e1 li : Int) (w : World) (hn : NoneAt w) :
    Calls Tryz.prog 57 #[flashV a b e0 e1 li] w fun e w' => e = .returned (.tuple #[psV (Dw.readS a b), .int .i64 (Dw.readE a b)]) ∧ Below w.heap.size w w' := by
  go_enter Tryz.func57, Tryz.ntmps57
  go_wp2_with fail
  have hC0 := heap_alloc2_new w (.cells (flashC a b e0 e1 li) 41) (.cells #[.int .i64 0, .int .u64 0, .int .u64 0, .int .u64 0] 106)
  have hB0 := ((Below.refl w.heap.size w).alloc (Nat.le_refl _) (.cells (flashC a b e0 e1 li) 41)).alloc (by simp) (.cells #[.int .i64 0, .int .u64 0, .int .u64 0, .int .u64 0] 106)
  refine cb (best_any a b ha hb e0 e1 li _ (hn.next hB0)) fun w1 hb1 => ?_
  have hC1 := (hb1.block _ (by simp)).trans hC0
  have hB1 := tr hB0 hb1
  have hR := Lib.hid (show Dw.readS a b = (if (Dw.best a b).bank = -1 then Dw.psZero else Dw.best a b) ∧ Dw.readE a b = (if (Dw.best a b).bank = -1 then 10 else 0) from ⟨rfl, rfl⟩)
  have hbn := Dw.best_none a b
  have hN1 := hn.next hB1
  clear hC0 hB0 hb1
  generalize hbe : Dw.best a b = be at *
  have Hbe := Lib.hid hbe; clear hbe
  obtain ⟨bb, bg, bq, bd⟩ := be
  have hB2 := hB1.alloc hB1.size (.cells #[.int .i64 bb, .int .u64 bg, .int .u64 bq, .int .u64 bd] 106)
  have hC2 := hao w1 (.cells #[.int .i64 bb, .int .u64 bg, .int .u64 bq, .int .u64 bd] 106) hC1
  obtain ⟨n0, n1, n2, n3⟩ := hn.next hB2
  have HB2 := Lib.hid hB2
  have hs1 := block_lt hC1
  clear hC1 hB1 hB2 hN1
  by_cases hbb : bb = -1
  · subst hbb
    have h2 := hbn rfl
    clear hbn
    cases h2
    simp only [cast0] at *
    go_wp2_with (first | (refine lb hC2 rfl rfl rfl (by kernel_rfl) ?_) | (refine sb hC2 rfl rfl rfl rfl (by kernel_rfl) ?_))
    refine bodyPost_ret (rct rfl (srh hC2) (by rfl) (by kernel_rfl)) rfl ⟨?_, below_setRow HB2.out (by omega) _⟩
    rw [hR.out.1, hR.out.2]; rfl
  · have hbb' : (bb == -1) = false := by simpa using hbb
    have HR := Lib.hid (show Dw.readS a b = ⟨bb, bg, bq, bd⟩ ∧ Dw.readE a b = 0 from by rw [hR.out.1, hR.out.2, if_neg hbb, if_neg hbb]; exact ⟨rfl, rfl⟩)
    clear hbb hbn hR
    go_wp2_with (first | (refine lb hC2 rfl rfl rfl (by kernel_rfl) ?_) | (refine sb hC2 rfl rfl rfl rfl (by kernel_rfl) ?_))
    refine bodyPost_ret (rct rfl (srh hC2) (by rfl) (by kernel_rfl)) rfl ⟨?_, below_setRow HB2.out (by omega) _⟩
    rw [HR.out.1, HR.out.2]; rfl
def Dw.other (n : Nat) : Nat := if n = 0 then 1 else 0
theorem other_any (N : Int) (n : Nat) (hN : N = (n : Int)) (hn : n < 1000) (w : World) :
    Calls Tryz.prog 162 #[.int .i64 N] w fun e w' => e = .returned (.int .i64 (Dw.other n : Nat)) ∧ Below w.heap.size w w' := by
  subst hN
  have hw : IntKind.u64.wrap (n : Int) = (n : Int) := u64_id (by omega) (by omega)
  have i0 : (Instr.index 39 (.agg #[.int .i64 1, .int .i64 0]) (.int .u64 0)).run Tryz.prog w = .ok (.int .i64 1) w := by kernel_rfl
  have i1 : (Instr.index 39 (.agg #[.int .i64 1, .int .i64 0]) (.int .u64 1)).run Tryz.prog w = .ok (.int .i64 0) w := by kernel_rfl
  by_cases h : n = 0
  · subst h
    go_enter Tryz.func162, Tryz.ntmps162
    go_wp2_with fail
    go_ret
    exact ⟨rfl, Below.refl _ _⟩
  · have h1 : ¬ (n : Int) < 1 := by omega
    have H := Lib.hid (show Dw.other n = 0 from by unfold Dw.other; rw [if_neg h])
    go_enter Tryz.func162, Tryz.ntmps162
    go_wp2_with fail
    go_ret
    exact ⟨by rw [H.out]; rfl, Below.refl _ _⟩
def Dw.even (a b : List UInt8) : Bool := decide (0 < Dw.slots a.length ∧ Dw.slots a.length = Dw.slots b.length)
theorem even_any (a b : List UInt8) (ha : a.length ≤ 400) (hb : b.length ≤ 400) (e0 e1 li : Int) (w : World) :
    Calls Tryz.prog 160 #[flashV a b e0 e1 li] w fun e w' => e = .returned (.bool (Dw.even a b)) ∧ Below w.heap.size w w' := by
  have hB := (Below.refl w.heap.size w).alloc (Nat.le_refl _) (.cells (flashC a b e0 e1 li) 41)
  have hF := han w (.cells (flashC a b e0 e1 li) 41)
  have HE := Lib.hid (show Dw.even a b = decide (0 < Dw.slots a.length ∧ Dw.slots a.length = Dw.slots b.length) from rfl)
  obtain ⟨f0, f1, _⟩ := cells5 hF
  go_enter Tryz.func160, Tryz.ntmps160
  go_wp2_with fail
  generalize w.alloc _ = W at *
  refine wp_letterD [0,1,2,3,4,5,6,7,8,9,10] 11 12 (some 3) (NewBlock W #[.int .i64 0, .int .i64 0] 39) rfl rfl (by kernel_rfl) (by kernel_rfl) rfl (fun v A B h hk => h.keep hk) ?_
  (apply rat; (focus (intro w' hk; obtain ⟨k0,k1⟩ := look2 hk f0 f1; (iterate 4 (refine' rv ?_ rfl rfl (by go_simp; first | done | with_reducible rfl | exact rfl); try simp only [Act.put, List.setIfInBounds_toArray, List.set_cons_zero, List.set_cons_succ])); (refine' rc ?_ (by exact rfl) (by exact rfl) (by go_simp; first | done | (constructor <;> with_reducible rfl) | with_reducible rfl) (by exact slots_any a.length (by omega) w'); try simp only [Act.put, List.setIfInBounds_toArray, List.set_cons_zero, List.set_cons_succ]); (iterate 4 (refine' rv ?_ rfl rfl (by go_simp; first | done | with_reducible rfl | exact rfl); try simp only [Act.put, List.setIfInBounds_toArray, List.set_cons_zero, List.set_cons_succ])); (refine' rc ?_ (by exact rfl) (by exact rfl) (by go_simp; first | done | (constructor <;> with_reducible rfl) | with_reducible rfl) (by exact slots_any b.length (by omega) w'); try simp only [Act.put, List.setIfInBounds_toArray, List.set_cons_zero, List.set_cons_succ]); (refine' rv ?_ rfl rfl (by go_simp; first | done | with_reducible rfl | exact rfl); try simp only [Act.put, List.setIfInBounds_toArray, List.set_cons_zero, List.set_cons_succ]); (exact rn))))
  refine ⟨rfl, sure_new (fun w' _ => by go_simp), ?_⟩
  rintro v W2 hk2 ⟨g, rfl, hg, hgc⟩
  simp only [List.drop_succ_cons, List.drop_zero, List.setIfInBounds_toArray, List.set_cons_zero, List.set_cons_succ]
  have hB2 := hB.trans (hk2.whole.mono hB.size)
  have hgB : w.heap.size ≤ g := Nat.le_trans hB.size hg
  have hR := setRow_heap W2 g _ #[.int .i64 (Dw.slots a.length : Nat), .int .i64 (Dw.slots b.length : Nat)] _ _ hgc
  obtain ⟨q0, q1⟩ := cells2 hR
  have hB3 := Lib.hid (below_setRow hB2 hgB #[.int .i64 (Dw.slots a.length : Nat), .int .i64 (Dw.slots b.length : Nat)])
  clear hB2 hB hF f0 f1 hR
  refine sb hgc rfl rfl rfl rfl (by kernel_rfl) ?_
  generalize World.setRow W2 g _ = W3 at *
  clear hgc hk2 hg
  generalize Dw.slots a.length = x at *
  generalize Dw.slots b.length = y at *
  by_cases h0 : 0 < x
  · have h0' : (0 : Int) < (x : Int) := by omega
    go_wp2_with fail
    go_ret
    refine ⟨?_, hB3.out⟩
    rw [HE.out]
    refine ret_bool ?_
    show ((x : Int) == (y : Int)) = _
    rw [beq_nat]; simp [h0]
  · have h0' : ¬ (0 : Int) < (x : Int) := by omega
    go_wp2_with fail
    go_ret
    exact ⟨by rw [HE.out]; simp [h0], hB3.out⟩
end Go.Proofs.YtjibbchfndhhpaaGreatDoor
