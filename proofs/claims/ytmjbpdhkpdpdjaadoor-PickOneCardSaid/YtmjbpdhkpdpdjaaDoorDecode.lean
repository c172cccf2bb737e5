/- Layer 7: record.Decode. -/
import Derived.Test.YtmjbpdhkpdpdjaaDoorPlainField
import Derived.Test.YtmjbpdhkpdpdjaaDoorChain
namespace Go.Proofs.YtmjbpdhkpdpdjaaDoor
open Go.RowKit Go.Shelf
attribute [local go_sem] Oper.semAt_some

namespace Dw
structure Rec where
  kind : Nat
  seq : Nat
  data : Nat
def zeroRec : Rec := ⟨0, 0, 0⟩
/-- What is wrong with a place; 0: nothing. -/
def decodeE (l : List UInt8) : Int :=
  if l.length ≠ 24 then 1 else if blankB l = true then 5 else if l.getD 0 0 ≠ 165 then 6
  else if (l.drop 18).take 4 ≠ put 4 (rev4 (sum (l.take 18))) then 7
  else if (l.getD 1 0).toNat < 1 ∨ 3 < (l.getD 1 0).toNat then 8 else if l.drop 22 ≠ [90, 60] then 9 else 0
def recOf (l : List UInt8) : Rec := ⟨(l.getD 1 0).toNat, get ((l.drop 2).take 8), get ((l.drop 10).take 8)⟩
def decodeR (l : List UInt8) : Rec := if decodeE l = 0 then recOf l else zeroRec
end Dw
abbrev recV (r : Dw.Rec) : Value := .agg #[.int .i64 r.kind, .int .u64 r.seq, .int .u64 r.data]

theorem takeL_any (b k : Nat) (p r : List UInt8) (hk : p.length = k) (w : World) (hc : w.cell? ⟨b, 0, none⟩ = some (.string ⟨(p ++ r).toArray⟩)) (hf : w.frozen? ⟨b, 0, none⟩ = false) :
    Calls Tryd.prog 112 #[.pointer (some ⟨b, 0, none⟩), .int .i64 k] w fun e w' => e = .returned (.string ⟨p.toArray⟩) ∧ w'.cell? ⟨b, 0, none⟩ = some (.string ⟨r.toArray⟩) ∧ w'.frozen? ⟨b, 0, none⟩ = false ∧ KeepBut (fun g => g = b) w w' := by
  refine (take_any b k _ (by rw [bs_size]; simp; omega) w hc hf).mono ?_
  rintro e w' ⟨rfl, h1, h2, h3⟩
  refine ⟨?_, ?_, h2, h3⟩
  · rw [bs_extract]; subst hk; simp
  · rw [h1, bs_extract, bs_size, List.take_of_length_le (Nat.le_refl _)]; subst hk; simp

theorem take_link (b k : Nat) (p r : List UInt8) (hk : p.length = k) (w2 w : World) (hb : KeepBut (fun g => g = b) w2 w) (hc : w.cell? ⟨b, 0, none⟩ = some (.string ⟨(p ++ r).toArray⟩)) (hf : w.frozen? ⟨b, 0, none⟩ = false) :
    Calls Tryd.prog 112 #[.pointer (some ⟨b, 0, none⟩), .int .i64 k] w fun e w' => e = .returned (.string ⟨p.toArray⟩) ∧ KeepBut (fun g => g = b) w2 w' ∧ w'.cell? ⟨b, 0, none⟩ = some (.string ⟨r.toArray⟩) ∧ w'.frozen? ⟨b, 0, none⟩ = false :=
  (takeL_any b k p r hk w hc hf).mono fun _ _ ⟨h1, h2, h3, h4⟩ => ⟨h1, hb.trans h4, h2, h3⟩
theorem ba_one (x : UInt8) (h : 0 < (⟨#[x]⟩ : ByteArray).size) : (⟨#[x]⟩ : ByteArray)[0]'h = x := rfl
theorem wrap_byte (x : UInt8) : IntKind.i64.wrap (x.toNat : Int) = (x.toNat : Int) := by
  have := x.toNat_lt
  exact IntWalk.i64_in _ (by omega)
def rest3 (a b c : List UInt8) : Nat → List UInt8
  | 0 => a
  | 1 => b
  | _ => c
set_option maxRecDepth 100000 in
set_option maxHeartbeats 2000000 in
theorem decode_full (x0 x1 : UInt8) (q d c m : List UInt8) (hq : q.length = 8) (hd : d.length = 8) (hc : c.length = 4) (hm : m.length = 2) (l : List UInt8) (hl : l = [x0] ++ ([x1] ++ (q ++ (d ++ (c ++ m))))) (hbl : Dw.blankB l = false) (w : World) :
    Calls Tryd.prog 106 #[.string ⟨l.toArray⟩] w fun e w' => e = .returned (.tuple #[recV (Dw.decodeR l), .int .i64 (Dw.decodeE l)]) ∧ Below w.heap.size w w' := by
  have hlen : l.length = 24 := by subst hl; simp; omega
  have Hl := Lib.hid hl
  clear hl
  have hB0 := (Below.refl w.heap.size w).alloc (Nat.le_refl _) (.cells #[.int .i64 0, .int .u64 0, .int .u64 0] 70)
  have hC0 := heap_alloc_new w (.cells #[.int .i64 0, .int .u64 0, .int .u64 0] 70)
  go_enter Tryd.func106, Tryd.ntmps106
  go_wp2_with fail
  refine (blank_any _ _).mono ?_
  rintro e w1 ⟨rfl, hb1⟩
  have hC1 := (hb1.block w.heap.size (by simp)).trans hC0
  have hB1 := hB0.trans (hb1.mono hB0.size)
  rw [show Dw.blankB (⟨l.toArray⟩ : ByteArray).data.toList = false from hbl]
  have hs1 : w.heap.size < w1.heap.size := (Array.getElem?_eq_some_iff.1 hC1).1
  clear hB0 hC0 hb1
  go_wp2_with fail
  have hC2 := (heap_alloc_old w1 (.cells #[.string ⟨l.toArray⟩] 170) _ hs1).trans hC1
  have hB2 := hB1.alloc hB1.size (.cells #[.string ⟨l.toArray⟩] 170)
  have hT2 := heap_alloc_new w1 (.cells #[.string ⟨l.toArray⟩] 170)
  generalize w1.alloc _ = w2 at *
  clear hC1 hB1
  generalize w1.heap.size = b at *
  have hbB : w.heap.size < b := hs1
  clear hs1 w1
  have c0 := cell_of_row _ _ 0 _ _ _ hT2
  have f0 : w2.frozen? ⟨b, 0, none⟩ = false := by simp [World.frozen?, hT2]
  simp only [List.getElem?_toArray, List.getElem?_cons_zero] at c0
  rw [Hl.out] at c0
  refine wp_chain (List.range 9) [1, 4] 9 (fun i w' => KeepBut (fun g => g = b) w2 w' ∧ w'.cell? ⟨b, 0, none⟩ = some (.string ⟨(rest3 ([x0] ++ ([x1] ++ (q ++ (d ++ (c ++ m))))) ([x1] ++ (q ++ (d ++ (c ++ m)))) (q ++ (d ++ (c ++ m))) i).toArray⟩) ∧ w'.frozen? ⟨b, 0, none⟩ = false) (by kernel_rfl) (by kernel_rfl) (by kernel_rfl) rfl
    (fun n A B h hk => ⟨h.1.trans (hk.mono fun _ _ h => h.elim), look hk h.2.1, (kfrozen hk _ _ (lt_of_cell h.2.1)).trans h.2.2⟩) ⟨KeepBut.refl _ _, c0, f0⟩ ?_
  rw [show List.range 9 = [0, 1, 2, 3, 4, 5, 6, 7, 8] from rfl]
  repeat' (first | (refine cl_nil ?_) | (refine cl_value (v := ?_) rfl (by rfl) rfl ?_ ?_; rotate_left 1; (focus (intro m w' hst; go_simp; (first | done | with_reducible rfl | exact rfl))); (try simp only [Act.put, List.setIfInBounds_toArray, List.set_cons_zero, List.set_cons_succ])) | (refine cl_link (v := ?_) (f := ?_) (args := ?_) rfl (by rfl) rfl ?_ ?_ ?_; rotate_left 3; (focus (intro w' hst; go_simp; (first | done | (constructor <;> with_reducible rfl) | with_reducible rfl))); (focus (intro w' hst; first | exact take_link b 1 [x0] ([x1] ++ (q ++ (d ++ (c ++ m)))) rfl w2 w' hst.1 hst.2.1 hst.2.2 | exact take_link b 1 [x1] (q ++ (d ++ (c ++ m))) rfl w2 w' hst.1 hst.2.1 hst.2.2)); (try simp only [Act.put, List.setIfInBounds_toArray, List.set_cons_zero, List.set_cons_succ])) | (refine cl_skip rfl (by rfl) rfl ?_; (try simp only [Act.put, List.setIfInBounds_toArray, List.set_cons_zero, List.set_cons_succ])))
  clear hT2 c0 f0
  intro w3 hst
  obtain ⟨hk3, c3, f3⟩ := hst
  have hC3 := (hk3.block _ (Array.getElem?_eq_some_iff.1 hC2).1 (by omega)).trans hC2
  have hB3 := hB2.trans (hk3.below hB2.size (fun k e => by omega))
  have hbl3 := lt_of_cell c3
  clear hk3 hC2 hB2 w2
  simp only [ba_one, wrap_byte, List.drop_succ_cons, List.drop_zero, rest3] at c3 ⊢
  go_wp2_with fail
  refine (takeL_any b 8 q _ hq w3 c3 f3).mono ?_
  rintro e w4 ⟨rfl, c4, f4, hk4⟩
  have hC4 := (hk4.block _ (Array.getElem?_eq_some_iff.1 hC3).1 (by omega)).trans hC3
  have hB4 := hB3.trans (hk4.below hB3.size (fun k e => by omega))
  clear hk4 hC3 hB3 c3 f3 hbl3 w3
  go_wp2_with fail
  refine (fget_any ⟨q.toArray⟩ (by simp [ByteArray.size, hq]) w4).mono ?_
  rintro e w5 ⟨rfl, hb5⟩
  have hC5 := (hb5.block _ (Array.getElem?_eq_some_iff.1 hC4).1).trans hC4
  have c5 := (hb5.cell (p := ⟨b, 0, none⟩) (lt_of_cell c4)).trans c4
  have f5 := (hb5.frozen (p := ⟨b, 0, none⟩) (lt_of_cell c4)).trans f4
  have hB5 := hB4.trans (hb5.mono hB4.size)
  clear hb5 hC4 hB4 c4 f4 w4
  go_wp2_with fail
  refine (takeL_any b 8 d _ hd w5 c5 f5).mono ?_
  rintro e w6 ⟨rfl, c6, f6, hk6⟩
  have hC6 := (hk6.block _ (Array.getElem?_eq_some_iff.1 hC5).1 (by omega)).trans hC5
  have hB6 := hB5.trans (hk6.below hB5.size (fun k e => by omega))
  clear hk6 hC5 hB5 c5 f5 w5
  go_wp2_with fail
  refine (fget_any ⟨d.toArray⟩ (by simp [ByteArray.size, hd]) w6).mono ?_
  rintro e w7 ⟨rfl, hb7⟩
  have hC7 := (hb7.block _ (Array.getElem?_eq_some_iff.1 hC6).1).trans hC6
  have c7 := (hb7.cell (p := ⟨b, 0, none⟩) (lt_of_cell c6)).trans c6
  have f7 := (hb7.frozen (p := ⟨b, 0, none⟩) (lt_of_cell c6)).trans f6
  have hB7 := hB6.trans (hb7.mono hB6.size)
  clear hb7 hC6 hB6 c6 f6 w6
  go_wp2_with fail
  have hC8 := (heap_alloc_old w7 (.cells #[.int .i64 (x1.toNat : Int), .int .u64 ((Dw.get q : Nat) : Int), .int .u64 ((Dw.get d : Nat) : Int)] 70) _ (Array.getElem?_eq_some_iff.1 hC7).1).trans hC7
  have hR8 := heap_alloc_new w7 (.cells #[.int .i64 (x1.toNat : Int), .int .u64 ((Dw.get q : Nat) : Int), .int .u64 ((Dw.get d : Nat) : Int)] 70)
  have hK8 := (KeepBut.refl (fun _ => False) w7).alloc (.cells #[.int .i64 (x1.toNat : Int), .int .u64 ((Dw.get q : Nat) : Int), .int .u64 ((Dw.get d : Nat) : Int)] 70)
  have c8 := look hK8 c7
  have f8 := (kfrozen hK8 _ _ (lt_of_cell c7)).trans f7
  have hB8 := hB7.alloc hB7.size (.cells #[.int .i64 (x1.toNat : Int), .int .u64 ((Dw.get q : Nat) : Int), .int .u64 ((Dw.get d : Nat) : Int)] 70)
  have hne : w7.heap.size ≠ b := by have := lt_of_cell c7; simp at this; omega
  have hg0 : w.heap.size < w7.heap.size := (Array.getElem?_eq_some_iff.1 hC7).1
  generalize w7.alloc _ = w8 at *
  clear hK8 hC7 c7 f7 hB7
  generalize w7.heap.size = g at *
  clear w7
  refine (takeL_any b 4 c _ hc w8 c8 f8).mono ?_
  rintro e w9 ⟨rfl, c9, f9, hk9⟩
  have hC9 := (hk9.block _ (Array.getElem?_eq_some_iff.1 hC8).1 (by omega)).trans hC8
  have hR9 := (hk9.block _ (Array.getElem?_eq_some_iff.1 hR8).1 hne).trans hR8
  have hB9 := hB8.trans (hk9.below hB8.size (fun k e => by omega))
  clear hk9 hC8 hB8 c8 f8 hR8 w8
  go_wp2_with fail
  refine (fget_any ⟨c.toArray⟩ (by simp [ByteArray.size, hc]) w9).mono ?_
  rintro e w10 ⟨rfl, hb10⟩
  have hC10 := (hb10.block _ (Array.getElem?_eq_some_iff.1 hC9).1).trans hC9
  have hR10 := (hb10.block _ (Array.getElem?_eq_some_iff.1 hR9).1).trans hR9
  have c10 := (hb10.cell (p := ⟨b, 0, none⟩) (lt_of_cell c9)).trans c9
  have hB10 := hB9.trans (hb10.mono hB9.size)
  clear hb10 hC9 hB9 c9 f9 hR9 w9
  have hcl : Dw.get c < 4294967296 := by have := Dw.get_lt c; rwa [hc] at this
  have hc32 : IntKind.u32.wrap ((Dw.get c : Nat) : Int) = ((Dw.get c : Nat) : Int) := by rw [IntKind.wrap_u32']; omega
  go_wp2_with fail
  refine (rev_any _ hcl w10).mono ?_
  rintro e w11 ⟨rfl, hb11⟩
  have hC11 := (hb11.block _ (Array.getElem?_eq_some_iff.1 hC10).1).trans hC10
  have hR11 := (hb11.block _ (Array.getElem?_eq_some_iff.1 hR10).1).trans hR10
  have c11 := (hb11.cell (p := ⟨b, 0, none⟩) (lt_of_cell c10)).trans c10
  have hB11 := hB10.trans (hb11.mono hB10.size)
  clear hb11 hC10 hB10 c10 hR10 hc32
  clear w10
  have l0 : l.getD 0 0 = x0 := by rw [Hl.out]; rfl
  have l1 : l.getD 1 0 = x1 := by rw [Hl.out]; rfl
  have hE0 : Dw.decodeE l = (if x0 ≠ 165 then 6 else if (l.drop 18).take 4 ≠ Dw.put 4 (Dw.rev4 (Dw.sum (l.take 18))) then 7 else if x1.toNat < 1 ∨ 3 < x1.toNat then 8 else if l.drop 22 ≠ [90, 60] then 9 else 0) := by
    unfold Dw.decodeE
    rw [if_neg (by simp [hlen]), if_neg (by simp [hbl]), l0, l1]
  have HE0 := Lib.hid hE0
  have HB11 := Lib.hid hB11
  clear hE0 l0 l1 hB11
  by_cases h0 : x0 = 165
  · subst h0
    go_wp2_with fail
    refine (range_any ⟨l.toArray⟩ (by simp [ByteArray.size, hlen]) 18 (by simp [ByteArray.size, hlen]) (by decide) w11).mono ?_
    rintro e w12 ⟨rfl, hb12⟩
    have hC12 := (hb12.block _ (block_lt hC11)).trans hC11
    have hR12 := (hb12.block _ (block_lt hR11)).trans hR11
    have c12 := (hb12.cell (p := ⟨b, 0, none⟩) (lt_of_cell c11)).trans c11
    have HB12 := Lib.hid (HB11.out.trans (hb12.mono HB11.out.size))
    obtain ⟨⟨hHq, hHd, hHc⟩, hHm⟩ := Dw.parts 165 x1 q d c m hq hd hc
    rw [← Hl.out] at hHq hHd hHc hHm
    have HK := Lib.hid (Dw.check_iff c _ hc (Dw.sum_lt (l.take 18)))
    have HE1 := Lib.hid (show Dw.decodeE l = (if c ≠ Dw.put 4 (Dw.rev4 (Dw.sum (l.take 18))) then 7 else if x1.toNat < 1 ∨ 3 < x1.toNat then 8 else if m ≠ [90, 60] then 9 else 0) from by rw [HE0.out, if_neg (by simp), hHc, hHm])
    have HR := Lib.hid (show Dw.recOf l = ⟨x1.toNat, Dw.get q, Dw.get d⟩ from by unfold Dw.recOf; rw [hHq, hHd, show l.getD 1 0 = x1 from by rw [Hl.out]; rfl])
    have HZ := Lib.hid (show Dw.decodeE l ≠ 0 → Dw.decodeR l = Dw.zeroRec from fun h => by unfold Dw.decodeR; rw [if_neg h])
    clear hb12 hC11 hR11 c11 HB11 HE0 hHc hHm hHq hHd
    by_cases h1 : Dw.rev4 (Dw.get c) = Dw.sum (l.take 18)
    · have h1' : ((Dw.rev4 (Dw.get c) : Int) != (Dw.sum (l.take 18) : Int)) = false := by rw [bne_eq_false_iff_eq]; omega
      have HE2 := Lib.hid (show Dw.decodeE l = (if x1.toNat < 1 ∨ 3 < x1.toNat then 8 else if m ≠ [90, 60] then 9 else 0) from by rw [HE1.out, if_neg (fun e => e (HK.out.1 h1))])
      clear h1 HE1 HK
      by_cases k1 : x1.toNat < 1
      · have k1' : (x1.toNat : Int) < 1 := by omega
        have HE := Lib.hid (show Dw.decodeE l = 8 from by rw [HE2.out, if_pos (.inl k1)])
        clear k1
        go_wp2_with (first | (refine wpList_load_block rfl 70 (.tmp 2) rfl rfl hC12 Tryd.underlying70 rfl (by kernel_rfl) ?_) | (refine wpList_store_block rfl 70 (.tmp 2) (.tmp 68) rfl rfl rfl hC12 (by kernel_rfl) rfl (by simp [Value.oneCell']) ?_))
        refine bodyPost_ret (results_cell_tmp rfl _ _ _ _ _ _ _ (by rfl) (setRow_heap _ _ _ _ _ _ hC12) Tryd.underlying70 rfl (by kernel_rfl)) rfl ⟨?_, below_setRow HB12.out (Nat.le_refl _) _⟩
        rw [HE.out, HZ.out (by rw [HE.out]; decide)]; rfl
      · by_cases k3 : 3 < x1.toNat
        · have k1' : ¬ (x1.toNat : Int) < 1 := by omega
          have k3' : 3 < (x1.toNat : Int) := by omega
          have HE := Lib.hid (show Dw.decodeE l = 8 from by rw [HE2.out, if_pos (.inr k3)])
          clear k1 k3
          go_wp2_with (first | (refine wpList_load_block rfl 70 (.tmp 2) rfl rfl hC12 Tryd.underlying70 rfl (by kernel_rfl) ?_) | (refine wpList_store_block rfl 70 (.tmp 2) (.tmp 68) rfl rfl rfl hC12 (by kernel_rfl) rfl (by simp [Value.oneCell']) ?_))
          refine bodyPost_ret (results_cell_tmp rfl _ _ _ _ _ _ _ (by rfl) (setRow_heap _ _ _ _ _ _ hC12) Tryd.underlying70 rfl (by kernel_rfl)) rfl ⟨?_, below_setRow HB12.out (Nat.le_refl _) _⟩
          rw [HE.out, HZ.out (by rw [HE.out]; decide)]; rfl
        · have k1' : ¬ (x1.toNat : Int) < 1 := by omega
          have k3' : ¬ 3 < (x1.toNat : Int) := by omega
          have HE3 := Lib.hid (show Dw.decodeE l = (if m ≠ [90, 60] then 9 else 0) from by rw [HE2.out, if_neg (fun h => h.elim k1 k3)])
          clear k1 k3 HE2
          by_cases k9 : m = [90, 60]
          · have HE := Lib.hid (show Dw.decodeE l = 0 from by rw [HE3.out, if_neg (fun h => h k9)])
            have hm' : (m == [90, 60]) = true := by simp [k9]
            clear HE3 k9
            have hC13 := setRow_heap w12 w.heap.size _ #[.int .i64 (x1.toNat : Int), .int .u64 ((Dw.get q : Nat) : Int), .int .u64 ((Dw.get d : Nat) : Int)] _ _ hC12
            go_wp2_with (first | (refine wpList_load_block rfl 70 (.tmp 8) rfl rfl hR12 Tryd.underlying70 rfl (by kernel_rfl) ?_) | (refine wpList_store_block rfl 70 (.tmp 2) (.tmp 42) rfl rfl rfl hC12 (by kernel_rfl) rfl (by simp [Value.oneCell']) ?_) | (refine wpList_load_block rfl 70 (.tmp 2) rfl rfl hC13 Tryd.underlying70 rfl (by kernel_rfl) ?_) | (refine wpList_store_block rfl 70 (.tmp 2) (.tmp 68) rfl rfl rfl hC13 (by kernel_rfl) rfl (by simp [Value.oneCell']) ?_))
            refine bodyPost_ret (results_cell_tmp rfl _ _ _ _ _ _ _ (by rfl) (setRow_heap _ _ _ _ _ _ hC13) Tryd.underlying70 rfl (by kernel_rfl)) rfl ⟨?_, below_setRow (below_setRow HB12.out (Nat.le_refl _) _) (Nat.le_refl _) _⟩
            rw [HE.out, show Dw.decodeR l = ⟨x1.toNat, Dw.get q, Dw.get d⟩ from by unfold Dw.decodeR; rw [if_pos HE.out, HR.out]]; rfl
          · have HE := Lib.hid (show Dw.decodeE l = 9 from by rw [HE3.out, if_pos k9])
            have hm' : (m == [90, 60]) = false := by simp [k9]
            clear k9 HE3
            go_wp2_with (first | (refine wpList_load_block rfl 70 (.tmp 2) rfl rfl hC12 Tryd.underlying70 rfl (by kernel_rfl) ?_) | (refine wpList_store_block rfl 70 (.tmp 2) (.tmp 68) rfl rfl rfl hC12 (by kernel_rfl) rfl (by simp [Value.oneCell']) ?_))
            refine bodyPost_ret (results_cell_tmp rfl _ _ _ _ _ _ _ (by rfl) (setRow_heap _ _ _ _ _ _ hC12) Tryd.underlying70 rfl (by kernel_rfl)) rfl ⟨?_, below_setRow HB12.out (Nat.le_refl _) _⟩
            rw [HE.out, HZ.out (by rw [HE.out]; decide)]; rfl
    · have h1' : ((Dw.rev4 (Dw.get c) : Int) != (Dw.sum (l.take 18) : Int)) = true := by rw [bne_iff_ne]; omega
      have HE := Lib.hid (show Dw.decodeE l = 7 from by rw [HE1.out, if_pos (fun e => h1 (HK.out.2 e))])
      clear h1
      go_wp2_with (first | (refine wpList_load_block rfl 70 (.tmp 2) rfl rfl hC12 Tryd.underlying70 rfl (by kernel_rfl) ?_) | (refine wpList_store_block rfl 70 (.tmp 2) (.tmp 68) rfl rfl rfl hC12 (by kernel_rfl) rfl (by simp [Value.oneCell']) ?_))
      refine bodyPost_ret (results_cell_tmp rfl _ _ _ _ _ _ _ (by rfl) (setRow_heap _ _ _ _ _ _ hC12) Tryd.underlying70 rfl (by kernel_rfl)) rfl ⟨?_, below_setRow HB12.out (Nat.le_refl _) _⟩
      rw [HE.out, HZ.out (by rw [HE.out]; decide)]; rfl
  · have hx : ((x0.toNat : Int) != 165) = true := by
      rw [bne_iff_ne]; intro e; exact h0 (UInt8.toNat_inj.1 (by simpa using (Int.ofNat.inj e)))
    have HE := Lib.hid (show Dw.decodeE l = 6 from by rw [HE0.out, if_pos h0])
    go_wp2_with (first | (refine wpList_load_block rfl 70 (.tmp 2) rfl rfl hC11 Tryd.underlying70 rfl (by kernel_rfl) ?_) | (refine wpList_store_block rfl 70 (.tmp 2) (.tmp 68) rfl rfl rfl hC11 (by kernel_rfl) rfl (by simp [Value.oneCell']) ?_))

    refine bodyPost_ret (results_cell_tmp rfl _ _ _ _ _ _ _ (by rfl) (setRow_heap _ _ _ _ _ _ hC11) Tryd.underlying70 rfl (by kernel_rfl)) rfl ⟨?_, below_setRow HB11.out (Nat.le_refl _) _⟩
    rw [HE.out, show Dw.decodeR l = Dw.zeroRec from by unfold Dw.decodeR; rw [HE.out]; rfl]; rfl

set_option maxHeartbeats 1000000 in
theorem decode_any (l : List UInt8) (w : World) :
    Calls Tryd.prog 106 #[.string ⟨l.toArray⟩] w fun e w' => e = .returned (.tuple #[recV (Dw.decodeR l), .int .i64 (Dw.decodeE l)]) ∧ Below w.heap.size w w' := by
  have hB0 := (Below.refl w.heap.size w).alloc (Nat.le_refl _) (.cells #[.int .i64 0, .int .u64 0, .int .u64 0] 70)
  have hC0 := heap_alloc_new w (.cells #[.int .i64 0, .int .u64 0, .int .u64 0] 70)
  by_cases h24 : l.length = 24
  · cases hbl : Dw.blankB l
    · obtain ⟨x0, x1, q, d, c, m, hq, hd, hc, hm, hl⟩ := Dw.splits l h24
      exact decode_full x0 x1 q d c m hq hd hc hm l hl hbl w
    · have HE := Lib.hid (show Dw.decodeE l = 5 from by unfold Dw.decodeE; rw [if_neg (by simp [h24]), if_pos hbl])
      have Hbl := Lib.hid hbl
      clear hbl
      go_enter Tryd.func106, Tryd.ntmps106
      go_wp2_with fail
      refine (blank_any _ _).mono ?_
      rintro e w1 ⟨rfl, hb1⟩
      have hC1 := (hb1.block w.heap.size (by simp)).trans hC0
      have hB1 := hB0.trans (hb1.mono hB0.size)
      rw [show Dw.blankB (⟨l.toArray⟩ : ByteArray).data.toList = true from Hbl.out]
      go_wp2_with (first | (refine wpList_load_block rfl 70 _ rfl rfl hC1 Tryd.underlying70 rfl (by kernel_rfl) ?_) | (refine wpList_store_block rfl 70 _ _ rfl rfl rfl hC1 (by kernel_rfl) rfl (by simp [Value.oneCell']) ?_))
      refine bodyPost_ret (results_cell_tmp rfl _ _ _ _ _ _ _ (by rfl) (setRow_heap _ _ _ _ _ _ hC1) Tryd.underlying70 rfl (by kernel_rfl)) rfl ⟨?_, below_setRow hB1 (Nat.le_refl _) _⟩
      rw [HE.out, show Dw.decodeR l = Dw.zeroRec from by unfold Dw.decodeR; rw [HE.out]; rfl]; rfl
  · have HE := Lib.hid (show Dw.decodeE l = 1 from by unfold Dw.decodeE; rw [if_pos (by simp [h24])])
    have hne : ¬ (l.length : Int) = 24 := by omega
    go_enter Tryd.func106, Tryd.ntmps106
    go_wp2_with (first | (refine wpList_load_block rfl 70 _ rfl rfl hC0 Tryd.underlying70 rfl (by kernel_rfl) ?_) | (refine wpList_store_block rfl 70 _ _ rfl rfl rfl hC0 (by kernel_rfl) rfl (by simp [Value.oneCell']) ?_))
    refine bodyPost_ret (results_cell_tmp rfl _ _ _ _ _ _ _ (by rfl) (setRow_heap _ _ _ _ _ _ hC0) Tryd.underlying70 rfl (by kernel_rfl)) rfl ⟨?_, below_setRow hB0 (Nat.le_refl _) _⟩
    rw [HE.out, show Dw.decodeR l = Dw.zeroRec from by unfold Dw.decodeR; rw [HE.out]; rfl]; rfl
end Go.Proofs.YtmjbpdhkpdpdjaaDoor
