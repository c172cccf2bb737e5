/- Layer 8: bank.places and what is told of it. -/
import Derived.Test.YtmjbpdhkpdpdjaaDoorRDecode
import Derived.Test.YtmjbpdhkpdpdjaaDoorRegionIn
import Derived.Test.YtmjbpdhkpdpdjaaDoorIterG
import Derived.Test.YtmjbpdhkpdpdjaaDoorLayout
namespace Go.Proofs.YtmjbpdhkpdpdjaaDoor
open Go.RowKit Go.Shelf
attribute [local go_sem] Oper.semAt_some

namespace Dw
def place (s : List UInt8) (i : Nat) : List UInt8 := (s.drop (24 * i)).take 24
def places (s : List UInt8) : List (Nat × List UInt8) := if slots s.length = 0 then [] else (List.range (slots s.length + 1)).map fun i => (i, place s i)
def slot (s : List UInt8) (i : Nat) : List UInt8 := if 0 < slots s.length ∧ i ≤ slots s.length then place s i else []
theorem places_length (s : List UInt8) (h : 0 < slots s.length) : (places s).length = slots s.length + 1 := by unfold places; rw [if_neg (by omega)]; simp
theorem places_split (s : List UInt8) (k : Nat) (h : 0 < slots s.length) (hk : k ≤ slots s.length) : places s = (places s).take k ++ (k, place s k) :: (places s).drop (k + 1) := by
  have hl := places_length s h
  have hk' : k < (places s).length := by omega
  have e : (places s)[k] = (k, place s k) := by unfold places; simp [show ¬ slots s.length = 0 from by omega]
  rw [← e]
  simp
theorem places_snoc (s : List UInt8) (k : Nat) (h : 0 < slots s.length) (hk : k ≤ slots s.length) : (places s).take (k + 1) = (places s).take k ++ [(k, place s k)] := by
  have hl := places_length s h
  have hk' : k < (places s).length := by omega
  have e : (places s)[k] = (k, place s k) := by unfold places; simp [show ¬ slots s.length = 0 from by omega]
  rw [← e, List.take_succ_eq_append_getElem hk']
end Dw
abbrev placeV (x : Nat × List UInt8) : Array Value := #[.int .i64 x.1, .string ⟨x.2.toArray⟩]

theorem yieldAt_any {n m : Nat} {P : Program} {l : Nat} {args : Array Value} {W : World} {R : Ending → World → Prop} (h : YieldAt Fence.wide n P l args W R) : YieldAt Fence.wide m P l args W R := by
  obtain ⟨fn, tmps, assign, body, hy, hR⟩ := h
  exact ⟨fn, tmps, assign, body, hy, hR.1, fun c cs _ => hR.2 c cs (room_wide _)⟩
theorem callsIn_any {n m : Nat} {P : Program} {f : FuncId} {args : Array Value} {w : World} {R : Ending → World → Prop} (h : CallsIn Fence.wide n P f args w R) : CallsIn Fence.wide m P f args w R :=
  callsIn_wide.2 (callsIn_wide.1 h)

set_option maxRecDepth 100000 in
set_option maxHeartbeats 2000000 in
theorem places_tellsG (Bs : Nat) (s : List UInt8) (hs : s.length ≤ 400) (X : Nat → Prop) (w : World) (hX : ¬ X Bs) (hc : w.cell? ⟨Bs, 0, none⟩ = some (.string ⟨s.toArray⟩)) :
    TellsG Tryd.prog 108 #[.pointer (some ⟨Bs, 0, none⟩)] placeV (Dw.places s) X (fun _ _ => False) w := fun n l J Jx W hW _ _ hJ _ hY h0 => by
  have hc0 := (hW.cell (p := ⟨Bs, 0, none⟩) (lt_of_cell hc) id).trans hc
  have hBlt := lt_of_cell hc0
  clear hc hW
  refine callsIn_any (n := n + 1) ?_
  refine callsIn_of_wp Tryd.func108 rfl trivial ?_ rfl
  simp only [Tryd.ntmps108, List.size_toArray, List.length_cons, List.length_nil, Nat.reduceAdd, Nat.reduceSub, Array.replicate_succ, Array.replicate_zero, List.push_toArray, List.append_toArray, List.nil_append, List.cons_append]
  gi_wp2
  refine ⟨trivial, ?_⟩
  refine (callsIn_wide.2 (slots_any s.length (by omega) _)).mono ?_
  rintro e w1 ⟨rfl, hb1⟩
  have hc1 := (hb1.cell (p := ⟨Bs, 0, none⟩) hBlt).trans hc0
  have h1 := hJ _ _ _ h0 (KeepBut.of_below' hb1)
  have hsz := hb1.size
  have hle := Dw.slots_le s.length
  clear hb1 hc0 h0
  by_cases hz : Dw.slots s.length = 0
  · have Hp := Lib.hid (show Dw.places s = [] from by unfold Dw.places; rw [if_pos hz])
    gi_wp2
    gi_loopw [4] (fun i wr => i = .int .i64 0 ∧ J [] wr) (fun _ _ => 0)
    case atStart => exact ⟨rfl, h1⟩
    case round =>
      obtain ⟨rfl, hJs⟩ := hrel
      gi_wp2
      go_end0
      exact ⟨⟨_, rfl⟩, .inl (by rw [Hp.out]; exact hJs)⟩
  · have hpos : 0 < Dw.slots s.length := by omega
    have hsp := Dw.slots_pos hpos
    have hpl := Dw.places_length s hpos
    have Hsplit := Lib.hid (Dw.places_split s)
    have Hsnoc := Lib.hid (Dw.places_snoc s)
    have Hplace := Lib.hid (show ∀ k, (⟨(s.drop (24 * k)).toArray⟩ : ByteArray).extract 0 24 = ⟨(Dw.place s k).toArray⟩ from fun k => by rw [bs_extract]; rfl)
    generalize hn : Dw.slots s.length = m at *
    clear hn
    have Hl := Lib.hid hpl
    obtain ⟨hsl, hm12⟩ := hsp
    have Hsl := Lib.hid hsl
    clear hpl hz hsl
    gi_wp2
    gi_loopw [4] (fun i wr => ∃ k : Nat, k ≤ m + 1 ∧ i = .int .i64 k ∧ J ((Dw.places s).take k) wr ∧ KeepBut X w1 wr) (fun i _ => m + 1 - (intOf i).toNat)
    case atStart => exact ⟨0, Nat.zero_le _, rfl, h1, KeepBut.refl _ _⟩
    case round =>
      obtain ⟨k, hk, rfl, hJs, hkx⟩ := hrel
      have hcx := (hkx.cell (p := ⟨Bs, 0, none⟩) (lt_of_cell hc1) hX).trans hc1
      by_cases hlt : k ≤ m
      · gi_wp2
        have hsl := Hsl.out
        have b1 : (0 : Int) ≤ 24 * (k : Int) := by omega
        have b2 : 24 * (k : Int) ≤ (s.length : Int) := by omega
        have b3 : (24 * (k : Int)).toNat = 24 * k := by omega
        have b4 : 24 ≤ s.length - 24 * k := by omega
        have b7 : (24 : Int) ≤ ((s.length - 24 * k : Nat) : Int) := by omega
        have b5 : (s.drop (24 * k)).length = s.length - 24 * k := by simp
        have b6 : Dw.at_ (k : Int) = 24 * (k : Int) := by unfold Dw.at_; rw [if_pos (by omega)]
        have e1 : (⟨s.toArray⟩ : ByteArray).extract (24 * k) s.length = ⟨(s.drop (24 * k)).toArray⟩ := by rw [bs_extract, List.take_length]
        have e2 := Hplace.out k
        clear hsl
        refine wpIn_pure open_wide (List.range 7) 7 (by kernel_rfl) (by kernel_rfl) (by kernel_rfl) rfl ?_
        rw [show List.range 7 = [0, 1, 2, 3, 4, 5, 6] from rfl]
        repeat' (first | (refine pl_nil ?_) | (refine pl_value (v := ?_) rfl rfl ?_ ?_; rotate_left 1; (focus (intro w' hk; have c1 := look hk hcx; go_simp; (first | done | with_reducible rfl | exact rfl))); (try simp only [Act.put, List.setIfInBounds_toArray, List.set_cons_zero, List.set_cons_succ])) | (refine pl_call (v := ?_) (f := ?_) (args := ?_) rfl rfl ?_ ?_ ?_; rotate_left 3; (focus (intro w' hk; have c1 := look hk hcx; go_simp; (first | done | (constructor <;> with_reducible rfl) | with_reducible rfl))); (focus (intro w' hk; exact at_any (k : Int) w')); (try simp only [Act.put, List.setIfInBounds_toArray, List.set_cons_zero, List.set_cons_succ])) | (refine pl_skip rfl rfl ?_; (try simp only [Act.put, List.setIfInBounds_toArray, List.set_cons_zero, List.set_cons_succ])))
        intro w2 hk2
        simp only [List.drop_succ_cons, List.drop_zero]
        have hJ2 := hJ _ _ _ hJs hk2
        have hkx2 := hkx.trans (hk2.mono (fun _ _ h => h.elim))
        have Hs1 := Lib.hid (Hsnoc.out k hpos hlt)
        have Hs2 := Lib.hid (Hsplit.out k hpos hlt)
        obtain ⟨fn, tmps, assign, body, hy, hR⟩ := hY _ (k, Dw.place s k) _ w2 Hs2.out hJ2
        clear hJs hkx hcx hk2 e1 e2 b1 b2 b3 b4 b5 b6 b7
        gi_wp2
        refine hR.mono ?_
        rintro e W3 (⟨rfl, hJ3, hk3⟩ | ⟨rfl, hJx3, _⟩)
        · gi_wp2
          go_roundw
          case rel => exact ⟨k + 1, by omega, by go_num, by rw [Hs1.out]; exact hJ3, hkx2.trans hk3⟩
          case measure => simp [intOf]; omega
        · gi_wp2
          refine bodyPost_ret (results_none rfl _ _ _) rfl ?_
          exact ⟨⟨_, rfl⟩, .inr ⟨_, ⟨_, by rw [List.append_assoc]; exact Hs2.out.symm⟩, hJx3⟩⟩
      · obtain rfl : k = m + 1 := by omega
        gi_wp2
        go_end0
        exact ⟨⟨_, rfl⟩, .inl (by rw [← Hl.out, List.take_length] at hJs; exact hJs)⟩
theorem places_tells (Bs : Nat) (s : List UInt8) (hs : s.length ≤ 400) (X Y : Nat → Prop) (w : World) (hX : ¬ X Bs) (hc : w.cell? ⟨Bs, 0, none⟩ = some (.string ⟨s.toArray⟩)) :
    Tells Tryd.prog 108 #[.pointer (some ⟨Bs, 0, none⟩)] placeV (Dw.places s) X Y w :=
  ((places_tellsG Bs s hs X w hX hc).mono (fun _ _ h => h.elim)).tells
end Go.Proofs.YtmjbpdhkpdpdjaaDoor
