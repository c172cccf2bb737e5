/- What the statement's proof stands on, part 8: Deb1. -/
import Derived.Test.YtjibbchfndhhpaaGreatDoorRows
import Derived.Test.YtjibbchfndhhpaaGreatDoorRc1
import Derived.Shelf.Abstract
import Derived.Shelf.RegionOpen
import Derived.OwnWalkIn
import Derived.TacticsInMore
import Derived.LoopNIn
import Derived.LoopIn
import Derived.WalkSpells
import Derived.WalkLawsBesides
import Derived.Lib.Hide
set_option linter.unusedSimpArgs false
set_option linter.unusedVariables false
set_option maxRecDepth 100000
set_option maxHeartbeats 4000000
namespace Go.Proofs.YtjibbchfndhhpaaGreatDoor
open Go.RowKit Go.Shelf
attribute [local go_sem] Oper.semAt_some
def saysB (v : Int) : Bool := v == 1 || v == 2
def addV (v u : Int) : Int := if u = 1 ∨ u = 2 then u else v
def addN (v n u : Int) : Int := if u = 1 ∨ u = 2 then (if v = u then (if 3 ≤ n then 3 else if n < 1 then 1 else n + 1) else 1) else n
def add1 (c : Int × Int) (u : Int) : Int × Int := (addV c.1 u, addN c.1 c.2 u)
def allC (c : Int × Int) (l : List Int) : Int × Int := l.foldl add1 c
def scanC (c : Int × Int) (l : List Int) : List (Int × Int) := (List.range l.length).map fun k => allC c (l.take (k + 1))
theorem allC_snoc (c : Int × Int) (l : List Int) (u : Int) : allC c (l ++ [u]) = add1 (allC c l) u := by simp [allC]
def Ints (X : Nat → Prop) (W : World) (sv : Value) (zs : List Int) : Prop :=
  (∃ a cap, sv = .slice a 0 cap ∧ zs = []) ∨ ∃ b off cap, sv = .slice (some ⟨b, off, none⟩) zs.length cap ∧ b < W.heap.size ∧ ¬ X b ∧ ∀ j, j < zs.length → W.cell? ⟨b, off + j, none⟩ = some (.int .i64 (zs[j]?.getD 0))
theorem Ints.keep {X Y : Nat → Prop} {A B : World} (h : KeepBut Y A B) (hXY : ∀ k, Y k → X k) {sv : Value} {zs : List Int} : Ints X A sv zs → Ints X B sv zs
  | .inl e => .inl e
  | .inr ⟨b, off, cap, e, hb, hx, hc⟩ => .inr ⟨b, off, cap, e, Nat.lt_of_lt_of_le hb h.size, hx, fun j hj => (h.cell (p := ⟨b, off + j, none⟩) hb (fun g => hx (hXY _ g))).trans (hc j hj)⟩
theorem take_snoc' (zs : List Int) (k : Nat) (h : k < zs.length) : zs.take (k + 1) = zs.take k ++ [zs[k]?.getD 0] := by
  rw [List.take_succ_eq_append_getElem h]; simp [h]
theorem split_at (zs : List Int) (k : Nat) (h : k < zs.length) : zs = zs.take k ++ (zs[k]?.getD 0) :: zs.drop (k + 1) := by
  have : zs[k]?.getD 0 = zs[k] := by simp [h]
  rw [this]; simp
theorem values_in (n l Bs b off cap : Nat) (zs : List Int) (hreach : zs.length * 8 ≤ 140737488351232) (X : Nat → Prop) (hb : ¬ X b) (J Jx : List Int → World → Prop)
    (hY : ∀ pre x suf W1, zs = pre ++ x :: suf → J pre W1 → YieldAt Fence.wide n Tryz.prog l #[.int .i64 x] W1 fun e W' =>
      (e = .returned (.bool true) ∧ J (pre ++ [x]) W' ∧ KeepBut X W1 W') ∨ (e = .returned (.bool false) ∧ Jx (pre ++ [x]) W' ∧ KeepBut (fun k => X k ∨ k = l) W1 W'))
    (W : World) (hBs : W.cell? ⟨Bs, 0, none⟩ = some (.slice (some ⟨b, off, none⟩) zs.length cap)) (hbs : b < W.heap.size) (hc : ∀ j, j < zs.length → W.cell? ⟨b, off + j, none⟩ = some (.int .i64 (zs[j]?.getD 0))) (h0 : J [] W) :
    CallsIn Fence.wide (n + 1) Tryz.prog 200 #[.func (.yield l) #[] #[], .pointer (some ⟨Bs, 0, none⟩)] W fun e W' => (∃ v, e = .returned v) ∧ (J zs W' ∨ ∃ pre, pre <+: zs ∧ Jx pre W') := by
  refine callsIn_of_wp Tryz.func200 rfl trivial ?_ rfl
  simp only [Tryz.ntmps200, List.size_toArray, List.length_cons, List.length_nil, Nat.reduceAdd, Nat.reduceSub, Array.replicate_succ, Array.replicate_zero, List.push_toArray, List.append_toArray, List.nil_append, List.cons_append]
  gi_wp2
  gi_loopw [7] (fun i wr => ∃ k : Nat, k ≤ zs.length ∧ i = .int .i64 k ∧ J (zs.take k) wr ∧ KeepBut X W wr)
    (fun i _ => zs.length - (intOf i).toNat)
  case atStart => exact ⟨0, Nat.zero_le _, rfl, h0, KeepBut.refl _ _⟩
  case round =>
    obtain ⟨k, hk, rfl, hJs, hnx⟩ := hrel
    have hcx : k < zs.length → wr.cell? ⟨b, off + k, none⟩ = some (.int .i64 (zs[k]?.getD 0)) := fun h => (hnx.cell (p := ⟨b, off + k, none⟩) hbs hb).trans (hc k h)
    by_cases hlt : k < zs.length
    · obtain ⟨fn, tmps, assign, body, hy, hR⟩ := hY _ (zs[k]?.getD 0) _ wr (split_at zs k hlt) hJs
      have hcx' := hcx hlt
      have hs1 := take_snoc' zs k hlt
      have hs2 := split_at zs k hlt
      generalize zs[k]?.getD 0 = x at hcx' hy hR hs1 hs2
      have Hs1 := Lib.hid hs1; have Hs2 := Lib.hid hs2; clear hs1 hs2 hcx
      gi_wp2
      refine hR.mono ?_
      rintro e W3 (⟨rfl, hJ3, hk3⟩ | ⟨rfl, hJx3, _⟩)
      · gi_wp2
        go_roundw
        case rel => exact ⟨k + 1, by omega, by simp, by rw [Hs1.out]; exact hJ3, hnx.trans hk3⟩
        case measure => simp [intOf]; omega
      · gi_wp2
        refine bodyPost_ret (results_none rfl _ _ _) rfl ?_
        exact ⟨⟨_, rfl⟩, .inr ⟨_, ⟨_, by rw [List.append_assoc]; exact Hs2.out.symm⟩, hJx3⟩⟩
    · obtain rfl : k = zs.length := by omega
      gi_wp2
      go_end0
      exact ⟨⟨_, rfl⟩, .inl (by rw [List.take_length] at hJs; exact hJs)⟩
theorem values_nil_in (n l Bs : Nat) (a : Option Addr) (cap : Nat) (J : List Int → World → Prop) (W : World) (hBs : W.cell? ⟨Bs, 0, none⟩ = some (.slice a 0 cap)) (h0 : J [] W) :
    CallsIn Fence.wide (n + 1) Tryz.prog 200 #[.func (.yield l) #[] #[], .pointer (some ⟨Bs, 0, none⟩)] W fun e W' => (∃ v, e = .returned v) ∧ J [] W' := by
  refine callsIn_of_wp Tryz.func200 rfl trivial ?_ rfl
  simp only [Tryz.ntmps200, List.size_toArray, List.length_cons, List.length_nil, Nat.reduceAdd, Nat.reduceSub, Array.replicate_succ, Array.replicate_zero, List.push_toArray, List.append_toArray, List.nil_append, List.cons_append]
  gi_wp2
  gi_loopw [7] (fun i wr => i = .int .i64 0 ∧ J [] wr) (fun _ _ => 0)
  case atStart => exact ⟨rfl, h0⟩
  case round =>
    obtain ⟨rfl, hJs⟩ := hrel
    gi_wp2
    go_end0
    exact ⟨⟨_, rfl⟩, hJs⟩
theorem values_tells (Bs : Nat) (sv : Value) (zs : List Int) (hreach : zs.length * 8 ≤ 140737488351232) (X Y : Nat → Prop) (w : World)
    (hc : w.cell? ⟨Bs, 0, none⟩ = some sv) (hI : Ints X w sv zs) :
    Tells Tryz.prog 200 #[.pointer (some ⟨Bs, 0, none⟩)] (fun x : Int => #[Value.int .i64 x]) zs X Y w := fun n l J Jx W hW _ _ _ _ hY h0 => by
  have hc' := (hW.cell (p := ⟨Bs, 0, none⟩) (lt_of_cell hc) id).trans hc
  rcases hI.keep hW (fun _ h => h.elim) with ⟨a, cap, rfl, rfl⟩ | ⟨b, off, cap, rfl, hb, hx, hcs⟩
  · exact (values_nil_in n l Bs a cap J W hc' h0).mono fun e W' ⟨he, hj⟩ => ⟨he, .inl hj⟩
  · exact values_in n l Bs b off cap zs hreach X hx J Jx hY W hc' hb hcs h0
theorem values_any (sv : Value) (hsv : ∃ a len cap, sv = .slice a len cap) (w : World) :
    Calls Tryz.prog 170 #[sv] w fun e w' => e = .returned (.func (.func 200) #[] #[.pointer (some ⟨w.heap.size, 0, none⟩)]) ∧ w' = w.alloc (.cells #[sv] 94) := by
  obtain ⟨a, len, cap, rfl⟩ := hsv
  go_enter Tryz.func170, Tryz.ntmps170
  go_wp2
  go_ret
  exact ⟨rfl, rfl⟩
theorem says_any (v : Int) (w : World) :
    Calls Tryz.prog 137 #[.int .i64 v] w fun e w' => e = .returned (.bool (saysB v)) ∧ w = w' := by
  go_enter Tryz.func137, Tryz.ntmps137
  go_wp2
  all_goals
    go_ret
    refine ⟨?_, rfl⟩
    simp_all [saysB]
theorem counts_any (c n : Int) (f l : Nat) (w : World) :
    Calls Tryz.prog 169 #[.agg #[.int .i64 c, .int .i64 n], .func (.func f) #[] #[.pointer (some ⟨l, 0, none⟩)]] w fun e w' =>
      e = .returned (.func (.func 199) #[] #[.pointer (some ⟨w.heap.size + 1, 0, none⟩), .pointer (some ⟨w.heap.size, 0, none⟩)]) ∧
      w' = (w.alloc (.cells #[.int .i64 c, .int .i64 n] 43)).alloc (.cells #[.func (.func f) #[] #[.pointer (some ⟨l, 0, none⟩)]] 249) := by
  go_enter Tryz.func169, Tryz.ntmps169
  go_wp2
  go_ret
  exact ⟨rfl, rfl⟩
end Go.Proofs.YtjibbchfndhhpaaGreatDoor
