/- What all walks of the seats of layers 10 to 12, 20 to 23 lean on. -/
import Derived.Test.YtmjbpdhkpdpdjaaDoorRows
import Derived.Test.YtmjbpdhkpdpdjaaDoorIter
import Derived.Test.YtmjbpdhkpdpdjaaDoorRegion
import Derived.Shelf.Abstract
import Derived.Shelf.RegionOpen
import Derived.OwnWalkIn
import Derived.TacticsInMore
import Derived.LoopNIn
import Derived.LoopIn
import Derived.WalkSpells
import Derived.WalkLawsBesides
import Derived.Lib.Hide
import Derived.RegionTactic
import Derived.Deep.RegionWith
import Derived.Laws.BitsAllLaws
import Derived.Deep.OwnRows
import Derived.OwnWalk
import Derived.Laws.Tables
import Derived.Laws.CopyOwn
namespace Go.Proofs.YtmjbpdhkpdpdjaaDoor
open Go.RowKit Go.Shelf
attribute [local go_sem] Oper.semAt_some

theorem ret_ex {P : Program} {fn : Func} {R : Ending → World → Prop} {a : Act} {w : World} (hd : a.defers = [])
    (h : ∃ v, (results fn a.tmps).run P w = .ok v w ∧ R (.returned v) w) : bodyPost P fn R .ret a w := by
  obtain ⟨v, h1, h2⟩ := h
  exact bodyPost_ret h1 hd h2
theorem bsize {B : Nat} {w w' : World} (h : Below B w w') : w.heap.size ≤ w'.heap.size := h.size
theorem ret_int {k : IntKind} {a b : Int} (h : a = b) : Ending.returned (.int k a) = Ending.returned (.int k b) := by rw [h]
theorem ret_bool {a b : Bool} (h : a = b) : Ending.returned (.bool a) = Ending.returned (.bool b) := by rw [h]
theorem ret_str {a b : ByteArray} (h : a = b) : Ending.returned (.string a) = Ending.returned (.string b) := by rw [h]
theorem int_val {k : IntKind} {a b : Int} (h : a = b) : Value.int k a = Value.int k b := by rw [h]

theorem u64_id {n : Int} (h0 : 0 ≤ n) (h1 : n < 18446744073709551616) : IntKind.u64.wrap n = n := by
  have : IntKind.u64.wrap n = n % 18446744073709551616 := by simp [IntKind.wrap, IntKind.bits, IntKind.signed]
  omega
theorem u64_join (c b : Nat) (h : c * 256 + b < 18446744073709551616) (hb : b < 256) : bits .or .u64 ((c : Int) * 256) (b : Int) = (c : Int) * 256 + (b : Int) := by
  have e := u64_or_nat (c * 256) b (Nat.lt_of_le_of_lt (Nat.le_add_right _ _) h) (Nat.lt_of_le_of_lt (Nat.le_add_left _ _) h)
  have j := nat_join 8 (c * 256) b (by simp) (by simpa using hb)
  rw [j] at e
  simpa using e

/-- A whole block is loaded. -/
theorem load_block {P : Program} {w : World} {b n : Nat} {c : Array Value} {t : TypeId} {fr : Nat × Nat} (h : w.heap[b]? = some (.cells c t fr)) (hn : c.size = n) :
    (loadCellsFrom ⟨b, 0, none⟩ 0 n #[]).run P w = .ok c w := by
  subst hn
  have := run_loadCells_list (P := P) w ⟨b, 0, none⟩ c.toList (fun j v hv => by
    have hadd : (⟨b, 0, none⟩ : Addr).add j = ⟨b, j, none⟩ := by unfold Addr.add; split <;> simp_all
    rw [hadd, cell_of_row _ _ j c t fr h]
    simpa using hv)
  simpa [loadCells] using this
/-- A whole block is stored. -/
theorem store_block {P : Program} {w : World} {b : Nat} {c c' : Array Value} {t : TypeId} (h : w.heap[b]? = some (.cells c t (0, 0))) (hn : c.size = c'.size) (h1 : c'.all (·.oneCell') = true) :
    (storeCells ⟨b, 0, none⟩ c'.toList 0).run P w = .ok () (w.setRow b c') := by
  have := run_storeCells_from (P := P) b t c'.toList 0 c w h (by simp; omega) (fun v hv => (Array.all_eq_true_iff_forall_mem.1 h1) v (by simpa using hv))
  simpa using this
/-- A load of a whole block, as one step of a walk. -/
theorem wpList_load_block {P : Program} {w : World} {ops : Array Oper} {rest : List Oper} {o : Oper} {a : Act} {Q : Exit → Act → World → Prop} (hg : o.guard = none) (t : TypeId) (p : Operand) (hop : o.op = .load t p)
    {b : Nat} {c : Array Value} {t' : TypeId} {fr : Nat × Nat} {d : TypeDesc} (hp : a.eval p = .pointer (some ⟨b, 0, none⟩)) (hb : w.heap[b]? = some (.cells c t' fr))
    (hu : P.underlying t = some d) (hd : (match d with | .struct _ | .array _ _ => true | _ => false) = true) (hi : (P.info? t).map (·.size) = some c.size)
    (h : wpList P ops Q rest (a.put o.dst (.agg c)) w) : wpList P ops Q (o :: rest) a w := by
  refine wpList_plain hg fun K hK => ?_
  unfold Oper.wp
  have hl := run_loadVar_row (P := P) w b t' t c fr d hb hu hd hi
  simp [execOp, hop, hp, Instr.loadAt, Instr.sureAddr, hl, Result.andThen]
  exact hK _ _ h
/-- A store of a whole block, as one step of a walk. -/
theorem wpList_store_block {P : Program} {w : World} {ops : Array Oper} {rest : List Oper} {o : Oper} {a : Act} {Q : Exit → Act → World → Prop} (hg : o.guard = none) (t : TypeId) (p v : Operand) (hop : o.op = .store t p v)
    {b : Nat} {c c' : Array Value} {t' : TypeId} (hp : a.eval p = .pointer (some ⟨b, 0, none⟩)) (hv : a.eval v = .agg c') (hb : w.heap[b]? = some (.cells c t' (0, 0)))
    (hi : (P.info? t).map (·.size) = some c'.size) (ho : c.size = c'.size) (h1 : c'.all (·.oneCell') = true)
    (h : wpList P ops Q rest (a.put o.dst undef) (w.setRow b c')) : wpList P ops Q (o :: rest) a w := by
  refine wpList_plain hg fun K hK => ?_
  unfold Oper.wp
  have hl := run_storeVar_row (P := P) w b t' t c c' hb hi ho h1
  simp [execOp, hop, hp, hv, Instr.storeAt, Instr.sureAddr, hl, Result.andThen]
  exact hK _ _ h
/-- What a row is, as an array. -/
theorem row_array {w : World} {b n : Nat} {t : TypeId} {f : Nat → Value} (h : w.rowIs b t n f) {c : Array Value} (hc : c.size = n) (he : ∀ i, i < n → c[i]? = some (f i)) : w.heap[b]? = some (.cells c t (0, 0)) := by
  obtain ⟨d, hd, hs, hf⟩ := h
  have : d = c := by
    apply Array.ext (hs.trans hc.symm)
    intro i h1 h2
    have e1 := hf i (by omega)
    have e2 := he i (by omega)
    rw [Array.getElem?_eq_getElem h1] at e1
    rw [Array.getElem?_eq_getElem h2] at e2
    exact Option.some.inj (e1.trans e2.symm)
  rw [hd, this]
/-! ### Texts that are lists of bytes -/
theorem bs_append (a b : List UInt8) : (⟨a.toArray⟩ : ByteArray) ++ ⟨b.toArray⟩ = ⟨(a ++ b).toArray⟩ := by
  apply ByteArray.ext
  simp [ByteArray.data_append]
theorem bs_extract (l : List UInt8) (a b : Nat) : (⟨l.toArray⟩ : ByteArray).extract a b = ⟨((l.take b).drop a).toArray⟩ := by
  apply ByteArray.ext
  apply Array.toList_inj.1
  rw [ByteArray.data_extract]
  simp [List.extract, List.drop_take]
theorem bs_size (l : List UInt8) : (⟨l.toArray⟩ : ByteArray).size = l.length := by simp [ByteArray.size]
/-! ### Cells of blocks, results -/
theorem cells1 {w : World} {b : Nat} {x0 : Value} {t : TypeId} {fr : Nat × Nat} (h : w.heap[b]? = some (.cells #[x0] t fr)) : w.cell? ⟨b, 0, none⟩ = some x0 := by
  simp [cell_of_row _ _ _ _ _ _ h]
theorem cells2 {w : World} {b : Nat} {x0 x1 : Value} {t : TypeId} {fr : Nat × Nat} (h : w.heap[b]? = some (.cells #[x0, x1] t fr)) : w.cell? ⟨b, 0, none⟩ = some x0 ∧ w.cell? ⟨b, 1, none⟩ = some x1 := by
  simp [cell_of_row _ _ _ _ _ _ h]
theorem cells3 {w : World} {b : Nat} {x0 x1 x2 : Value} {t : TypeId} {fr : Nat × Nat} (h : w.heap[b]? = some (.cells #[x0, x1, x2] t fr)) : w.cell? ⟨b, 0, none⟩ = some x0 ∧ w.cell? ⟨b, 1, none⟩ = some x1 ∧ w.cell? ⟨b, 2, none⟩ = some x2 := by
  simp [cell_of_row _ _ _ _ _ _ h]
theorem cells4 {w : World} {b : Nat} {x0 x1 x2 x3 : Value} {t : TypeId} {fr : Nat × Nat} (h : w.heap[b]? = some (.cells #[x0, x1, x2, x3] t fr)) : w.cell? ⟨b, 0, none⟩ = some x0 ∧ w.cell? ⟨b, 1, none⟩ = some x1 ∧ w.cell? ⟨b, 2, none⟩ = some x2 ∧ w.cell? ⟨b, 3, none⟩ = some x3 := by
  simp [cell_of_row _ _ _ _ _ _ h]
theorem cells5 {w : World} {b : Nat} {x0 x1 x2 x3 x4 : Value} {t : TypeId} {fr : Nat × Nat} (h : w.heap[b]? = some (.cells #[x0, x1, x2, x3, x4] t fr)) : w.cell? ⟨b, 0, none⟩ = some x0 ∧ w.cell? ⟨b, 1, none⟩ = some x1 ∧ w.cell? ⟨b, 2, none⟩ = some x2 ∧ w.cell? ⟨b, 3, none⟩ = some x3 ∧ w.cell? ⟨b, 4, none⟩ = some x4 := by
  simp [cell_of_row _ _ _ _ _ _ h]
theorem cells6 {w : World} {b : Nat} {x0 x1 x2 x3 x4 x5 : Value} {t : TypeId} {fr : Nat × Nat} (h : w.heap[b]? = some (.cells #[x0, x1, x2, x3, x4, x5] t fr)) : w.cell? ⟨b, 0, none⟩ = some x0 ∧ w.cell? ⟨b, 1, none⟩ = some x1 ∧ w.cell? ⟨b, 2, none⟩ = some x2 ∧ w.cell? ⟨b, 3, none⟩ = some x3 ∧ w.cell? ⟨b, 4, none⟩ = some x4 ∧ w.cell? ⟨b, 5, none⟩ = some x5 := by
  simp [cell_of_row _ _ _ _ _ _ h]
theorem cells7 {w : World} {b : Nat} {x0 x1 x2 x3 x4 x5 x6 : Value} {t : TypeId} {fr : Nat × Nat} (h : w.heap[b]? = some (.cells #[x0, x1, x2, x3, x4, x5, x6] t fr)) : w.cell? ⟨b, 0, none⟩ = some x0 ∧ w.cell? ⟨b, 1, none⟩ = some x1 ∧ w.cell? ⟨b, 2, none⟩ = some x2 ∧ w.cell? ⟨b, 3, none⟩ = some x3 ∧ w.cell? ⟨b, 4, none⟩ = some x4 ∧ w.cell? ⟨b, 5, none⟩ = some x5 ∧ w.cell? ⟨b, 6, none⟩ = some x6 := by
  simp [cell_of_row _ _ _ _ _ _ h]
theorem frozen0 {w : World} {b : Nat} {c : Array Value} {t : TypeId} (h : w.heap[b]? = some (.cells c t (0, 0))) (j : Nat) : w.frozen? ⟨b, j, none⟩ = false := by simp [World.frozen?, h]
theorem block_lt {w : World} {b : Nat} {o : Obj} (h : w.heap[b]? = some o) : b < w.heap.size := (Array.getElem?_eq_some_iff.1 h).1
theorem results_cell_tmp {P : Program} {fn : Func} {p k : Tmp} {ty : TypeId} (h : fn.results = #[.cell p ty, .tmp k]) (tmps : Array Value) (w : World) (g : Nat) (t : TypeId) (cs : Array Value) (fr : Nat × Nat) (d : TypeDesc)
    (hp : tmps.getD p undef = .pointer (some ⟨g, 0, none⟩)) (hg : w.heap[g]? = some (.cells cs t fr))
    (hu : P.underlying ty = some d) (hd : (match d with | .struct _ | .array _ _ => true | _ => false) = true) (hi : (P.info? ty).map (·.size) = some cs.size) :
    (results fn tmps).run P w = .ok (.tuple #[.agg cs, tmps.getD k undef]) w := by
  have hp' : tmps[p]?.getD undef = .pointer (some ⟨g, 0, none⟩) := by simpa using hp
  simp [results, h, hp', asAddr, run_loadVar_row w g t ty cs fr d hg hu hd hi]
theorem results_cell_tmp2 {P : Program} {fn : Func} {p k k2 : Tmp} {ty : TypeId} (h : fn.results = #[.cell p ty, .tmp k, .tmp k2]) (tmps : Array Value) (w : World) (g : Nat) (t : TypeId) (cs : Array Value) (fr : Nat × Nat) (d : TypeDesc)
    (hp : tmps.getD p undef = .pointer (some ⟨g, 0, none⟩)) (hg : w.heap[g]? = some (.cells cs t fr))
    (hu : P.underlying ty = some d) (hd : (match d with | .struct _ | .array _ _ => true | _ => false) = true) (hi : (P.info? ty).map (·.size) = some cs.size) :
    (results fn tmps).run P w = .ok (.tuple #[.agg cs, tmps.getD k undef, tmps.getD k2 undef]) w := by
  have hp' : tmps[p]?.getD undef = .pointer (some ⟨g, 0, none⟩) := by simpa using hp
  simp [results, h, hp', asAddr, run_loadVar_row w g t ty cs fr d hg hu hd hi]
theorem ownsRow_keep {A B : World} {X : Nat → Prop} {base : Nat} {e : TypeId} {size n : Nat} {v : Value} {xs : List Value} (h : A.ownsRow base e size v n xs) (hk : KeepBut X A B) (hX : ∀ g, base ≤ g → ¬ X g) : B.ownsRow base e size v n xs := by
  refine ⟨h.1, ?_⟩
  rcases h.2 with ⟨h1, h2⟩ | ⟨g, cap, cur, h1, h2, h3, h4⟩
  · exact .inl ⟨h1, h2⟩
  · exact .inr ⟨g, cap, cur, h1, h2, (hk.block g (block_lt h3) (hX g h2)).trans h3, h4⟩
theorem KeepBut.grown {X : Nat → Prop} {a w w' : World} {row : Option Nat} (h : KeepBut X a w) (hg : w.grownBy w' row) (hr : ∀ k, row = some k → X k) : KeepBut X a w' :=
  ⟨hg.os.trans h.os, hg.tape.trans h.tape, hg.output.trans h.output, Nat.le_trans h.size hg.size, fun k hk hx => (hg.block k (Nat.lt_of_lt_of_le hk h.size) (fun e => hx (hr k e.symm))).trans (h.block k hk hx)⟩
end Go.Proofs.YtmjbpdhkpdpdjaaDoor
