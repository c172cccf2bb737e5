/- What the statement's proof stands on, part 20: RegionS, RClear, RPut, RPut3, RSt, Res. -/
import Derived.Test.YtnaokijcggbfdaaGreatDoorBe12
import Derived.Orders
import Derived.Test.YtnaokijcggbfdaaGreatDoorBe10
import Derived.Laws.IdiomStrings
import Derived.Test.YtnaokijcggbfdaaGreatDoorBe19
set_option linter.unusedSimpArgs false
set_option linter.unusedVariables false
set_option maxRecDepth 100000
set_option maxHeartbeats 4000000
namespace Go.Proofs.YtnaokijcggbfdaaGreatDoor.RS
open Go.RowKit
theorem keep_setRow {w : World} {b : Nat} {c : Array Value} {t : TypeId} (h : w.heap[b]? = some (.cells c t (0, 0))) : Keep w (w.setRow b c) :=
  ⟨rfl, rfl, rfl, by simp [World.setRow], fun k _ _ => by
    by_cases e : k = b
    · subst e; exact (setRow_heap w k _ c _ _ h).trans h.symm
    · exact setRow_other w b k c e⟩
theorem keep_setCell {w : World} {b : Nat} {v : Value} {t : TypeId} (h : w.heap[b]? = some (.cells #[v] t (0, 0))) : Keep w (w.setCell ⟨b, 0, none⟩ v) :=
  ⟨rfl, rfl, rfl, by simp [World.setCell], fun k _ _ => by
    by_cases e : k = b
    · subst e; exact (heap_setCell_same w k 0 _ t v h).trans h.symm
    · exact heap_setCell_other w ⟨b, 0, none⟩ k v e⟩
section
variable {P : Program} {l : List Oper} {o : Oper} {k : Nat} {ks : List Nat} {w : World} {N : Act → Prop} {a : Act}
theorem pl_same (ho : l[k]? = some o) (hw : Region.wanted o (yielded l.toArray a.tmps) = true)
    (hv : ∀ w', Keep w w' → ∃ w'', (execOp a.eval o).run P w' = .ok .skip w'' ∧ Keep w' w'') (h : PureList P l.toArray w N ks (a.put o.dst undef)) : PureList P l.toArray w N (k :: ks) a :=
  ⟨o, undef, by simpa using ho, .inl ⟨hw, fun w' hk => .inr (.inr ⟨rfl, hv w' hk⟩)⟩, h⟩
theorem same_block {w' : World} (t : TypeId) (p x : Operand) (hop : o.op = .store t p x) {b : Nat} {c : Array Value} {t' : TypeId} (hp : a.eval p = .pointer (some ⟨b, 0, none⟩)) (hx : a.eval x = .agg c)
    (hb : w'.heap[b]? = some (.cells c t' (0, 0))) (hi : (P.info? t).map (·.size) = some c.size) (h1 : c.all (·.oneCell') = true) :
    ∃ w'', (execOp a.eval o).run P w' = .ok .skip w'' ∧ Keep w' w'' := by
  refine ⟨w'.setRow b c, ?_, keep_setRow hb⟩
  have hl := run_storeVar_row (P := P) w' b t' t c c hb hi rfl h1
  simp [execOp, hop, hp, hx, Instr.storeAt, Instr.sureAddr, hl, Result.andThen]
end
end Go.Proofs.YtnaokijcggbfdaaGreatDoor.RS
namespace Go.Proofs.YtnaokijcggbfdaaGreatDoor
open Go.RowKit Go.Shelf
attribute [local go_sem] Oper.semAt_some
namespace Dw
end Dw
end Go.Proofs.YtnaokijcggbfdaaGreatDoor
namespace Go.Proofs.YtnaokijcggbfdaaGreatDoor
open Go.RowKit Go.Shelf
attribute [local go_sem] Oper.semAt_some
end Go.Proofs.YtnaokijcggbfdaaGreatDoor
