/- What the statement's proof stands on, part 38: MapLit. -/
import Derived.Test.YtjibbchfndhhpaaGreatDoorRc4
import Derived.Test.YtjibbchfndhhpaaGreatDoorRc17
import Derived.MapKept
import Derived.Maps.OwnOps
set_option linter.unusedSimpArgs false
set_option linter.unusedVariables false
set_option maxRecDepth 100000
set_option maxHeartbeats 4000000
namespace Go.Proofs.YtjibbchfndhhpaaGreatDoor
open Go.RowKit Go.Shelf Go.MapKept
def gotV (ok : Bool) (z : Value) : Option (Nat × Value) → Value
  | some (_, u) => if ok then .tuple #[u, .bool true] else u
  | none => if ok then .tuple #[z, .bool false] else z
section
variable {P : Program} {ops : Array Oper} {rest : List Oper} {o : Oper} {a : Act} {w : World} {Q : Exit → Act → World → Prop} {t kt et : TypeId} {d : TypeDesc} {b c : Nat} {es : Array MapEntry} {m k v : Operand} {kv vv : Value}
theorem run_mput (hb : w.heap[b]? = some (.map es c)) (hu : P.underlying t = some (.map kt et)) (hd : P.underlying kt = some d) (hkey : IsKey d kv) (hf : Instr.findNow d kv es.toList 0 = some none) :
    (Instr.mapUpdate t (.map (some b)) kv vv).run P w = .ok () (w.putObj b (.map (es.push ⟨kv, vv, c⟩) (c + 1))) := by
  have h1 := MapKept.run_findKey (P := P) (w := w) hd hf
  have h2 := MapKept.run_checkKey (P := P) (w := w) hd hkey false 9999
  have h3 := MapKept.run_getObj_map (P := P) hb
  have h4 := MapKept.run_setObj_map (P := P) (.map (es.push ⟨kv, vv, c⟩) (c + 1)) hb
  unfold Instr.mapUpdate
  simp [Sem.run_bind, run_underlying hu, Result.andThen, h1, h2, h3, h4, World.putObj]
structure Put (w w' : World) (b : Nat) : Prop where
  os : w'.os = w.os
  tape : w'.tape = w.tape
  output : w'.output = w.output
  size : w'.heap.size = w.heap.size
  other : ∀ g, g ≠ b → w'.heap[g]? = w.heap[g]?
theorem Put.block {w w' : World} {b g : Nat} {x : Obj} (h : Put w w' b) (hx : w.heap[g]? = some x) (hne : g ≠ b) : w'.heap[g]? = some x := (h.other g hne).trans hx
theorem Put.below {w0 w w' : World} {b B : Nat} (h : Put w w' b) (hB : Below B w0 w) (hb : B ≤ b) : Below B w0 w' :=
  ⟨h.os.trans hB.os, h.tape.trans hB.tape, h.output.trans hB.output, by rw [h.size]; exact hB.size, fun k hk => (h.other k (by omega)).trans (hB.block k hk)⟩
theorem mput (hop : o.op = .insert t m k v) (hb : w.heap[b]? = some (.map es c)) (hg : Region.wanted o (yielded ops a.tmps) = true) (hm : a.eval m = .map (some b)) (hk : a.eval k = kv) (hv : a.eval v = vv)
    (hu : P.underlying t = some (.map kt et)) (hd : P.underlying kt = some d) (hkey : IsKey d kv) (hf : Instr.findNow d kv es.toList 0 = some none)
    (h : ∀ w', Put w w' b → w'.heap[b]? = some (.map (es.push ⟨kv, vv, c⟩) (c + 1)) → wpList P ops Q rest (a.put o.dst undef) w') : wpList P ops Q (o :: rest) a w := by
  refine BigFrame.wpList_want hg fun K hK => ?_
  have hr := run_mput (P := P) (vv := vv) hb hu hd hkey hf
  unfold Oper.wp
  simp [execOp, hop, hm, hk, hv, hr, Result.andThen]
  exact hK _ _ (h _ ⟨rfl, rfl, rfl, World.putObj_size, fun g hg => World.putObj_heap_other hg⟩ (World.putObj_heap_same (Array.getElem?_eq_some_iff.1 hb).1))
theorem run_mget {z x : Value} (hb : w.heap[b]? = some (.map es c)) (hu : P.underlying t = some (.map kt et)) (hd : P.underlying kt = some d) (hkey : IsKey d kv) {r : Option (Nat × Value)} (hf : Instr.findNow d kv es.toList 0 = some r) (hz : (zeroValue et).run P w = .ok z w)
    {ok : Bool} (hx : x = gotV ok z r) : (Instr.lookup t (.map (some b)) kv ok).run P w = .ok x w := by
  have h1 := MapKept.run_findKey (P := P) (w := w) hd hf
  have h2 := MapKept.run_checkKey (P := P) (w := w) hd hkey es.isEmpty 9999
  have h3 := MapKept.run_getObj_map (P := P) hb
  unfold Instr.lookup
  subst hx
  rcases r with _ | ⟨i, u⟩ <;> simp [Sem.run_bind, run_underlying hu, Result.andThen, h1, h2, h3, hz, gotV] <;> cases ok <;> simp
theorem lpf {p : Operand} {fr : Nat × Nat} {t' : TypeId} {cs : Array Value} (hop : o.op = .load t p) (off : Nat) (part : Array Value) (hb : w.heap[b]? = some (.cells cs t' fr)) (hg : o.guard = none) (hp : a.eval p = .pointer (some ⟨b, off, none⟩)) (hd : rowOk P t part.size = true) (hc : (cs.toList.drop off).take part.size = part.toList)
    (h : wpList P ops Q rest (a.put o.dst (.agg part)) w) : wpList P ops Q (o :: rest) a w := lp t off part hb hg hop hp hd hc h
end
end Go.Proofs.YtjibbchfndhhpaaGreatDoor
