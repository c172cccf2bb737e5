/- Layer 11: the reference's Append, Fresh, fresh. -/
import Derived.Test.YtaniehjhmjecjaaGreatDoorPRBody
import Derived.Test.YtaniehjhmjecjaaGreatDoorPRPlay2
import Derived.Test.YtaniehjhmjecjaaGreatDoorPLaw11
import Derived.Test.YtaniehjhmjecjaaGreatDoorP9
import Derived.Test.YtaniehjhmjecjaaGreatDoorP17
namespace Go.Proofs.YtaniehjhmjecjaaGreatDoor
open Go.RowKit Go.Shelf
attribute [local go_sem] Oper.semAt_some

theorem rops_of_cells {w : World} {b cap : Nat} {l m : List Dw.Op} {t : TypeId} {fr : Nat × Nat} (h : w.heap[b]? = some (.cells (opsCells (m ++ l)).toArray t fr)) : ROps w (.slice (some ⟨b, m.length * 4, none⟩) l.length cap) l := by
  refine ⟨b, m.length * 4, cap, _, _, _, rfl, h, fun j o ho => ?_⟩
  have ho' : (m ++ l)[m.length + j]? = some o := by rw [List.getElem?_append_right (by omega), Nat.add_sub_cancel_left]; exact ho
  have key : ∀ r, r < 4 → (opsCells (m ++ l)).toArray[m.length * 4 + j * 4 + r]? = (opC o).toList[r]? := by
    intro r hr
    rw [List.getElem?_toArray, ← opsCells_get (m ++ l) (m.length + j) r o ho' hr]
    congr 1
    omega
  exact ⟨key 0 (by decide), key 1 (by decide), key 2 (by decide), key 3 (by decide)⟩

set_option maxRecDepth 100000 in
set_option maxHeartbeats 2000000 in
theorem rappend11_any (b s q d : Nat) (hs : s ≤ 12) (hq : q < 18446744073709551616) (hd : d < 18446744073709551616) (w : World) :
    Calls Tryz.prog 70 #[.int .i64 b, .int .i64 s, .int .u64 q, .int .u64 d] w fun e w' => (∃ v, e = .returned v ∧ ROps w' v (Dw.appendOps b s q d)) ∧ Below w.heap.size w w' := by
  have H1 := Lib.hid (fun w => rat5_any s hs w)
  have H2 := Lib.hid (fun w => rbody_any 2 q d (by decide) hq hd w)
  have H3 := Lib.hid (fun w => rmark5_any s hs w)
  have hB := Below.refl w.heap.size w
  clear hq hd
  go_enter Tryz.func70, Tryz.ntmps70
  go_wp2_with fail
  refine (H1.out _).mono ?_
  rintro e w1 ⟨rfl, hb⟩
  replace hB := hB.trans (hb.mono hB.size)
  clear hb
  go_wp2_with fail
  refine (H2.out _).mono ?_
  rintro e w2 ⟨rfl, hb⟩
  replace hB := hB.trans (hb.mono hB.size)
  clear hb
  go_wp2_with fail
  refine (H3.out _).mono ?_
  rintro e w3 ⟨rfl, hb⟩
  replace hB := hB.trans (hb.mono hB.size)
  clear hb
  go_wp2_with fail
  refine (rmark_any _).mono ?_
  rintro e w4 ⟨rfl, hb⟩
  replace hB := hB.trans (hb.mono hB.size)
  clear hb
  have hC := heap_alloc_new w4 (.cells (opsCells ([] ++ Dw.appendOps b s q d)).toArray 93)
  have hB2 := hB.alloc hB.size (.cells (opsCells ([] ++ Dw.appendOps b s q d)).toArray 93)
  have HR := Lib.hid (rops_of_cells (m := []) (cap := 2) hC)
  have HB := Lib.hid hB2
  clear hC hB2 hB
  go_wp2_with fail
  go_ret
  exact ⟨⟨_, rfl, HR.out⟩, HB.out⟩
end Go.Proofs.YtaniehjhmjecjaaGreatDoor
