/- What the statement's proof stands on, part 45: Shown22, AHolds22. -/
import Derived.Test.YtcadgecnlahkgaaGreatDoorAh44
import Derived.Test.YtcadgecnlahkgaaGreatDoorAh2
set_option linter.unusedSimpArgs false
set_option linter.unusedVariables false
set_option maxRecDepth 100000
set_option maxHeartbeats 4000000
namespace Go.Proofs.YtcadgecnlahkgaaGreatDoor
open Go.RowKit Go.Shelf
attribute [local go_sem] Oper.semAt_some
theorem ens_block {w : World} {b cap : Nat} {t : TypeId} {fr : Nat × Nat} {l : List Dw.En} (hok : ∀ e ∈ l, enOk e) (h : w.heap[b]? = some (.cells (l.flatMap fun e => (enC e).toList).toArray t fr)) : EnsAt w (.slice (some ⟨b, 0, none⟩) l.length cap) l := by
  refine ⟨_, _, rfl, hok, .inr ⟨b, 0, rfl, fun j x hj i u hi => ?_⟩⟩
  have hi11 : i < 11 := (List.getElem?_eq_some_iff.1 hi).1
  rw [cell_of_row _ _ _ _ _ _ h, ← hi, Nat.zero_add, List.getElem?_toArray]
  exact flat_get (k := 11) (fun _ => rfl) l j x i hj hi11
theorem ens_take {w : World} {sa : Option Addr} {n cap : Nat} {l : List Dw.En} (h : EnsAt w (.slice sa n cap) l) (k : Nat) (hk : k ≤ l.length) (cap' : Nat) : EnsAt w (.slice sa k cap') (l.take k) := by
  obtain ⟨sa', cap0, he, hok, hc⟩ := h
  injection he with h1 h2 h3
  subst h1
  refine ⟨sa, cap', by rw [List.length_take, Nat.min_eq_left hk], fun x hx => hok x (List.mem_of_mem_take hx), ?_⟩
  rcases hc with rfl | ⟨b, off, hb, hc⟩
  · left; simp
  · refine .inr ⟨b, off, hb, fun j x hj => hc j x ?_⟩
    rw [List.getElem?_take] at hj
    split at hj
    · exact hj
    · cases hj
def Dw.sG : Dw.En := ⟨1, ⟨1, 2, 0, 0⟩, 0, 0, 0, ⟨1, [255, 255]⟩, 0⟩
def Dw.l22 : List Dw.En := [Dw.sS, Dw.sS, Dw.sS, Dw.sA, Dw.sG]
abbrev c22 : Array Value := (Dw.l22.flatMap fun e => (enC e).toList).toArray
section
variable {P : Program} {ops : Array Oper} {rest : List Oper} {o : Oper} {a : Act} {w w2 : World} {Q : Exit → Act → World → Prop}
def isBuild : Op → Bool
  | .buildSlice _ _ _ => true
  | _ => false
theorem bsl {v : Value} (hop : isBuild o.op = true) (hg : o.guard = none) (hr : (execOp a.eval o).run P w = .ok (.value v) w2) (h : wpList P ops Q rest (a.put o.dst v) w2) : wpList P ops Q (o :: rest) a w := by
  refine wpList_plain hg fun K hK => ?_
  unfold Oper.wp
  rw [hr]
  exact hK _ _ h
end
theorem sh22_r6 {t0 t1 t2 t3 t6 t7 t8 t9 t10 t11 t12 t13 t14 t15 t16 t17 t18 t19 t20 t21 t22 t23 t24 t25 t26 t27 t28 t29 t30 t31 t32 t33 t34 t35 t36 t37 t38 t39 t40 t41 t42 t43 t44 t45 t46 t47 t48 t49 t50 t51 t52 t53 t54 t55 t56 t57 t58 t59 t60 t61 t62 t63 t64 t65 t66 t67 t68 t69 t70 t71 t72 t73 t74 t75 t76 t77 : Value} {R : Exit → Act → World → Prop} {w : World} {g4 g5 q : Nat} {p : Option Addr} {vb : Value} {ack ackb : List Dw.St} {ar ho : Bool} {la lo iso : Int} {fsb nb2 L : Dw.St} (b4 : w.heap[g4]? = some (.cells (audC ⟨ack, true, ⟨2, ar, ho, la, lo, iso⟩⟩ ⟨2, ar, ho, la, lo, iso⟩ (.slice p 2 q)) 66)) (b5 : w.heap[g5]? = some (.cells (audC ⟨ackb, false, fsb⟩ nb2 vb) 66)) (HSA : StsAt w (.slice p 2 q) ack) (HSB : StsAt w vb ackb)
    (HHA : Hid (∀ w, StsAt w (.slice p 2 q) ack → Calls Tryz.prog 22 #[(audV ⟨ack, true, ⟨2, ar, ho, la, lo, iso⟩⟩ ⟨2, ar, ho, la, lo, iso⟩ (.slice p 2 q))] w fun e w' => e = .returned (.bool true) ∧ Below w.heap.size w w'))
    (HLA : Hid (∀ w, StsAt w (.slice p 2 q) ack → Calls Tryz.prog 24 #[(audV ⟨ack, true, ⟨2, ar, ho, la, lo, iso⟩⟩ ⟨2, ar, ho, la, lo, iso⟩ (.slice p 2 q))] w fun e w' => e = .returned (stV ⟨1, L.ar, L.ho, L.la, L.lo, L.iso⟩) ∧ Below w.heap.size w w'))
    (HKA : Hid (∀ w, StsAt w (.slice p 2 q) ack → Calls Tryz.prog 26 #[(audV ⟨ack, true, ⟨2, ar, ho, la, lo, iso⟩⟩ ⟨2, ar, ho, la, lo, iso⟩ (.slice p 2 q)), stV ⟨2, ar, ho, la, lo, iso⟩] w fun e w' => e = .returned (.bool true) ∧ Below w.heap.size w w'))
    (HHB : Hid (∀ w, StsAt w vb ackb → Calls Tryz.prog 22 #[(audV ⟨ackb, false, fsb⟩ nb2 vb)] w fun e w' => e = .returned (.bool true) ∧ Below w.heap.size w w'))
    (HKB : Hid (∀ w, StsAt w vb ackb → Calls Tryz.prog 26 #[(audV ⟨ackb, false, fsb⟩ nb2 vb), stV ⟨2, ar, ho, la, lo, iso⟩] w fun e w' => e = .returned (.bool false) ∧ Below w.heap.size w w'))
    (hR : ∀ (v25 v26 v27 v28 v29 v30 v31 v32 v33 v34 v35 v36 v37 v38 v39 v40 v41 v42 v43 v44 v45 v46 v47 v48 v49 v50 v51 v52 v53 v54 v55 v56 v57 v58 v59 v60 v61 v62 v63 v64 v65 v66 v67 v68 v69 v70 v71 v72 v73 v74 v75 v76 v77 : Value) (w' : World), Below w.heap.size w w' → wpList Tryz.prog (opsR 6 Tryz.f20) R [] { tmps := #[.bool true, t1, t2, t3, .pointer (some ⟨g4, 0, none⟩), .pointer (some ⟨g5, 0, none⟩), t6, t7, t8, t9, t10, t11, t12, t13, t14, t15, t16, t17, t18, t19, t20, t21, t22, t23, t24, v25, v26, v27, v28, v29, v30, v31, v32, v33, v34, v35, v36, v37, v38, v39, v40, v41, v42, v43, v44, v45, v46, v47, v48, v49, v50, v51, v52, v53, v54, v55, v56, v57, v58, v59, v60, v61, v62, v63, v64, v65, v66, v67, v68, v69, v70, v71, v72, v73, v74, v75, v76, v77], defers := [] } w') :
    wpList Tryz.prog (opsR 6 Tryz.f20) R (opsR 6 Tryz.f20).toList { tmps := #[t0, t1, t2, t3, .pointer (some ⟨g4, 0, none⟩), .pointer (some ⟨g5, 0, none⟩), t6, t7, t8, t9, t10, t11, t12, t13, t14, t15, t16, t17, t18, t19, t20, t21, t22, t23, t24, t25, t26, t27, t28, t29, t30, t31, t32, t33, t34, t35, t36, t37, t38, t39, t40, t41, t42, t43, t44, t45, t46, t47, t48, t49, t50, t51, t52, t53, t54, t55, t56, t57, t58, t59, t60, t61, t62, t63, t64, t65, t66, t67, t68, t69, t70, t71, t72, t73, t74, t75, t76, t77], defers := [] } w := by
  have e : findR 6 Tryz.f20.body.get! = findR 6 Tryz.f20.body.get! := rfl
  conv at e => rhs; whnf
  unfold opsR
  rw [e, Option.getD_some]
  simp only [List.toList_toArray]
  clear e
  have HR := Lib.hid hR
  clear hR
  have HQ := Lib.hid (fun (u v : Operand) (w : World) => st_self ⟨2, ar, ho, la, lo, iso⟩ u v w)
  have hfld : ∀ (s : Dw.St) (w : World), (Instr.field 29 (stV s) 0).run Tryz.prog w = .ok (.int .i64 s.mo) w := fun _ _ => by kernel_rfl
  have hB := Below.refl w.heap.size w
  have x0 : w.cell? ⟨g4, 0, none⟩ = some (.slice p 2 q) := by rw [cell_of_row _ _ 0 _ _ _ b4]; rfl
  have x1 : w.cell? ⟨g4, 1, none⟩ = some (.bool true) := by rw [cell_of_row _ _ 1 _ _ _ b4]; rfl
  have x2 : w.cell? ⟨g4, 2, none⟩ = some (.int .i64 2) := by rw [cell_of_row _ _ 2 _ _ _ b4]; rfl
  have y1 : w.cell? ⟨g5, 1, none⟩ = some (.bool false) := by rw [cell_of_row _ _ 1 _ _ _ b5]; rfl
  go_wp2_with (first | (refine lbo b4 rfl rfl rfl (by kernel_rfl) ?_) | (refine lbo b5 rfl rfl rfl (by kernel_rfl) ?_) | (refine lpo 29 2 (stC ⟨2, ar, ho, la, lo, iso⟩) b4 rfl rfl rfl (by kernel_rfl) (by rfl) ?_) | (refine lpo 29 8 (stC ⟨2, ar, ho, la, lo, iso⟩) b4 rfl rfl rfl (by kernel_rfl) (by rfl) ?_) | (refine bno (HQ.out _ _ _) rfl rfl rfl rfl ?_))
  refine cb (HHA.out _ HSA) fun w1 hb => ?_
  replace b4 := kp hb b4; replace b5 := kp hb b5; replace hB := tr hB hb; replace HSA := RowsAt.next HSA hb; replace HSB := RowsAt.next HSB hb
  clear hb x0 x1 x2 y1
  have x0 : w1.cell? ⟨g4, 0, none⟩ = some (.slice p 2 q) := by rw [cell_of_row _ _ 0 _ _ _ b4]; rfl
  have x1 : w1.cell? ⟨g4, 1, none⟩ = some (.bool true) := by rw [cell_of_row _ _ 1 _ _ _ b4]; rfl
  have x2 : w1.cell? ⟨g4, 2, none⟩ = some (.int .i64 2) := by rw [cell_of_row _ _ 2 _ _ _ b4]; rfl
  have y1 : w1.cell? ⟨g5, 1, none⟩ = some (.bool false) := by rw [cell_of_row _ _ 1 _ _ _ b5]; rfl
  go_wp2_with (first | (refine lbo b4 rfl rfl rfl (by kernel_rfl) ?_) | (refine lbo b5 rfl rfl rfl (by kernel_rfl) ?_) | (refine lpo 29 2 (stC ⟨2, ar, ho, la, lo, iso⟩) b4 rfl rfl rfl (by kernel_rfl) (by rfl) ?_) | (refine lpo 29 8 (stC ⟨2, ar, ho, la, lo, iso⟩) b4 rfl rfl rfl (by kernel_rfl) (by rfl) ?_) | (refine bno (HQ.out _ _ _) rfl rfl rfl rfl ?_))
  refine cb (HLA.out _ HSA) fun w2 hb => ?_
  replace b4 := kp hb b4; replace b5 := kp hb b5; replace hB := tr hB hb; replace HSA := RowsAt.next HSA hb; replace HSB := RowsAt.next HSB hb
  clear hb x0 x1 x2 y1
  have x0 : w2.cell? ⟨g4, 0, none⟩ = some (.slice p 2 q) := by rw [cell_of_row _ _ 0 _ _ _ b4]; rfl
  have x1 : w2.cell? ⟨g4, 1, none⟩ = some (.bool true) := by rw [cell_of_row _ _ 1 _ _ _ b4]; rfl
  have x2 : w2.cell? ⟨g4, 2, none⟩ = some (.int .i64 2) := by rw [cell_of_row _ _ 2 _ _ _ b4]; rfl
  have y1 : w2.cell? ⟨g5, 1, none⟩ = some (.bool false) := by rw [cell_of_row _ _ 1 _ _ _ b5]; rfl
  go_wp2_with (first | (refine lbo b4 rfl rfl rfl (by kernel_rfl) ?_) | (refine lbo b5 rfl rfl rfl (by kernel_rfl) ?_) | (refine lpo 29 2 (stC ⟨2, ar, ho, la, lo, iso⟩) b4 rfl rfl rfl (by kernel_rfl) (by rfl) ?_) | (refine lpo 29 8 (stC ⟨2, ar, ho, la, lo, iso⟩) b4 rfl rfl rfl (by kernel_rfl) (by rfl) ?_) | (refine bno (HQ.out _ _ _) rfl rfl rfl rfl ?_))
  refine cb (HKA.out _ HSA) fun w3 hb => ?_
  replace b4 := kp hb b4; replace b5 := kp hb b5; replace hB := tr hB hb; replace HSA := RowsAt.next HSA hb; replace HSB := RowsAt.next HSB hb
  clear hb x0 x1 x2 y1
  have x0 : w3.cell? ⟨g4, 0, none⟩ = some (.slice p 2 q) := by rw [cell_of_row _ _ 0 _ _ _ b4]; rfl
  have x1 : w3.cell? ⟨g4, 1, none⟩ = some (.bool true) := by rw [cell_of_row _ _ 1 _ _ _ b4]; rfl
  have x2 : w3.cell? ⟨g4, 2, none⟩ = some (.int .i64 2) := by rw [cell_of_row _ _ 2 _ _ _ b4]; rfl
  have y1 : w3.cell? ⟨g5, 1, none⟩ = some (.bool false) := by rw [cell_of_row _ _ 1 _ _ _ b5]; rfl
  go_wp2_with (first | (refine lbo b4 rfl rfl rfl (by kernel_rfl) ?_) | (refine lbo b5 rfl rfl rfl (by kernel_rfl) ?_) | (refine lpo 29 2 (stC ⟨2, ar, ho, la, lo, iso⟩) b4 rfl rfl rfl (by kernel_rfl) (by rfl) ?_) | (refine lpo 29 8 (stC ⟨2, ar, ho, la, lo, iso⟩) b4 rfl rfl rfl (by kernel_rfl) (by rfl) ?_) | (refine bno (HQ.out _ _ _) rfl rfl rfl rfl ?_))
  refine cb (HHB.out _ HSB) fun w4 hb => ?_
  replace b4 := kp hb b4; replace b5 := kp hb b5; replace hB := tr hB hb; replace HSA := RowsAt.next HSA hb; replace HSB := RowsAt.next HSB hb
  clear hb x0 x1 x2 y1
  have x0 : w4.cell? ⟨g4, 0, none⟩ = some (.slice p 2 q) := by rw [cell_of_row _ _ 0 _ _ _ b4]; rfl
  have x1 : w4.cell? ⟨g4, 1, none⟩ = some (.bool true) := by rw [cell_of_row _ _ 1 _ _ _ b4]; rfl
  have x2 : w4.cell? ⟨g4, 2, none⟩ = some (.int .i64 2) := by rw [cell_of_row _ _ 2 _ _ _ b4]; rfl
  have y1 : w4.cell? ⟨g5, 1, none⟩ = some (.bool false) := by rw [cell_of_row _ _ 1 _ _ _ b5]; rfl
  go_wp2_with (first | (refine lbo b4 rfl rfl rfl (by kernel_rfl) ?_) | (refine lbo b5 rfl rfl rfl (by kernel_rfl) ?_) | (refine lpo 29 2 (stC ⟨2, ar, ho, la, lo, iso⟩) b4 rfl rfl rfl (by kernel_rfl) (by rfl) ?_) | (refine lpo 29 8 (stC ⟨2, ar, ho, la, lo, iso⟩) b4 rfl rfl rfl (by kernel_rfl) (by rfl) ?_) | (refine bno (HQ.out _ _ _) rfl rfl rfl rfl ?_))
  refine cb (HKB.out _ HSB) fun w5 hb => ?_
  replace b4 := kp hb b4; replace b5 := kp hb b5; replace hB := tr hB hb; replace HSA := RowsAt.next HSA hb; replace HSB := RowsAt.next HSB hb
  clear hb x0 x1 x2 y1
  have x0 : w5.cell? ⟨g4, 0, none⟩ = some (.slice p 2 q) := by rw [cell_of_row _ _ 0 _ _ _ b4]; rfl
  have x1 : w5.cell? ⟨g4, 1, none⟩ = some (.bool true) := by rw [cell_of_row _ _ 1 _ _ _ b4]; rfl
  have x2 : w5.cell? ⟨g4, 2, none⟩ = some (.int .i64 2) := by rw [cell_of_row _ _ 2 _ _ _ b4]; rfl
  have y1 : w5.cell? ⟨g5, 1, none⟩ = some (.bool false) := by rw [cell_of_row _ _ 1 _ _ _ b5]; rfl
  go_wp2_with (first | (refine lbo b4 rfl rfl rfl (by kernel_rfl) ?_) | (refine lbo b5 rfl rfl rfl (by kernel_rfl) ?_) | (refine lpo 29 2 (stC ⟨2, ar, ho, la, lo, iso⟩) b4 rfl rfl rfl (by kernel_rfl) (by rfl) ?_) | (refine lpo 29 8 (stC ⟨2, ar, ho, la, lo, iso⟩) b4 rfl rfl rfl (by kernel_rfl) (by rfl) ?_) | (refine bno (HQ.out _ _ _) rfl rfl rfl rfl ?_))
  exact HR.out _ _ _ _ _ _ _ _ _ _ _ _ _ _ _ _ _ _ _ _ _ _ _ _ _ _ _ _ _ _ _ _ _ _ _ _ _ _ _ _ _ _ _ _ _ _ _ _ _ _ _ _ _ _ hB
def Dw.A22 : Dw.Aud := Dw.audF (Dw.beginF 4 9) Dw.aud0 Dw.l22
def Dw.N22 : Dw.St := Dw.bootT (Dw.runF (Dw.beginF 4 9) Dw.l22).x.f
def Dw.B22 : Dw.Aud := Dw.audF (Dw.beginF 4 9) Dw.aud0 (Dw.l22.take 4)
def Dw.M22 : Dw.St := Dw.bootT (Dw.runF (Dw.beginF 4 9) (Dw.l22.take 4)).x.f
theorem Dw.vals22 : Dw.A22.ack.length = 2 ∧ Dw.A22.fly = true ∧ Dw.A22.fs.mo = 2 ∧ Dw.N22 = Dw.A22.fs ∧ (Dw.lastA Dw.A22.ack).mo = 1 ∧ Dw.B22.fly = false ∧ Dw.M22 = Dw.saysA Dw.B22 ∧ Dw.knownB Dw.B22 Dw.A22.fs = false ∧ Dw.B22.ack.length ≤ 1000 := by decide +kernel
theorem Dw.ok22 : ∀ e ∈ Dw.l22, enOk e := by decide
theorem holds_true {a : Dw.Aud} {now : Dw.St} (h : now = Dw.saysA a) (hl : a.ack.length ≤ 1000) (va : Value) (w : World) (hs : StsAt w va a.ack) :
    Calls Tryz.prog 22 #[audV a now va] w fun e w' => e = .returned (.bool true) ∧ Below w.heap.size w w' := by
  have := holds_any a now va w hs hl
  rw [decide_eq_true h] at this
  exact this
theorem known_is {a : Dw.Aud} {now s : Dw.St} {b : Bool} (h : Dw.knownB a s = b) (hl : a.ack.length ≤ 1000) (va : Value) (w : World) (hs : StsAt w va a.ack) :
    Calls Tryz.prog 26 #[audV a now va, stV s] w fun e w' => e = .returned (.bool b) ∧ Below w.heap.size w w' := by
  have := known_any a now s va w hs hl
  rw [h] at this
  exact this
theorem shown22_any (w : World) (hn : NoneAt w) :
    Calls Tryz.prog 20 #[] w fun e w' => e = .returned (.bool true) ∧ Below w.heap.size w w' := by
  have HF1 := Lib.hid (show ∀ (w : World) (v : Value), NoneAt w → EnsAt w v Dw.l22 → Calls Tryz.prog 30 #[.int .i64 4, .int .i64 9, v] w fun en w' => (∃ va, en = .returned (audV Dw.A22 Dw.N22 va) ∧ w'.ownsRow 0 29 6 va Dw.A22.ack.length (stCells Dw.A22.ack)) ∧ Below w.heap.size w w' from fun w v hn hv => follow_any 4 9 Dw.l22 (by decide) v w hn hv)
  have HF2 := Lib.hid (show ∀ (w : World) (v : Value), NoneAt w → EnsAt w v (Dw.l22.take 4) → Calls Tryz.prog 30 #[.int .i64 4, .int .i64 9, v] w fun en w' => (∃ va, en = .returned (audV Dw.B22 Dw.M22 va) ∧ w'.ownsRow 0 29 6 va Dw.B22.ack.length (stCells Dw.B22.ack)) ∧ Below w.heap.size w w' from fun w v hn hv => follow_any 4 9 (Dw.l22.take 4) (by decide) v w hn hv)
  obtain ⟨v1, v2, v3, v4, v5, v6, v7, v8, v9⟩ := Dw.vals22
  generalize Dw.A22 = A at *
  generalize Dw.N22 = N at *
  generalize Dw.B22 = B at *
  generalize Dw.M22 = M at *
  obtain ⟨ack, fly, ⟨mo, ar, ho, la, lo, iso⟩⟩ := A
  obtain ⟨ackb, flyb, fsb⟩ := B
  dsimp only at v1 v2 v3 v4 v5 v6 v9
  subst v2 v3 v4 v6
  have hl : ack.length ≤ 1000 := by omega
  have HHA := Lib.hid (fun va w h => holds_true (a := ⟨ack, true, ⟨2, ar, ho, la, lo, iso⟩⟩) (now := ⟨2, ar, ho, la, lo, iso⟩) rfl hl va w h)
  have HLA := Lib.hid (fun va w h => alast_any ⟨ack, true, ⟨2, ar, ho, la, lo, iso⟩⟩ ⟨2, ar, ho, la, lo, iso⟩ va w h hl)
  have HKA := Lib.hid (fun va w h => known_is (a := ⟨ack, true, ⟨2, ar, ho, la, lo, iso⟩⟩) (now := ⟨2, ar, ho, la, lo, iso⟩) (s := ⟨2, ar, ho, la, lo, iso⟩) (b := true) (by unfold Dw.knownB; simp) hl va w h)
  have HHB := Lib.hid (fun va w h => holds_true v7 v9 va w h)
  have HKB := Lib.hid (fun va w h => known_is (now := M) v8 v9 va w h)
  dsimp only at HHB HKB HLA
  generalize Dw.lastA ack = L at *
  obtain ⟨lm, l1, l2, l3, l4, l5⟩ := L
  dsimp only at v5
  subst v5
  obtain ⟨V1, hV1⟩ : ∃ V, w.alloc (.cells #[.int .i64 (-1), .string ⟨#[]⟩] 46) = V := ⟨_, rfl⟩
  obtain ⟨V2, hV2⟩ : ∃ V, V1.alloc (.cells #[.int .i64 2, .int .i64 0, .int .i64 0, .float .f64 0, .float .f64 0, .float .f64 0, .float .f64 0, .float .f64 0, .int .i64 (-1), .string ⟨#[]⟩, .int .i64 0] 48) = V := ⟨_, rfl⟩
  obtain ⟨V3, hV3⟩ : ∃ V, V2.alloc (.cells c22 48) = V := ⟨_, rfl⟩
  have bP1 : V1.heap[w.heap.size]? = some (.cells #[.int .i64 (-1), .string ⟨#[]⟩] 46) := by rw [← hV1]; exact han _ _
  have hb1 : Below w.heap.size w V1 := by rw [← hV1]; exact (Below.refl _ w).alloc (Nat.le_refl _) _
  have hb2 : Below V1.heap.size V1 V2 := by rw [← hV2]; exact (Below.refl _ V1).alloc (Nat.le_refl _) _
  have bP := kp hb2 bP1
  have bS : V2.heap[V1.heap.size]? = some (.cells (enC Dw.sS) 48) := by rw [← hV2]; exact han _ _
  have hb3 : Below V2.heap.size V2 V3 := by rw [← hV3]; exact (Below.refl _ V2).alloc (Nat.le_refl _) _
  have bB : V3.heap[V2.heap.size]? = some (.cells c22 48) := by rw [← hV3]; exact han _ _
  have hE : EnsAt V3 (.slice (some ⟨V2.heap.size, 0, none⟩) 5 5) Dw.l22 := ens_block Dw.ok22 bB
  have HE := Lib.hid hE
  have HB := Lib.hid (tr (tr hb1 hb2) hb3)
  have HV1 := Lib.hid hV1; have HV2 := Lib.hid hV2; have HV3 := Lib.hid hV3
  clear hV1 hV2 hV3 hb1 hb2 hb3 bB hE v7 v8 v9 hl
  go_enter Tryz.func20, Tryz.ntmps20
  go_wp2_with (first | (refine nb rfl rfl rfl rfl (by go_simp; first | done | with_reducible rfl | exact rfl) rfl rfl (by kernel_rfl) ?_; first | rw [HV1.out] | rw [HV2.out] | skip) | (refine lb bP1 rfl rfl rfl (by kernel_rfl) ?_) | (refine lb bS rfl rfl rfl (by kernel_rfl) ?_) | (refine lb bP rfl rfl rfl (by kernel_rfl) ?_) | (refine bsl (v := .slice (some ⟨V2.heap.size, 0, none⟩) 5 5) (w2 := V3) (by exact rfl) (by exact rfl) (by rw [← HV3.out]; kernel_rfl) ?_))
  clear bP1 bS bP HV1 HV2 HV3
  refine (HF1.out _ _ (hn.next HB.out) HE.out).mono ?_
  rintro en w5 ⟨⟨va, rfl, how⟩, hb⟩
  have hB := tr HB.out hb
  have hE := HE.out.next hb
  obtain ⟨p, q, rfl⟩ := own_shape22 how
  have hSA := sts_own how rfl
  dsimp only at hSA ⊢
  rw [v1] at hSA ⊢
  clear hb HB HE HF1 how
  obtain ⟨V4, hV4⟩ : ∃ V, w5.alloc (.cells (audC ⟨ack, true, ⟨2, ar, ho, la, lo, iso⟩⟩ ⟨2, ar, ho, la, lo, iso⟩ (.slice p 2 q)) 66) = V := ⟨_, rfl⟩
  have b4 : V4.heap[w5.heap.size]? = some (.cells (audC ⟨ack, true, ⟨2, ar, ho, la, lo, iso⟩⟩ ⟨2, ar, ho, la, lo, iso⟩ (.slice p 2 q)) 66) := by rw [← hV4]; exact han _ _
  have hb : Below w5.heap.size w5 V4 := by rw [← hV4]; exact (Below.refl _ w5).alloc (Nat.le_refl _) _
  have HSA := Lib.hid (hSA.next hb)
  have HB := Lib.hid (tr hB hb)
  have HE := Lib.hid (ens_take (hE.next hb) 4 (by decide) 5)
  have HV4 := Lib.hid hV4
  clear hb hV4 hSA hB hE
  go_wp2_with (first | (refine nb rfl rfl rfl rfl (by go_simp; first | done | with_reducible rfl | exact rfl) rfl rfl (by kernel_rfl) ?_; rw [HV4.out]))
  clear HV4
  refine (HF2.out _ _ (hn.next HB.out) HE.out).mono ?_
  rintro en w6 ⟨⟨vb, rfl, how⟩, hb⟩
  obtain ⟨pb, qb, rfl⟩ := own_shape22 how
  have hSB := sts_own how rfl
  dsimp only at hSB ⊢
  have hSA := RowsAt.next HSA.out hb
  have hB := tr HB.out hb
  replace b4 := kp hb b4
  clear hb HB HE HF2 how HSA
  obtain ⟨V5, hV5⟩ : ∃ V, w6.alloc (.cells (audC ⟨ackb, false, fsb⟩ M (.slice pb ackb.length qb)) 66) = V := ⟨_, rfl⟩
  have b5 : V5.heap[w6.heap.size]? = some (.cells (audC ⟨ackb, false, fsb⟩ M (.slice pb ackb.length qb)) 66) := by rw [← hV5]; exact han _ _
  have hb : Below w6.heap.size w6 V5 := by rw [← hV5]; exact (Below.refl _ w6).alloc (Nat.le_refl _) _
  replace b4 := kp hb b4
  have HSA := Lib.hid (RowsAt.next hSA hb); have HSB := Lib.hid (RowsAt.next hSB hb); have HB := Lib.hid (tr hB hb); have HV5 := Lib.hid hV5; have H4 := Lib.hid b4; have H5 := Lib.hid b5
  clear hb hV5 hSA hSB hB b4 b5
  rename_i h0K
  refine h0K _ _ ?_
  clear h0K
  rename_i hK Kop
  have HK := Lib.hid hK
  clear hK
  go_wp2_with (first | (refine nb rfl rfl rfl rfl (by go_simp; first | done | with_reducible rfl | exact rfl) rfl rfl (by kernel_rfl) ?_; rw [HV5.out]))
  clear HV5
  refine HK.out _ _ ?_
  clear HK
  go_step
  go_step
  refine list_swap (ops := opsR 6 Tryz.f20) ?_ (by kernel_rfl) (by kernel_rfl)
  refine sh22_r6 (L := ⟨1, l1, l2, l3, l4, l5⟩) H4.out H5.out HSA.out HSB.out (Lib.hid (fun w h => HHA.out _ w h)) (Lib.hid (fun w h => HLA.out _ w h)) (Lib.hid (fun w h => HKA.out _ w h)) (Lib.hid (fun w h => HHB.out _ w h)) (Lib.hid (fun w h => HKB.out _ w h)) ?_
  intro v25 v26 v27 v28 v29 v30 v31 v32 v33 v34 v35 v36 v37 v38 v39 v40 v41 v42 v43 v44 v45 v46 v47 v48 v49 v50 v51 v52 v53 v54 v55 v56 v57 v58 v59 v60 v61 v62 v63 v64 v65 v66 v67 v68 v69 v70 v71 v72 v73 v74 v75 v76 v77 w9 hb9
  have HB9 := Lib.hid (tr HB.out hb9)
  clear H4 H5 HSA HSB HHA HLA HKA HHB HKB HB hb9
  go_wp2_with fail
  go_ret
  exact ⟨rfl, HB9.out⟩
theorem ah_r8 {t0 t1 t2 t3 t4 t5 t6 t7 t8 t9 t12 t13 t14 t15 t16 t17 t18 t19 t20 t21 t22 t23 t24 t25 t26 t27 t28 t29 t30 t31 t32 t33 t34 t35 t36 t37 t38 t39 t40 t41 t42 t43 t44 t45 t46 t47 t48 t49 t50 t51 t52 t53 t54 t55 t56 t57 t58 t59 t60 t61 t62 : Value} {R : Exit → Act → World → Prop} {w : World} {g4 g5 na nb q qb : Nat} {p pb : Option Addr} {A B : Dw.Aud} {nA nB : Dw.St} (b4 : w.heap[g4]? = some (.cells (audC A nA (.slice p na q)) 66)) (b5 : w.heap[g5]? = some (.cells (audC B nB (.slice pb nb qb)) 66)) (HSA : StsAt w (.slice p na q) A.ack) (HSB : StsAt w (.slice pb nb qb) B.ack) (hle : (nb : Int) ≤ (na : Int))
    (HHA : Hid (∀ w, StsAt w (.slice p na q) A.ack → Calls Tryz.prog 22 #[(audV A nA (.slice p na q))] w fun e w' => e = .returned (.bool true) ∧ Below w.heap.size w w'))
    (HHB : Hid (∀ w, StsAt w (.slice pb nb qb) B.ack → Calls Tryz.prog 22 #[(audV B nB (.slice pb nb qb))] w fun e w' => e = .returned (.bool true) ∧ Below w.heap.size w w'))
    (HKA : Hid (∀ w, StsAt w (.slice p na q) A.ack → Calls Tryz.prog 26 #[(audV A nA (.slice p na q)), stV nA] w fun e w' => e = .returned (.bool true) ∧ Below w.heap.size w w'))
    (hR : ∀ (v42 v43 v44 v45 v46 v47 v48 v49 v50 v51 v52 v53 v54 v55 v56 v57 v58 v59 v60 v61 v62 : Value) (w' : World), Below w.heap.size w w' → wpList Tryz.prog (opsR 8 Tryz.f5) R [] { tmps := #[t0, t1, t2, t3, t4, t5, t6, t7, .bool true, t9, .pointer (some ⟨g4, 0, none⟩), .pointer (some ⟨g5, 0, none⟩), t12, t13, t14, t15, t16, t17, t18, t19, t20, t21, t22, t23, t24, t25, t26, t27, t28, t29, t30, t31, t32, t33, t34, t35, t36, t37, t38, t39, t40, t41, v42, v43, v44, v45, v46, v47, v48, v49, v50, v51, v52, v53, v54, v55, v56, v57, v58, v59, v60, v61, v62], defers := [] } w') :
    wpList Tryz.prog (opsR 8 Tryz.f5) R (opsR 8 Tryz.f5).toList { tmps := #[t0, t1, t2, t3, t4, t5, t6, t7, t8, t9, .pointer (some ⟨g4, 0, none⟩), .pointer (some ⟨g5, 0, none⟩), t12, t13, t14, t15, t16, t17, t18, t19, t20, t21, t22, t23, t24, t25, t26, t27, t28, t29, t30, t31, t32, t33, t34, t35, t36, t37, t38, t39, t40, t41, t42, t43, t44, t45, t46, t47, t48, t49, t50, t51, t52, t53, t54, t55, t56, t57, t58, t59, t60, t61, t62], defers := [] } w := by
  have e : findR 8 Tryz.f5.body.get! = findR 8 Tryz.f5.body.get! := rfl
  conv at e => rhs; whnf
  unfold opsR
  rw [e, Option.getD_some]
  simp only [List.toList_toArray]
  clear e
  have HR := Lib.hid hR
  clear hR
  have hB := Below.refl w.heap.size w
  go_wp2_with (first | (refine lbo b4 rfl rfl rfl (by kernel_rfl) ?_) | (refine lbo b5 rfl rfl rfl (by kernel_rfl) ?_) | (refine lpo 29 8 (stC nA) b4 rfl rfl rfl (by kernel_rfl) (by rfl) ?_))
  refine cb (HHA.out _ HSA) fun w1 hb => ?_
  replace b4 := kp hb b4; replace b5 := kp hb b5; replace hB := tr hB hb; replace HSA := RowsAt.next HSA hb; replace HSB := RowsAt.next HSB hb
  clear hb
  go_wp2_with (first | (refine lbo b4 rfl rfl rfl (by kernel_rfl) ?_) | (refine lbo b5 rfl rfl rfl (by kernel_rfl) ?_) | (refine lpo 29 8 (stC nA) b4 rfl rfl rfl (by kernel_rfl) (by rfl) ?_))
  refine cb (HHB.out _ HSB) fun w2 hb => ?_
  replace b4 := kp hb b4; replace b5 := kp hb b5; replace hB := tr hB hb; replace HSA := RowsAt.next HSA hb; replace HSB := RowsAt.next HSB hb
  clear hb
  go_wp2_with (first | (refine lbo b4 rfl rfl rfl (by kernel_rfl) ?_) | (refine lbo b5 rfl rfl rfl (by kernel_rfl) ?_) | (refine lpo 29 8 (stC nA) b4 rfl rfl rfl (by kernel_rfl) (by rfl) ?_))
  refine cb (HKA.out _ HSA) fun w3 hb => ?_
  replace b4 := kp hb b4; replace b5 := kp hb b5; replace hB := tr hB hb; replace HSA := RowsAt.next HSA hb; replace HSB := RowsAt.next HSB hb
  clear hb
  have x0 : w3.cell? ⟨g4, 0, none⟩ = some (.slice p na q) := by rw [cell_of_row _ _ 0 _ _ _ b4]; rfl
  have y0 : w3.cell? ⟨g5, 0, none⟩ = some (.slice pb nb qb) := by rw [cell_of_row _ _ 0 _ _ _ b5]; rfl
  go_wp2_with (first | (refine lbo b4 rfl rfl rfl (by kernel_rfl) ?_) | (refine lbo b5 rfl rfl rfl (by kernel_rfl) ?_) | (refine lpo 29 8 (stC nA) b4 rfl rfl rfl (by kernel_rfl) (by rfl) ?_))
  exact HR.out _ _ _ _ _ _ _ _ _ _ _ _ _ _ _ _ _ _ _ _ _ _ hB
theorem aholds_any (n li : Int) (l : List Dw.En) (t8 : Nat) (h8 : t8 < 256) (v : Value) (w : World) (hv : EnsAt w v l) (hcap : ∀ sa m c, v = .slice sa m c → m ≤ c) (hn : NoneAt w) :
    Calls Tryz.prog 5 #[.int .i64 n, .int .i64 li, v, .int .u8 t8] w fun e w' => e = .returned (.bool true) ∧ Below w.heap.size w w' := by
  have hB := Below.refl w.heap.size w
  have HV := Lib.hid hv
  obtain ⟨sa, cap, rfl, -, -⟩ := id hv
  have hlc : l.length ≤ cap := hcap _ _ _ rfl
  clear hv hcap
  go_enter Tryz.func5, Tryz.ntmps5
  go_wp2_with fail
  refine (long22_any l _ _ HV.out).mono ?_
  rintro en w1 ⟨⟨b, rfl, hlb⟩, hb⟩
  replace hB := tr hB hb
  clear hb
  cases b with
  | true =>
    go_wp2_with fail
    refine (shown22_any _ (hn.next hB)).mono ?_
    rintro en wy ⟨rfl, hb⟩
    replace hB := tr hB hb
    clear hb
    go_wp2_with fail
    go_ret
    exact ⟨rfl, hB⟩
  | false =>
  have HL := Lib.hid (hlb rfl)
  clear hlb
  go_wp2_with fail
  refine (turned22_any l (by have := HL.out; omega) _ _ (HV.out.next hB)).mono ?_
  rintro en w2 ⟨⟨b, rfl, htb⟩, hb⟩
  replace hB := tr hB hb
  clear hb
  cases b with
  | true =>
    go_wp2_with fail
    refine (shown22_any _ (hn.next hB)).mono ?_
    rintro en wy ⟨rfl, hb⟩
    replace hB := tr hB hb
    clear hb
    go_wp2_with fail
    go_ret
    exact ⟨rfl, hB⟩
  | false =>
  have HT := Lib.hid (htb rfl)
  clear htb
  go_wp2_with fail
  refine (shown22_any _ (hn.next hB)).mono ?_
  rintro en w3 ⟨rfl, hb⟩
  replace hB := tr hB hb
  clear hb
  obtain ⟨K, hK⟩ : ∃ K, (if 0 < l.length then t8 % (l.length + 1) else 0) = K := ⟨_, rfl⟩
  have hKl : K ≤ l.length := by
    rw [← hK]
    split
    · have := Nat.mod_lt t8 (show 0 < l.length + 1 by omega)
      omega
    · omega
  have hKc : (K : Int) ≤ (cap : Int) := by omega
  have hK0 : (0 : Int) ≤ (K : Int) := by omega
  have hlt : (l.take K).length ≤ 100 := by rw [List.length_take]; have := HL.out; omega
  have hll : l.length ≤ 100 := by have := HL.out; omega
  have hFA := fun w v hn hv => follow_any n li l hll v w hn hv
  have hFB := fun w v hn hv => follow_any n li (l.take K) hlt v w hn hv
  have hnA := (Dw.fly_run l 0 (Dw.beginF n li) Dw.aud0 (Dw.fly_begin n li) (by omega) HT.out).1.now
  have hnB := (Dw.fly_run (l.take K) 0 (Dw.beginF n li) Dw.aud0 (Dw.fly_begin n li) (by omega) (fun e he => HT.out e (List.mem_of_mem_take he))).1.now
  have hle := Dw.audF_take l K (Dw.beginF n li) Dw.aud0
  have hlA := Dw.audF_len l (Dw.beginF n li) Dw.aud0
  have hlB := Dw.audF_len (l.take K) (Dw.beginF n li) Dw.aud0
  have h00 : Dw.aud0.ack.length = 0 := rfl
  generalize Dw.audF (Dw.beginF n li) Dw.aud0 l = A at *
  generalize Dw.audF (Dw.beginF n li) Dw.aud0 (l.take K) = B at *
  generalize Dw.bootT (Dw.runF (Dw.beginF n li) l).x.f = nA at *
  generalize Dw.bootT (Dw.runF (Dw.beginF n li) (l.take K)).x.f = nB at *
  have hlA2 : A.ack.length ≤ 1000 := by omega
  have hlB2 : B.ack.length ≤ 1000 := by omega
  have HFA := Lib.hid hFA; have HFB := Lib.hid hFB
  have HHA := Lib.hid (fun va w h => holds_true hnA hlA2 va w h)
  have HHB := Lib.hid (fun va w h => holds_true hnB hlB2 va w h)
  have HKA := Lib.hid (fun va w h => known_is (a := A) (now := nA) (s := nA) (b := true) (by rw [hnA]; exact Dw.knownB_says A) hlA2 va w h)
  have HLE := Lib.hid (show (B.ack.length : Int) ≤ (A.ack.length : Int) by omega)
  have HKK := Lib.hid hK
  clear hFA hFB hnA hnB hle hlA hlB h00 hlA2 hlB2 hlt hll hlc hK
  by_cases h0 : 0 < l.length
  · have g0 : (0 : Int) < (l.length : Int) := by omega
    have hKK := HKK.out
    rw [if_pos h0] at hKK
    have ll := HL.out
    have a1 : IntKind.i64.wrap (t8 : Int) = (t8 : Int) := IntWalk.i64_in _ (by omega)
    have a2 : IntKind.i64.wrap ((l.length : Int) + 1) = (l.length : Int) + 1 := by clear a1; exact IntWalk.i64_in _ (by omega)
    have a3 : wrap64 ((l.length : Int) + 1) = (l.length : Int) + 1 := by clear a1 a2; exact IntWalk.wrap64_in _ (by omega)
    have a4 : Int.tmod (t8 : Int) ((l.length : Int) + 1) = (K : Int) := by clear a1 a2 a3; rw [← hKK]; rfl
    have a5 : IntKind.i64.wrap (K : Int) = (K : Int) := by clear a1 a2 a3 a4; exact IntWalk.i64_in _ (by omega)
    have a6 : ((l.length : Int) + 1 == 0) = false := by clear a1 a2 a3 a4 a5; simp; omega
    have a7 : ¬ ((l.length : Int) + 1 = 0) := by clear a1 a2 a3 a4 a5 a6; omega
    have a8 : ¬ ((l.length : Int) + 1 = -1) := by clear a1 a2 a3 a4 a5 a6; omega
    clear hKK ll h0 h8
    go_wp2_with fail
    refine (HFA.out _ _ (hn.next hB) (HV.out.next hB)).mono ?_
    rintro en w5 ⟨⟨va, rfl, how⟩, hb⟩
    replace hB := tr hB hb
    obtain ⟨p, q, rfl⟩ := own_shape22 how
    have hSA := sts_own how rfl
    clear hb how HFA
    obtain ⟨V4, hV4⟩ : ∃ V, w5.alloc (.cells (audC A nA (.slice p A.ack.length q)) 66) = V := ⟨_, rfl⟩
    have b4 : V4.heap[w5.heap.size]? = some (.cells (audC A nA (.slice p A.ack.length q)) 66) := by rw [← hV4]; exact han _ _
    have hb : Below w5.heap.size w5 V4 := by rw [← hV4]; exact (Below.refl _ w5).alloc (Nat.le_refl _) _
    replace hSA := RowsAt.next hSA hb
    replace hB := tr hB hb
    have HV4 := Lib.hid hV4
    clear hb hV4
    go_wp2_with (first | (refine nb rfl rfl rfl rfl (by go_simp; first | done | with_reducible rfl | exact rfl) rfl rfl (by kernel_rfl) ?_; rw [HV4.out]))
    clear HV4
    refine (HFB.out _ _ (hn.next hB) (ens_take (HV.out.next hB) K hKl _)).mono ?_
    rintro en w6 ⟨⟨vb, rfl, how⟩, hb⟩
    obtain ⟨pb, qb, rfl⟩ := own_shape22 how
    have hSB := sts_own how rfl
    replace hSA := RowsAt.next hSA hb
    replace hB := tr hB hb
    replace b4 := kp hb b4
    clear hb how HFB
    obtain ⟨V5, hV5⟩ : ∃ V, w6.alloc (.cells (audC B nB (.slice pb B.ack.length qb)) 66) = V := ⟨_, rfl⟩
    have b5 : V5.heap[w6.heap.size]? = some (.cells (audC B nB (.slice pb B.ack.length qb)) 66) := by rw [← hV5]; exact han _ _
    have hb : Below w6.heap.size w6 V5 := by rw [← hV5]; exact (Below.refl _ w6).alloc (Nat.le_refl _) _
    replace b4 := kp hb b4
    have HSA := Lib.hid (RowsAt.next hSA hb); have HSB := Lib.hid (RowsAt.next hSB hb); have HB := Lib.hid (tr hB hb); have HV5 := Lib.hid hV5; have H4 := Lib.hid b4; have H5 := Lib.hid b5
    clear hb hV5 hSA hSB hB b4 b5
    rename_i h0K
    refine h0K _ _ ?_
    clear h0K
    rename_i hK Kop
    have HK := Lib.hid hK
    clear hK
    go_wp2_with (first | (refine nb rfl rfl rfl rfl (by go_simp; first | done | with_reducible rfl | exact rfl) rfl rfl (by kernel_rfl) ?_; rw [HV5.out]))
    clear HV5
    refine HK.out _ _ ?_
    clear HK
    go_step
    go_step
    refine list_swap (ops := opsR 8 Tryz.f5) ?_ (by kernel_rfl) (by kernel_rfl)
    refine ah_r8 H4.out H5.out HSA.out HSB.out HLE.out (Lib.hid (fun w h => HHA.out _ w h)) (Lib.hid (fun w h => HHB.out _ w h)) (Lib.hid (fun w h => HKA.out _ w h)) ?_
    intro v42 v43 v44 v45 v46 v47 v48 v49 v50 v51 v52 v53 v54 v55 v56 v57 v58 v59 v60 v61 v62 w9 hb9
    have HB9 := Lib.hid (tr HB.out hb9)
    clear H4 H5 HSA HSB HHA HHB HKA HB hb9
    go_wp2_with fail
    go_ret
    exact ⟨rfl, HB9.out⟩
  · have g0 : ¬ (0 : Int) < (l.length : Int) := by omega
    have hKK := HKK.out
    rw [if_neg h0] at hKK
    obtain rfl : l.length = K := by omega
    clear h0 h8 hKK
    go_wp2_with fail
    refine (HFA.out _ _ (hn.next hB) (HV.out.next hB)).mono ?_
    rintro en w5 ⟨⟨va, rfl, how⟩, hb⟩
    replace hB := tr hB hb
    obtain ⟨p, q, rfl⟩ := own_shape22 how
    have hSA := sts_own how rfl
    clear hb how HFA
    obtain ⟨V4, hV4⟩ : ∃ V, w5.alloc (.cells (audC A nA (.slice p A.ack.length q)) 66) = V := ⟨_, rfl⟩
    have b4 : V4.heap[w5.heap.size]? = some (.cells (audC A nA (.slice p A.ack.length q)) 66) := by rw [← hV4]; exact han _ _
    have hb : Below w5.heap.size w5 V4 := by rw [← hV4]; exact (Below.refl _ w5).alloc (Nat.le_refl _) _
    replace hSA := RowsAt.next hSA hb
    replace hB := tr hB hb
    have HV4 := Lib.hid hV4
    clear hb hV4
    go_wp2_with (first | (refine nb rfl rfl rfl rfl (by go_simp; first | done | with_reducible rfl | exact rfl) rfl rfl (by kernel_rfl) ?_; rw [HV4.out]))
    clear HV4
    refine (HFB.out _ _ (hn.next hB) (ens_take (HV.out.next hB) l.length (Nat.le_refl _) _)).mono ?_
    rintro en w6 ⟨⟨vb, rfl, how⟩, hb⟩
    obtain ⟨pb, qb, rfl⟩ := own_shape22 how
    have hSB := sts_own how rfl
    replace hSA := RowsAt.next hSA hb
    replace hB := tr hB hb
    replace b4 := kp hb b4
    clear hb how HFB
    obtain ⟨V5, hV5⟩ : ∃ V, w6.alloc (.cells (audC B nB (.slice pb B.ack.length qb)) 66) = V := ⟨_, rfl⟩
    have b5 : V5.heap[w6.heap.size]? = some (.cells (audC B nB (.slice pb B.ack.length qb)) 66) := by rw [← hV5]; exact han _ _
    have hb : Below w6.heap.size w6 V5 := by rw [← hV5]; exact (Below.refl _ w6).alloc (Nat.le_refl _) _
    replace b4 := kp hb b4
    have HSA := Lib.hid (RowsAt.next hSA hb); have HSB := Lib.hid (RowsAt.next hSB hb); have HB := Lib.hid (tr hB hb); have HV5 := Lib.hid hV5; have H4 := Lib.hid b4; have H5 := Lib.hid b5
    clear hb hV5 hSA hSB hB b4 b5
    rename_i h0K
    refine h0K _ _ ?_
    clear h0K
    rename_i hK Kop
    have HK := Lib.hid hK
    clear hK
    go_wp2_with (first | (refine nb rfl rfl rfl rfl (by go_simp; first | done | with_reducible rfl | exact rfl) rfl rfl (by kernel_rfl) ?_; rw [HV5.out]))
    clear HV5
    refine HK.out _ _ ?_
    clear HK
    go_step
    go_step
    refine list_swap (ops := opsR 8 Tryz.f5) ?_ (by kernel_rfl) (by kernel_rfl)
    refine ah_r8 H4.out H5.out HSA.out HSB.out HLE.out (Lib.hid (fun w h => HHA.out _ w h)) (Lib.hid (fun w h => HHB.out _ w h)) (Lib.hid (fun w h => HKA.out _ w h)) ?_
    intro v42 v43 v44 v45 v46 v47 v48 v49 v50 v51 v52 v53 v54 v55 v56 v57 v58 v59 v60 v61 v62 w9 hb9
    have HB9 := Lib.hid (tr HB.out hb9)
    clear H4 H5 HSA HSB HHA HHB HKA HB hb9
    go_wp2_with fail
    go_ret
    exact ⟨rfl, HB9.out⟩
end Go.Proofs.YtcadgecnlahkgaaGreatDoor
