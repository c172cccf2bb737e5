/- What the statement's proof stands on, part 23: Play, Next, Write, Gather. -/
import Derived.Test.YtjibbchfndhhpaaGreatDoorRc21
import Derived.Test.YtjibbchfndhhpaaGreatDoorRc22
import Derived.ScopeJumps
import Derived.WalkMore
import Derived.Test.YtjibbchfndhhpaaGreatDoorRc2
set_option linter.unusedSimpArgs false
set_option linter.unusedVariables false
set_option maxRecDepth 100000
set_option maxHeartbeats 4000000
namespace Go.Proofs.YtjibbchfndhhpaaGreatDoor
open Go.RowKit Go.Shelf
attribute [local go_sem] Oper.semAt_some
section
def ejumps (J : Nat → Act → World → Prop) (Q : Exit → Act → World → Prop) : Exit → Act → World → Prop
  | .goto l, a, w => J l a w
  | e, a, w => Q e a w
variable {P : Program} {a : Act} {w : World} {Q : Exit → Act → World → Prop}
theorem wp_scope_labels {c : Code} (rest : Nat → Code) (J : Nat → Act → World → Prop) (μ : Nat → Act → World → Nat) (hf : ∀ l a w, J l a w → findLabel c l = some (rest l))
    (first : c.wp P (ejumps J Q) a w)
    (pass : ∀ l a w, J l a w → (rest l).wp P (ejumps (fun l' a' w' => J l' a' w' ∧ μ l' a' w' < μ l a w) Q) a w) : (Code.scope c).wp P Q a w := by
  intro b k cs
  have hg : ∀ l a w, J l a w → gotoIn l (.inScope c :: k) = some (.code (rest l) :: .inScope c :: k) := fun l a w h => by simp [gotoIn, hf l a w h]
  have key : ∀ n l a w, μ l a w = n → J l a w → ∃ e a' w', Q e a' w' ∧ Arrives P (lone (b.at a (.code (rest l) :: .inScope c :: k)) cs w) b k cs e a' w' := by
    intro n
    induction n using Nat.strongRecOn with
    | _ n ih =>
      intro l a w hn hJ
      obtain ⟨e, a₁, w₁, hq, harr⟩ := pass l a w hJ b (.inScope c :: k) cs
      cases e with
      | normal => exact ⟨.normal, a₁, w₁, hq, Steps.trans harr (.one step_inScope)⟩
      | exit id => exact ⟨.exit id, a₁, w₁, hq, fun k' hk => harr k' (by simp [exitTo, hk])⟩
      | goto l' =>
        obtain ⟨hJ', hlt⟩ := hq
        obtain ⟨e₂, a₂, w₂, hq₂, harr₂⟩ := ih _ (by omega) l' a₁ w₁ rfl hJ'
        exact ⟨e₂, a₂, w₂, hq₂, .of_steps (harr _ (hg _ _ _ hJ')) harr₂⟩
      | ret => exact ⟨_, a₁, w₁, hq, harr⟩
      | panic ch => exact ⟨_, a₁, w₁, hq, harr⟩
      | outgrown => exact ⟨_, a₁, w₁, hq, harr⟩
  obtain ⟨e, a₁, w₁, hq, harr⟩ := first b (.inScope c :: k) cs
  cases e with
  | normal => exact ⟨.normal, a₁, w₁, hq, .head step_scope (Steps.trans harr (.one step_inScope))⟩
  | exit id => exact ⟨.exit id, a₁, w₁, hq, fun k' hk => .head step_scope (harr k' (by simp [exitTo, hk]))⟩
  | goto l' =>
    have hJ' : J l' a₁ w₁ := hq
    obtain ⟨e₂, a₂, w₂, hq₂, harr₂⟩ := key _ l' a₁ w₁ rfl hJ'
    exact ⟨e₂, a₂, w₂, hq₂, .of_steps (.head step_scope (harr _ (hg _ _ _ hJ'))) harr₂⟩
  | ret => exact ⟨_, a₁, w₁, hq, .of_steps (.one step_scope) harr⟩
  | panic ch => exact ⟨_, a₁, w₁, hq, .of_steps (.one step_scope) harr⟩
  | outgrown => exact ⟨_, a₁, w₁, hq, .of_steps (.one step_scope) harr⟩
theorem wp_scope_two {c p1 p2 x0 r1 : Code} (l0 l1 : Nat) (hne : l1 ≠ l0) (hc : c = .seq p1 (.seq p2 (.seq (.label l0) x0))) (J0 J1 : Act → World → Prop) (μ : Act → World → Nat) (hf0 : findLabel c l0 = some (.seq .skip x0)) (hf1 : findLabel c l1 = some r1)
    (first : ∀ X : Code, (∀ a w, J0 a w → X.wp P (ejumps (fun l a w => l = l0 ∧ J0 a w ∨ l = l1 ∧ J1 a w) Q) a w) → (Code.seq p1 (.seq p2 (.seq (.label l0) X))).wp P (ejumps (fun l a w => l = l0 ∧ J0 a w ∨ l = l1 ∧ J1 a w) Q) a w)
    (pass0 : ∀ a w, J0 a w → x0.wp P (ejumps (fun l a' w' => l = l0 ∧ (J0 a' w' ∧ μ a' w' < μ a w) ∨ l = l1 ∧ J1 a' w') Q) a w)
    (pass1 : ∀ a w, J1 a w → r1.wp P (ejumps (fun _ _ _ => False) Q) a w) : (Code.scope c).wp P Q a w := by
  have weak : ∀ {J J' : Nat → Act → World → Prop} {x : Code} {a : Act} {w : World}, (∀ l a w, J l a w → J' l a w) → x.wp P (ejumps J Q) a w → x.wp P (ejumps J' Q) a w := by
    intro J J' x a w hJ h
    refine wp_mono h ?_
    intro e a' w' he
    cases e with
    | goto l => exact hJ l a' w' he
    | _ => exact he
  subst hc
  refine wp_scope_labels (fun l => if l = l0 then .seq .skip x0 else r1) (fun l a w => l = l0 ∧ J0 a w ∨ l = l1 ∧ J1 a w) (fun l a w => if l = l0 then μ a w + 1 else 0) ?_ (first x0 fun a w h => weak ?_ (pass0 a w h)) ?_
  · rintro l a w (⟨rfl, _⟩ | ⟨rfl, _⟩)
    · rw [if_pos rfl, hf0]
    · rw [if_neg hne, hf1]
  · rintro l a' w' (⟨rfl, h, _⟩ | ⟨rfl, h⟩)
    · exact .inl ⟨rfl, h⟩
    · exact .inr ⟨rfl, h⟩
  · rintro l a w (⟨rfl, h⟩ | ⟨rfl, h⟩)
    · rw [if_pos rfl]
      refine wp_seq (wp_skip ?_)
      refine weak ?_ (pass0 a w h)
      rintro l' a' w' (⟨rfl, h', hlt⟩ | ⟨rfl, h'⟩)
      · exact ⟨.inl ⟨rfl, h'⟩, by rw [if_pos rfl, if_pos rfl]; omega⟩
      · exact ⟨.inr ⟨rfl, h'⟩, by rw [if_neg hne, if_pos rfl]; omega⟩
    · rw [if_neg hne]
      exact weak (fun _ _ _ h => h.elim) (pass1 a w h)
end
namespace Dw
def OpsOk : Fl → List Op → Prop
  | _, [] => True
  | f, o :: os => OpOk f o ∧ FlOk (doOp f o) ∧ OpsOk (doOp f o) os
end Dw
def OpsAt (w : World) (v : Value) (ops : List Dw.Op) : Prop :=
  ∃ b cap c t fr, v = .slice (some ⟨b, 0, none⟩) ops.length cap ∧ w.heap[b]? = some (.cells c t fr) ∧ ∀ j o, ops[j]? = some o → c[j * 4]? = some (.int .i64 o.kind) ∧ c[j * 4 + 1]? = some (.int .i64 o.bank) ∧ c[j * 4 + 2]? = some (.int .i64 o.at_) ∧ c[j * 4 + 3]? = some (.string ⟨o.data.toArray⟩)
theorem play_any (f : Dw.Fl) (hf : Dw.FlOk f) (ops : List Dw.Op) (hn : ops.length ≤ 1000) (ho : Dw.OpsOk f ops) (v : Value) (cut : Int) (m : List UInt8) (w : World) (hv : OpsAt w v ops) :
    Calls Tryz.prog 128 #[flV f, v, .int .i64 cut, .string ⟨m.toArray⟩] w fun e w' => e = .returned (.tuple #[flV (Dw.playL f ops 0 cut m).1, .int .i64 ((Dw.playL f ops 0 cut m).2 : Nat), .int .i64 0]) ∧ Below w.heap.size w w' := by
  obtain ⟨b, cap, c, t, fr, rfl, hb, hc⟩ := hv
  have hbl := block_lt hb
  have hA0 := han w (.cells (flashC f.a f.b f.e0 f.e1 f.li) 41)
  obtain ⟨J0, hJ0⟩ : ∃ J0 : Act → World → Prop, J0 = (fun a' W => ∃ (k : Nat) (g : Dw.Fl) (u13 u14 u15 u16 u17 u18 u19 u20 u21 u22 u23 u24 u25 u26 u27 u28 u29 u30 u31 u32 u33 u34 u35 u36 u37 u38 u39 u40 u41 u42 u43 u44 u45 u46 u47 u48 u49 u50 : Value), k ≤ ops.length ∧ a' = { tmps := #[flV f, .slice (some ⟨b, 0, none⟩) ops.length cap, .int .i64 cut, .string ⟨m.toArray⟩, .pointer (some ⟨w.heap.size, 0, none⟩), undef, undef, undef, .pointer (some ⟨w.heap.size + 1, 0, none⟩), .int .i64 0, .int .i64 0, .int .i64 0, .int .i64 k, u13, u14, u15, u16, u17, u18, u19, u20, u21, u22, u23, u24, u25, u26, u27, u28, u29, u30, u31, u32, u33, u34, u35, u36, u37, u38, u39, u40, u41, u42, u43, u44, u45, u46, u47, u48, u49, u50], defers := [] } ∧ Dw.FlOk g ∧ Dw.OpsOk g (ops.drop k) ∧ Dw.playL g (ops.drop k) k cut m = Dw.playL f ops 0 cut m ∧ W.heap[w.heap.size]? = some (.cells (flashC g.a g.b g.e0 g.e1 g.li) 41 (0, 0)) ∧ W.heap[w.heap.size + 1]? = some (.cells (flashC [] [] 0 0 0) 41 (0, 0)) ∧ Below w.heap.size w W) := ⟨_, rfl⟩
  obtain ⟨J1, hJ1⟩ : ∃ J1 : Act → World → Prop, J1 = (fun a' W => ∃ (k : Nat) (g : Dw.Fl) (u13 u14 u15 u16 u17 u18 u19 u20 u21 u22 u23 u24 u25 u26 u27 u28 u29 u30 u31 u32 u33 u34 u35 u36 u37 u38 u39 u40 u41 u42 u43 u44 u45 u46 u47 u48 u49 u50 : Value), k < ops.length ∧ (k : Int) = cut ∧ a' = { tmps := #[flV f, .slice (some ⟨b, 0, none⟩) ops.length cap, .int .i64 cut, .string ⟨m.toArray⟩, .pointer (some ⟨w.heap.size, 0, none⟩), undef, undef, undef, .pointer (some ⟨w.heap.size + 1, 0, none⟩), .int .i64 0, .int .i64 0, .int .i64 0, .int .i64 k, u13, u14, u15, u16, u17, u18, u19, u20, u21, u22, u23, u24, u25, u26, u27, u28, u29, u30, u31, u32, u33, u34, u35, u36, u37, u38, u39, u40, u41, u42, u43, u44, u45, u46, u47, u48, u49, u50], defers := [] } ∧ Dw.FlOk g ∧ Dw.OpsOk g (ops.drop k) ∧ Dw.playL g (ops.drop k) k cut m = Dw.playL f ops 0 cut m ∧ W.heap[w.heap.size]? = some (.cells (flashC g.a g.b g.e0 g.e1 g.li) 41 (0, 0)) ∧ W.heap[w.heap.size + 1]? = some (.cells (flashC [] [] 0 0 0) 41 (0, 0)) ∧ Below w.heap.size w W) := ⟨_, rfl⟩
  obtain ⟨M, hM⟩ : ∃ M : Act → World → Nat, M = (fun a' _ => ops.length - (intOf (a'.tmps.getD 12 undef)).toNat) := ⟨_, rfl⟩
  have HJ0 := Lib.hid hJ0; have HJ1 := Lib.hid hJ1; have HM := Lib.hid hM
  have HR := Lib.hid (show Dw.playL f ops 0 cut m = Dw.playL f ops 0 cut m from rfl)
  clear hJ0 hJ1 hM
  go_enter Tryz.func128, Tryz.ntmps128
  go_wp2_with fail
  refine wp_scope_two 0 1 (by decide) rfl J0 J1 M rfl rfl ?first ?pass0 ?pass1
  case first =>
    intro X hp
    go_wp2
    go_step3
    go_wp2
    refine hp _ _ ?_
    rw [HJ0.out]
    exact ⟨0, f, _, _, _, _, _, _, _, _, _, _, _, _, _, _, _, _, _, _, _, _, _, _, _, _, _, _, _, _, _, _, _, _, _, _, _, _, _, _, Nat.zero_le _, rfl, hf, ho, rfl, heap_alloc2_old _ _ _, heap_alloc2_new _ _ _, ((Below.refl w.heap.size w).alloc (Nat.le_refl _) _).alloc (by simp) _⟩
  case pass0 =>
    intro a' W hJ
    rw [HJ0.out] at hJ
    obtain ⟨k, g, u13, u14, u15, u16, u17, u18, u19, u20, u21, u22, u23, u24, u25, u26, u27, u28, u29, u30, u31, u32, u33, u34, u35, u36, u37, u38, u39, u40, u41, u42, u43, u44, u45, u46, u47, u48, u49, u50, hk, rfl, hg, hok, heq, hF, hO, hB⟩ := hJ
    have HEQ := Lib.hid heq
    clear heq
    obtain ⟨c0, c1, c2, c3, c4⟩ := cells5 hF
    by_cases hlt : k < ops.length
    · obtain ⟨o, hoe⟩ : ∃ o, ops[k]? = some o := ⟨ops[k], List.getElem?_eq_getElem hlt⟩
      have hdrop : ops.drop k = o :: ops.drop (k + 1) := by
        rw [List.drop_eq_getElem_cons hlt]
        congr 1
        rw [List.getElem?_eq_getElem hlt] at hoe
        exact Option.some.inj hoe
      have hne : ¬ (k : Int) = (ops.length : Int) := by omega
      by_cases hcut : (k : Int) = cut
      · have HC := Lib.hid hcut
        have hcb : ((k : Int) == cut) = true := by rw [hcut, beq_self_eq_true]
        have HOK := Lib.hid hok; have HD := Lib.hid hdrop; have HE := Lib.hid hoe; have HF := Lib.hid hF; have HO := Lib.hid hO; have HB := Lib.hid hB; have HG := Lib.hid hg
        clear hcut hok hdrop hoe hF hO hB hg c0 c1 c2 c3 c4
        go_wp2
        go_step3
        go_wp2
        refine .inr ⟨rfl, ?_⟩
        rw [HJ1.out]
        exact ⟨k, g, _, _, _, _, _, _, _, _, _, _, _, _, _, _, _, _, _, _, _, _, _, _, _, _, _, _, _, _, _, _, _, _, _, _, _, _, _, _, hlt, HC.out, rfl, HG.out, HOK.out, HEQ.out, HF.out, HO.out, HB.out⟩
      · have hcb : ((k : Int) == cut) = false := by simpa using hcut
        have hbk : W.heap[b]? = some (.cells c t fr) := (hB.block _ hbl).trans hb
        obtain ⟨q0, q1, q2, q3⟩ := hc k o hoe
        have k0 := (cell_of_row _ _ (k * 4) _ _ _ hbk).trans q0
        have k1 := (cell_of_row _ _ (k * 4 + 1) _ _ _ hbk).trans q1
        have k2 := (cell_of_row _ _ (k * 4 + 2) _ _ _ hbk).trans q2
        have k3 := (cell_of_row _ _ (k * 4 + 3) _ _ _ hbk).trans q3
        rw [hdrop] at hok
        obtain ⟨hok1, hok2, hok3⟩ := hok
        have hstep : Dw.playL (Dw.doOp g o) (ops.drop (k + 1)) (k + 1) cut m = Dw.playL f ops 0 cut m := by
          rw [← HEQ.out, hdrop]
          show _ = Dw.playL g (o :: ops.drop (k + 1)) k cut m
          rw [Dw.playL, if_neg hcut]
        have HD := Lib.hid (do_any g hg o hok1)
        generalize hg2 : Dw.doOp g o = g2 at *
        have HS := Lib.hid hstep; have HO2 := Lib.hid hok2; have HO3 := Lib.hid hok3
        clear hstep hok2 hok3 hdrop hoe q0 q1 q2 q3 hg2 hok1
        have hlt' : (k : Int) < (ops.length : Int) := by omega
        go_wp2
        refine RT.wp_letter (fun k => k = w.heap.size) (fun k => k == 8) [0, 1, 2, 3, 4, 5, 6, 7, 8] 9 10 (RT.Stored W w.heap.size (flashC g2.a g2.b g2.e0 g2.e1 g2.li) 41) rfl (by kernel_rfl) (by kernel_rfl) rfl (fun A B h hk => h.keep hk) ?_
        repeat' (first | (refine RT.pl_value (v := ?_) rfl rfl rfl ?_ ?_; rotate_left 1; (focus (intro w' hk; obtain ⟨x0,x1,x2,x3,x4⟩ := look5 hk c0 c1 c2 c3 c4; go_simp; (first | done | with_reducible rfl | exact rfl))); (try simp only [Act.put, List.setIfInBounds_toArray, List.set_cons_zero, List.set_cons_succ])) | (refine RT.pl_value (v := ?_) rfl rfl rfl ?_ ?_; rotate_left 1; (focus (intro w' hk; go_simp; (first | done | with_reducible rfl | exact rfl))); (try simp only [Act.put, List.setIfInBounds_toArray, List.set_cons_zero, List.set_cons_succ])) | (refine RT.pl_value (v := ?_) rfl rfl rfl ?_ ?_; rotate_left 1; (focus (intro w' hk; obtain ⟨y0,y1,y2,y3⟩ := look4 hk k0 k1 k2 k3; go_simp; (first | done | with_reducible rfl | exact rfl))); (try simp only [Act.put, List.setIfInBounds_toArray, List.set_cons_zero, List.set_cons_succ])) | (refine RT.pl_call (v := ?_) (f := ?_) (args := ?_) rfl rfl rfl ?_ ?_ ?_; rotate_left 3; (focus (intro w' hk; go_simp; (first | done | (constructor <;> with_reducible rfl) | with_reducible rfl))); (focus (intro w' hk; exact HD.out w')); (try simp only [Act.put, List.setIfInBounds_toArray, List.set_cons_zero, List.set_cons_succ])) | (refine RT.pl_late (v := ?_) rfl rfl ?_ ?_; rotate_left 1; (focus (intro w' _; go_simp; (first | done | with_reducible rfl | exact rfl))); (try simp only [Act.put, List.setIfInBounds_toArray, List.set_cons_zero, List.set_cons_succ])))
        refine RT.pl_nil ⟨rfl, RT.stb hF rfl rfl rfl (by kernel_rfl), ?_⟩
        rintro W5 ⟨hk5, hF5⟩
        simp only [List.drop_succ_cons, List.drop_zero]
        have hO5 := (hk5.block _ (block_lt hO) (by omega)).trans hO
        have hB5 := hB.trans (hk5.below hB.size (fun g hg => by omega))
        have HF5 := Lib.hid hF5; have HO5 := Lib.hid hO5; have HB5 := Lib.hid hB5
        have HK := Lib.hid hlt
        clear hF hO hB hF5 hO5 hB5 hk5 c0 c1 c2 c3 c4 k0 k1 k2 k3 hbk
        go_wp2
        go_step3
        go_wp2
        refine .inl ⟨rfl, ?_, ?_⟩
        · rw [HJ0.out]
          have hkk : (k : Int) + 1 = ((k + 1 : Nat) : Int) := by omega
          rw [hkk]
          exact ⟨k + 1, g2, _, _, _, _, _, _, _, _, _, _, _, _, _, _, _, _, _, _, _, _, _, _, _, _, _, _, _, _, _, _, _, _, _, _, _, _, _, _, hlt, rfl, HO2.out, HO3.out, HS.out, HF5.out, HO5.out, HB5.out⟩
        · rw [HM.out]
          simp [intOf]
          omega
    · obtain rfl : k = ops.length := by omega
      go_wp2_with (refine sb hO rfl rfl rfl rfl (by kernel_rfl) ?_)
      simp only [ejumps]
      refine bodyPost_ret (rct2 rfl (srh hO) (by rfl) (by kernel_rfl)) rfl ⟨?_, below_setRow hB (by omega) _⟩
      rw [← HEQ.out, List.drop_length]
      rfl
  case pass1 =>
    intro a' W hJ
    rw [HJ1.out] at hJ
    obtain ⟨k, g, u13, u14, u15, u16, u17, u18, u19, u20, u21, u22, u23, u24, u25, u26, u27, u28, u29, u30, u31, u32, u33, u34, u35, u36, u37, u38, u39, u40, u41, u42, u43, u44, u45, u46, u47, u48, u49, u50, hlt, hcut, rfl, hg, hok, heq, hF, hO, hB⟩ := hJ
    have HEQ := Lib.hid heq
    clear heq
    obtain ⟨c0, c1, c2, c3, c4⟩ := cells5 hF
    obtain ⟨o, hoe⟩ : ∃ o, ops[k]? = some o := ⟨ops[k], List.getElem?_eq_getElem hlt⟩
    have hdrop : ops.drop k = o :: ops.drop (k + 1) := by
      rw [List.drop_eq_getElem_cons hlt]
      congr 1
      rw [List.getElem?_eq_getElem hlt] at hoe
      exact Option.some.inj hoe
    have hbk : W.heap[b]? = some (.cells c t fr) := (hB.block _ hbl).trans hb
    obtain ⟨q0, q1, q2, q3⟩ := hc k o hoe
    have k0 := (cell_of_row _ _ (k * 4) _ _ _ hbk).trans q0
    have k1 := (cell_of_row _ _ (k * 4 + 1) _ _ _ hbk).trans q1
    have k2 := (cell_of_row _ _ (k * 4 + 2) _ _ _ hbk).trans q2
    have k3 := (cell_of_row _ _ (k * 4 + 3) _ _ _ hbk).trans q3
    rw [hdrop] at hok
    obtain ⟨hok1, _, _⟩ := hok
    have hfin : Dw.playL f ops 0 cut m = (Dw.tearOp g o m, k) := by
      rw [← HEQ.out, hdrop, Dw.playL, if_pos hcut]
    have HD := Lib.hid (tear_any g hg o hok1 m)
    generalize hg2 : Dw.tearOp g o m = g2 at *
    have HS := Lib.hid hfin
    clear hfin hdrop hoe q0 q1 q2 q3 hg2 hok1 hcut
    have hlt' : (k : Int) < (ops.length : Int) := by omega
    go_wp2
    refine RT.wp_letter (fun k => k = w.heap.size) (fun k => k == 9) [0, 1, 2, 3, 4, 5, 6, 7, 8, 9] 10 11 (RT.Stored W w.heap.size (flashC g2.a g2.b g2.e0 g2.e1 g2.li) 41) rfl (by kernel_rfl) (by kernel_rfl) rfl (fun A B h hk => h.keep hk) ?_
    repeat' (first | (refine RT.pl_value (v := ?_) rfl rfl rfl ?_ ?_; rotate_left 1; (focus (intro w' hk; obtain ⟨x0,x1,x2,x3,x4⟩ := look5 hk c0 c1 c2 c3 c4; go_simp; (first | done | with_reducible rfl | exact rfl))); (try simp only [Act.put, List.setIfInBounds_toArray, List.set_cons_zero, List.set_cons_succ])) | (refine RT.pl_value (v := ?_) rfl rfl rfl ?_ ?_; rotate_left 1; (focus (intro w' hk; go_simp; (first | done | with_reducible rfl | exact rfl))); (try simp only [Act.put, List.setIfInBounds_toArray, List.set_cons_zero, List.set_cons_succ])) | (refine RT.pl_value (v := ?_) rfl rfl rfl ?_ ?_; rotate_left 1; (focus (intro w' hk; obtain ⟨y0,y1,y2,y3⟩ := look4 hk k0 k1 k2 k3; go_simp; (first | done | with_reducible rfl | exact rfl))); (try simp only [Act.put, List.setIfInBounds_toArray, List.set_cons_zero, List.set_cons_succ])) | (refine RT.pl_call (v := ?_) (f := ?_) (args := ?_) rfl rfl rfl ?_ ?_ ?_; rotate_left 3; (focus (intro w' hk; go_simp; (first | done | (constructor <;> with_reducible rfl) | with_reducible rfl))); (focus (intro w' hk; exact HD.out w')); (try simp only [Act.put, List.setIfInBounds_toArray, List.set_cons_zero, List.set_cons_succ])) | (refine RT.pl_late (v := ?_) rfl rfl ?_ ?_; rotate_left 1; (focus (intro w' _; go_simp; (first | done | with_reducible rfl | exact rfl))); (try simp only [Act.put, List.setIfInBounds_toArray, List.set_cons_zero, List.set_cons_succ])))
    refine RT.pl_nil ⟨rfl, RT.stb hF rfl rfl rfl (by kernel_rfl), ?_⟩
    rintro W5 ⟨hk5, hF5⟩
    simp only [List.drop_succ_cons, List.drop_zero]
    have hO5 := (hk5.block _ (block_lt hO) (by omega)).trans hO
    have hB5 := hB.trans (hk5.below hB.size (fun g hg => by omega))
    clear hF hO hB hk5 c0 c1 c2 c3 c4 k0 k1 k2 k3 hbk
    obtain ⟨c0, c1, c2, c3, c4⟩ := cells5 hF5
    go_wp2_with (refine sb hO5 rfl rfl rfl rfl (by kernel_rfl) ?_)
    simp only [ejumps]
    refine bodyPost_ret (rct2 rfl (srh hO5) (by rfl) (by kernel_rfl)) rfl ⟨?_, below_setRow hB5 (by omega) _⟩
    rw [HS.out]
    rfl
theorem next_any (s : List UInt8) (hs : s.length ≤ 400) (w : World) :
    Calls Tryz.prog 163 #[.string ⟨s.toArray⟩] w fun e w' => e = .returned (.int .i64 (Dw.next s : Nat)) ∧ Below w.heap.size w w' := by
  have HN := Lib.hid (show Dw.next s = if Dw.tz (Dw.states s) = 0 then 0 else Dw.slots s.length - Dw.tz (Dw.states s) + 1 from rfl)
  have hsl := Dw.states_length s
  have hle := Dw.slots_le s.length
  go_enter Tryz.func163, Tryz.ntmps163
  go_wp2_with fail
  refine (states_any s hs _).mono ?_
  rintro e w1 ⟨⟨v, rfl, hv⟩, hb1⟩
  rcases hv with ⟨rfl, hnil⟩ | ⟨g, cap, rfl, hcap, hgB, hg, hcs⟩
  · have hz : Dw.tz (Dw.states s) = 0 := by rw [hnil]; rfl
    rw [hz, if_pos rfl] at HN
    clear hnil hz hsl
    go_wp2_with fail
    go_loopw [4, 9] (fun b i wr => b = .int .i64 0 ∧ i = .int .i64 0 ∧ wr = w1) (fun _ _ _ => 0)
    case atStart => exact ⟨rfl, rfl, rfl⟩
    case round =>
      obtain ⟨rfl, rfl, rfl⟩ := hrel
      go_wp2_with fail
      go_ret
      exact ⟨by rw [HN.out]; rfl, hb1⟩
  · have Hz := Lib.hid (Dw.tz_spec (Dw.states s))
    rw [← hsl] at HN hle
    have Hcs := Lib.hid (show ∀ j, j < (Dw.states s).length → w1.cell? ⟨g, j, none⟩ = some (.int .i64 ((Dw.states s).getD j 0 : Nat)) ∧ (Dw.states s)[j]? = some ((Dw.states s).getD j 0) from fun j h => by
      have e : (Dw.states s).getD j 0 = (Dw.states s)[j] := by rw [List.getD_eq_getElem?_getD, List.getElem?_eq_getElem h]; rfl
      rw [e]
      exact ⟨hcs j h, List.getElem?_eq_getElem h⟩)
    clear hcs hsl
    generalize Dw.states s = L at *
    generalize hn : L.length = n at *
    go_wp2_with fail
    go_loopw [4, 9] (fun b i wr => ∃ k : Nat, k ≤ n ∧ b = .int .i64 k ∧ i = .int .i64 k ∧ wr = w1 ∧ ∀ j, j < k → L[n - 1 - j]? = some 0) (fun _ i _ => n - (intOf i).toNat)
    case atStart => exact ⟨0, Nat.zero_le _, rfl, rfl, rfl, fun _ h => by omega⟩
    case round =>
      obtain ⟨k, hk, rfl, rfl, rfl, hall⟩ := hrel
      by_cases hlt : k < n
      · obtain ⟨hc, hx⟩ := Hcs.out (n - 1 - k) (by omega)
        generalize L.getD (n - 1 - k) 0 = x at *
        have a1 : IntKind.i64.wrap ((n : Int) - 1) = (n : Int) - 1 := IntWalk.i64_in _ (by omega)
        have a2 : IntKind.i64.wrap ((n : Int) - 1 - (k : Int)) = (n : Int) - 1 - (k : Int) := IntWalk.i64_in _ (by omega)
        have a3 : (0 : Int) ≤ (n : Int) - 1 - (k : Int) := by omega
        have a4 : (n : Int) - 1 - (k : Int) < (n : Int) := by omega
        have a5 : ((n : Int) - 1 - (k : Int)).toNat = n - 1 - k := by omega
        have a6 : (k : Int) < (n : Int) := by omega
        have HA := Lib.hid hall; have HX := Lib.hid hx
        clear hall hx hn
        by_cases hx0 : x = 0
        · subst hx0
          go_wp2_with fail
          go_roundw
          case rel =>
            refine ⟨k + 1, by omega, by go_num, by go_num, by first | rfl | trivial, fun j hj => ?_⟩
            by_cases e : j = k
            · rw [e]; exact HX.out
            · exact HA.out j (by omega)
          case measure => simp [intOf]; omega
        · have hxn : ¬ (x : Int) = 0 := by omega
          have hxb : ((x : Int) == 0) = false := by simpa using hxn
          have HT := Lib.hid (Hz.out k (by omega) HA.out (.inr (by rw [HX.out]; intro e; exact hx0 (Option.some.inj e))))
          by_cases hk0 : k = 0
          · have hkb : ((k : Int) == 0) = true := by rw [hk0]; rfl
            have HK := Lib.hid hk0
            clear hk0
            go_wp2_with fail
            go_ret
            exact ⟨by rw [HN.out, HT.out, if_pos HK.out]; rfl, hb1⟩
          · have hkb : ((k : Int) == 0) = false := by rw [beq_eq_false_iff_ne]; omega
            have b1 : IntKind.i64.wrap ((n : Int) - (k : Int)) = (n : Int) - (k : Int) := IntWalk.i64_in _ (by omega)
            have b2 : IntKind.i64.wrap ((n : Int) - (k : Int) + 1) = (n : Int) - (k : Int) + 1 := IntWalk.i64_in _ (by omega)
            go_wp2_with fail
            go_ret
            refine ⟨?_, hb1⟩
            rw [HN.out, HT.out, if_neg hk0]
            exact ret_int (by omega)
      · obtain rfl : k = n := by omega
        have HT := Lib.hid (Hz.out k (Nat.le_refl _) hall (.inl rfl))
        have a6 : ¬ (k : Int) < (k : Int) := by omega
        clear hall
        by_cases hk0 : k = 0
        · have hkb : ((k : Int) == 0) = true := by rw [hk0]; rfl
          have HK := Lib.hid hk0
          clear hk0
          go_wp2_with fail
          go_ret
          exact ⟨by rw [HN.out, HT.out, if_pos HK.out]; rfl, hb1⟩
        · have hkb : ((k : Int) == 0) = false := by rw [beq_eq_false_iff_ne]; omega
          have b1 : IntKind.i64.wrap ((k : Int) - (k : Int)) = (k : Int) - (k : Int) := IntWalk.i64_in _ (by omega)
          have b2 : IntKind.i64.wrap ((k : Int) - (k : Int) + 1) = (k : Int) - (k : Int) + 1 := IntWalk.i64_in _ (by omega)
          go_wp2_with fail
          go_ret
          refine ⟨?_, hb1⟩
          rw [HN.out, HT.out, if_neg hk0]
          exact ret_int (by omega)
theorem worn_any (f : Dw.Fl) (k : Nat) (hk : k < 2) (w : World) :
    Calls Tryz.prog 165 #[flV f, .int .i64 k] w fun e w' => e = .returned (.bool (Dw.wornB f k)) ∧ Below w.heap.size w w' := by
  have hB := (Below.refl w.heap.size w).alloc (Nat.le_refl _) (.cells (flashC f.a f.b f.e0 f.e1 f.li) 41)
  have hF := han w (.cells (flashC f.a f.b f.e0 f.e1 f.li) 41)
  obtain ⟨c0, c1, c2, c3, c4⟩ := cells5 hF
  rcases (by omega : k = 0 ∨ k = 1) with rfl | rfl
  · have HW := Lib.hid (show Dw.wornB f 0 = decide (f.li ≤ f.e0) from rfl)
    go_enter Tryz.func165, Tryz.ntmps165
    go_wp2_with fail
    generalize w.alloc _ = W at *
    refine wp_pure [0,1,2,3,4,5,6,7] 8 (by kernel_rfl) (by kernel_rfl) rfl ?_
    (apply rat; (focus (intro w' hk; obtain ⟨k2,k4⟩ := look2 hk c2 c4; repeat' (first | exact rn | ((first | refine' rv ?_ rfl rfl (by go_simp; first | done | with_reducible rfl | exact rfl) | refine' rs ?_ rfl rfl); try simp only [Act.put, List.setIfInBounds_toArray, List.set_cons_zero, List.set_cons_succ])))))
    intro w2 hk2
    simp only [List.drop_succ_cons, List.drop_zero]
    go_wp2_with fail
    go_ret
    exact ⟨by rw [HW.out]; rfl, hB.trans (hk2.whole.mono hB.size)⟩
  · have HW := Lib.hid (show Dw.wornB f 1 = decide (f.li ≤ f.e1) from rfl)
    go_enter Tryz.func165, Tryz.ntmps165
    go_wp2_with fail
    generalize w.alloc _ = W at *
    refine wp_pure [0,1,2,3,4,5,6,7] 8 (by kernel_rfl) (by kernel_rfl) rfl ?_
    (apply rat; (focus (intro w' hk; obtain ⟨k3,k4⟩ := look2 hk c3 c4; repeat' (first | exact rn | ((first | refine' rv ?_ rfl rfl (by go_simp; first | done | with_reducible rfl | exact rfl) | refine' rs ?_ rfl rfl); try simp only [Act.put, List.setIfInBounds_toArray, List.set_cons_zero, List.set_cons_succ])))))
    intro w2 hk2
    simp only [List.drop_succ_cons, List.drop_zero]
    go_wp2_with fail
    go_ret
    exact ⟨by rw [HW.out]; rfl, hB.trans (hk2.whole.mono hB.size)⟩
theorem mprogram_any (b a : Nat) (A : Int) (hA : A = (a : Int)) (d : List UInt8) (w : World) :
    Calls Tryz.prog 211 #[.agg #[.int .i64 b], .int .i64 A, .string ⟨d.toArray⟩] w fun e w' => e = .returned (opV ⟨1, b, a, d⟩) ∧ Below w.heap.size w w' := by
  subst hA
  go_enter Tryz.func211, Tryz.ntmps211
  go_wp2_with fail
  refine bodyPost_ret (rcr rfl (heap_alloc2_new _ _ _) (by rfl) (by kernel_rfl)) rfl ⟨rfl, ((Below.refl _ w).alloc (Nat.le_refl _) _).alloc (by simp) _⟩
def opsCells (ops : List Dw.Op) : List Value := ops.flatMap fun o => (opC o).toList
theorem opsCells_cons (o : Dw.Op) (ops : List Dw.Op) : opsCells (o :: ops) = (opC o).toList ++ opsCells ops := rfl
theorem opsCells_append (a b : List Dw.Op) : opsCells (a ++ b) = opsCells a ++ opsCells b := by unfold opsCells; rw [List.flatMap_append]
theorem opsCells_len : ∀ ops : List Dw.Op, (opsCells ops).length = ops.length * 4
  | [] => rfl
  | o :: ops => by rw [opsCells_cons, List.length_append, opsCells_len ops, List.length_cons]; simp; omega
theorem opsCells_get : ∀ (ops : List Dw.Op) (i r : Nat) (o : Dw.Op), ops[i]? = some o → r < 4 → (opsCells ops)[i * 4 + r]? = (opC o).toList[r]?
  | [], _, _, _, h, _ => by simp at h
  | o :: ops, 0, r, o', h, hr => by
    obtain rfl : o = o' := by simpa using h
    rw [opsCells_cons, List.getElem?_append_left (by simp; omega), Nat.zero_mul, Nat.zero_add]
  | o :: ops, i + 1, r, o', h, hr => by
    rw [opsCells_cons, List.getElem?_append_right (by simp; omega)]
    have := opsCells_get ops i r o' (by simpa using h) hr
    rw [← this]
    congr 1
    simp
    omega
abbrev OwnOps (B : Nat) (w : World) (v : Value) (ops : List Dw.Op) : Prop := w.ownsRow B 243 4 v ops.length (opsCells ops)
theorem own_at {B : Nat} {w : World} {v : Value} {ops : List Dw.Op} (h : OwnOps B w v ops) (hne : 0 < ops.length) : OpsAt w v ops := by
  rcases h.2 with ⟨_, h0⟩ | ⟨g, cap, cur, h1, _, h3, _, _, _, h7⟩
  · omega
  · refine ⟨g, cap, cur, _, _, h1, h3, fun j o ho => ?_⟩
    have hj : j < ops.length := (List.getElem?_eq_some_iff.1 ho).1
    have key : ∀ r, r < 4 → cur[j * 4 + r]? = (opC o).toList[r]? := by
      intro r hr
      rw [← opsCells_get ops j r o ho hr, ← h7, List.getElem?_take_of_lt (by omega), Array.getElem?_toList]
    exact ⟨key 0 (by decide), key 1 (by decide), key 2 (by decide), key 3 (by decide)⟩
def NewRows (w : World) (c : Array Value) (n : Nat) (ty : TypeId) (v : Value) (w' : World) : Prop :=
  ∃ b, v = .slice (some ⟨b, 0, none⟩) n n ∧ w.heap.size ≤ b ∧ w'.heap[b]? = some (.cells c ty (0, 0))
theorem NewRows.keep {w : World} {c : Array Value} {n : Nat} {ty : TypeId} {v : Value} {A B : World} (h : NewRows w c n ty v A) (hk : Keep A B) : NewRows w c n ty v B := by
  obtain ⟨b, e, hb, hc⟩ := h
  exact ⟨b, e, hb, (hk.block b (block_lt hc) id).trans hc⟩
theorem sure_rows {P : Program} {w : World} {s : Sem Next} {c : Array Value} {n : Nat} {ty : TypeId} (h : ∀ w', Keep w w' → s.run P w' = .ok (.value (.slice (some ⟨w'.heap.size, 0, none⟩) n n)) (w'.alloc (.cells c ty))) : SureSome P w s (NewRows w c n ty) :=
  fun w' hk => .inl ⟨_, _, h w' hk, (KeepBut.refl _ _).alloc _, w'.heap.size, rfl, hk.size, World.alloc_heap_new _ _⟩
theorem own_new {w : World} {B b n : Nat} {ops : List Dw.Op} (hb : B ≤ b) (h : w.heap[b]? = some (.cells (opsCells ops).toArray 243 (0, 0))) (hn : ops.length = n) (hm : n ≤ maxLen) : OwnOps B w (.slice (some ⟨b, 0, none⟩) n n) ops := by
  subst hn
  refine ⟨opsCells_len ops, .inr ⟨b, ops.length, _, rfl, hb, h, Nat.le_refl _, hm, by simp [opsCells_len], ?_⟩⟩
  rw [List.toList_toArray, List.take_of_length_le (by rw [opsCells_len]; exact Nat.le_refl _)]
theorem write_any (b s : Nat) (hs : s ≤ 12) (k q d : Nat) (hk : k < 256) (hq : q < 18446744073709551616) (hd : d < 18446744073709551616) (w : World) :
    Calls Tryz.prog 191 #[.agg #[.int .i64 b], .int .i64 s, .agg #[.int .i64 k, .int .u64 q, .int .u64 d]] w fun e w' =>
      (∃ v, e = .returned v ∧ OwnOps w.heap.size w' v [⟨1, b, 24 * s + 0, Dw.body k q d⟩, ⟨1, b, 24 * s + 22, [90, 60]⟩]) ∧ Below w.heap.size w w' := by
  obtain ⟨V, hV⟩ : ∃ V, (w.alloc (.cells #[.int .i64 b] 281)).alloc (.cells #[.int .i64 k, .int .u64 q, .int .u64 d] 256) = V := ⟨_, rfl⟩
  have b0 : V.heap[w.heap.size]? = some (.cells #[.int .i64 b] 281) := by rw [← hV]; exact heap_alloc2_old _ _ _
  have b1 : V.heap[w.heap.size + 1]? = some (.cells #[.int .i64 k, .int .u64 q, .int .u64 d] 256) := by rw [← hV]; exact heap_alloc2_new _ _ _
  have vB : Below w.heap.size w V := by rw [← hV]; exact ((Below.refl _ w).alloc (Nat.le_refl _) _).alloc (by simp) _
  have c0 := cells1 b0
  obtain ⟨r0, r1, r2⟩ := cells3 b1
  have a1 : Dw.at_ (s : Int) = ((24 * s + 0 : Nat) : Int) := by unfold Dw.at_; rw [if_pos (by omega)]; omega
  have a2 : Dw.mark (s : Int) = ((24 * s + 22 : Nat) : Int) := by unfold Dw.mark; rw [if_pos (by omega)]; omega
  have HB := Lib.hid (body_any k k q d rfl hk hq hd)
  have HA1 := Lib.hid a1; have HA2 := Lib.hid a2
  clear hq hd hk a1 a2
  go_enter Tryz.func191, Tryz.ntmps191
  go_wp2_with fail
  refine wp_letterD [0,1,2,3,4,5,6,7,8,9,10] 11 12 (some 18) (NewRows V (opsCells [⟨1, b, 24 * s + 0, Dw.body k q d⟩, ⟨1, b, 24 * s + 22, [90, 60]⟩]).toArray 2 243) rfl rfl (by kernel_rfl) (by kernel_rfl) rfl (fun v A B h hk => h.keep hk) ?_
  (apply rat; (focus (intro w' hk; obtain ⟨k0,k1,k2,k3⟩ := look4 hk c0 r0 r1 r2; (iterate 2 (refine' rv ?_ rfl rfl (by go_simp; first | done | with_reducible rfl | exact rfl); try simp only [Act.put, List.setIfInBounds_toArray, List.set_cons_zero, List.set_cons_succ])); (refine' rc ?_ (by exact rfl) (by exact rfl) (by go_simp; first | done | (constructor <;> with_reducible rfl) | with_reducible rfl) (by exact at_any (s : Int) w'); try simp only [Act.put, List.setIfInBounds_toArray, List.set_cons_zero, List.set_cons_succ]); (refine' rv ?_ rfl rfl (by go_simp; first | done | with_reducible rfl | exact rfl); try simp only [Act.put, List.setIfInBounds_toArray, List.set_cons_zero, List.set_cons_succ]); (refine' rc ?_ (by exact rfl) (by exact rfl) (by go_simp; first | done | (constructor <;> with_reducible rfl) | with_reducible rfl) (by exact HB.out w'); try simp only [Act.put, List.setIfInBounds_toArray, List.set_cons_zero, List.set_cons_succ]); (refine' rc ?_ (by exact rfl) (by exact rfl) (by go_simp; first | done | (constructor <;> with_reducible rfl) | with_reducible rfl) (by exact mprogram_any b (24 * s + 0) _ HA1.out _ w'); try simp only [Act.put, List.setIfInBounds_toArray, List.set_cons_zero, List.set_cons_succ]); (iterate 2 (refine' rv ?_ rfl rfl (by go_simp; first | done | with_reducible rfl | exact rfl); try simp only [Act.put, List.setIfInBounds_toArray, List.set_cons_zero, List.set_cons_succ])); (refine' rc ?_ (by exact rfl) (by exact rfl) (by go_simp; first | done | (constructor <;> with_reducible rfl) | with_reducible rfl) (by exact lmark_any (s : Int) w'); try simp only [Act.put, List.setIfInBounds_toArray, List.set_cons_zero, List.set_cons_succ]); (refine' rc ?_ (by exact rfl) (by exact rfl) (by go_simp; first | done | (constructor <;> with_reducible rfl) | with_reducible rfl) (by exact mark_any w'); try simp only [Act.put, List.setIfInBounds_toArray, List.set_cons_zero, List.set_cons_succ]); (refine' rc ?_ (by exact rfl) (by exact rfl) (by go_simp; first | done | (constructor <;> with_reducible rfl) | with_reducible rfl) (by exact mprogram_any b (24 * s + 22) _ HA2.out [90, 60] w'); try simp only [Act.put, List.setIfInBounds_toArray, List.set_cons_zero, List.set_cons_succ]); (exact rn))))
  refine ⟨rfl, sure_rows (fun w' _ => by go_simp; rfl), ?_⟩
  rintro v W2 hk2 ⟨g, rfl, hg, hgc⟩
  simp only [List.drop_succ_cons, List.drop_zero, List.setIfInBounds_toArray, List.set_cons_zero, List.set_cons_succ]
  go_wp2_with fail
  go_ret
  exact ⟨⟨_, rfl, own_new (by have := vB.size; omega) hgc rfl (by decide)⟩, vB.trans (hk2.whole.mono vB.size)⟩
theorem infoOp : (Tryz.prog.info? 243).map (fun i => (i.zero, i.size, i.bytes)) = some (some (.agg #[.int .i64 0, .int .i64 0, .int .i64 0, .string ⟨#[]⟩]), 4, 40) := by kernel_rfl
theorem opsCells_one (ops : List Dw.Op) : ∀ u ∈ opsCells ops, u.oneCell' = true := by
  intro u hu
  unfold opsCells at hu
  rw [List.mem_flatMap] at hu
  obtain ⟨o, _, hu⟩ := hu
  simp at hu
  rcases hu with rfl | rfl | rfl | rfl <;> rfl
theorem pappend_any (b s q d : Nat) (hs : s ≤ 12) (hq : q < 18446744073709551616) (hd : d < 18446744073709551616) (w : World) :
    Calls Tryz.prog 164 #[.int .i64 b, .int .i64 s, .int .u64 q, .int .u64 d] w fun e w' => (∃ v, e = .returned v ∧ OwnOps w.heap.size w' v (Dw.appendOps b s q d)) ∧ Below w.heap.size w w' := by
  have HW := Lib.hid (write_any b s hs 2 q d (by decide) hq hd w)
  clear hq hd
  go_enter Tryz.func164, Tryz.ntmps164
  go_wp2_with fail
  refine HW.out.mono ?_
  rintro e w1 ⟨⟨v, rfl, hv⟩, hb⟩
  go_wp2_with fail
  go_ret
  exact ⟨⟨_, rfl, hv⟩, hb⟩
def PartAt (w : World) (v : Value) (ops : List Dw.Op) : Prop := ∃ g cap, v = .slice (some ⟨g, 0, none⟩) ops.length cap ∧ g < w.heap.size ∧ ∀ (j : Nat) (u : Value), (opsCells ops)[j]? = some u → w.cell? ⟨g, j, none⟩ = some u
theorem PartAt.keep {w w' : World} {v : Value} {ops : List Dw.Op} (h : PartAt w v ops) (hb : Below w.heap.size w w') : PartAt w' v ops := by
  obtain ⟨g, cap, h1, h2, h3⟩ := h
  exact ⟨g, cap, h1, Nat.lt_of_lt_of_le h2 hb.size, fun j u hu => (hb.cell (p := ⟨g, j, none⟩) h2).trans (h3 j u hu)⟩
theorem own_part {B : Nat} {w : World} {v : Value} {ops : List Dw.Op} (h : OwnOps B w v ops) (hne : 0 < ops.length) : PartAt w v ops := by
  rcases h.2 with ⟨_, h0⟩ | ⟨g, cap, cur, h1, _, h3, _, _, _, h7⟩
  · omega
  · refine ⟨g, cap, h1, block_lt h3, fun j u hu => ?_⟩
    rw [cell_of_row _ _ j _ _ _ h3, ← hu, ← h7, List.getElem?_take_of_lt, Array.getElem?_toList]
    have := (List.getElem?_eq_some_iff.1 hu).1
    rw [opsCells_len] at this
    exact this
theorem gather_any (b n cap : Nat) (parts : List (Value × List Dw.Op)) (hn : parts.length = n) (hn2 : n ≤ 1000) (hlen : ∀ k, ((parts.take k).flatMap (·.2)).length ≤ 100) (w : World) (hbl : b < w.heap.size)
    (hp : ∀ i p, parts[i]? = some p → w.cell? ⟨b, i, none⟩ = some p.1 ∧ PartAt w p.1 p.2) :
    Calls Tryz.prog 216 #[.slice (some ⟨b, 0, none⟩) n cap] w fun e w' => (∃ v, e = .returned v ∧ OwnOps w.heap.size w' v (parts.flatMap (·.2))) ∧ Below w.heap.size w w' := by
  obtain ⟨i0, hi, hz0, hz1, hz2⟩ := info_parts infoOp
  have Hp := Lib.hid hp
  have Hlen := Lib.hid hlen
  clear hp hlen
  go_enter Tryz.func216, Tryz.ntmps216
  go_wp2_with fail
  go_loopw [2, 7] (fun v i wr => ∃ k : Nat, k ≤ n ∧ i = .int .i64 k ∧ OwnOps w.heap.size wr v ((parts.take k).flatMap (·.2)) ∧ Below w.heap.size w wr) (fun _ i _ => n - (intOf i).toNat)
  case atStart => exact ⟨0, Nat.zero_le _, rfl, World.ownsRow_nil _ _ _ _, Below.refl _ _⟩
  case round =>
    obtain ⟨k, hk, rfl, hown, hB⟩ := hrel
    by_cases hlt : k < n
    · obtain ⟨p, hpe⟩ : ∃ p, parts[k]? = some p := ⟨parts[k]'(by omega), List.getElem?_eq_getElem (by omega)⟩
      have hsn : (parts.take (k + 1)).flatMap (·.2) = (parts.take k).flatMap (·.2) ++ p.2 := by
        rw [List.take_add_one, hpe, List.flatMap_append]
        simp
      obtain ⟨h1, g, cap2, h2, h3, h4⟩ := Hp.out k p hpe
      have c1 := (hB.cell (p := ⟨b, k, none⟩) hbl).trans h1
      rw [h2] at c1
      have h4' : ∀ (j : Nat) (u : Value), (opsCells p.2)[j]? = some u → wr.cell? ((⟨g, 0, none⟩ : Addr).add j) = some u := fun j u hu => by rw [addr_add]; exact (hB.cell (p := ⟨g, j, none⟩) h3).trans (h4 j u hu)
      have hl1 : ((parts.take k).flatMap (·.2)).length + p.2.length ≤ 100 := by have := Hlen.out (k + 1); rw [hsn, List.length_append] at this; exact this
      have hL : ((parts.take k).flatMap (·.2)).length + p.2.length ≤ maxLen := Nat.le_trans hl1 (by decide)
      have hL2 : (((parts.take k).flatMap (·.2)).length + p.2.length) * 40 ≤ 140737488355328 := Nat.le_trans (Nat.mul_le_mul_right 40 hl1) (by decide)
      have Hsn := Lib.hid hsn
      have hx1 : (k : Int) < (n : Int) := by omega
      obtain ⟨sa, sn, sc, rfl⟩ := slice_of_own hown
      have hbs := hB.size
      have HB := Lib.hid hB
      clear hpe hsn h1 h2 h4 hl1 hB
      go_wp2_with (at_builtin; go_loud (refine wpList_append_own _ (by rfl) _ _ 181 (by rfl) w.heap.size 243 i0 _ 4 40 Tryz.underlying181 hi hz0 hz1 hz2 rfl (by decide) _ _ _ (by rfl) hown ⟨g, 0, none⟩ p.2.length cap2 (opsCells p.2) (by rfl) (opsCells_len p.2) h4' (opsCells_one p.2) hL hL2 hbs ?_; intro v2 w2 hown2 hgrow2 _; have hB2 := HB.out.trans ((KeepBut.refl (fun g => w.heap.size ≤ g) wr).grown hgrow2 (fun g e => (hown.lt g e).1) |>.below hbs (fun _ h => h))))
      go_roundw
      case rel =>
        refine ⟨k + 1, by omega, by go_num, ?_, hB2⟩
        rw [Hsn.out]
        have := hown2
        rw [← opsCells_append, ← List.length_append] at this
        exact this
      case measure => simp [intOf]; omega
    · obtain rfl : k = n := by omega
      have hx1 : ¬ (k : Int) < (k : Int) := by omega
      rw [List.take_of_length_le (by omega)] at hown
      go_wp2_with fail
      go_ret
      exact ⟨⟨_, rfl, hown⟩, hB⟩
end Go.Proofs.YtjibbchfndhhpaaGreatDoor
