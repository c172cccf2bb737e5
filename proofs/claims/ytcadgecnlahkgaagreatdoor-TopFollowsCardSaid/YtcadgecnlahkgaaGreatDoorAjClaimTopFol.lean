/- The statement TopFollows: it returns true at every input, and its arguments read as they did; and its tied card: the package's variable is what the program's text lays. -/
import Derived.Test.YtcadgecnlahkgaaGreatDoorAj46
import Derived.Test.YtcadgecnlahkgaaGreatDoorAj14
import Derived.Test.YtcadgecnlahkgaaGreatDoorCards
import Derived.Test.YtcadgecnlahkgaaGreatDoorTie
import Derived.Test.YtcadgecnlahkgaaGreatDoorAj36
set_option linter.unusedSimpArgs false
set_option linter.unusedVariables false
set_option maxRecDepth 100000
set_option maxHeartbeats 4000000
namespace Go.Proofs.YtcadgecnlahkgaaGreatDoor.topFollows
open Go.ChangeShapes Go.WideShapes Go.ChangeAt Go.RowKit Go.Joins Go.WideElems
open Go.ChangeMaps (open_string shut_string)
theorem door_met (os : Os) (args : Array Value) : laidMetH Tryz.prog [("dogwatch/pick.none", Rows.laid_dogwatch_pick_none)] ((World.doorLaid Tryz.prog 400 os).forCall (fun _ _ => 0) ⟨#[], args, []⟩).memory :=
  laidMetH_of_parts3 (fuel := 8) (laidMet_of_run' 8 (by kernel_rfl) (by kernel_rfl)) (by kernel_rfl) (by kernel_rfl)
theorem lifted (os : Os) (started : os.Started) (H : Type) (enc : TypeId × Value → H) :
    ReturnsInHanded {} Tryz.checked os 9 .any (fun w args => (Rows.topFollowsSpec.pre enc Tryz.prog Tryz.f9 [] false w args ∧ laidMetH Tryz.prog [("dogwatch/pick.none", Rows.laid_dogwatch_pick_none)] w) ∧ sizedMet enc Tryz.prog Tryz.f9 (OpenSpec.ofChange Rows.topFollowsSpec) false w args)
      (Rows.topFollowsSpec.post enc Tryz.prog Tryz.f9 false true false false) := by
  refine returnsInHanded_of_change_and (C := Tryz.checked) (X := fun w _ => laidMetH Tryz.prog [("dogwatch/pick.none", Rows.laid_dogwatch_pick_none)] w) (fun _ _ _ hh h => h.of_heap hh) own started (by kernel_rfl) Tryz.func9
    (ChangeSpec.witness_shaped (enc := enc) (C := Tryz.checked) (os := os) (X := fun w _ => laidMetH Tryz.prog [("dogwatch/pick.none", Rows.laid_dogwatch_pick_none)] w) false (World.doorLaid Tryz.prog 400 os) #[.int .u8 0, .slice none 0 0] 8 rfl (World.shaped_of_RefB (by kernel_rfl) (by kernel_rfl)) (by kernel_rfl) (by kernel_rfl) (by kernel_rfl) (door_met os _)) ?_
  intro W base args ds gs before hval0 hW _ _ hL _
  have hval : ∀ (j : Nat) t v, Tryz.f9.params[j]? = some t → args[j]? = some v → Value.okWide Tryz.prog W .any base t v := hval0
  have hW' := hW
  obtain ⟨p, q, hA0, hV, rfl, hfz, hnd⟩ := hW
  have hA : DataW.TrodAll enc Tryz.prog W 0 (fun _ => true) true Tryz.f9.params.toList args.toList ds p := hA0
  rw [Tryz.params9] at hA hval
  have hN := none_of_laid hL
  obtain ⟨v0, vs0, d0, ds0, p0, q0, hargs, rfl, rfl, h0, r0⟩ := trodAll_cons hA
  obtain ⟨v1, vs1, d1, ds1, p1, q1, rfl, rfl, rfl, h1, r1⟩ := trodAll_cons r0
  obtain ⟨rfl, rfl, rfl⟩ := trodAll_nil r1
  obtain rfl : args = #[v0, v1] := by cases args; simp_all
  obtain ⟨rfl, rfl⟩ := trodVars_none hV
  have k0 := h0
  have lt0 : ∀ x ∈ p0, x.block < W.heap.size := by obtain ⟨m, hm⟩ := k0; exact DataW.trod_lt m _ _ _ hm
  obtain ⟨a0, hv0, w0⟩ : ∃ x, v0 = .int .u8 x ∧ (Lit.int .u8 x).wf = true := by obtain ⟨x, rfl, _, _, wx⟩ := open_int Tryz.underlying5 (hval 0 5 v0 rfl rfl) h0; exact ⟨x, rfl, wx⟩
  subst hv0
  obtain ⟨n0, rfl, hn0⟩ := u8_wf w0
  have k1 := h1
  have lt1 : ∀ x ∈ p1, x.block < W.heap.size := by obtain ⟨m, hm⟩ := k1; exact DataW.trod_lt m _ _ _ hm
  obtain ⟨a1, hs1⟩ := open_ens (hval 1 22 v1 rfl rfl) h1
  clear hA0 hval0 hval
  refine (tfol_any n0 hn0 a1 v1 W hs1 hN).mono fun e W' ⟨he, bel⟩ => ?_
  subst he
  exact ⟨_, rfl, _, _, _, [], _, [], hW', trodAll_mk1 (shut_bool Tryz.underlying4 _), (trodAll_cons_mk (Below.trod laidOut (by kernel_rfl) (of_decide_eq_true (by kernel_rfl)) k0 bel lt0) (trodAll_cons_mk (Below.trod laidOut (by kernel_rfl) (of_decide_eq_true (by kernel_rfl)) k1 bel lt1) trodAll_mk0)), rfl, bel.frame _, fun h => by cases h⟩
theorem f0 : (laidOutB Tryz.checked.prog && mapsRowed Tryz.checked.prog) = true := by kernel_rfl
theorem f1 : (Rows.topFollowsRow.inPlace == Tryz.checked.prog.inPlace 9) = true := by kernel_rfl
theorem f2 : (Rows.topFollowsRow.unfollowed == Tryz.checked.prog.unfollowed 9) = true := by kernel_rfl
theorem f3 : (Rows.topFollowsRow.recurses == Tryz.checked.prog.recurses 9) = true := by kernel_rfl
theorem f4 : (Rows.topFollowsRow.named == Tryz.checked.prog.varsNamed 9) = true := by kernel_rfl
theorem fL : true = Tryz.checked.prog.looks [] := by kernel_rfl
theorem fG : false = Rows.topFollowsRow.goesBy Tryz.checked.prog := by kernel_rfl
theorem fM : Tryz.checked.prog.mainIs = some (true, "c610dd707832d7eaad9da0f2e27ce3f5f221227e15ae277a9fe4264a1cbd9328".toList) := by kernel_rfl
theorem fA (c : Bool) (h : c = true) : (c && laidOutB Tryz.checked.prog && mapsRowed Tryz.checked.prog) = true := by
  have h0 := f0
  rw [Bool.and_eq_true] at h0
  rw [h, h0.1, h0.2]
  rfl
theorem facts : joinedFacts Tryz.checked.prog 9 Tryz.f9 Rows.topFollowsSpec Rows.topFollowsRow = true := by
  unfold joinedFacts
  rw [fA _ (by kernel_rfl), f1, f2, f3, f4]
  kernel_rfl
theorem said : Rows.TopFollowsSaid :=
  OpenClaim.holds_of_wide 9 Tryz.f9 rfl rfl rfl rfl rfl rfl rfl ⟨rfl, rfl, rfl, rfl, rfl⟩ rfl rfl rfl rfl rfl (by kernel_rfl) Tryz.func9 facts
    (of_decide_eq_true (by kernel_rfl)) (by unfold Func.isWrapper; first | (rw [if_pos (by decide +kernel)]; kernel_rfl) | (rw [if_neg (by decide +kernel)]; exact ⟨rfl, rfl⟩))
    (fun os started H enc _ => lifted os started H enc)
theorem proved : Rows.TopFollowsCardSaid :=
  Claim7.holds_tied_plain_at .later [] [.data] true (true, "c610dd707832d7eaad9da0f2e27ce3f5f221227e15ae277a9fe4264a1cbd9328") true
    said (fun _ h => by cases h) (by kernel_rfl) (fun _ h => by cases h) topFollows_row_tie rfl ⟨rfl, rfl⟩ fM rfl
    (fun f fn hf hfn => by
      obtain rfl : f = 9 := Option.some.inj ((show Tryz.prog.funcNamed "dogwatch/dogwatchtop.TopFollows" = some 9 by kernel_rfl).symm.trans hf) |>.symm
      obtain rfl : fn = Tryz.f9 := (Option.some.inj (Tryz.func9.symm.trans hfn)).symm
      exact ⟨fL, fun j t ht => by
        rw [Tryz.params9] at ht
        have hm : t ∈ [5, 22] := by simpa using Array.mem_of_getElem? ht
        have hall : ([5, 22].all fun u => !Tryz.prog.wantsStandIn u) = true := by kernel_rfl
        exact (show Tryz.prog.wantsStandIn t = false by simpa using List.all_eq_true.1 hall t hm)⟩)
    fG
end Go.Proofs.YtcadgecnlahkgaaGreatDoor.topFollows
