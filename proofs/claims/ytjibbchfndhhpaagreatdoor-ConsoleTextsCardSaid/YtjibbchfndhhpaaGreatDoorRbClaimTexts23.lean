/- The statement ConsoleTexts: it returns true at every input, and its arguments read as they did; and its tied card: the package's variable is what the program's text lays. -/
import Derived.Test.YtjibbchfndhhpaaGreatDoorRb47
import Derived.Test.YtjibbchfndhhpaaGreatDoorRb27
import Derived.Test.YtjibbchfndhhpaaGreatDoorCards
import Derived.Test.YtjibbchfndhhpaaGreatDoorTie
import Derived.Test.YtjibbchfndhhpaaGreatDoorRb48
import Derived.Test.YtjibbchfndhhpaaGreatDoorRb34
set_option linter.unusedSimpArgs false
set_option linter.unusedVariables false
set_option maxRecDepth 100000
set_option maxHeartbeats 4000000
namespace Go.Proofs.YtjibbchfndhhpaaGreatDoor.consoleTexts
open Go.ChangeShapes Go.WideShapes Go.ChangeAt Go.RowKit Go.Joins Go.WideElems
open Go.ChangeMaps (open_string shut_string)
theorem lifted (os : Os) (started : os.Started) (H : Type) (enc : TypeId × Value → H) :
    ReturnsInHanded {} Tryz.checked os 4 .any (fun w args => (Rows.consoleTextsSpec.pre enc Tryz.prog Tryz.f4 [] false w args ∧ laidMetH Tryz.prog laid23 w) ∧ sizedMet enc Tryz.prog Tryz.f4 (OpenSpec.ofChange Rows.consoleTextsSpec) false w args)
      (Rows.consoleTextsSpec.post enc Tryz.prog Tryz.f4 false true false false) := by
  refine returnsInHanded_of_change_and (C := Tryz.checked) (X := fun w _ => laidMetH Tryz.prog laid23 w) (fun _ _ _ hh h => h.of_heap hh) own started (by kernel_rfl) Tryz.func4
    (ChangeSpec.witness_shaped (enc := enc) (C := Tryz.checked) (os := os) (X := fun w _ => laidMetH Tryz.prog laid23 w) false (World.laidAll Tryz.prog os laid23) #[.string ByteArray.empty, .agg #[.int .i64 0, .bool false, .bool false, .int .i64 0, .int .i64 0, .int .i64 0]] 8 (World.laidAll_os _ _ _) (World.shaped_of_ZipB (by kernel_rfl) (by kernel_rfl)) (by kernel_rfl) (by kernel_rfl) (by kernel_rfl) (met23 os _)) ?_
  intro W base args ds gs before hval0 hW _ _ hL _
  have hval : ∀ (j : Nat) t v, Tryz.f4.params[j]? = some t → args[j]? = some v → Value.okWide Tryz.prog W .any base t v := hval0
  have hW' := hW
  obtain ⟨p, q, hA0, hV, rfl, hfz, hnd⟩ := hW
  have hA : DataW.TrodAll enc Tryz.prog W 0 (fun _ => true) true Tryz.f4.params.toList args.toList ds p := hA0
  rw [Tryz.params4] at hA hval
  have hN := con_of_laid hL
  obtain ⟨v0, vs0, d0, ds0, p0, q0, hargs, rfl, rfl, h0, r0⟩ := trodAll_cons hA
  obtain ⟨v1, vs1, d1, ds1, p1, q1, rfl, rfl, rfl, h1, r1⟩ := trodAll_cons r0
  obtain ⟨rfl, rfl, rfl⟩ := trodAll_nil r1
  obtain rfl : args = #[v0, v1] := by cases args; simp_all
  obtain ⟨rfl, rfl⟩ := trodVars_none hV
  have k0 := h0
  have lt0 : ∀ x ∈ p0, x.block < W.heap.size := by obtain ⟨m, hm⟩ := k0; exact DataW.trod_lt m _ _ _ hm
  obtain ⟨a0, hv0, w0⟩ : ∃ x : ByteArray, v0 = .string x ∧ x.size ≤ maxLen := by obtain ⟨x, rfl, _, _, wx⟩ := open_string Tryz.underlying9 (hval 0 9 v0 rfl rfl) h0; exact ⟨x, rfl, wx⟩
  subst hv0
  have k1 := h1
  have lt1 : ∀ x ∈ p1, x.block < W.heap.size := by obtain ⟨m, hm⟩ := k1; exact DataW.trod_lt m _ _ _ hm
  obtain ⟨a1, hv1⟩ := open_st20 (hval 1 28 v1 rfl rfl) h1
  subst hv1
  clear hA0 hval0 hval
  refine (ctexts_any a0.data.toList a1 W hN).mono fun e W' ⟨he, bel⟩ => ?_
  subst he
  exact ⟨_, rfl, _, _, _, [], _, [], hW', trodAll_mk1 (shut_bool Tryz.underlying4 _), (trodAll_cons_mk (Below.trod laidOut (by kernel_rfl) (of_decide_eq_true (by kernel_rfl)) k0 bel lt0) (trodAll_cons_mk (Below.trod laidOut (by kernel_rfl) (of_decide_eq_true (by kernel_rfl)) k1 bel lt1) trodAll_mk0)), rfl, bel.frame _, fun h => by cases h⟩
theorem f0 : (laidOutB Tryz.checked.prog && mapsRowed Tryz.checked.prog) = true := by kernel_rfl
theorem f1 : (Rows.consoleTextsRow.inPlace == Tryz.checked.prog.inPlace 4) = true := by kernel_rfl
theorem f2 : (Rows.consoleTextsRow.unfollowed == Tryz.checked.prog.unfollowed 4) = true := by kernel_rfl
theorem f3 : (Rows.consoleTextsRow.recurses == Tryz.checked.prog.recurses 4) = true := by kernel_rfl
theorem f4 : (Rows.consoleTextsRow.named == Tryz.checked.prog.varsNamed 4) = true := by kernel_rfl
theorem fL : true = Tryz.checked.prog.looks [] := by kernel_rfl
theorem fG : false = Rows.consoleTextsRow.goesBy Tryz.checked.prog := by kernel_rfl
theorem fM : Tryz.checked.prog.mainIs = some (true, "3430a7c181c53345ac93b8d53f5de9208a12b46270a7af8382ef07a1a93a066b".toList) := by kernel_rfl
theorem fA (c : Bool) (h : c = true) : (c && laidOutB Tryz.checked.prog && mapsRowed Tryz.checked.prog) = true := by
  have h0 := f0
  rw [Bool.and_eq_true] at h0
  rw [h, h0.1, h0.2]
  rfl
theorem facts : joinedFacts Tryz.checked.prog 4 Tryz.f4 Rows.consoleTextsSpec Rows.consoleTextsRow = true := by
  unfold joinedFacts
  rw [fA _ (by kernel_rfl), f1, f2, f3, f4]
  kernel_rfl
theorem said : Rows.ConsoleTextsSaid :=
  OpenClaim.holds_of_wide 4 Tryz.f4 rfl rfl rfl rfl rfl rfl rfl ⟨rfl, rfl, rfl, rfl, rfl⟩ rfl rfl rfl rfl rfl (by kernel_rfl) Tryz.func4 facts
    (of_decide_eq_true (by kernel_rfl)) (by unfold Func.isWrapper; first | (rw [if_pos (by decide +kernel)]; kernel_rfl) | (rw [if_neg (by decide +kernel)]; exact ⟨rfl, rfl⟩))
    (fun os started H enc _ => lifted os started H enc)
theorem proved : Rows.ConsoleTextsCardSaid :=
  Claim7.holds_tied_plain_at .later [] [.data, .data, .data, .data, .sentinel, .sentinel, .data, .pinned] true (true, "3430a7c181c53345ac93b8d53f5de9208a12b46270a7af8382ef07a1a93a066b") true
    said (fun _ h => by cases h) (by kernel_rfl) (fun _ h => by cases h) consoleTexts_row_tie rfl ⟨rfl, rfl⟩ fM rfl
    (fun f fn hf hfn => by
      obtain rfl : f = 4 := Option.some.inj ((show Tryz.prog.funcNamed "dogwatch/dogwatchlaw23.ConsoleTexts" = some 4 by kernel_rfl).symm.trans hf) |>.symm
      obtain rfl : fn = Tryz.f4 := (Option.some.inj (Tryz.func4.symm.trans hfn)).symm
      exact ⟨fL, fun j t ht => by
        rw [Tryz.params4] at ht
        have hm : t ∈ [9, 28] := by simpa using Array.mem_of_getElem? ht
        have hall : ([9, 28].all fun u => !Tryz.prog.wantsStandIn u) = true := by kernel_rfl
        exact (show Tryz.prog.wantsStandIn t = false by simpa using List.all_eq_true.1 hall t hm)⟩)
    fG
end Go.Proofs.YtjibbchfndhhpaaGreatDoor.consoleTexts
