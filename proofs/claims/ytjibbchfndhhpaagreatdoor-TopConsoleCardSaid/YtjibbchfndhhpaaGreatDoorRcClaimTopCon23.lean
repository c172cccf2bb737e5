/- The statement TopConsole: it returns true at every input, and its arguments read as they did; and its tied card: the package's variable is what the program's text lays. -/
import Derived.Test.YtjibbchfndhhpaaGreatDoorRc50
import Derived.Test.YtjibbchfndhhpaaGreatDoorRc31
import Derived.Test.YtjibbchfndhhpaaGreatDoorCards
import Derived.Test.YtjibbchfndhhpaaGreatDoorTie
import Derived.Test.YtjibbchfndhhpaaGreatDoorRc51
import Derived.Test.YtjibbchfndhhpaaGreatDoorRc37
set_option linter.unusedSimpArgs false
set_option linter.unusedVariables false
set_option maxRecDepth 100000
set_option maxHeartbeats 4000000
namespace Go.Proofs.YtjibbchfndhhpaaGreatDoor.topConsole
open Go.ChangeShapes Go.WideShapes Go.ChangeAt Go.RowKit Go.Joins Go.WideElems
open Go.ChangeMaps (open_string shut_string)
theorem lifted (os : Os) (started : os.Started) (H : Type) (enc : TypeId × Value → H) :
    ReturnsInHanded {} Tryz.checked os 3 .any (fun w args => (Rows.topConsoleSpec.pre enc Tryz.prog Tryz.f3 [] false w args ∧ laidMetH Tryz.prog laid23 w) ∧ sizedMet enc Tryz.prog Tryz.f3 (OpenSpec.ofChange Rows.topConsoleSpec) false w args)
      (Rows.topConsoleSpec.post enc Tryz.prog Tryz.f3 false true false false) := by
  refine returnsInHanded_of_change_and (C := Tryz.checked) (X := fun w _ => laidMetH Tryz.prog laid23 w) (fun _ _ _ hh h => h.of_heap hh) own started (by kernel_rfl) Tryz.func3
    (ChangeSpec.witness_shaped (enc := enc) (C := Tryz.checked) (os := os) (X := fun w _ => laidMetH Tryz.prog laid23 w) false (World.laidAll Tryz.prog os laid23) #[.int .u8 0, .int .u8 0, .bool false] 8 (World.laidAll_os _ _ _) (World.shaped_of_ZipB (by kernel_rfl) (by kernel_rfl)) (by kernel_rfl) (by kernel_rfl) (by kernel_rfl) (met23 os _)) ?_
  intro W base args ds gs before hval0 hW _ _ hL _
  have hval : ∀ (j : Nat) t v, Tryz.f3.params[j]? = some t → args[j]? = some v → Value.okWide Tryz.prog W .any base t v := hval0
  have hW' := hW
  obtain ⟨p, q, hA0, hV, rfl, hfz, hnd⟩ := hW
  have hA : DataW.TrodAll enc Tryz.prog W 0 (fun _ => true) true Tryz.f3.params.toList args.toList ds p := hA0
  rw [Tryz.params3] at hA hval
  have hN := con_of_laid hL
  obtain ⟨v0, vs0, d0, ds0, p0, q0, hargs, rfl, rfl, h0, r0⟩ := trodAll_cons hA
  obtain ⟨v1, vs1, d1, ds1, p1, q1, rfl, rfl, rfl, h1, r1⟩ := trodAll_cons r0
  obtain ⟨v2, vs2, d2, ds2, p2, q2, rfl, rfl, rfl, h2, r2⟩ := trodAll_cons r1
  obtain ⟨rfl, rfl, rfl⟩ := trodAll_nil r2
  obtain rfl : args = #[v0, v1, v2] := by cases args; simp_all
  obtain ⟨rfl, rfl⟩ := trodVars_none hV
  have k0 := h0
  have lt0 : ∀ x ∈ p0, x.block < W.heap.size := by obtain ⟨m, hm⟩ := k0; exact DataW.trod_lt m _ _ _ hm
  obtain ⟨a0, hv0, w0⟩ : ∃ x, v0 = .int .u8 x ∧ (Lit.int .u8 x).wf = true := by obtain ⟨x, rfl, _, _, wx⟩ := open_int Tryz.underlying5 (hval 0 5 v0 rfl rfl) h0; exact ⟨x, rfl, wx⟩
  subst hv0
  obtain ⟨n0, rfl, hn0⟩ := u8_wf w0
  have k1 := h1
  have lt1 : ∀ x ∈ p1, x.block < W.heap.size := by obtain ⟨m, hm⟩ := k1; exact DataW.trod_lt m _ _ _ hm
  obtain ⟨a1, hv1, w1⟩ : ∃ x, v1 = .int .u8 x ∧ (Lit.int .u8 x).wf = true := by obtain ⟨x, rfl, _, _, wx⟩ := open_int Tryz.underlying5 (hval 1 5 v1 rfl rfl) h1; exact ⟨x, rfl, wx⟩
  subst hv1
  obtain ⟨n1, rfl, hn1⟩ := u8_wf w1
  have k2 := h2
  have lt2 : ∀ x ∈ p2, x.block < W.heap.size := by obtain ⟨m, hm⟩ := k2; exact DataW.trod_lt m _ _ _ hm
  obtain ⟨a2, hv2⟩ : ∃ x, v2 = .bool x := by obtain ⟨x, rfl, _⟩ := open_bool Tryz.underlying4 (hval 2 4 v2 rfl rfl) h2; exact ⟨x, rfl⟩
  subst hv2
  clear hA0 hval0 hval
  refine (tcon_any n0 n1 hn0 hn1 a2 W hN).mono fun e W' ⟨he, bel⟩ => ?_
  subst he
  exact ⟨_, rfl, _, _, _, [], _, [], hW', trodAll_mk1 (shut_bool Tryz.underlying4 _), (trodAll_cons_mk (Below.trod laidOut (by kernel_rfl) (of_decide_eq_true (by kernel_rfl)) k0 bel lt0) (trodAll_cons_mk (Below.trod laidOut (by kernel_rfl) (of_decide_eq_true (by kernel_rfl)) k1 bel lt1) (trodAll_cons_mk (Below.trod laidOut (by kernel_rfl) (of_decide_eq_true (by kernel_rfl)) k2 bel lt2) trodAll_mk0))), rfl, bel.frame _, fun h => by cases h⟩
theorem f0 : (laidOutB Tryz.checked.prog && mapsRowed Tryz.checked.prog) = true := by kernel_rfl
theorem f1 : (Rows.topConsoleRow.inPlace == Tryz.checked.prog.inPlace 3) = true := by kernel_rfl
theorem f2 : (Rows.topConsoleRow.unfollowed == Tryz.checked.prog.unfollowed 3) = true := by kernel_rfl
theorem f3 : (Rows.topConsoleRow.recurses == Tryz.checked.prog.recurses 3) = true := by kernel_rfl
theorem f4 : (Rows.topConsoleRow.named == Tryz.checked.prog.varsNamed 3) = true := by kernel_rfl
theorem fL : true = Tryz.checked.prog.looks [] := by kernel_rfl
theorem fG : false = Rows.topConsoleRow.goesBy Tryz.checked.prog := by kernel_rfl
theorem fM : Tryz.checked.prog.mainIs = some (true, "3430a7c181c53345ac93b8d53f5de9208a12b46270a7af8382ef07a1a93a066b".toList) := by kernel_rfl
theorem fA (c : Bool) (h : c = true) : (c && laidOutB Tryz.checked.prog && mapsRowed Tryz.checked.prog) = true := by
  have h0 := f0
  rw [Bool.and_eq_true] at h0
  rw [h, h0.1, h0.2]
  rfl
theorem facts : joinedFacts Tryz.checked.prog 3 Tryz.f3 Rows.topConsoleSpec Rows.topConsoleRow = true := by
  unfold joinedFacts
  rw [fA _ (by kernel_rfl), f1, f2, f3, f4]
  kernel_rfl
theorem said : Rows.TopConsoleSaid :=
  OpenClaim.holds_of_wide 3 Tryz.f3 rfl rfl rfl rfl rfl rfl rfl ⟨rfl, rfl, rfl, rfl, rfl⟩ rfl rfl rfl rfl rfl (by kernel_rfl) Tryz.func3 facts
    (of_decide_eq_true (by kernel_rfl)) (by unfold Func.isWrapper; first | (rw [if_pos (by decide +kernel)]; kernel_rfl) | (rw [if_neg (by decide +kernel)]; exact ⟨rfl, rfl⟩))
    (fun os started H enc _ => lifted os started H enc)
theorem proved : Rows.TopConsoleCardSaid :=
  Claim7.holds_tied_plain_at .later [] [.data, .data, .data, .data, .sentinel, .sentinel, .data, .pinned] true (true, "3430a7c181c53345ac93b8d53f5de9208a12b46270a7af8382ef07a1a93a066b") true
    said (fun _ h => by cases h) (by kernel_rfl) (fun _ h => by cases h) topConsole_row_tie rfl ⟨rfl, rfl⟩ fM rfl
    (fun f fn hf hfn => by
      obtain rfl : f = 3 := Option.some.inj ((show Tryz.prog.funcNamed "dogwatch/dogwatchtop.TopConsole" = some 3 by kernel_rfl).symm.trans hf) |>.symm
      obtain rfl : fn = Tryz.f3 := (Option.some.inj (Tryz.func3.symm.trans hfn)).symm
      exact ⟨fL, fun j t ht => by
        rw [Tryz.params3] at ht
        have hm : t ∈ [5, 5, 4] := by simpa using Array.mem_of_getElem? ht
        have hall : ([5, 5, 4].all fun u => !Tryz.prog.wantsStandIn u) = true := by kernel_rfl
        exact (show Tryz.prog.wantsStandIn t = false by simpa using List.all_eq_true.1 hall t hm)⟩)
    fG
end Go.Proofs.YtjibbchfndhhpaaGreatDoor.topConsole
