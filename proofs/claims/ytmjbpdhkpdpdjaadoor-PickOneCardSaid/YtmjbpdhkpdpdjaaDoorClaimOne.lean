/- The statement PickOne: it returns true at every input, and its arguments read as they did; and its tied card: the package's variable is what the program's text lays. -/
import Derived.Test.YtmjbpdhkpdpdjaaDoorOne
import Derived.Test.YtmjbpdhkpdpdjaaDoorCard
import Derived.Test.YtmjbpdhkpdpdjaaDoorCards
import Derived.Test.YtmjbpdhkpdpdjaaDoorTie
namespace Go.Proofs.YtmjbpdhkpdpdjaaDoor.pickOne
open Go.ChangeShapes Go.WideShapes Go.ChangeAt Go.RowKit Go.Joins Go.WideElems
open Go.ChangeMaps (open_string shut_string)
theorem door_met (os : Os) (args : Array Value) : laidMetH Tryd.prog [("dogwatch/pick.none", Rows.laid_dogwatch_pick_none)] ((World.doorLaid Tryd.prog 400 os).forCall (fun _ _ => 0) ⟨#[], args, []⟩).memory :=
  laidMetH_of_parts3 (fuel := 8) (laidMet_of_run' 8 (by kernel_rfl) (by kernel_rfl)) (by kernel_rfl) (by kernel_rfl)
set_option maxRecDepth 100000 in
theorem lifted (os : Os) (started : os.Started) (H : Type) (enc : TypeId × Value → H) :
    ReturnsInHanded {} Tryd.checked os 5 .any (fun w args => (Rows.pickOneSpec.pre enc Tryd.prog Tryd.f5 [] false w args ∧ laidMetH Tryd.prog [("dogwatch/pick.none", Rows.laid_dogwatch_pick_none)] w) ∧ sizedMet enc Tryd.prog Tryd.f5 (OpenSpec.ofChange Rows.pickOneSpec) false w args)
      (Rows.pickOneSpec.post enc Tryd.prog Tryd.f5 false true false false) := by
  refine returnsInHanded_of_change_and (C := Tryd.checked) (X := fun w _ => laidMetH Tryd.prog [("dogwatch/pick.none", Rows.laid_dogwatch_pick_none)] w) (fun _ _ _ hh h => h.of_heap hh) own started (by kernel_rfl) Tryd.func5
    (ChangeSpec.witness_shaped (enc := enc) (C := Tryd.checked) (os := os) (X := fun w _ => laidMetH Tryd.prog [("dogwatch/pick.none", Rows.laid_dogwatch_pick_none)] w) false (World.doorLaid Tryd.prog 400 os) #[.int .u64 0, .int .u64 0, .int .u64 0, .int .u64 0, .bool false] 8 rfl (World.shaped_of_RefB (by kernel_rfl) (by kernel_rfl)) (by kernel_rfl) (by kernel_rfl) (by kernel_rfl) (door_met os _)) ?_
  intro W base args ds gs before hval0 hW _ _ hL _
  have hval : ∀ (j : Nat) t v, Tryd.f5.params[j]? = some t → args[j]? = some v → Value.okWide Tryd.prog W .any base t v := hval0
  have hW' := hW
  obtain ⟨p, q, hA0, hV, rfl, hfz, hnd⟩ := hW
  have hA : DataW.TrodAll enc Tryd.prog W 0 (fun _ => true) true Tryd.f5.params.toList args.toList ds p := hA0
  rw [Tryd.params5] at hA hval
  have hN := none_of_laid hL
  obtain ⟨v0, vs0, d0, ds0, p0, q0, hargs, rfl, rfl, h0, r0⟩ := trodAll_cons hA
  obtain ⟨v1, vs1, d1, ds1, p1, q1, rfl, rfl, rfl, h1, r1⟩ := trodAll_cons r0
  obtain ⟨v2, vs2, d2, ds2, p2, q2, rfl, rfl, rfl, h2, r2⟩ := trodAll_cons r1
  obtain ⟨v3, vs3, d3, ds3, p3, q3, rfl, rfl, rfl, h3, r3⟩ := trodAll_cons r2
  obtain ⟨v4, vs4, d4, ds4, p4, q4, rfl, rfl, rfl, h4, r4⟩ := trodAll_cons r3
  obtain ⟨rfl, rfl, rfl⟩ := trodAll_nil r4
  obtain rfl : args = #[v0, v1, v2, v3, v4] := by cases args; simp_all
  obtain ⟨rfl, rfl⟩ := trodVars_none hV
  have k0 := h0
  have lt0 : ∀ x ∈ p0, x.block < W.heap.size := by obtain ⟨m, hm⟩ := k0; exact DataW.trod_lt m _ _ _ hm
  obtain ⟨a0, hv0, w0⟩ : ∃ x, v0 = .int .u64 x ∧ (Lit.int .u64 x).wf = true := by obtain ⟨x, rfl, _, _, wx⟩ := open_int Tryd.underlying30 (hval 0 30 v0 rfl rfl) h0; exact ⟨x, rfl, wx⟩
  subst hv0
  have k1 := h1
  have lt1 : ∀ x ∈ p1, x.block < W.heap.size := by obtain ⟨m, hm⟩ := k1; exact DataW.trod_lt m _ _ _ hm
  obtain ⟨a1, hv1, w1⟩ : ∃ x, v1 = .int .u64 x ∧ (Lit.int .u64 x).wf = true := by obtain ⟨x, rfl, _, _, wx⟩ := open_int Tryd.underlying30 (hval 1 30 v1 rfl rfl) h1; exact ⟨x, rfl, wx⟩
  subst hv1
  have k2 := h2
  have lt2 : ∀ x ∈ p2, x.block < W.heap.size := by obtain ⟨m, hm⟩ := k2; exact DataW.trod_lt m _ _ _ hm
  obtain ⟨a2, hv2, w2⟩ : ∃ x, v2 = .int .u64 x ∧ (Lit.int .u64 x).wf = true := by obtain ⟨x, rfl, _, _, wx⟩ := open_int Tryd.underlying30 (hval 2 30 v2 rfl rfl) h2; exact ⟨x, rfl, wx⟩
  subst hv2
  have k3 := h3
  have lt3 : ∀ x ∈ p3, x.block < W.heap.size := by obtain ⟨m, hm⟩ := k3; exact DataW.trod_lt m _ _ _ hm
  obtain ⟨a3, hv3, w3⟩ : ∃ x, v3 = .int .u64 x ∧ (Lit.int .u64 x).wf = true := by obtain ⟨x, rfl, _, _, wx⟩ := open_int Tryd.underlying30 (hval 3 30 v3 rfl rfl) h3; exact ⟨x, rfl, wx⟩
  subst hv3
  have k4 := h4
  have lt4 : ∀ x ∈ p4, x.block < W.heap.size := by obtain ⟨m, hm⟩ := k4; exact DataW.trod_lt m _ _ _ hm
  obtain ⟨a4, hv4⟩ : ∃ x, v4 = .bool x := by obtain ⟨x, rfl, _⟩ := open_bool Tryd.underlying4 (hval 4 4 v4 rfl rfl) h4; exact ⟨x, rfl⟩
  subst hv4
  clear hA0 hval0 hval
  refine (one_law a0 a1 a2 a3 a4 w0 w1 w2 w3 W hN).mono fun e W' ⟨he, bel⟩ => ?_
  subst he
  exact ⟨_, rfl, _, _, _, [], _, [], hW', trodAll_mk1 (shut_bool Tryd.underlying4 _), (trodAll_cons_mk (Below.trod laidOut (by kernel_rfl) (of_decide_eq_true (by kernel_rfl)) k0 bel lt0) (trodAll_cons_mk (Below.trod laidOut (by kernel_rfl) (of_decide_eq_true (by kernel_rfl)) k1 bel lt1) (trodAll_cons_mk (Below.trod laidOut (by kernel_rfl) (of_decide_eq_true (by kernel_rfl)) k2 bel lt2) (trodAll_cons_mk (Below.trod laidOut (by kernel_rfl) (of_decide_eq_true (by kernel_rfl)) k3 bel lt3) (trodAll_cons_mk (Below.trod laidOut (by kernel_rfl) (of_decide_eq_true (by kernel_rfl)) k4 bel lt4) trodAll_mk0))))), rfl, bel.frame _, fun h => by cases h⟩
theorem said : Rows.PickOneSaid :=
  OpenClaim.holds_of_wide 5 Tryd.f5 rfl rfl rfl rfl rfl rfl rfl ⟨rfl, rfl, rfl, rfl, rfl⟩ rfl rfl rfl rfl rfl (by kernel_rfl) Tryd.func5 (by kernel_rfl)
    (of_decide_eq_true (by kernel_rfl)) (by unfold Func.isWrapper; first | (rw [if_pos (by decide +kernel)]; kernel_rfl) | (rw [if_neg (by decide +kernel)]; exact ⟨rfl, rfl⟩))
    (fun os started H enc _ => lifted os started H enc)
theorem proved : Rows.PickOneCardSaid :=
  Claim7.holds_tied_plain_at .later [] [.data] true (true, "28462509174e92d7f6f6a2faea921d4cee308187d90f87a0d18c747a0a990e66") true
    said (fun _ h => by cases h) (by kernel_rfl) (fun _ h => by cases h) pickOne_row_tie rfl ⟨rfl, rfl⟩ (by kernel_rfl) rfl
    (fun f fn hf hfn => by
      obtain rfl : f = 5 := Option.some.inj ((show Tryd.prog.funcNamed "dogwatch/dogwatchlaw10.PickOne" = some 5 by kernel_rfl).symm.trans hf) |>.symm
      obtain rfl : fn = Tryd.f5 := (Option.some.inj (Tryd.func5.symm.trans hfn)).symm
      exact ⟨by kernel_rfl, fun j t ht => by
        rw [Tryd.params5] at ht
        have hm : t ∈ [30, 30, 30, 30, 4] := by simpa using Array.mem_of_getElem? ht
        have hall : ([30, 30, 30, 30, 4].all fun u => !Tryd.prog.wantsStandIn u) = true := by kernel_rfl
        exact (show Tryd.prog.wantsStandIn t = false by simpa using List.all_eq_true.1 hall t hm)⟩)
    (by kernel_rfl)
end Go.Proofs.YtmjbpdhkpdpdjaaDoor.pickOne
