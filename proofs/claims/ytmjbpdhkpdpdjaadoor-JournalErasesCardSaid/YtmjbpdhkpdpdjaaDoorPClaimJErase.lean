/- The statement JournalErases: it returns true at every input, and its arguments read as they did; and its tied card: the package's variable is what the program's text lays. -/
import Derived.Test.YtmjbpdhkpdpdjaaDoorPJErase
import Derived.Test.YtmjbpdhkpdpdjaaDoorP21
import Derived.Test.YtmjbpdhkpdpdjaaDoorCards
import Derived.Test.YtmjbpdhkpdpdjaaDoorTie
import Derived.Test.YtmjbpdhkpdpdjaaDoorP22
import Derived.Test.YtmjbpdhkpdpdjaaDoorPCardU64
namespace Go.Proofs.YtmjbpdhkpdpdjaaDoor.journalErases
open Go.ChangeShapes Go.WideShapes Go.ChangeAt Go.RowKit Go.Joins Go.WideElems
open Go.ChangeMaps (open_string shut_string)
theorem door_met (os : Os) (args : Array Value) : laidMetH Tryd.prog [("dogwatch/pick.none", Rows.laid_dogwatch_pick_none)] ((World.doorLaid Tryd.prog 400 os).forCall (fun _ _ => 0) ⟨#[], args, []⟩).memory :=
  laidMetH_of_parts3 (fuel := 8) (laidMet_of_run' 8 (by kernel_rfl) (by kernel_rfl)) (by kernel_rfl) (by kernel_rfl)
set_option maxRecDepth 100000 in
theorem lifted (os : Os) (started : os.Started) (H : Type) (enc : TypeId × Value → H) :
    ReturnsInHanded {} Tryd.checked os 9 .any (fun w args => (Rows.journalErasesSpec.pre enc Tryd.prog Tryd.f9 [] false w args ∧ laidMetH Tryd.prog [("dogwatch/pick.none", Rows.laid_dogwatch_pick_none)] w) ∧ sizedMet enc Tryd.prog Tryd.f9 (OpenSpec.ofChange Rows.journalErasesSpec) false w args)
      (Rows.journalErasesSpec.post enc Tryd.prog Tryd.f9 false true false false) := by
  refine returnsInHanded_of_change_and (C := Tryd.checked) (X := fun w _ => laidMetH Tryd.prog [("dogwatch/pick.none", Rows.laid_dogwatch_pick_none)] w) (fun _ _ _ hh h => h.of_heap hh) own started (by kernel_rfl) Tryd.func9
    (ChangeSpec.witness_shaped (enc := enc) (C := Tryd.checked) (os := os) (X := fun w _ => laidMetH Tryd.prog [("dogwatch/pick.none", Rows.laid_dogwatch_pick_none)] w) false (World.doorLaid Tryd.prog 400 os) #[.int .u8 0, .int .u8 0, .slice none 0 0] 8 rfl (World.shaped_of_RefB (by kernel_rfl) (by kernel_rfl)) (by kernel_rfl) (by kernel_rfl) (by kernel_rfl) (door_met os _)) ?_
  intro W base args ds gs before hval0 hW _ _ hL _
  have hval : ∀ (j : Nat) t v, Tryd.f9.params[j]? = some t → args[j]? = some v → Value.okWide Tryd.prog W .any base t v := hval0
  have hW' := hW
  obtain ⟨p, q, hA0, hV, rfl, hfz, hnd⟩ := hW
  have hA : DataW.TrodAll enc Tryd.prog W 0 (fun _ => true) true Tryd.f9.params.toList args.toList ds p := hA0
  rw [Tryd.params9] at hA hval
  have hN := none_of_laid hL
  obtain ⟨v0, vs0, d0, ds0, p0, q0, hargs, rfl, rfl, h0, r0⟩ := trodAll_cons hA
  obtain ⟨v1, vs1, d1, ds1, p1, q1, rfl, rfl, rfl, h1, r1⟩ := trodAll_cons r0
  obtain ⟨v2, vs2, d2, ds2, p2, q2, rfl, rfl, rfl, h2, r2⟩ := trodAll_cons r1
  obtain ⟨rfl, rfl, rfl⟩ := trodAll_nil r2
  obtain rfl : args = #[v0, v1, v2] := by cases args; simp_all
  obtain ⟨rfl, rfl⟩ := trodVars_none hV
  have k0 := h0
  have lt0 : ∀ x ∈ p0, x.block < W.heap.size := by obtain ⟨m, hm⟩ := k0; exact DataW.trod_lt m _ _ _ hm
  obtain ⟨a0, hv0, w0⟩ : ∃ x, v0 = .int .u8 x ∧ (Lit.int .u8 x).wf = true := by obtain ⟨x, rfl, _, _, wx⟩ := open_int Tryd.underlying5 (hval 0 5 v0 rfl rfl) h0; exact ⟨x, rfl, wx⟩
  subst hv0
  obtain ⟨n0, rfl, hn0⟩ := u8_wf w0
  have k1 := h1
  have lt1 : ∀ x ∈ p1, x.block < W.heap.size := by obtain ⟨m, hm⟩ := k1; exact DataW.trod_lt m _ _ _ hm
  obtain ⟨a1, hv1, w1⟩ : ∃ x, v1 = .int .u8 x ∧ (Lit.int .u8 x).wf = true := by obtain ⟨x, rfl, _, _, wx⟩ := open_int Tryd.underlying5 (hval 1 5 v1 rfl rfl) h1; exact ⟨x, rfl, wx⟩
  subst hv1
  obtain ⟨n1, rfl, hn1⟩ := u8_wf w1
  have k2 := h2
  have lt2 : ∀ x ∈ p2, x.block < W.heap.size := by obtain ⟨m, hm⟩ := k2; exact DataW.trod_lt m _ _ _ hm
  obtain ⟨a2, hs2⟩ := open_u64s (hval 2 57 v2 rfl rfl) h2
  clear hA0 hval0 hval
  refine (jerase_any n0 n1 hn0 hn1 a2 v2 W hs2 hN).mono fun e W' ⟨he, bel⟩ => ?_
  subst he
  exact ⟨_, rfl, _, _, _, [], _, [], hW', trodAll_mk1 (shut_bool Tryd.underlying4 _), (trodAll_cons_mk (Below.trod laidOut (by kernel_rfl) (of_decide_eq_true (by kernel_rfl)) k0 bel lt0) (trodAll_cons_mk (Below.trod laidOut (by kernel_rfl) (of_decide_eq_true (by kernel_rfl)) k1 bel lt1) (trodAll_cons_mk (Below.trod laidOut (by kernel_rfl) (of_decide_eq_true (by kernel_rfl)) k2 bel lt2) trodAll_mk0))), rfl, bel.frame _, fun h => by cases h⟩
theorem said : Rows.JournalErasesSaid :=
  OpenClaim.holds_of_wide 9 Tryd.f9 rfl rfl rfl rfl rfl rfl rfl ⟨rfl, rfl, rfl, rfl, rfl⟩ rfl rfl rfl rfl rfl (by kernel_rfl) Tryd.func9 (by kernel_rfl)
    (of_decide_eq_true (by kernel_rfl)) (by unfold Func.isWrapper; first | (rw [if_pos (by decide +kernel)]; kernel_rfl) | (rw [if_neg (by decide +kernel)]; exact ⟨rfl, rfl⟩))
    (fun os started H enc _ => lifted os started H enc)
theorem proved : Rows.JournalErasesCardSaid :=
  Claim7.holds_tied_plain_at .later [] [.data] true (true, "28462509174e92d7f6f6a2faea921d4cee308187d90f87a0d18c747a0a990e66") true
    said (fun _ h => by cases h) (by kernel_rfl) (fun _ h => by cases h) journalErases_row_tie rfl ⟨rfl, rfl⟩ (by kernel_rfl) rfl
    (fun f fn hf hfn => by
      obtain rfl : f = 9 := Option.some.inj ((show Tryd.prog.funcNamed "dogwatch/dogwatchlaw12.JournalErases" = some 9 by kernel_rfl).symm.trans hf) |>.symm
      obtain rfl : fn = Tryd.f9 := (Option.some.inj (Tryd.func9.symm.trans hfn)).symm
      exact ⟨by kernel_rfl, fun j t ht => by
        rw [Tryd.params9] at ht
        have hm : t ∈ [5, 5, 57] := by simpa using Array.mem_of_getElem? ht
        have hall : ([5, 5, 57].all fun u => !Tryd.prog.wantsStandIn u) = true := by kernel_rfl
        exact (show Tryd.prog.wantsStandIn t = false by simpa using List.all_eq_true.1 hall t hm)⟩)
    (by kernel_rfl)
end Go.Proofs.YtmjbpdhkpdpdjaaDoor.journalErases
