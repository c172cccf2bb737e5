/- What the statement's proof stands on, part 35: Delta. -/
import Derived.Test.YtjibbchfndhhpaaGreatDoorRc34
import Derived.Test.YtjibbchfndhhpaaGreatDoorRc29
set_option linter.unusedSimpArgs false
set_option linter.unusedVariables false
set_option maxRecDepth 100000
set_option maxHeartbeats 4000000
namespace Go.Proofs.YtjibbchfndhhpaaGreatDoor
open Go.RowKit Go.Shelf
attribute [local go_sem] Oper.semAt_some
theorem delta_any (s : Dw.St) (hi : 0 ≤ s.iso ∧ s.iso ≤ 15) (c : Dw.Cmd) (hla : c.la < 18446744073709551616) (hlo : c.lo < 18446744073709551616) (w : World) :
    Calls Tryz.prog 53 #[stV s, cmV c] w fun e w' => e = .returned (.tuple #[stV (Dw.deltaS s c), .int .i64 (Dw.deltaE s c)]) ∧ Below w.heap.size w w' := by
  by_cases h1 : c.ki = 1
  · exact delta_go s hi c h1 w
  by_cases h2 : c.ki = 2
  · exact delta_arm s hi c h2 w
  by_cases h3 : c.ki = 3
  · have e1 : Dw.deltaE s c = Dw.disarmE s := by unfold Dw.deltaE; rw [if_neg h1, if_neg h2, if_pos h3]
    have e2 : Dw.deltaS s c = if Dw.disarmE s = 0 then { s with ar := false, mo := 0 } else s := by unfold Dw.deltaS; rw [e1]; unfold Dw.deltaT; rw [if_neg h1, if_neg h2, if_pos h3]
    rw [e1, e2]
    exact delta_core s c 89 2 _ _ w (fun args w => by go_simp) (fun g => by rw [h3]; rfl) (fun g w' hg => disarm_any s c g w' hg)
  by_cases h4 : c.ki = 4
  · have e1 : Dw.deltaE s c = Dw.homeE c := by unfold Dw.deltaE; rw [if_neg h1, if_neg h2, if_neg h3, if_pos h4]
    have e2 : Dw.deltaS s c = if Dw.homeE c = 0 then { s with ho := true, la := Dw.fixV c.la, lo := Dw.fixV c.lo } else s := by unfold Dw.deltaS; rw [e1]; unfold Dw.deltaT; rw [if_neg h1, if_neg h2, if_neg h3, if_pos h4]
    rw [e1, e2]
    exact delta_core s c 90 3 _ _ w (fun args w => by go_simp) (fun g => by rw [h4]; rfl) (fun g w' hg => chome_any s c hla hlo g w' hg)
  by_cases h5 : c.ki = 5
  · have e1 : Dw.deltaE s c = Dw.isoE s c.n := by unfold Dw.deltaE; rw [if_neg h1, if_neg h2, if_neg h3, if_neg h4, if_pos h5]
    have e2 : Dw.deltaS s c = if Dw.isoE s c.n = 0 then { s with iso := Dw.setOn s.iso c.n } else s := by unfold Dw.deltaS; rw [e1]; unfold Dw.deltaT; rw [if_neg h1, if_neg h2, if_neg h3, if_neg h4, if_pos h5]
    rw [e1, e2]
    exact delta_core s c 91 4 _ _ w (fun args w => by go_simp) (fun g => by rw [h5]; rfl) (fun g w' hg => sensor5_any s hi c h5 g w' hg)
  by_cases h6 : c.ki = 6
  · have e1 : Dw.deltaE s c = Dw.resE c.n := by unfold Dw.deltaE; rw [if_neg h1, if_neg h2, if_neg h3, if_neg h4, if_neg h5, if_pos h6]
    have e2 : Dw.deltaS s c = if Dw.resE c.n = 0 then { s with iso := Dw.setOff s.iso c.n } else s := by unfold Dw.deltaS; rw [e1]; unfold Dw.deltaT; rw [if_neg h1, if_neg h2, if_neg h3, if_neg h4, if_neg h5]
    rw [e1, e2]
    exact delta_core s c 91 5 _ _ w (fun args w => by go_simp) (fun g => by rw [h6]; rfl) (fun g w' hg => sensor6_any s hi c h6 g w' hg)
  · have e1 : Dw.deltaE s c = 1 := by unfold Dw.deltaE; rw [if_neg h1, if_neg h2, if_neg h3, if_neg h4, if_neg h5, if_neg h6]
    have e2 : Dw.deltaS s c = s := by unfold Dw.deltaS; rw [e1, if_neg (by decide)]
    rw [e1, e2]
    refine delta_none s c w (fun g => ?_)
    obtain ⟨ki, n, la, lo⟩ := c
    dsimp only at h1 h2 h3 h4 h5 h6
    have q : ∀ k : Int, ki ≠ k → ∀ (v : Value) (b : Nat) (r : List MapEntry) (i : Nat), Instr.findNow (.int .i64) (.int .i64 ki) ({ key := .int .i64 k, val := v, born := b } :: r) i = Instr.findNow (.int .i64) (.int .i64 ki) r (i + 1) := fun k hk v b r i => by
      have hs : Instr.sameNow (.int .i64) (.int .i64 ki) (.int .i64 k) = some false := by simp [Instr.sameNow, hk]
      simp [Instr.findNow, hs]
    show Instr.findNow (.int .i64) (.int .i64 ki) [ent g 1 _ 0, ent g 2 _ 1, ent g 3 _ 2, ent g 4 _ 3, ent g 5 _ 4, ent g 6 _ 5] 0 = _
    rw [q 1 h1, q 2 h2, q 3 h3, q 4 h4, q 5 h5, q 6 h6]
    rfl
end Go.Proofs.YtjibbchfndhhpaaGreatDoor
