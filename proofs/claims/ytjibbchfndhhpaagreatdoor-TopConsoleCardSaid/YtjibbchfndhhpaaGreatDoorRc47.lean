/- What the statement's proof stands on, part 47: Con9. -/
import Derived.Test.YtjibbchfndhhpaaGreatDoorRc30
import Derived.Test.YtjibbchfndhhpaaGreatDoorRc15
import Derived.Test.YtjibbchfndhhpaaGreatDoorRcShelf
import Derived.Laws.Runes
import Derived.Laws.RangeString
import Derived.Shelf.Strings.FieldsFuncGrows
import Derived.WalkMore
import Derived.ScopeJumps
set_option linter.unusedSimpArgs false
set_option linter.unusedVariables false
set_option maxRecDepth 100000
set_option maxHeartbeats 4000000
namespace Go.Proofs.YtjibbchfndhhpaaGreatDoor
open Go.RowKit Go.Shelf
attribute [local go_sem] Oper.semAt_some
theorem far_byte (c : Nat) (h : 128 ≤ c) (hc : c < 256) : Lib.indexByte [32] (c : Int).toNat.toUInt8 = -1 ∧ Lib.indexByte [] (c : Int).toNat.toUInt8 = -1 := by
  have : ¬ (32 : UInt8) = c.toUInt8 := fun e => by
    have h2 := congrArg UInt8.toNat e
    simp at h2
    omega
  constructor
  · simp [Lib.indexByte, this]
  · rfl
theorem exec_index {P : Program} {w : World} {o : Oper} {a : Act} {x i : Operand} {t : TypeId} {vs vi v : Value} (h : (Instr.index t vs vi).run P w = .ok v w) (hop : o.op = .index t x i) (hx : a.eval x = vs) (hi : a.eval i = vi) : (execOp a.eval o).run P w = .ok (.value v) w := by
  simp [execOp, hop, hx, hi, h, Result.andThen]
theorem at_str : ∀ w, (Instr.index 9 (.string ⟨#[9, 13, 32]⟩) (.int .i64 1)).run Tryz.prog w = .ok (.int .u8 13) w ∧ (Instr.index 9 (.string ⟨#[9, 13, 32]⟩) (.int .i64 2)).run Tryz.prog w = .ok (.int .u8 32) w := fun w => ⟨by kernel_rfl, by kernel_rfl⟩
theorem rune_far (x : Int) (h0 : 128 ≤ x) (h1 : x ≤ 1114111) (h2 : x ≠ 65533) (w : World) :
    Calls Tryz.prog 36 #[.string ⟨#[9, 13, 32]⟩, .int .i32 x] w fun e w' => e = .returned (.int .i64 (-1)) ∧ Below w.heap.size w w' := by
  have g0 : ¬ x < 128 := by omega
  have g1 : 0 ≤ x := by omega
  have g2 : (x == 65533) = false := by simpa using h2
  have HV := Lib.hid (fun w => Tryz.utf8_ValidRune x w)
  by_cases hv : Lib.validRune x = true
  · have HV2 := Lib.hid (show ∀ w, Calls Tryz.prog 79 #[.int .i32 x] w fun e w' => e = .returned (.bool true) ∧ w' = w from fun w => by rw [← hv]; exact HV.out w)
    have hval : Utf8.valid x = true := by
      unfold Lib.validRune at hv
      unfold Utf8.valid
      simp at hv ⊢
      omega
    obtain ⟨s1, s2, s3⟩ := encode_facts x hval h0
    have s3 := s3 (by omega)
    obtain ⟨c, hc⟩ : ∃ c, ((Utf8.encode x)[(Utf8.encode x).size - 1]'(by omega)).toNat = c := ⟨_, rfl⟩
    have hc2 : c < 256 := by rw [← hc]; exact UInt8.toNat_lt _
    rw [hc] at s3
    obtain ⟨f1, f2⟩ := far_byte c s3 hc2
    have hix : ∀ l : Nat, (Utf8.encode x).size = l + 1 → ∀ w, (Instr.index 9 (.string (Utf8.encode x)) (.int .i64 l)).run Tryz.prog w = .ok (.int .u8 (c : Int)) w := fun l hl w => by
      subst hc
      have e : (Utf8.encode x).size - 1 = l := by omega
      have hl2 : l < (Utf8.encode x).size := by omega
      have e2 : (Utf8.encode x)[(Utf8.encode x).size - 1]'(by omega) = (Utf8.encode x)[l]'hl2 := by congr 1
      rw [e2]
      go_simp
      rw [dif_pos (by omega)]
    have HI1 := Lib.hid (show ∀ w, Calls Tryz.prog 78 #[.string ⟨#[32]⟩, .int .u8 (c : Int)] w fun e w' => e = .returned (.int .i64 (-1)) ∧ Below w.heap.size w w' from fun w => (Tryz.strings_IndexByte ⟨#[32]⟩ (c : Int) w).mono fun e w' h => ⟨by rw [h.1, ← f1], h.2 ▸ Below.refl _ _⟩)
    have HI2 := Lib.hid (show ∀ w, Calls Tryz.prog 78 #[.string ⟨#[]⟩, .int .u8 (c : Int)] w fun e w' => e = .returned (.int .i64 (-1)) ∧ Below w.heap.size w w' from fun w => (Tryz.strings_IndexByte ⟨#[]⟩ (c : Int) w).mono fun e w' h => ⟨by rw [h.1, ← f2], h.2 ▸ Below.refl _ _⟩)
    have n1 : ((13 : Int) != (c : Int)) = true := by simp; omega
    have n2 : ((32 : Int) != (c : Int)) = true := by simp; omega
    have hcase : (Utf8.encode x).size = 1 + 1 ∨ (Utf8.encode x).size = 2 + 1 ∨ (Utf8.encode x).size = 3 + 1 := by omega
    clear HV hv hval hc f1 f2
    rcases hcase with hs | hs | hs
    · have hsz : ((Utf8.encode x).size : Int) = 2 := by omega
      have hi := hix 1 hs
      clear hix s1 s2 s3 hs
      go_enter Tryz.func36, Tryz.ntmps36
      go_wp2_with fail
      refine (HV2.out _).mono ?_
      rintro en w1 ⟨rfl, rfl⟩
      go_wp2_with fail
      go_step3
      go_wp2_with fail
      go_loopw [9] (fun i wr => i = .int .i64 1 ∧ wr = w1) (fun _ _ => 0)
      case atStart => exact ⟨rfl, rfl⟩
      case round =>
        obtain ⟨rfl, rfl⟩ := hrel
        go_wp2_with fail
        go_step3
        go_wp2_with fail
        refine wp_pure [0, 1, 2, 3, 4, 5, 6] 7 (by kernel_rfl) (by kernel_rfl) rfl ?_
        (apply rat; (focus (intro w' hk; (iterate 2 (refine' rv ?_ rfl rfl (by go_simp; first | done | with_reducible rfl | exact rfl); try simp only [Act.put, List.setIfInBounds_toArray, List.set_cons_zero, List.set_cons_succ])); (refine' rv ?_ rfl rfl (by exact exec_index (at_str w').1 rfl rfl rfl); try simp only [Act.put, List.setIfInBounds_toArray, List.set_cons_zero, List.set_cons_succ]); (iterate 2 (refine' rv ?_ rfl rfl (by go_simp; first | done | with_reducible rfl | exact rfl); try simp only [Act.put, List.setIfInBounds_toArray, List.set_cons_zero, List.set_cons_succ])); (refine' rv ?_ rfl rfl (by exact exec_index (hi w') rfl rfl rfl); try simp only [Act.put, List.setIfInBounds_toArray, List.set_cons_zero, List.set_cons_succ]); (refine' rv ?_ rfl rfl (by go_simp; first | done | with_reducible rfl | exact rfl); try simp only [Act.put, List.setIfInBounds_toArray, List.set_cons_zero, List.set_cons_succ]); (exact rn))))
        intro w9 hk9
        simp only [List.drop_succ_cons, List.drop_zero]
        have HK9 := Lib.hid hk9.whole
        clear hk9
        go_wp2_with fail
        refine wp_pure [0, 1, 2, 3, 4, 5, 6, 7] 8 (by kernel_rfl) (by kernel_rfl) rfl ?_
        (apply rat; (focus (intro w' hk; (iterate 6 (refine' rv ?_ rfl rfl (by go_simp; first | done | with_reducible rfl | exact rfl); try simp only [Act.put, List.setIfInBounds_toArray, List.set_cons_zero, List.set_cons_succ])); (refine' rv ?_ rfl rfl (by exact exec_index (hi w') rfl rfl rfl); try simp only [Act.put, List.setIfInBounds_toArray, List.set_cons_zero, List.set_cons_succ]); (refine' rc ?_ (by exact rfl) (by exact rfl) (by go_simp; first | done | (constructor <;> with_reducible rfl) | with_reducible rfl) (by exact HI1.out w'); try simp only [Act.put, List.setIfInBounds_toArray, List.set_cons_zero, List.set_cons_succ]); (exact rn))))
        intro w10 hk10
        simp only [List.drop_succ_cons, List.drop_zero]
        have HK10 := Lib.hid (tr HK9.out hk10.whole)
        clear hk10 HK9
        go_wp2_with fail
        simp (zetaDelta := true) only [Exit.noGoto_ret, Exit.inBlock, Exit.then]
        go_ret
        exact ⟨rfl, HK10.out⟩
    · have hsz : ((Utf8.encode x).size : Int) = 3 := by omega
      have hi := hix 2 hs
      clear hix s1 s2 s3 hs
      go_enter Tryz.func36, Tryz.ntmps36
      go_wp2_with fail
      refine (HV2.out _).mono ?_
      rintro en w1 ⟨rfl, rfl⟩
      go_wp2_with fail
      go_step3
      go_wp2_with fail
      go_loopw [9] (fun i wr => i = .int .i64 2 ∧ wr = w1) (fun _ _ => 0)
      case atStart => exact ⟨rfl, rfl⟩
      case round =>
        obtain ⟨rfl, rfl⟩ := hrel
        go_wp2_with fail
        go_step3
        go_wp2_with fail
        refine wp_pure [0, 1, 2, 3, 4, 5, 6] 7 (by kernel_rfl) (by kernel_rfl) rfl ?_
        (apply rat; (focus (intro w' hk; (iterate 2 (refine' rv ?_ rfl rfl (by go_simp; first | done | with_reducible rfl | exact rfl); try simp only [Act.put, List.setIfInBounds_toArray, List.set_cons_zero, List.set_cons_succ])); (refine' rv ?_ rfl rfl (by exact exec_index (at_str w').2 rfl rfl rfl); try simp only [Act.put, List.setIfInBounds_toArray, List.set_cons_zero, List.set_cons_succ]); (iterate 2 (refine' rv ?_ rfl rfl (by go_simp; first | done | with_reducible rfl | exact rfl); try simp only [Act.put, List.setIfInBounds_toArray, List.set_cons_zero, List.set_cons_succ])); (refine' rv ?_ rfl rfl (by exact exec_index (hi w') rfl rfl rfl); try simp only [Act.put, List.setIfInBounds_toArray, List.set_cons_zero, List.set_cons_succ]); (refine' rv ?_ rfl rfl (by go_simp; first | done | with_reducible rfl | exact rfl); try simp only [Act.put, List.setIfInBounds_toArray, List.set_cons_zero, List.set_cons_succ]); (exact rn))))
        intro w9 hk9
        simp only [List.drop_succ_cons, List.drop_zero]
        have HK9 := Lib.hid hk9.whole
        clear hk9
        go_wp2_with fail
        refine wp_pure [0, 1, 2, 3, 4, 5, 6, 7] 8 (by kernel_rfl) (by kernel_rfl) rfl ?_
        (apply rat; (focus (intro w' hk; (iterate 6 (refine' rv ?_ rfl rfl (by go_simp; first | done | with_reducible rfl | exact rfl); try simp only [Act.put, List.setIfInBounds_toArray, List.set_cons_zero, List.set_cons_succ])); (refine' rv ?_ rfl rfl (by exact exec_index (hi w') rfl rfl rfl); try simp only [Act.put, List.setIfInBounds_toArray, List.set_cons_zero, List.set_cons_succ]); (refine' rc ?_ (by exact rfl) (by exact rfl) (by go_simp; first | done | (constructor <;> with_reducible rfl) | with_reducible rfl) (by exact HI2.out w'); try simp only [Act.put, List.setIfInBounds_toArray, List.set_cons_zero, List.set_cons_succ]); (exact rn))))
        intro w10 hk10
        simp only [List.drop_succ_cons, List.drop_zero]
        have HK10 := Lib.hid (tr HK9.out hk10.whole)
        clear hk10 HK9
        go_wp2_with fail
        simp (zetaDelta := true) only [Exit.noGoto_ret, Exit.inBlock, Exit.then]
        go_ret
        exact ⟨rfl, HK10.out⟩
    · have hsz : ((Utf8.encode x).size : Int) = 4 := by omega
      clear hix s1 s2 s3 hs
      go_enter Tryz.func36, Tryz.ntmps36
      go_wp2_with fail
      refine (HV2.out _).mono ?_
      rintro en w1 ⟨rfl, rfl⟩
      go_wp2_with fail
      go_step3
      go_wp2_with fail
      go_loopw [9] (fun i wr => i = .int .i64 3 ∧ wr = w1) (fun _ _ => 0)
      case atStart => exact ⟨rfl, rfl⟩
      case round =>
        obtain ⟨rfl, rfl⟩ := hrel
        go_wp2_with fail
        rw [Exit.noGoto_ret]
        go_ret
        exact ⟨rfl, Below.refl _ _⟩
  · have HV2 := Lib.hid (show ∀ w, Calls Tryz.prog 79 #[.int .i32 x] w fun e w' => e = .returned (.bool false) ∧ w' = w from fun w => by rw [show false = Lib.validRune x by simpa using hv]; exact HV.out w)
    clear HV hv
    go_enter Tryz.func36, Tryz.ntmps36
    go_wp2_with fail
    refine (HV2.out _).mono ?_
    rintro en w1 ⟨rfl, rfl⟩
    go_wp2_with fail
    go_ret
    exact ⟨rfl, Below.refl _ _⟩
abbrev sBl : ByteArray := ⟨#[9, 13, 32]⟩
def posLeft (g : Nat) (w : World) : Nat := match w.heap[g]? with
  | some (.stringIter _ p) => 4 - p
  | _ => 0
theorem posLeft_iter (w : World) (k : Nat) : posLeft w.heap.size (w.iter sBl k) = 4 - k := by
  unfold posLeft
  rw [World.iter_heap]
theorem rune_bad (w : World) :
    Calls Tryz.prog 36 #[.string sBl, .int .i32 65533] w fun e w' => e = .returned (.int .i64 (-1)) ∧ Below w.heap.size w w' := by
  have n0 : ∀ ty, (Instr.next (.pointer (some ⟨w.heap.size, 0, none⟩)) true ty).run Tryz.prog (w.iter sBl 0) = .ok (.tuple #[.bool true, .int .i64 0, .int .i32 9]) (w.iter sBl 1) := fun ty => run_next_ascii w sBl 0 ty (by decide) (by decide)
  have n1 : ∀ ty, (Instr.next (.pointer (some ⟨w.heap.size, 0, none⟩)) true ty).run Tryz.prog (w.iter sBl 1) = .ok (.tuple #[.bool true, .int .i64 1, .int .i32 13]) (w.iter sBl 2) := fun ty => run_next_ascii w sBl 1 ty (by decide) (by decide)
  have n2 : ∀ ty, (Instr.next (.pointer (some ⟨w.heap.size, 0, none⟩)) true ty).run Tryz.prog (w.iter sBl 2) = .ok (.tuple #[.bool true, .int .i64 2, .int .i32 32]) (w.iter sBl 3) := fun ty => run_next_ascii w sBl 2 ty (by decide) (by decide)
  have n3 : ∀ ty, (Instr.next (.pointer (some ⟨w.heap.size, 0, none⟩)) true ty).run Tryz.prog (w.iter sBl 3) = .ok (.tuple #[.bool false]) (w.iter sBl 3) := fun ty => run_next_end w sBl 3 ty (by decide)
  have HB := Lib.hid (show Below w.heap.size w (w.iter sBl 3) from (Below.refl _ w).alloc (Nat.le_refl _) _)
  have HP := Lib.hid (posLeft_iter w)
  go_enter Tryz.func36, Tryz.ntmps36
  go_wp2_with fail
  go_loopw [] (fun wr => ∃ k : Nat, k ≤ 3 ∧ wr = w.iter sBl k) (fun wr => posLeft w.heap.size wr)
  case atStart => exact ⟨0, by omega, rfl⟩
  case round =>
    obtain ⟨k, hk, rfl⟩ := hrel
    have hk4 : k = 0 ∨ k = 1 ∨ k = 2 ∨ k = 3 := by omega
    rcases hk4 with rfl | rfl | rfl | rfl
    · go_wp2_with fail
      go_roundw
      case rel => exact ⟨1, by omega, rfl⟩
      case measure => rw [HP.out, HP.out]; omega
    · go_wp2_with fail
      go_roundw
      case rel => exact ⟨2, by omega, rfl⟩
      case measure => rw [HP.out, HP.out]; omega
    · go_wp2_with fail
      go_roundw
      case rel => exact ⟨3, by omega, rfl⟩
      case measure => rw [HP.out, HP.out]; omega
    · go_wp2_with fail
      go_ret
      exact ⟨rfl, HB.out⟩
theorem near_all : ∀ x : Nat, x < 128 → decide (0 ≤ Lib.indexByte [9, 13, 32] (x : Int).toNat.toUInt8) = Dw.isB x := by decide
theorem contains_blank (x : Nat) (hx : x ≤ 1114111) (w : World) :
    Calls Tryz.prog 19 #[.string sBl, .int .i32 (x : Int)] w fun e w' => e = .returned (.bool (Dw.isB x)) ∧ Below w.heap.size w w' := by
  by_cases h : x < 128
  · refine (Tryz.strings_ContainsRune_ascii sBl x w (by omega) (by omega)).mono ?_
    rintro e w' ⟨rfl, rfl⟩
    refine ⟨?_, Below.refl _ _⟩
    rw [← near_all x h]
  · have hb : Dw.isB x = false := by unfold Dw.isB; simp; omega
    have HI : ∀ w, Calls Tryz.prog 36 #[.string sBl, .int .i32 (x : Int)] w fun e w' => e = .returned (.int .i64 (-1)) ∧ Below w.heap.size w w' := fun w => by
      by_cases h5 : x = 65533
      · subst h5
        exact rune_bad w
      · exact rune_far x (by omega) (by omega) (by omega) w
    have HI := Lib.hid HI
    rw [hb]
    clear hb h hx
    go_enter Tryz.func19, Tryz.ntmps19
    go_wp2_with fail
    refine (HI.out _).mono ?_
    rintro en w1 ⟨rfl, hB⟩
    have HB := Lib.hid hB
    clear hB
    go_wp2_with fail
    go_ret
    exact ⟨rfl, HB.out⟩
theorem blankG_any (w : World) : PredGrows Tryz.prog 18 #[] Dw.isB w := fun W x hx _ => by
  have HC := Lib.hid (fun w => contains_blank x hx w)
  show Calls Tryz.prog 18 #[.int .i32 (x : Int)] W _
  go_enter Tryz.func18, Tryz.ntmps18
  go_wp2_with fail
  refine (HC.out _).mono ?_
  rintro en w1 ⟨rfl, hB⟩
  have HB := Lib.hid hB
  clear hB
  go_wp2_with fail
  go_ret
  exact ⟨rfl, HB.out⟩
theorem words_any (l : List UInt8) (hl : l.length ≤ 1000000) (w : World) :
    Calls Tryz.prog 17 #[.string ⟨l.toArray⟩, .func (.func 18) #[] #[]] w fun e w' => ∃ v, e = .returned v ∧ w'.ownsRow w.heap.size 9 1 v (Dw.wordsL l).length ((Dw.wordsL l).map fun s => Value.string ⟨s.toArray⟩) ∧ Below w.heap.size w w' := by
  refine (Any.strings_FieldsFunc_grows Tryz.lays229 18 #[] (fun args w => by go_simp) Dw.isB ⟨l.toArray⟩ w (by show l.toArray.size ≤ _; simp; omega) (blankG_any w) (by kernel_rfl) (by kernel_rfl)).mono ?_
  rintro e w' ⟨A, rfl, -, ho, hb⟩
  refine ⟨_, rfl, ?_, hb⟩
  have e1 : (Dw.wordsL l).length = (Lib.goFieldsP Dw.isB ⟨l.toArray⟩).length := by unfold Dw.wordsL; rw [List.length_map]
  have e2 : ((Dw.wordsL l).map fun s => Value.string ⟨s.toArray⟩) = (Lib.goFieldsP Dw.isB ⟨l.toArray⟩).map Value.string := by
    unfold Dw.wordsL
    rw [List.map_map]
    exact List.map_congr_left fun _ _ => rfl
  rw [e1, e2]
  exact ho
end Go.Proofs.YtjibbchfndhhpaaGreatDoor
