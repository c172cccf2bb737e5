/- What the statement's proof stands on, part 38: RWay, RUnp. -/
import Derived.Test.YtjonoojhdifjiaaGreatDoorBb31
import Derived.Test.YtjonoojhdifjiaaGreatDoorBb37
import Derived.Test.YtjonoojhdifjiaaGreatDoorBb27
set_option linter.unusedSimpArgs false
set_option linter.unusedVariables false
set_option maxRecDepth 100000
set_option maxHeartbeats 4000000
namespace Go.Proofs.YtjonoojhdifjiaaGreatDoor
open Go.RowKit Go.Shelf
attribute [local go_sem] Oper.semAt_some unary_neg_float
namespace Dw
open Ieee
end Dw
end Go.Proofs.YtjonoojhdifjiaaGreatDoor
namespace Go.Proofs.YtjonoojhdifjiaaGreatDoor
open Go.RowKit Go.Shelf
attribute [local go_sem] Oper.semAt_some
theorem u8_facts : ∀ k : Fin 256, bits .and .u8 ((k.val : Nat) : Int) 7 = ((k.val % 8 : Nat) : Int) ∧ (bits .and .u8 (((k.val : Nat) : Int) / 8) 1 == 1) = (k.val / 8 % 2 == 1) ∧ (bits .and .u8 (((k.val : Nat) : Int) / 16) 1 == 1) = (k.val / 16 % 2 == 1) := by decide +kernel
theorem runpack_any (n : Nat) (h : n < 18446744073709551616) (w : World) :
    Calls Tryz.prog 44 #[.int .u64 n] w fun e w' => e = .returned (.tuple #[stV (Dw.unP n), .int .i64 (Dw.unE n)]) ∧ Below w.heap.size w w' := by
  have hB := (Below.refl w.heap.size w).alloc (Nat.le_refl _) (.cells Z6 30)
  have hZ := han w (.cells Z6 30)
  have HP := Lib.hid (fun w => rput_any n h w)
  have HLa := Lib.hid (fun w => rat_lat n w)
  have HLo := Lib.hid (fun w => rat_lon n w)
  have HSa := Lib.hid (fun w => rsigned_any (n / 16777216 % 16777216) (Nat.mod_lt _ (by decide)) w)
  have HSo := Lib.hid (fun w => rsigned_any (n % 16777216) (Nat.mod_lt _ (by decide)) w)
  have HLe := Lib.hid (fun w => rlegal_any (Dw.unS n) w)
  have HPk := Lib.hid (fun hl w => rpack_any (Dw.unS n) hl w)
  have HOk := Lib.hid (Dw.unOk_eq n)
  have HE := Lib.hid (show Dw.unE n = if Dw.unOk n then 0 else 13 from rfl)
  have HU := Lib.hid (show Dw.unP n = if Dw.unOk n then Dw.unS n else Dw.st0 from rfl)
  have hl0 : 0 < (Dw.put 8 n).length := by rw [Dw.put_length]; decide
  have hl1 : 1 < (Dw.put 8 n).length := by rw [Dw.put_length]; decide
  have g0 := Dw.put_at 8 n 0 hl0
  have g1 := Dw.put_at 8 n 1 hl1
  have hsz : (⟨(Dw.put 8 n).toArray⟩ : ByteArray).size = 8 := by show (Dw.put 8 n).toArray.size = 8; simp [Dw.put_length]
  have hb0 : (⟨(Dw.put 8 n).toArray⟩ : ByteArray)[0]'(by rw [hsz]; decide) = (Dw.put 8 n)[0] := by
    show (Dw.put 8 n).toArray[0]'(by simp [Dw.put_length]) = _
    simp only [List.getElem_toArray]
  have hb1 : (⟨(Dw.put 8 n).toArray⟩ : ByteArray)[1]'(by rw [hsz]; decide) = (Dw.put 8 n)[1] := by
    show (Dw.put 8 n).toArray[1]'(by simp [Dw.put_length]) = _
    simp only [List.getElem_toArray]
  generalize (Dw.put 8 n)[0] = B0 at *
  generalize (Dw.put 8 n)[1] = B1 at *
  generalize (⟨(Dw.put 8 n).toArray⟩ : ByteArray) = S at *
  rw [show 256 ^ (8 - 1 - 0) = 72057594037927936 from rfl] at g0
  rw [show 256 ^ (8 - 1 - 1) = 281474976710656 from rfl] at g1
  have g0' : B0.toNat = n / 72057594037927936 := by omega
  obtain ⟨f1, f2, f3⟩ := u8_facts ⟨B0.toNat, by omega⟩
  dsimp only at f1 f2 f3
  have e1 : ((B0.toNat % 8 : Nat) : Int) = (Dw.unS n).mo := by rw [g0']; unfold Dw.unS; rfl
  have e2 : (B0.toNat / 8 % 2 == 1) = (Dw.unS n).ar := by rw [g0', Nat.div_div_eq_div_mul, show 72057594037927936 * 8 = 576460752303423488 from by decide]; unfold Dw.unS; rfl
  have e3 : (B0.toNat / 16 % 2 == 1) = (Dw.unS n).ho := by rw [g0', Nat.div_div_eq_div_mul, show 72057594037927936 * 16 = 1152921504606846976 from by decide]; unfold Dw.unS; rfl
  have e4 : Dw.sg24 (n / 16777216 % 16777216) = (Dw.unS n).la := rfl
  have e5 : Dw.sg24 (n % 16777216) = (Dw.unS n).lo := rfl
  have e6 : ((B1.toNat : Nat) : Int) = (Dw.unS n).iso := by rw [g1]; unfold Dw.unS; rfl
  have r1 : 0 ≤ (Dw.unS n).mo ∧ (Dw.unS n).mo ≤ 7 := by rw [← e1]; omega
  have r6 : 0 ≤ (Dw.unS n).iso ∧ (Dw.unS n).iso ≤ 255 := by rw [← e6, g1]; omega
  rw [e1] at f1
  rw [e2] at f2
  rw [e3] at f3
  rw [e4] at HSa
  rw [e5] at HSo
  obtain ⟨U, hU⟩ : ∃ u, Dw.unS n = u := ⟨_, rfl⟩
  rw [hU] at f1 f2 f3 HSa HSo e6 r1 r6 HLe HPk HOk HU
  clear hU g0 g1 g0' e1 e2 e3 e4 e5 hl0 hl1
  obtain ⟨mo, ar, ho, la, lo, iso⟩ := U
  dsimp only at f1 f2 f3 HSa HSo e6 r1 r6
  have w1 : wrap64 mo = mo := IntWalk.wrap64_in _ (by omega)
  have w6 : wrap64 iso = iso := IntWalk.wrap64_in _ (by omega)
  have hl : ∀ X Y, (if (Dw.legal X && Y) = true then (0 : Int) else 13) = (if (Dw.legal X && Y) = true then 0 else 13) := fun _ _ => rfl
  go_enter Tryz.func44, Tryz.ntmps44
  go_wp2_with fail
  refine cb (HP.out _) fun u1 hb => ?_
  replace hZ := kp hb hZ
  replace hB := tr hB hb
  clear hb
  go_wp2_with fail
  refine wp_letter [0,1,2,3,4,5,6,7,8,9,10,11,12,13,14,15,16,17,18,19,20,21,22,23] 24 25 (NewBlock u1 Z6 30) rfl (by kernel_rfl) (by kernel_rfl) rfl (fun v A B h hk => h.keep hk) ?_
  (apply rat; (focus (intro w' hk; (iterate 15 (refine' rv ?_ rfl rfl (by go_simp; first | done | with_reducible rfl | exact rfl); try simp only [Act.put, List.setIfInBounds_toArray, List.set_cons_zero, List.set_cons_succ])); (refine' rc ?_ (by exact rfl) (by exact rfl) (by go_simp; first | done | (constructor <;> with_reducible rfl) | with_reducible rfl) (by exact HLa.out w'); try simp only [Act.put, List.setIfInBounds_toArray, List.set_cons_zero, List.set_cons_succ]); (refine' rc ?_ (by exact rfl) (by exact rfl) (by go_simp; first | done | (constructor <;> with_reducible rfl) | with_reducible rfl) (by exact HSa.out w'); try simp only [Act.put, List.setIfInBounds_toArray, List.set_cons_zero, List.set_cons_succ]); (refine' rv ?_ rfl rfl (by go_simp; first | done | with_reducible rfl | exact rfl); try simp only [Act.put, List.setIfInBounds_toArray, List.set_cons_zero, List.set_cons_succ]); (refine' rc ?_ (by exact rfl) (by exact rfl) (by go_simp; first | done | (constructor <;> with_reducible rfl) | with_reducible rfl) (by exact HLo.out w'); try simp only [Act.put, List.setIfInBounds_toArray, List.set_cons_zero, List.set_cons_succ]); (refine' rc ?_ (by exact rfl) (by exact rfl) (by go_simp; first | done | (constructor <;> with_reducible rfl) | with_reducible rfl) (by exact HSo.out w'); try simp only [Act.put, List.setIfInBounds_toArray, List.set_cons_zero, List.set_cons_succ]); (iterate 4 (refine' rv ?_ rfl rfl (by go_simp; first | done | with_reducible rfl | exact rfl); try simp only [Act.put, List.setIfInBounds_toArray, List.set_cons_zero, List.set_cons_succ])); (exact rn))))
  refine ⟨rfl, sure_new (fun w' _ => by go_simp), ?_⟩
  rintro v W2 hk2 ⟨b, rfl, hb, hbc⟩
  simp only [List.drop_succ_cons, List.drop_zero, List.setIfInBounds_toArray, List.set_cons_zero, List.set_cons_succ]
  have hwb : w.heap.size ≠ b := by have := block_lt hZ; omega
  have hwb2 : w.heap.size ≤ b := by have := hB.size; omega
  replace hZ := kpi hk2 hZ
  replace hB := hB.trans (hk2.whole.mono hB.size)
  have b5 := setRow_heap W2 b _ (stC ⟨mo, ar, ho, la, lo, iso⟩) _ _ hbc
  have hZ5 := (setRow_other W2 b w.heap.size (stC ⟨mo, ar, ho, la, lo, iso⟩) hwb).trans hZ
  have hB5 := below_setRow hB hwb2 (stC ⟨mo, ar, ho, la, lo, iso⟩)
  obtain ⟨W3, hW3⟩ : ∃ W3, W2.setRow b (stC ⟨mo, ar, ho, la, lo, iso⟩) = W3 := ⟨_, rfl⟩
  rw [hW3] at b5 hZ5 hB5
  clear hk2 HP HLa HLo HSa HSo hsz hb0 hb1 hZ hB hl
  refine sb hbc rfl rfl rfl rfl (by kernel_rfl) ?_
  rw [show IntKind.i64.wrap mo = mo from IntWalk.i64_in _ (by omega), show IntKind.i64.wrap iso = iso from IntWalk.i64_in _ (by omega)]
  rw [show W2.setRow b #[.int .i64 mo, .bool ar, .bool ho, .int .i64 la, .int .i64 lo, .int .i64 iso] = W3 from hW3]
  clear hW3
  go_wp2_with (first | (refine lb b5 rfl rfl rfl (by kernel_rfl) ?_) | (refine sb b5 rfl rfl rfl rfl (by kernel_rfl) ?_))
  refine cb (HLe.out _) fun u3 hb' => ?_
  replace hZ5 := kp hb' hZ5
  replace b5 := kp hb' b5
  replace hB5 := hB5.trans (hb'.mono hB5.size)
  clear hb' hbc
  cases hlg : Dw.legal ⟨mo, ar, ho, la, lo, iso⟩
  · have hok : Dw.unOk n = false := by rw [HOk.out, hlg]; rfl
    have hE := HE.out; have hP := HU.out
    rw [hok, if_neg (by decide)] at hE hP
    clear HE HU HOk HPk HLe hok hlg
    go_wp2_with (first | (refine lb hZ5 rfl rfl rfl (by kernel_rfl) ?_) | (refine sb hZ5 rfl rfl rfl rfl (by kernel_rfl) ?_))
    refine bodyPost_ret (rct rfl (srh hZ5) (by rfl) (by kernel_rfl)) rfl ⟨?_, below_setRow hB5 (Nat.le_refl _) _⟩
    rw [hE, hP]
    rfl
  · have HPk := Lib.hid (HPk.out hlg)
    obtain ⟨pk, hpk⟩ : ∃ p, Dw.pack ⟨mo, ar, ho, la, lo, iso⟩ = p := ⟨_, rfl⟩
    rw [hpk] at HPk
    have hok : Dw.unOk n = decide (pk = n) := by rw [HOk.out, hlg, hpk]; rfl
    have hE := HE.out; have hP := HU.out
    rw [hok] at hE hP
    clear HE HU HOk HLe hok hlg hpk
    go_wp2_with (first | (refine wpList_load_block_on rfl 30 _ rfl rfl b5 Tryz.underlying30 rfl (by kernel_rfl) ?_))
    refine cb (HPk.out _) fun u4 hb' => ?_
    replace hZ5 := kp hb' hZ5
    replace b5 := kp hb' b5
    replace hB5 := hB5.trans (hb'.mono hB5.size)
    clear hb' HPk
    by_cases hp : pk = n
    · subst hp
      rw [decide_eq_true rfl, if_pos rfl] at hE hP
      have HE := Lib.hid hE; have HU := Lib.hid hP
      clear hE hP
      go_wp2_with (first | (refine lb b5 rfl rfl rfl (by kernel_rfl) ?_) | (refine sb b5 rfl rfl rfl rfl (by kernel_rfl) ?_) | (refine lb hZ5 rfl rfl rfl (by kernel_rfl) ?_) | (refine sb hZ5 rfl rfl rfl rfl (by kernel_rfl) ?_))
      refine bodyPost_ret (rct rfl (srh hZ5) (by rfl) (by kernel_rfl)) rfl ⟨?_, below_setRow hB5 (Nat.le_refl _) _⟩
      rw [HE.out, HU.out]
      rfl
    · rw [decide_eq_false hp, if_neg (by decide)] at hE hP
      have hpi : ((pk : Int) == (n : Int)) = false := by simp; omega
      have HE := Lib.hid hE; have HU := Lib.hid hP
      clear hE hP
      go_wp2_with (first | (refine lb hZ5 rfl rfl rfl (by kernel_rfl) ?_) | (refine sb hZ5 rfl rfl rfl rfl (by kernel_rfl) ?_))
      refine bodyPost_ret (rct rfl (srh hZ5) (by rfl) (by kernel_rfl)) rfl ⟨?_, below_setRow hB5 (Nat.le_refl _) _⟩
      rw [HE.out, HU.out]
      rfl
end Go.Proofs.YtjonoojhdifjiaaGreatDoor
