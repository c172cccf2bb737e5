/- Layer 7: the reference's Body. -/
import Derived.Test.YtaniehjhmjecjaaGreatDoorPRPut
import Derived.Test.YtaniehjhmjecjaaGreatDoorPRegionV
import Derived.Test.YtaniehjhmjecjaaGreatDoorP6
namespace Go.Proofs.YtaniehjhmjecjaaGreatDoor
open Go.RowKit Go.Shelf
attribute [local go_sem] Oper.semAt_some

set_option maxRecDepth 100000 in
set_option maxHeartbeats 2000000 in
theorem rbody_any (k q d : Nat) (hk : k < 256) (hq : q < 18446744073709551616) (hd : d < 18446744073709551616) (w : World) :
    Calls Tryz.prog 102 #[.agg #[.int .i64 k, .int .u64 q, .int .u64 d]] w fun e w' => e = .returned (.string ⟨(Dw.body k q d).toArray⟩) ∧ Below w.heap.size w w' := by
  have hB := (Below.refl w.heap.size w).alloc (Nat.le_refl _) (.cells #[.int .i64 k, .int .u64 q, .int .u64 d] 88)
  have hF := heap_alloc_new w (.cells #[.int .i64 k, .int .u64 q, .int .u64 d] 88)
  obtain ⟨c0, c1, c2⟩ := cells3 hF
  have hkb : IntKind.u8.wrap (k : Int) = (k : Int) := by rw [IntKind.wrap_u8']; omega
  have Hbody := Lib.hid (show Dw.body k q d = Dw.head k q d ++ Dw.put 4 (Dw.rev4 (Dw.sum (Dw.head k q d))) from rfl)
  have Hhead := Lib.hid (show Dw.head k q d = [165, UInt8.ofNat k] ++ (Dw.put 8 q ++ Dw.put 8 d) from rfl)
  have Hhl := Lib.hid (Dw.head_length k q d)
  have hsl : Dw.sum (Dw.head k q d) < 4294967296 := Dw.sum_lt _
  have HP1 := Lib.hid (fun w => rput_any q hq w)
  have HP2 := Lib.hid (fun w => rput_any d hd w)
  have l1 : (Dw.put 8 q).length = 8 := Dw.put_length 8 q
  have l2 : (Dw.put 8 d).length = 8 := Dw.put_length 8 d
  have hk8 : ((UInt8.ofNat k).toNat : Int) = (k : Int) := by rw [UInt8.toNat_ofNat']; omega
  generalize Dw.put 8 q = Q at *
  generalize Dw.put 8 d = D at *
  generalize hkk : UInt8.ofNat k = kb at *
  clear hkk hq hd
  have HK8 := Lib.hid hk8
  clear hk8
  go_enter Tryz.func102, Tryz.ntmps102
  go_wp2_with fail
  generalize w.alloc _ = W at *
  refine wp_letterM [0, 1, 2, 5, 6, 7, 9, 10, 11] 3 [4, 8, 12] 13 (some 7) (NewRow W #[.int .u8 165, .int .u8 (k : Int)] 5) rfl rfl (by kernel_rfl) (by kernel_rfl) (by kernel_rfl) rfl (fun v A B h hk => h.keep hk) ?_
  (refine pl_value (v := ?_) rfl rfl ?_ ?_; rotate_left 1; (focus (intro w' hk; have x0 := look hk c0; have x1 := look hk c1; have x2 := look hk c2; go_simp; (first | done | with_reducible rfl | exact rfl))); (try simp only [Act.put, List.setIfInBounds_toArray, List.set_cons_zero, List.set_cons_succ]))
  (refine pl_value (v := ?_) rfl rfl ?_ ?_; rotate_left 1; (focus (intro w' hk; have x0 := look hk c0; have x1 := look hk c1; have x2 := look hk c2; go_simp; (first | done | with_reducible rfl | exact rfl))); (try simp only [Act.put, List.setIfInBounds_toArray, List.set_cons_zero, List.set_cons_succ]))
  (refine pl_value (v := ?_) rfl rfl ?_ ?_; rotate_left 1; (focus (intro w' hk; have x0 := look hk c0; have x1 := look hk c1; have x2 := look hk c2; go_simp; (first | done | with_reducible rfl | exact rfl))); (try simp only [Act.put, List.setIfInBounds_toArray, List.set_cons_zero, List.set_cons_succ]))
  (refine pl_value (v := ?_) rfl rfl ?_ ?_; rotate_left 1; (focus (intro w' hk; have x0 := look hk c0; have x1 := look hk c1; have x2 := look hk c2; go_simp; (first | done | with_reducible rfl | exact rfl))); (try simp only [Act.put, List.setIfInBounds_toArray, List.set_cons_zero, List.set_cons_succ]))
  (refine pl_value (v := ?_) rfl rfl ?_ ?_; rotate_left 1; (focus (intro w' hk; have x0 := look hk c0; have x1 := look hk c1; have x2 := look hk c2; go_simp; (first | done | with_reducible rfl | exact rfl))); (try simp only [Act.put, List.setIfInBounds_toArray, List.set_cons_zero, List.set_cons_succ]))
  (refine pl_call (v := ?_) (f := ?_) (args := ?_) rfl rfl ?_ ?_ ?_; rotate_left 3; (focus (intro w' hk; have x0 := look hk c0; have x1 := look hk c1; have x2 := look hk c2; go_simp; (first | done | (constructor <;> with_reducible rfl) | with_reducible rfl))); (focus (intro w' hk; exact HP1.out w')); (try simp only [Act.put, List.setIfInBounds_toArray, List.set_cons_zero, List.set_cons_succ]))
  (refine pl_value (v := ?_) rfl rfl ?_ ?_; rotate_left 1; (focus (intro w' hk; have x0 := look hk c0; have x1 := look hk c1; have x2 := look hk c2; go_simp; (first | done | with_reducible rfl | exact rfl))); (try simp only [Act.put, List.setIfInBounds_toArray, List.set_cons_zero, List.set_cons_succ]))
  (refine pl_value (v := ?_) rfl rfl ?_ ?_; rotate_left 1; (focus (intro w' hk; have x0 := look hk c0; have x1 := look hk c1; have x2 := look hk c2; go_simp; (first | done | with_reducible rfl | exact rfl))); (try simp only [Act.put, List.setIfInBounds_toArray, List.set_cons_zero, List.set_cons_succ]))
  (refine pl_call (v := ?_) (f := ?_) (args := ?_) rfl rfl ?_ ?_ ?_; rotate_left 3; (focus (intro w' hk; have x0 := look hk c0; have x1 := look hk c1; have x2 := look hk c2; go_simp; (first | done | (constructor <;> with_reducible rfl) | with_reducible rfl))); (focus (intro w' hk; exact HP2.out w')); (try simp only [Act.put, List.setIfInBounds_toArray, List.set_cons_zero, List.set_cons_succ]))
  refine pl_nil ?_
  refine ⟨rfl, sure_row (fun w' _ => by go_simp), ?_⟩
  rintro v W2 hk2 ⟨b, rfl, hb, hbc⟩
  simp only [List.setIfInBounds_toArray, List.set_cons_zero, List.set_cons_succ, List.size_toArray, List.length_cons, List.length_nil, Nat.zero_add]
  have kc : ∀ w', Keep W2 w' → (convert 125 9 (.slice (some ⟨b, 0, none⟩) 2 2)).run Tryz.prog w' = .ok (.string ⟨([165, kb] : List UInt8).toArray⟩) w' := fun w' hk' => by
    have hbc' := (hk'.block _ (block_lt hbc) id).trans hbc
    exact run_convert_bytes_back (P := Tryz.prog) w' 125 9 5 ⟨b, 0, none⟩ 2 [165, kb] Tryz.underlying125 Tryz.underlying5 Tryz.underlying9 (fun j hj => by
      rw [addr_add, cell_of_row _ _ j _ _ _ hbc']
      have hj2 : j < 2 := hj
      rcases (by omega : j = 0 ∨ j = 1) with rfl | rfl
      · rfl
      · show some (Value.int .u8 (k : Int)) = some (Value.int .u8 ((kb.toNat : Nat) : Int))
        rw [HK8.out])
  have KC := Lib.hid kc
  clear kc
  generalize hSS : ([165, kb] : List UInt8) = SS at *
  have hS2 : SS.length = 2 := by rw [← hSS]; rfl
  have HSS := Lib.hid hSS
  clear hSS
  have j1 : ¬ 9223372036854775807 < SS.length + Q.length := by omega
  have j2 : ¬ 9223372036854775807 < SS.length + Q.length + D.length := by omega
  (refine pl_value (v := ?_) rfl rfl ?_ ?_; rotate_left 1; (focus (intro w' hk; have kc' := KC.out w' hk; go_simp; (first | done | with_reducible rfl | exact rfl))); (try simp only [Act.put, List.setIfInBounds_toArray, List.set_cons_zero, List.set_cons_succ]))
  (refine pl_value (v := ?_) rfl rfl ?_ ?_; rotate_left 1; (focus (intro w' hk; go_simp; (first | done | with_reducible rfl | exact rfl))); (try simp only [Act.put, List.setIfInBounds_toArray, List.set_cons_zero, List.set_cons_succ]))
  (refine pl_value (v := ?_) rfl rfl ?_ ?_; rotate_left 1; (focus (intro w' hk; go_simp; (first | done | with_reducible rfl | exact rfl))); (try simp only [Act.put, List.setIfInBounds_toArray, List.set_cons_zero, List.set_cons_succ]))
  refine pl_nil ?_
  intro w3 hk3 _
  simp only [List.drop_succ_cons, List.drop_zero]
  rw [show ((⟨SS.toArray⟩ : ByteArray) ++ ⟨Q.toArray⟩ ++ ⟨D.toArray⟩) = ⟨(Dw.head k q d).toArray⟩ from by rw [bs_append, bs_append, Hhead.out, ← HSS.out, List.append_assoc]]
  have hB3 := hB.trans ((hk2.trans hk3).whole.mono hB.size)
  have hhl := Hhl.out
  generalize Dw.head k q d = hd at *
  clear hk2 hk3 hbc hB KC c0 c1 c2 j1 j2 Hhead HP1 HP2
  go_wp2_with fail
  refine (rsum_any ⟨hd.toArray⟩ (by simp [ByteArray.size, hhl]) _).mono ?_
  rintro e w4 ⟨rfl, hb4⟩
  go_wp2_with fail
  refine (rlow_any _ hsl _).mono ?_
  rintro e w5 ⟨rfl, hb5⟩
  have hpl := Dw.put_length 4 (Dw.rev4 (Dw.sum hd))
  have hB5 := (hB3.trans (hb4.mono hB3.size)).trans (hb5.mono (hB3.trans (hb4.mono hB3.size)).size)
  clear hb4 hb5 hB3 hF
  go_wp2_with fail
  go_ret
  refine ⟨?_, hB5⟩
  rw [Hbody.out]
  exact ret_str (bs_append _ _)
end Go.Proofs.YtaniehjhmjecjaaGreatDoor
