/- What the statement's proof stands on, part 32: Cmd3, Delta. -/
import Derived.Test.YtcadgecnlahkgaaGreatDoorBk30
import Derived.Test.YtcadgecnlahkgaaGreatDoorBk31
set_option linter.unusedSimpArgs false
set_option linter.unusedVariables false
set_option maxRecDepth 100000
set_option maxHeartbeats 4000000
namespace Go.Proofs.YtcadgecnlahkgaaGreatDoor
open Go.RowKit Go.Shelf
attribute [local go_sem] Oper.semAt_some
theorem disarm_one (mo : Int) (_hq : (mo == 1) = false) (ar ho : Bool) (la lo iso : Int) (c : Dw.Cmd) (g : Nat) (w : World) (hg : w.heap[g]? = some (.cells (stC ⟨1, ar, ho, la, lo, iso⟩) 143 (0, 0))) :
    Calls Tryz.prog 76 #[.pointer (some ⟨g, 0, none⟩), cmV c] w (CEnd ⟨0, false, ho, la, lo, iso⟩ (if ar = false then 22 else if true = false then 20 else 0) g w) := by
  have hB := (Below.refl w.heap.size w).alloc (Nat.le_refl _) (.cells (cmC c) 42)
  have hg1 := (hB.block g (block_lt hg)).trans hg
  have hgl := block_lt hg
  obtain ⟨b, hbb⟩ : ∃ b : Bool, True := by first | exact ⟨_, rfl⟩ | exact ⟨true, trivial⟩
  obtain ⟨R, hR⟩ : ∃ R, (if ar = false then 22 else if true = false then 20 else 0) = (R : Int) := ⟨_, rfl⟩
  have HR := Lib.hid hR
  rw [hR]
  (try rw [hbb] at HR)
  obtain ⟨c0, c1, -⟩ := cells6 hg1
  clear hg hR
  go_enter Tryz.func76, Tryz.ntmps76
  go_wp2_with fail
  generalize w.alloc _ = V at *
  refine wp_letterD [0,1,2,3,4,5,6,7,8,9,10,11,12,13,14,15,16,17,18,19,20] 21 22 (some 27) (NewRows V #[.bool ar, .int .i64 22, .bool true, .int .i64 20] 2 173) rfl rfl (by kernel_rfl) (by kernel_rfl) rfl (fun v A B h hk => h.keep hk) ?_
  (apply rat; (focus (intro w' hk; obtain ⟨k0,k1⟩ := look2 hk c0 c1; repeat' (first | exact rn | ((first | refine' rv ?_ rfl rfl (by go_simp; first | done | with_reducible rfl | exact rfl) | refine' rc ?_ (by exact rfl) (by exact rfl) (by go_simp; first | done | (constructor <;> with_reducible rfl) | with_reducible rfl) (by fail) | refine' rs ?_ rfl rfl); try simp only [Act.put, List.setIfInBounds_toArray, List.set_cons_zero, List.set_cons_succ])))))
  refine ⟨rfl, sure_rows (fun w' _ => by go_simp; first | done | rw [hbb]), ?_⟩
  rintro v W2 hk2 ⟨b', rfl, hb, hbc⟩
  simp only [List.drop_succ_cons, List.drop_zero, List.setIfInBounds_toArray, List.set_cons_zero, List.set_cons_succ]
  have hg2 := kpi hk2 hg1
  replace hB := hB.trans (hk2.whole.mono hB.size)
  clear hk2 hg1 c0 c1 _hq hbb
  go_wp2_with fail
  refine (first2_any _ _ _ _ b' _ _ hbc).mono ?_
  rintro e w3 ⟨he, hb3⟩
  rw [HR.out] at he
  subst he
  have hg3 := kp hb3 hg2
  replace hB := tr hB hb3
  clear hb3 hg2 hbc
  have q0 := heap_setCell_same w3 g 1 _ _ (.bool false) hg3
  change _ = some (Obj.cells (stC ⟨1, false, ho, la, lo, iso⟩) _ _) at q0
  have q1 := heap_setCell_same _ g 0 _ _ (.int .i64 0) q0
  change _ = some (Obj.cells (stC ⟨0, false, ho, la, lo, iso⟩) _ _) at q1
  have hK := (((keepB hB).mono (fun _ _ h => h.elim) : KeepBut (fun k => k = g) w w3).setCell (p := ⟨g, 1, none⟩) rfl (.bool false)).setCell (p := ⟨g, 0, none⟩) rfl (.int .i64 0)
  obtain ⟨c0, c1, -⟩ := cells6 hg3
  obtain ⟨d0, d1, -⟩ := cells6 q0
  have z0 := frozen0 hg3 1
  have z1 := frozen0 q0 0
  go_wp2_with fail
  go_ret
  exact ⟨rfl, hK, _, q1, fun _ => rfl⟩
theorem disarm_not (mo : Int) (_hq : (mo == 1) = false) (ar ho : Bool) (la lo iso : Int) (c : Dw.Cmd) (g : Nat) (w : World) (hg : w.heap[g]? = some (.cells (stC ⟨mo, ar, ho, la, lo, iso⟩) 143 (0, 0))) :
    Calls Tryz.prog 76 #[.pointer (some ⟨g, 0, none⟩), cmV c] w (CEnd ⟨0, false, ho, la, lo, iso⟩ (if ar = false then 22 else if (mo == 5) = false then 20 else 0) g w) := by
  have hB := (Below.refl w.heap.size w).alloc (Nat.le_refl _) (.cells (cmC c) 42)
  have hg1 := (hB.block g (block_lt hg)).trans hg
  have hgl := block_lt hg
  obtain ⟨b, hbb⟩ : ∃ b : Bool, (mo == 5) = b := by first | exact ⟨_, rfl⟩ | exact ⟨true, trivial⟩
  obtain ⟨R, hR⟩ : ∃ R, (if ar = false then 22 else if (mo == 5) = false then 20 else 0) = (R : Int) := ⟨_, rfl⟩
  have HR := Lib.hid hR
  rw [hR]
  (try rw [hbb] at HR)
  obtain ⟨c0, c1, -⟩ := cells6 hg1
  clear hg hR
  go_enter Tryz.func76, Tryz.ntmps76
  go_wp2_with fail
  generalize w.alloc _ = V at *
  refine wp_letterD [0,1,2,3,4,5,6,7,8,9,10,11,12,13,14,15,16,17,18,19,20] 21 22 (some 27) (NewRows V #[.bool ar, .int .i64 22, .bool b, .int .i64 20] 2 173) rfl rfl (by kernel_rfl) (by kernel_rfl) rfl (fun v A B h hk => h.keep hk) ?_
  (apply rat; (focus (intro w' hk; obtain ⟨k0,k1⟩ := look2 hk c0 c1; repeat' (first | exact rn | ((first | refine' rv ?_ rfl rfl (by go_simp; first | done | with_reducible rfl | exact rfl) | refine' rc ?_ (by exact rfl) (by exact rfl) (by go_simp; first | done | (constructor <;> with_reducible rfl) | with_reducible rfl) (by fail) | refine' rs ?_ rfl rfl); try simp only [Act.put, List.setIfInBounds_toArray, List.set_cons_zero, List.set_cons_succ])))))
  refine ⟨rfl, sure_rows (fun w' _ => by go_simp; first | done | rw [hbb]), ?_⟩
  rintro v W2 hk2 ⟨b', rfl, hb, hbc⟩
  simp only [List.drop_succ_cons, List.drop_zero, List.setIfInBounds_toArray, List.set_cons_zero, List.set_cons_succ]
  have hg2 := kpi hk2 hg1
  replace hB := hB.trans (hk2.whole.mono hB.size)
  clear hk2 hg1 c0 c1 _hq hbb
  go_wp2_with fail
  refine (first2_any _ _ _ _ b' _ _ hbc).mono ?_
  rintro e w3 ⟨he, hb3⟩
  rw [HR.out] at he
  subst he
  have hg3 := kp hb3 hg2
  replace hB := tr hB hb3
  clear hb3 hg2 hbc
  have q0 := heap_setCell_same w3 g 1 _ _ (.bool false) hg3
  change _ = some (Obj.cells (stC ⟨mo, false, ho, la, lo, iso⟩) _ _) at q0
  have q1 := heap_setCell_same _ g 0 _ _ (.int .i64 0) q0
  change _ = some (Obj.cells (stC ⟨0, false, ho, la, lo, iso⟩) _ _) at q1
  have hK := (((keepB hB).mono (fun _ _ h => h.elim) : KeepBut (fun k => k = g) w w3).setCell (p := ⟨g, 1, none⟩) rfl (.bool false)).setCell (p := ⟨g, 0, none⟩) rfl (.int .i64 0)
  obtain ⟨c0, c1, -⟩ := cells6 hg3
  obtain ⟨d0, d1, -⟩ := cells6 q0
  have z0 := frozen0 hg3 1
  have z1 := frozen0 q0 0
  go_wp2_with fail
  go_ret
  exact ⟨rfl, hK, _, q1, fun _ => rfl⟩
theorem disarm_any (s : Dw.St) (c : Dw.Cmd) (g : Nat) (w : World) (hg : w.heap[g]? = some (.cells (stC s) 143 (0, 0))) :
    Calls Tryz.prog 76 #[.pointer (some ⟨g, 0, none⟩), cmV c] w (CEnd { s with ar := false, mo := 0 } (Dw.disarmE s) g w) := by
  obtain ⟨mo, ar, ho, la, lo, iso⟩ := s
  by_cases h : mo = 1
  · subst h
    have e : Dw.disarmE ⟨1, ar, ho, la, lo, iso⟩ = if ar = false then 22 else if true = false then 20 else 0 := by unfold Dw.disarmE; cases ar <;> simp
    rw [e]
    exact disarm_one 0 (by decide) ar ho la lo iso c g w hg
  · have e : Dw.disarmE ⟨mo, ar, ho, la, lo, iso⟩ = if ar = false then 22 else if (mo == 5) = false then 20 else 0 := by
      unfold Dw.disarmE
      by_cases h5 : mo = 5
      · subst h5; cases ar <;> simp
      · have : (mo == 5) = false := by simpa using h5
        rw [this]; cases ar <;> simp [h, h5]
    rw [e]
    exact disarm_not mo (by simpa using h) ar ho la lo iso c g w hg
theorem chome_any (s : Dw.St) (c : Dw.Cmd) (h1 : c.la < 18446744073709551616) (h2 : c.lo < 18446744073709551616) (g : Nat) (w : World) (hg : w.heap[g]? = some (.cells (stC s) 143 (0, 0))) :
    Calls Tryz.prog 77 #[.pointer (some ⟨g, 0, none⟩), cmV c] w (CEnd { s with ho := true, la := Dw.fixV c.la, lo := Dw.fixV c.lo } (Dw.homeE c) g w) := by
  have hB := (Below.refl w.heap.size w).alloc (Nat.le_refl _) (.cells (cmC c) 42)
  have hg1 := (hB.block g (block_lt hg)).trans hg
  have hgl := block_lt hg
  have hC := han w (.cells (cmC c) 42)
  obtain ⟨-, -, k2, k3⟩ := cells4 hC
  have HL := Lib.hid (fun w => fix90_any c.la h1 w)
  have HO := Lib.hid (fun w => fix180_any c.lo h2 w)
  have HR := Lib.hid (show Dw.homeE c = if Dw.fixE c.la 4636033603912859648 ≠ 0 then Dw.fixE c.la 4636033603912859648 else Dw.fixE c.lo 4640537203540230144 from rfl)
  have HA := Lib.hid (show Dw.fixE c.la 4636033603912859648 = 0 → (if Dw.fixE c.la 4636033603912859648 = 0 then Dw.fixV c.la else 0) = Dw.fixV c.la from fun h => if_pos h)
  have HB := Lib.hid (show Dw.fixE c.lo 4640537203540230144 = 0 → (if Dw.fixE c.lo 4640537203540230144 = 0 then Dw.fixV c.lo else 0) = Dw.fixV c.lo from fun h => if_pos h)
  generalize Dw.homeE c = R at *
  obtain ⟨vL, hvL⟩ : ∃ v, (if Dw.fixE c.la 4636033603912859648 = 0 then Dw.fixV c.la else 0) = v := ⟨_, rfl⟩
  obtain ⟨vO, hvO⟩ : ∃ v, (if Dw.fixE c.lo 4640537203540230144 = 0 then Dw.fixV c.lo else 0) = v := ⟨_, rfl⟩
  rw [hvL] at HL HA
  rw [hvO] at HO HB
  clear hvL hvO
  generalize Dw.fixE c.la 4636033603912859648 = eL at *
  generalize Dw.fixE c.lo 4640537203540230144 = eO at *
  generalize Dw.fixV c.la = fL at *
  generalize Dw.fixV c.lo = fO at *
  obtain ⟨mo, ar, ho, la, lo, iso⟩ := s
  dsimp only
  clear hg h1 h2
  go_enter Tryz.func77, Tryz.ntmps77
  go_wp2_with fail
  refine cb (HL.out _) fun w1 hb => ?_
  replace hg1 := kp hb hg1
  replace hC := kp hb hC
  replace hB := tr hB hb
  clear hb k2 k3
  have q0 := heap_setCell_same w1 g 3 _ _ (.int .i64 vL) hg1
  change _ = some (Obj.cells (stC ⟨mo, ar, ho, vL, lo, iso⟩) _ _) at q0
  have hK := ((keepB hB).mono (fun _ _ h => h.elim) : KeepBut (fun k => k = g) w w1).setCell (p := ⟨g, 3, none⟩) rfl (.int .i64 vL)
  have hC1 := (heap_setCell_other w1 ⟨g, 3, none⟩ w.heap.size (.int .i64 vL) (by simp; omega)).trans hC
  obtain ⟨-, -, -, c3, -⟩ := cells6 hg1
  have z0 := frozen0 hg1 3
  by_cases hL : eL = 0
  · subst hL
    obtain ⟨-, -, k2, k3⟩ := cells4 hC1
    have q1 := heap_setCell_same _ g 2 _ _ (.bool true) q0
    change _ = some (Obj.cells (stC ⟨mo, ar, true, vL, lo, iso⟩) _ _) at q1
    replace hK := hK.setCell (p := ⟨g, 2, none⟩) rfl (.bool true)
    obtain ⟨-, -, d2, -⟩ := cells6 q0
    have z1 := frozen0 q0 2
    have hC2 := (heap_setCell_other _ ⟨g, 2, none⟩ w.heap.size (.bool true) (by simp; omega)).trans hC1
    obtain ⟨-, -, j2, j3⟩ := cells4 hC2
    clear hC hC1 hC2
    go_wp2_with fail
    refine cb (HO.out _) fun w2 hb => ?_
    replace q1 := kp hb q1
    have hK2 := hK.trans ((keepB hb).mono (fun _ _ h => h.elim))
    clear hb q0 hg1 hB hK c3 z0 d2 z1 k2 k3 j2 j3
    have q2 := heap_setCell_same w2 g 4 _ _ (.int .i64 vO) q1
    change _ = some (Obj.cells (stC ⟨mo, ar, true, vL, vO, iso⟩) _ _) at q2
    replace hK2 := hK2.setCell (p := ⟨g, 4, none⟩) rfl (.int .i64 vO)
    obtain ⟨-, -, -, -, c4, -⟩ := cells6 q1
    have z4 := frozen0 q1 4
    go_wp2_with fail
    go_ret
    have hR := HR.out
    rw [if_neg (by decide)] at hR
    exact ⟨by rw [hR]; rfl, hK2, _, q2, fun h => by rw [HA.out (by first | rfl | trivial), HB.out (hR.symm.trans h)]⟩
  · have hLb : (eL == 0) = false := by simpa using hL
    go_wp2_with fail
    go_ret
    have hR := HR.out
    rw [if_pos hL] at hR
    exact ⟨by rw [hR]; rfl, hK, _, q0, fun h => absurd (hR.symm.trans h) hL⟩
theorem bit_facts : ∀ (k : Fin 16) (j : Fin 4), bits .and .i64 ((k.val : Nat) : Int) ((2 ^ j.val : Nat) : Int) = (if Dw.bitOn ((k.val : Nat) : Int) ((j.val : Nat) : Int) then ((2 ^ j.val : Nat) : Int) else 0) ∧ bits .or .i64 ((k.val : Nat) : Int) ((2 ^ j.val : Nat) : Int) = Dw.setOn ((k.val : Nat) : Int) ((j.val : Nat) : Int) ∧
    IntKind.i64.wrap (((k.val : Nat) : Int) - (if Dw.bitOn ((k.val : Nat) : Int) ((j.val : Nat) : Int) then ((2 ^ j.val : Nat) : Int) else 0)) = Dw.setOff ((k.val : Nat) : Int) ((j.val : Nat) : Int) ∧
    bits .andNot .i64 ((k.val : Nat) : Int) ((2 ^ j.val : Nat) : Int) = Dw.setOff ((k.val : Nat) : Int) ((j.val : Nat) : Int) ∧ 0 ≤ Dw.setOn ((k.val : Nat) : Int) ((j.val : Nat) : Int) ∧ Dw.setOn ((k.val : Nat) : Int) ((j.val : Nat) : Int) ≤ 15 := by decide +kernel
theorem bit_0 (iso : Int) (h : 0 ≤ iso ∧ iso ≤ 15) : bits .and .i64 iso 1 = (if Dw.bitOn iso 0 then 1 else 0) ∧ bits .or .i64 iso 1 = Dw.setOn iso 0 ∧ IntKind.i64.wrap (iso - (if Dw.bitOn iso 0 then 1 else 0)) = Dw.setOff iso 0 ∧ bits .andNot .i64 iso 1 = Dw.setOff iso 0 ∧ 0 ≤ Dw.setOn iso 0 ∧ Dw.setOn iso 0 ≤ 15 := by
  have := bit_facts ⟨iso.toNat, by omega⟩ 0
  rw [show (((⟨iso.toNat, by omega⟩ : Fin 16).val : Nat) : Int) = iso from by show ((iso.toNat : Nat) : Int) = iso; omega] at this
  exact this
theorem bit_1 (iso : Int) (h : 0 ≤ iso ∧ iso ≤ 15) : bits .and .i64 iso 2 = (if Dw.bitOn iso 1 then 2 else 0) ∧ bits .or .i64 iso 2 = Dw.setOn iso 1 ∧ IntKind.i64.wrap (iso - (if Dw.bitOn iso 1 then 2 else 0)) = Dw.setOff iso 1 ∧ bits .andNot .i64 iso 2 = Dw.setOff iso 1 ∧ 0 ≤ Dw.setOn iso 1 ∧ Dw.setOn iso 1 ≤ 15 := by
  have := bit_facts ⟨iso.toNat, by omega⟩ 1
  rw [show (((⟨iso.toNat, by omega⟩ : Fin 16).val : Nat) : Int) = iso from by show ((iso.toNat : Nat) : Int) = iso; omega] at this
  exact this
theorem bit_2 (iso : Int) (h : 0 ≤ iso ∧ iso ≤ 15) : bits .and .i64 iso 4 = (if Dw.bitOn iso 2 then 4 else 0) ∧ bits .or .i64 iso 4 = Dw.setOn iso 2 ∧ IntKind.i64.wrap (iso - (if Dw.bitOn iso 2 then 4 else 0)) = Dw.setOff iso 2 ∧ bits .andNot .i64 iso 4 = Dw.setOff iso 2 ∧ 0 ≤ Dw.setOn iso 2 ∧ Dw.setOn iso 2 ≤ 15 := by
  have := bit_facts ⟨iso.toNat, by omega⟩ 2
  rw [show (((⟨iso.toNat, by omega⟩ : Fin 16).val : Nat) : Int) = iso from by show ((iso.toNat : Nat) : Int) = iso; omega] at this
  exact this
theorem bit_3 (iso : Int) (h : 0 ≤ iso ∧ iso ≤ 15) : bits .and .i64 iso 8 = (if Dw.bitOn iso 3 then 8 else 0) ∧ bits .or .i64 iso 8 = Dw.setOn iso 3 ∧ IntKind.i64.wrap (iso - (if Dw.bitOn iso 3 then 8 else 0)) = Dw.setOff iso 3 ∧ bits .andNot .i64 iso 8 = Dw.setOff iso 3 ∧ 0 ≤ Dw.setOn iso 3 ∧ Dw.setOn iso 3 ≤ 15 := by
  have := bit_facts ⟨iso.toNat, by omega⟩ 3
  rw [show (((⟨iso.toNat, by omega⟩ : Fin 16).val : Nat) : Int) = iso from by show ((iso.toNat : Nat) : Int) = iso; omega] at this
  exact this
theorem sensor5_0 (mo la lo iso : Int) (ar ho : Bool) (hi : 0 ≤ iso ∧ iso ≤ 15) (cla clo : Nat) (g : Nat) (w : World) (hg : w.heap[g]? = some (.cells (stC ⟨mo, ar, ho, la, lo, iso⟩) 143 (0, 0))) :
    Calls Tryz.prog 78 #[.pointer (some ⟨g, 0, none⟩), cmV ⟨5, 0, cla, clo⟩] w (CEnd ⟨mo, ar, ho, la, lo, Dw.setOn iso 0⟩ (if Dw.bitOn iso 0 = false ∧ Dw.soundN iso - 1 < Dw.needsI mo then 24 else 0) g w) := by
  obtain ⟨R, hR⟩ : ∃ R, (if Dw.bitOn iso 0 = false ∧ Dw.soundN iso - 1 < Dw.needsI mo then (24 : Int) else 0) = R := ⟨_, rfl⟩
  rw [hR]
  have HR := Lib.hid hR
  clear hR
  have hB := (Below.refl w.heap.size w).alloc (Nat.le_refl _) (.cells (cmC ⟨5, 0, cla, clo⟩) 42)
  obtain ⟨V, hV⟩ : ∃ V, w.alloc (.cells (cmC ⟨5, 0, cla, clo⟩) 42) = V := ⟨_, rfl⟩
  rw [hV] at hB
  have hg1 := (hB.block g (block_lt hg)).trans hg
  have hgl := block_lt hg
  have hC := han w (.cells (cmC ⟨5, 0, cla, clo⟩) 42)
  rw [hV] at hC
  obtain ⟨k0, k1, -⟩ := cells4 hC
  obtain ⟨hand, hor, -⟩ := bit_0 iso hi
  have HE := Lib.hid (fun m w h => enough_any ⟨mo, ar, ho, la, lo, iso⟩ hi m g w h)
  have HN := Lib.hid (fun w => needs_any mo w)
  have hnd : 0 ≤ Dw.needsI mo ∧ Dw.needsI mo ≤ 3 := by unfold Dw.needsI; (repeat' split) <;> decide
  generalize Dw.needsI mo = nd at *
  have hw1 : IntKind.i64.wrap (nd + 1) = nd + 1 := IntWalk.i64_in _ (by omega)
  dsimp only at HE
  have hiso := Lib.hid hi
  generalize Dw.soundN iso = sn at *
  generalize Dw.setOn iso 0 = so at *
  clear hg hC hi
  obtain ⟨c0, -, -, -, -, c5⟩ := cells6 hg1
  generalize Dw.bitOn iso 0 = b at *
  cases b
  · go_enter Tryz.func78, Tryz.ntmps78
    go_wp2_with fail
    refine cb (HN.out _) fun w1 hb => ?_
    replace hg1 := kp hb hg1
    have k0' := (hb.cell (lt_of_cell k0)).trans k0
    replace hB := tr hB hb
    clear hb c0 c5 k0 k1
    go_wp2_with fail
    refine cb (HE.out _ _ hg1) fun w2 hb => ?_
    replace hg1 := kp hb hg1
    have k0 := (hb.cell (lt_of_cell k0')).trans k0'
    replace hB := tr hB hb
    clear hb k0'
    have q0 := heap_setCell_same w2 g 5 _ _ (.int .i64 so) hg1
    change _ = some (Obj.cells (stC ⟨mo, ar, ho, la, lo, so⟩) _ _) at q0
    have hK := ((keepB hB).mono (fun _ _ h => h.elim) : KeepBut (fun k => k = g) w w2)
    have hK5 := hK.setCell (p := ⟨g, 5, none⟩) rfl (.int .i64 so)
    obtain ⟨-, -, -, -, -, c5⟩ := cells6 hg1
    have z5 := frozen0 hg1 5
    have k5 : (w2.setCell ⟨g, 5, none⟩ (.int .i64 so)).cell? ⟨w.heap.size, 0, none⟩ = some (.int .i64 5) := (World.cell?_setCell_other _ _ _ _ (by simp; try omega)).trans k0
    by_cases hen : nd + 1 ≤ sn
    · have hd : decide (nd + 1 ≤ sn) = true := decide_eq_true hen
      obtain rfl : 0 = R := by rw [← HR.out, if_neg (fun h => by have := h.2; omega)]
      go_wp2_with fail
      go_ret
      exact ⟨rfl, hK5, _, q0, fun _ => rfl⟩
    · have hd : decide (nd + 1 ≤ sn) = false := decide_eq_false hen
      obtain rfl : 24 = R := by rw [← HR.out, if_pos (by first | exact ⟨rfl, by omega⟩ | exact ⟨trivial, by omega⟩)]
      go_wp2_with fail
      go_ret
      exact ⟨rfl, hK, _, hg1, fun h => absurd h (by decide)⟩
  · obtain rfl : 0 = R := by rw [← HR.out, if_neg (fun h => by cases h.1)]
    have q0 := heap_setCell_same _ g 5 _ _ (.int .i64 so) hg1
    change _ = some (Obj.cells (stC ⟨mo, ar, ho, la, lo, so⟩) _ _) at q0
    have hK5 := ((keepB hB).mono (fun _ _ h => h.elim) : KeepBut (fun k => k = g) w _).setCell (p := ⟨g, 5, none⟩) rfl (.int .i64 so)
    have z5 := frozen0 hg1 5
    have k5 := (World.cell?_setCell_other _ ⟨g, 5, none⟩ _ (.int .i64 so) (by simp; try omega)).trans k0
    go_enter Tryz.func78, Tryz.ntmps78
    go_wp2_with fail
    go_ret
    exact ⟨rfl, hK5, _, q0, fun _ => rfl⟩
theorem sensor6_0 (mo la lo iso : Int) (ar ho : Bool) (hi : 0 ≤ iso ∧ iso ≤ 15) (cla clo : Nat) (g : Nat) (w : World) (hg : w.heap[g]? = some (.cells (stC ⟨mo, ar, ho, la, lo, iso⟩) 143 (0, 0))) :
    Calls Tryz.prog 78 #[.pointer (some ⟨g, 0, none⟩), cmV ⟨6, 0, cla, clo⟩] w (CEnd ⟨mo, ar, ho, la, lo, Dw.setOff iso 0⟩ 0 g w) := by
  have hB := (Below.refl w.heap.size w).alloc (Nat.le_refl _) (.cells (cmC ⟨6, 0, cla, clo⟩) 42)
  obtain ⟨V, hV⟩ : ∃ V, w.alloc (.cells (cmC ⟨6, 0, cla, clo⟩) 42) = V := ⟨_, rfl⟩
  rw [hV] at hB
  have hg1 := (hB.block g (block_lt hg)).trans hg
  have hgl := block_lt hg
  have hC := han w (.cells (cmC ⟨6, 0, cla, clo⟩) 42)
  rw [hV] at hC
  obtain ⟨k0, k1, -⟩ := cells4 hC
  obtain ⟨hand, -, hsb, -⟩ := bit_0 iso hi
  generalize Dw.setOff iso 0 = so at *
  generalize (if Dw.bitOn iso 0 then (1 : Int) else 0) = was at *
  clear hg hC hi
  obtain ⟨c0, -, -, -, -, c5⟩ := cells6 hg1
  have q0 := heap_setCell_same _ g 5 _ _ (.int .i64 so) hg1
  change _ = some (Obj.cells (stC ⟨mo, ar, ho, la, lo, so⟩) _ _) at q0
  have hK5 := ((keepB hB).mono (fun _ _ h => h.elim) : KeepBut (fun k => k = g) w _).setCell (p := ⟨g, 5, none⟩) rfl (.int .i64 so)
  have z5 := frozen0 hg1 5
  go_enter Tryz.func78, Tryz.ntmps78
  go_wp2_with fail
  go_ret
  exact ⟨rfl, hK5, _, q0, fun _ => rfl⟩
theorem sensor5_1 (mo la lo iso : Int) (ar ho : Bool) (hi : 0 ≤ iso ∧ iso ≤ 15) (cla clo : Nat) (g : Nat) (w : World) (hg : w.heap[g]? = some (.cells (stC ⟨mo, ar, ho, la, lo, iso⟩) 143 (0, 0))) :
    Calls Tryz.prog 78 #[.pointer (some ⟨g, 0, none⟩), cmV ⟨5, 1, cla, clo⟩] w (CEnd ⟨mo, ar, ho, la, lo, Dw.setOn iso 1⟩ (if Dw.bitOn iso 1 = false ∧ Dw.soundN iso - 1 < Dw.needsI mo then 24 else 0) g w) := by
  obtain ⟨R, hR⟩ : ∃ R, (if Dw.bitOn iso 1 = false ∧ Dw.soundN iso - 1 < Dw.needsI mo then (24 : Int) else 0) = R := ⟨_, rfl⟩
  rw [hR]
  have HR := Lib.hid hR
  clear hR
  have hB := (Below.refl w.heap.size w).alloc (Nat.le_refl _) (.cells (cmC ⟨5, 1, cla, clo⟩) 42)
  obtain ⟨V, hV⟩ : ∃ V, w.alloc (.cells (cmC ⟨5, 1, cla, clo⟩) 42) = V := ⟨_, rfl⟩
  rw [hV] at hB
  have hg1 := (hB.block g (block_lt hg)).trans hg
  have hgl := block_lt hg
  have hC := han w (.cells (cmC ⟨5, 1, cla, clo⟩) 42)
  rw [hV] at hC
  obtain ⟨k0, k1, -⟩ := cells4 hC
  obtain ⟨hand, hor, -⟩ := bit_1 iso hi
  have HE := Lib.hid (fun m w h => enough_any ⟨mo, ar, ho, la, lo, iso⟩ hi m g w h)
  have HN := Lib.hid (fun w => needs_any mo w)
  have hnd : 0 ≤ Dw.needsI mo ∧ Dw.needsI mo ≤ 3 := by unfold Dw.needsI; (repeat' split) <;> decide
  generalize Dw.needsI mo = nd at *
  have hw1 : IntKind.i64.wrap (nd + 1) = nd + 1 := IntWalk.i64_in _ (by omega)
  dsimp only at HE
  have hiso := Lib.hid hi
  generalize Dw.soundN iso = sn at *
  generalize Dw.setOn iso 1 = so at *
  clear hg hC hi
  obtain ⟨c0, -, -, -, -, c5⟩ := cells6 hg1
  generalize Dw.bitOn iso 1 = b at *
  cases b
  · go_enter Tryz.func78, Tryz.ntmps78
    go_wp2_with fail
    refine cb (HN.out _) fun w1 hb => ?_
    replace hg1 := kp hb hg1
    have k0' := (hb.cell (lt_of_cell k0)).trans k0
    replace hB := tr hB hb
    clear hb c0 c5 k0 k1
    go_wp2_with fail
    refine cb (HE.out _ _ hg1) fun w2 hb => ?_
    replace hg1 := kp hb hg1
    have k0 := (hb.cell (lt_of_cell k0')).trans k0'
    replace hB := tr hB hb
    clear hb k0'
    have q0 := heap_setCell_same w2 g 5 _ _ (.int .i64 so) hg1
    change _ = some (Obj.cells (stC ⟨mo, ar, ho, la, lo, so⟩) _ _) at q0
    have hK := ((keepB hB).mono (fun _ _ h => h.elim) : KeepBut (fun k => k = g) w w2)
    have hK5 := hK.setCell (p := ⟨g, 5, none⟩) rfl (.int .i64 so)
    obtain ⟨-, -, -, -, -, c5⟩ := cells6 hg1
    have z5 := frozen0 hg1 5
    have k5 : (w2.setCell ⟨g, 5, none⟩ (.int .i64 so)).cell? ⟨w.heap.size, 0, none⟩ = some (.int .i64 5) := (World.cell?_setCell_other _ _ _ _ (by simp; try omega)).trans k0
    by_cases hen : nd + 1 ≤ sn
    · have hd : decide (nd + 1 ≤ sn) = true := decide_eq_true hen
      obtain rfl : 0 = R := by rw [← HR.out, if_neg (fun h => by have := h.2; omega)]
      go_wp2_with fail
      go_ret
      exact ⟨rfl, hK5, _, q0, fun _ => rfl⟩
    · have hd : decide (nd + 1 ≤ sn) = false := decide_eq_false hen
      obtain rfl : 24 = R := by rw [← HR.out, if_pos (by first | exact ⟨rfl, by omega⟩ | exact ⟨trivial, by omega⟩)]
      go_wp2_with fail
      go_ret
      exact ⟨rfl, hK, _, hg1, fun h => absurd h (by decide)⟩
  · obtain rfl : 0 = R := by rw [← HR.out, if_neg (fun h => by cases h.1)]
    have q0 := heap_setCell_same _ g 5 _ _ (.int .i64 so) hg1
    change _ = some (Obj.cells (stC ⟨mo, ar, ho, la, lo, so⟩) _ _) at q0
    have hK5 := ((keepB hB).mono (fun _ _ h => h.elim) : KeepBut (fun k => k = g) w _).setCell (p := ⟨g, 5, none⟩) rfl (.int .i64 so)
    have z5 := frozen0 hg1 5
    have k5 := (World.cell?_setCell_other _ ⟨g, 5, none⟩ _ (.int .i64 so) (by simp; try omega)).trans k0
    go_enter Tryz.func78, Tryz.ntmps78
    go_wp2_with fail
    go_ret
    exact ⟨rfl, hK5, _, q0, fun _ => rfl⟩
theorem sensor6_1 (mo la lo iso : Int) (ar ho : Bool) (hi : 0 ≤ iso ∧ iso ≤ 15) (cla clo : Nat) (g : Nat) (w : World) (hg : w.heap[g]? = some (.cells (stC ⟨mo, ar, ho, la, lo, iso⟩) 143 (0, 0))) :
    Calls Tryz.prog 78 #[.pointer (some ⟨g, 0, none⟩), cmV ⟨6, 1, cla, clo⟩] w (CEnd ⟨mo, ar, ho, la, lo, Dw.setOff iso 1⟩ 0 g w) := by
  have hB := (Below.refl w.heap.size w).alloc (Nat.le_refl _) (.cells (cmC ⟨6, 1, cla, clo⟩) 42)
  obtain ⟨V, hV⟩ : ∃ V, w.alloc (.cells (cmC ⟨6, 1, cla, clo⟩) 42) = V := ⟨_, rfl⟩
  rw [hV] at hB
  have hg1 := (hB.block g (block_lt hg)).trans hg
  have hgl := block_lt hg
  have hC := han w (.cells (cmC ⟨6, 1, cla, clo⟩) 42)
  rw [hV] at hC
  obtain ⟨k0, k1, -⟩ := cells4 hC
  obtain ⟨hand, -, hsb, -⟩ := bit_1 iso hi
  generalize Dw.setOff iso 1 = so at *
  generalize (if Dw.bitOn iso 1 then (2 : Int) else 0) = was at *
  clear hg hC hi
  obtain ⟨c0, -, -, -, -, c5⟩ := cells6 hg1
  have q0 := heap_setCell_same _ g 5 _ _ (.int .i64 so) hg1
  change _ = some (Obj.cells (stC ⟨mo, ar, ho, la, lo, so⟩) _ _) at q0
  have hK5 := ((keepB hB).mono (fun _ _ h => h.elim) : KeepBut (fun k => k = g) w _).setCell (p := ⟨g, 5, none⟩) rfl (.int .i64 so)
  have z5 := frozen0 hg1 5
  go_enter Tryz.func78, Tryz.ntmps78
  go_wp2_with fail
  go_ret
  exact ⟨rfl, hK5, _, q0, fun _ => rfl⟩
theorem sensor5_2 (mo la lo iso : Int) (ar ho : Bool) (hi : 0 ≤ iso ∧ iso ≤ 15) (cla clo : Nat) (g : Nat) (w : World) (hg : w.heap[g]? = some (.cells (stC ⟨mo, ar, ho, la, lo, iso⟩) 143 (0, 0))) :
    Calls Tryz.prog 78 #[.pointer (some ⟨g, 0, none⟩), cmV ⟨5, 2, cla, clo⟩] w (CEnd ⟨mo, ar, ho, la, lo, Dw.setOn iso 2⟩ (if Dw.bitOn iso 2 = false ∧ Dw.soundN iso - 1 < Dw.needsI mo then 24 else 0) g w) := by
  obtain ⟨R, hR⟩ : ∃ R, (if Dw.bitOn iso 2 = false ∧ Dw.soundN iso - 1 < Dw.needsI mo then (24 : Int) else 0) = R := ⟨_, rfl⟩
  rw [hR]
  have HR := Lib.hid hR
  clear hR
  have hB := (Below.refl w.heap.size w).alloc (Nat.le_refl _) (.cells (cmC ⟨5, 2, cla, clo⟩) 42)
  obtain ⟨V, hV⟩ : ∃ V, w.alloc (.cells (cmC ⟨5, 2, cla, clo⟩) 42) = V := ⟨_, rfl⟩
  rw [hV] at hB
  have hg1 := (hB.block g (block_lt hg)).trans hg
  have hgl := block_lt hg
  have hC := han w (.cells (cmC ⟨5, 2, cla, clo⟩) 42)
  rw [hV] at hC
  obtain ⟨k0, k1, -⟩ := cells4 hC
  obtain ⟨hand, hor, -⟩ := bit_2 iso hi
  have HE := Lib.hid (fun m w h => enough_any ⟨mo, ar, ho, la, lo, iso⟩ hi m g w h)
  have HN := Lib.hid (fun w => needs_any mo w)
  have hnd : 0 ≤ Dw.needsI mo ∧ Dw.needsI mo ≤ 3 := by unfold Dw.needsI; (repeat' split) <;> decide
  generalize Dw.needsI mo = nd at *
  have hw1 : IntKind.i64.wrap (nd + 1) = nd + 1 := IntWalk.i64_in _ (by omega)
  dsimp only at HE
  have hiso := Lib.hid hi
  generalize Dw.soundN iso = sn at *
  generalize Dw.setOn iso 2 = so at *
  clear hg hC hi
  obtain ⟨c0, -, -, -, -, c5⟩ := cells6 hg1
  generalize Dw.bitOn iso 2 = b at *
  cases b
  · go_enter Tryz.func78, Tryz.ntmps78
    go_wp2_with fail
    refine cb (HN.out _) fun w1 hb => ?_
    replace hg1 := kp hb hg1
    have k0' := (hb.cell (lt_of_cell k0)).trans k0
    replace hB := tr hB hb
    clear hb c0 c5 k0 k1
    go_wp2_with fail
    refine cb (HE.out _ _ hg1) fun w2 hb => ?_
    replace hg1 := kp hb hg1
    have k0 := (hb.cell (lt_of_cell k0')).trans k0'
    replace hB := tr hB hb
    clear hb k0'
    have q0 := heap_setCell_same w2 g 5 _ _ (.int .i64 so) hg1
    change _ = some (Obj.cells (stC ⟨mo, ar, ho, la, lo, so⟩) _ _) at q0
    have hK := ((keepB hB).mono (fun _ _ h => h.elim) : KeepBut (fun k => k = g) w w2)
    have hK5 := hK.setCell (p := ⟨g, 5, none⟩) rfl (.int .i64 so)
    obtain ⟨-, -, -, -, -, c5⟩ := cells6 hg1
    have z5 := frozen0 hg1 5
    have k5 : (w2.setCell ⟨g, 5, none⟩ (.int .i64 so)).cell? ⟨w.heap.size, 0, none⟩ = some (.int .i64 5) := (World.cell?_setCell_other _ _ _ _ (by simp; try omega)).trans k0
    by_cases hen : nd + 1 ≤ sn
    · have hd : decide (nd + 1 ≤ sn) = true := decide_eq_true hen
      obtain rfl : 0 = R := by rw [← HR.out, if_neg (fun h => by have := h.2; omega)]
      go_wp2_with fail
      go_ret
      exact ⟨rfl, hK5, _, q0, fun _ => rfl⟩
    · have hd : decide (nd + 1 ≤ sn) = false := decide_eq_false hen
      obtain rfl : 24 = R := by rw [← HR.out, if_pos (by first | exact ⟨rfl, by omega⟩ | exact ⟨trivial, by omega⟩)]
      go_wp2_with fail
      go_ret
      exact ⟨rfl, hK, _, hg1, fun h => absurd h (by decide)⟩
  · obtain rfl : 0 = R := by rw [← HR.out, if_neg (fun h => by cases h.1)]
    have q0 := heap_setCell_same _ g 5 _ _ (.int .i64 so) hg1
    change _ = some (Obj.cells (stC ⟨mo, ar, ho, la, lo, so⟩) _ _) at q0
    have hK5 := ((keepB hB).mono (fun _ _ h => h.elim) : KeepBut (fun k => k = g) w _).setCell (p := ⟨g, 5, none⟩) rfl (.int .i64 so)
    have z5 := frozen0 hg1 5
    have k5 := (World.cell?_setCell_other _ ⟨g, 5, none⟩ _ (.int .i64 so) (by simp; try omega)).trans k0
    go_enter Tryz.func78, Tryz.ntmps78
    go_wp2_with fail
    go_ret
    exact ⟨rfl, hK5, _, q0, fun _ => rfl⟩
theorem sensor6_2 (mo la lo iso : Int) (ar ho : Bool) (hi : 0 ≤ iso ∧ iso ≤ 15) (cla clo : Nat) (g : Nat) (w : World) (hg : w.heap[g]? = some (.cells (stC ⟨mo, ar, ho, la, lo, iso⟩) 143 (0, 0))) :
    Calls Tryz.prog 78 #[.pointer (some ⟨g, 0, none⟩), cmV ⟨6, 2, cla, clo⟩] w (CEnd ⟨mo, ar, ho, la, lo, Dw.setOff iso 2⟩ 0 g w) := by
  have hB := (Below.refl w.heap.size w).alloc (Nat.le_refl _) (.cells (cmC ⟨6, 2, cla, clo⟩) 42)
  obtain ⟨V, hV⟩ : ∃ V, w.alloc (.cells (cmC ⟨6, 2, cla, clo⟩) 42) = V := ⟨_, rfl⟩
  rw [hV] at hB
  have hg1 := (hB.block g (block_lt hg)).trans hg
  have hgl := block_lt hg
  have hC := han w (.cells (cmC ⟨6, 2, cla, clo⟩) 42)
  rw [hV] at hC
  obtain ⟨k0, k1, -⟩ := cells4 hC
  obtain ⟨hand, -, hsb, -⟩ := bit_2 iso hi
  generalize Dw.setOff iso 2 = so at *
  generalize (if Dw.bitOn iso 2 then (4 : Int) else 0) = was at *
  clear hg hC hi
  obtain ⟨c0, -, -, -, -, c5⟩ := cells6 hg1
  have q0 := heap_setCell_same _ g 5 _ _ (.int .i64 so) hg1
  change _ = some (Obj.cells (stC ⟨mo, ar, ho, la, lo, so⟩) _ _) at q0
  have hK5 := ((keepB hB).mono (fun _ _ h => h.elim) : KeepBut (fun k => k = g) w _).setCell (p := ⟨g, 5, none⟩) rfl (.int .i64 so)
  have z5 := frozen0 hg1 5
  go_enter Tryz.func78, Tryz.ntmps78
  go_wp2_with fail
  go_ret
  exact ⟨rfl, hK5, _, q0, fun _ => rfl⟩
theorem sensor5_3 (mo la lo iso : Int) (ar ho : Bool) (hi : 0 ≤ iso ∧ iso ≤ 15) (cla clo : Nat) (g : Nat) (w : World) (hg : w.heap[g]? = some (.cells (stC ⟨mo, ar, ho, la, lo, iso⟩) 143 (0, 0))) :
    Calls Tryz.prog 78 #[.pointer (some ⟨g, 0, none⟩), cmV ⟨5, 3, cla, clo⟩] w (CEnd ⟨mo, ar, ho, la, lo, Dw.setOn iso 3⟩ (if Dw.bitOn iso 3 = false ∧ Dw.soundN iso - 1 < Dw.needsI mo then 24 else 0) g w) := by
  obtain ⟨R, hR⟩ : ∃ R, (if Dw.bitOn iso 3 = false ∧ Dw.soundN iso - 1 < Dw.needsI mo then (24 : Int) else 0) = R := ⟨_, rfl⟩
  rw [hR]
  have HR := Lib.hid hR
  clear hR
  have hB := (Below.refl w.heap.size w).alloc (Nat.le_refl _) (.cells (cmC ⟨5, 3, cla, clo⟩) 42)
  obtain ⟨V, hV⟩ : ∃ V, w.alloc (.cells (cmC ⟨5, 3, cla, clo⟩) 42) = V := ⟨_, rfl⟩
  rw [hV] at hB
  have hg1 := (hB.block g (block_lt hg)).trans hg
  have hgl := block_lt hg
  have hC := han w (.cells (cmC ⟨5, 3, cla, clo⟩) 42)
  rw [hV] at hC
  obtain ⟨k0, k1, -⟩ := cells4 hC
  obtain ⟨hand, hor, -⟩ := bit_3 iso hi
  have HE := Lib.hid (fun m w h => enough_any ⟨mo, ar, ho, la, lo, iso⟩ hi m g w h)
  have HN := Lib.hid (fun w => needs_any mo w)
  have hnd : 0 ≤ Dw.needsI mo ∧ Dw.needsI mo ≤ 3 := by unfold Dw.needsI; (repeat' split) <;> decide
  generalize Dw.needsI mo = nd at *
  have hw1 : IntKind.i64.wrap (nd + 1) = nd + 1 := IntWalk.i64_in _ (by omega)
  dsimp only at HE
  have hiso := Lib.hid hi
  generalize Dw.soundN iso = sn at *
  generalize Dw.setOn iso 3 = so at *
  clear hg hC hi
  obtain ⟨c0, -, -, -, -, c5⟩ := cells6 hg1
  generalize Dw.bitOn iso 3 = b at *
  cases b
  · go_enter Tryz.func78, Tryz.ntmps78
    go_wp2_with fail
    refine cb (HN.out _) fun w1 hb => ?_
    replace hg1 := kp hb hg1
    have k0' := (hb.cell (lt_of_cell k0)).trans k0
    replace hB := tr hB hb
    clear hb c0 c5 k0 k1
    go_wp2_with fail
    refine cb (HE.out _ _ hg1) fun w2 hb => ?_
    replace hg1 := kp hb hg1
    have k0 := (hb.cell (lt_of_cell k0')).trans k0'
    replace hB := tr hB hb
    clear hb k0'
    have q0 := heap_setCell_same w2 g 5 _ _ (.int .i64 so) hg1
    change _ = some (Obj.cells (stC ⟨mo, ar, ho, la, lo, so⟩) _ _) at q0
    have hK := ((keepB hB).mono (fun _ _ h => h.elim) : KeepBut (fun k => k = g) w w2)
    have hK5 := hK.setCell (p := ⟨g, 5, none⟩) rfl (.int .i64 so)
    obtain ⟨-, -, -, -, -, c5⟩ := cells6 hg1
    have z5 := frozen0 hg1 5
    have k5 : (w2.setCell ⟨g, 5, none⟩ (.int .i64 so)).cell? ⟨w.heap.size, 0, none⟩ = some (.int .i64 5) := (World.cell?_setCell_other _ _ _ _ (by simp; try omega)).trans k0
    by_cases hen : nd + 1 ≤ sn
    · have hd : decide (nd + 1 ≤ sn) = true := decide_eq_true hen
      obtain rfl : 0 = R := by rw [← HR.out, if_neg (fun h => by have := h.2; omega)]
      go_wp2_with fail
      go_ret
      exact ⟨rfl, hK5, _, q0, fun _ => rfl⟩
    · have hd : decide (nd + 1 ≤ sn) = false := decide_eq_false hen
      obtain rfl : 24 = R := by rw [← HR.out, if_pos (by first | exact ⟨rfl, by omega⟩ | exact ⟨trivial, by omega⟩)]
      go_wp2_with fail
      go_ret
      exact ⟨rfl, hK, _, hg1, fun h => absurd h (by decide)⟩
  · obtain rfl : 0 = R := by rw [← HR.out, if_neg (fun h => by cases h.1)]
    have q0 := heap_setCell_same _ g 5 _ _ (.int .i64 so) hg1
    change _ = some (Obj.cells (stC ⟨mo, ar, ho, la, lo, so⟩) _ _) at q0
    have hK5 := ((keepB hB).mono (fun _ _ h => h.elim) : KeepBut (fun k => k = g) w _).setCell (p := ⟨g, 5, none⟩) rfl (.int .i64 so)
    have z5 := frozen0 hg1 5
    have k5 := (World.cell?_setCell_other _ ⟨g, 5, none⟩ _ (.int .i64 so) (by simp; try omega)).trans k0
    go_enter Tryz.func78, Tryz.ntmps78
    go_wp2_with fail
    go_ret
    exact ⟨rfl, hK5, _, q0, fun _ => rfl⟩
theorem sensor6_3 (mo la lo iso : Int) (ar ho : Bool) (hi : 0 ≤ iso ∧ iso ≤ 15) (cla clo : Nat) (g : Nat) (w : World) (hg : w.heap[g]? = some (.cells (stC ⟨mo, ar, ho, la, lo, iso⟩) 143 (0, 0))) :
    Calls Tryz.prog 78 #[.pointer (some ⟨g, 0, none⟩), cmV ⟨6, 3, cla, clo⟩] w (CEnd ⟨mo, ar, ho, la, lo, Dw.setOff iso 3⟩ 0 g w) := by
  have hB := (Below.refl w.heap.size w).alloc (Nat.le_refl _) (.cells (cmC ⟨6, 3, cla, clo⟩) 42)
  obtain ⟨V, hV⟩ : ∃ V, w.alloc (.cells (cmC ⟨6, 3, cla, clo⟩) 42) = V := ⟨_, rfl⟩
  rw [hV] at hB
  have hg1 := (hB.block g (block_lt hg)).trans hg
  have hgl := block_lt hg
  have hC := han w (.cells (cmC ⟨6, 3, cla, clo⟩) 42)
  rw [hV] at hC
  obtain ⟨k0, k1, -⟩ := cells4 hC
  obtain ⟨hand, -, hsb, -⟩ := bit_3 iso hi
  generalize Dw.setOff iso 3 = so at *
  generalize (if Dw.bitOn iso 3 then (8 : Int) else 0) = was at *
  clear hg hC hi
  obtain ⟨c0, -, -, -, -, c5⟩ := cells6 hg1
  have q0 := heap_setCell_same _ g 5 _ _ (.int .i64 so) hg1
  change _ = some (Obj.cells (stC ⟨mo, ar, ho, la, lo, so⟩) _ _) at q0
  have hK5 := ((keepB hB).mono (fun _ _ h => h.elim) : KeepBut (fun k => k = g) w _).setCell (p := ⟨g, 5, none⟩) rfl (.int .i64 so)
  have z5 := frozen0 hg1 5
  go_enter Tryz.func78, Tryz.ntmps78
  go_wp2_with fail
  go_ret
  exact ⟨rfl, hK5, _, q0, fun _ => rfl⟩
theorem sensor5_far (s : Dw.St) (n : Int) (hn : n < 0 ∨ 3 < n) (cla clo : Nat) (T : Dw.St) (g : Nat) (w : World) (hg : w.heap[g]? = some (.cells (stC s) 143 (0, 0))) :
    Calls Tryz.prog 78 #[.pointer (some ⟨g, 0, none⟩), cmV ⟨5, n, cla, clo⟩] w (CEnd T 1 g w) := by
  have hB := (Below.refl w.heap.size w).alloc (Nat.le_refl _) (.cells (cmC ⟨5, n, cla, clo⟩) 42)
  have hg1 := (hB.block g (block_lt hg)).trans hg
  have hC := han w (.cells (cmC ⟨5, n, cla, clo⟩) 42)
  have hK := ((keepB hB).mono (fun _ _ h => h.elim) : KeepBut (fun k => k = g) w _)
  obtain ⟨k0, k1, -⟩ := cells4 hC
  clear hg hC
  rcases hn with hn | hn
  · go_enter Tryz.func78, Tryz.ntmps78
    go_wp2_with fail
    go_ret
    exact ⟨rfl, hK, s, hg1, fun h => absurd h (by decide)⟩
  · have hn1 : ¬ n < 0 := by omega
    have hn2 : 4 ≤ n := by omega
    go_enter Tryz.func78, Tryz.ntmps78
    go_wp2_with fail
    go_ret
    exact ⟨rfl, hK, s, hg1, fun h => absurd h (by decide)⟩
theorem sensor5_any (s : Dw.St) (hi : 0 ≤ s.iso ∧ s.iso ≤ 15) (c : Dw.Cmd) (hk : c.ki = 5) (g : Nat) (w : World) (hg : w.heap[g]? = some (.cells (stC s) 143 (0, 0))) :
    Calls Tryz.prog 78 #[.pointer (some ⟨g, 0, none⟩), cmV c] w (CEnd { s with iso := Dw.setOn s.iso c.n } (Dw.isoE s c.n) g w) := by
  obtain ⟨mo, ar, ho, la, lo, iso⟩ := s
  obtain ⟨ki, n, cla, clo⟩ := c
  dsimp only at *
  subst hk
  by_cases hn : n < 0 ∨ 3 < n
  · have e : (if n < 0 ∨ 3 < n then (1 : Int) else 0) = 1 := if_pos hn
    first
    | (unfold Dw.isoE; rw [if_pos hn]; exact sensor5_far _ n hn cla clo _ g w hg)
    | (unfold Dw.resE; rw [if_pos hn]; exact sensor5_far _ n hn cla clo _ g w hg)
  · first
    | (unfold Dw.isoE; rw [if_neg hn]
       rcases Dw.n4 hn with rfl | rfl | rfl | rfl
       · exact sensor5_0 mo la lo iso ar ho hi cla clo g w hg
       · exact sensor5_1 mo la lo iso ar ho hi cla clo g w hg
       · exact sensor5_2 mo la lo iso ar ho hi cla clo g w hg
       · exact sensor5_3 mo la lo iso ar ho hi cla clo g w hg)
    | (unfold Dw.resE; rw [if_neg hn]
       rcases Dw.n4 hn with rfl | rfl | rfl | rfl
       · exact sensor5_0 mo la lo iso ar ho hi cla clo g w hg
       · exact sensor5_1 mo la lo iso ar ho hi cla clo g w hg
       · exact sensor5_2 mo la lo iso ar ho hi cla clo g w hg
       · exact sensor5_3 mo la lo iso ar ho hi cla clo g w hg)
theorem sensor6_far (s : Dw.St) (n : Int) (hn : n < 0 ∨ 3 < n) (cla clo : Nat) (T : Dw.St) (g : Nat) (w : World) (hg : w.heap[g]? = some (.cells (stC s) 143 (0, 0))) :
    Calls Tryz.prog 78 #[.pointer (some ⟨g, 0, none⟩), cmV ⟨6, n, cla, clo⟩] w (CEnd T 1 g w) := by
  have hB := (Below.refl w.heap.size w).alloc (Nat.le_refl _) (.cells (cmC ⟨6, n, cla, clo⟩) 42)
  have hg1 := (hB.block g (block_lt hg)).trans hg
  have hC := han w (.cells (cmC ⟨6, n, cla, clo⟩) 42)
  have hK := ((keepB hB).mono (fun _ _ h => h.elim) : KeepBut (fun k => k = g) w _)
  obtain ⟨k0, k1, -⟩ := cells4 hC
  clear hg hC
  rcases hn with hn | hn
  · go_enter Tryz.func78, Tryz.ntmps78
    go_wp2_with fail
    go_ret
    exact ⟨rfl, hK, s, hg1, fun h => absurd h (by decide)⟩
  · have hn1 : ¬ n < 0 := by omega
    have hn2 : 4 ≤ n := by omega
    go_enter Tryz.func78, Tryz.ntmps78
    go_wp2_with fail
    go_ret
    exact ⟨rfl, hK, s, hg1, fun h => absurd h (by decide)⟩
theorem sensor6_any (s : Dw.St) (hi : 0 ≤ s.iso ∧ s.iso ≤ 15) (c : Dw.Cmd) (hk : c.ki = 6) (g : Nat) (w : World) (hg : w.heap[g]? = some (.cells (stC s) 143 (0, 0))) :
    Calls Tryz.prog 78 #[.pointer (some ⟨g, 0, none⟩), cmV c] w (CEnd { s with iso := Dw.setOff s.iso c.n } (Dw.resE c.n) g w) := by
  obtain ⟨mo, ar, ho, la, lo, iso⟩ := s
  obtain ⟨ki, n, cla, clo⟩ := c
  dsimp only at *
  subst hk
  by_cases hn : n < 0 ∨ 3 < n
  · have e : (if n < 0 ∨ 3 < n then (1 : Int) else 0) = 1 := if_pos hn
    first
    | (unfold Dw.isoE; rw [if_pos hn]; exact sensor6_far _ n hn cla clo _ g w hg)
    | (unfold Dw.resE; rw [if_pos hn]; exact sensor6_far _ n hn cla clo _ g w hg)
  · first
    | (unfold Dw.isoE; rw [if_neg hn]
       rcases Dw.n4 hn with rfl | rfl | rfl | rfl
       · exact sensor6_0 mo la lo iso ar ho hi cla clo g w hg
       · exact sensor6_1 mo la lo iso ar ho hi cla clo g w hg
       · exact sensor6_2 mo la lo iso ar ho hi cla clo g w hg
       · exact sensor6_3 mo la lo iso ar ho hi cla clo g w hg)
    | (unfold Dw.resE; rw [if_neg hn]
       rcases Dw.n4 hn with rfl | rfl | rfl | rfl
       · exact sensor6_0 mo la lo iso ar ho hi cla clo g w hg
       · exact sensor6_1 mo la lo iso ar ho hi cla clo g w hg
       · exact sensor6_2 mo la lo iso ar ho hi cla clo g w hg
       · exact sensor6_3 mo la lo iso ar ho hi cla clo g w hg)
theorem delta_any (s : Dw.St) (hi : 0 ≤ s.iso ∧ s.iso ≤ 15) (c : Dw.Cmd) (hla : c.la < 18446744073709551616) (hlo : c.lo < 18446744073709551616) (w : World) :
    Calls Tryz.prog 57 #[stV s, cmV c] w fun e w' => e = .returned (.tuple #[stV (Dw.deltaS s c), .int .i64 (Dw.deltaE s c)]) ∧ Below w.heap.size w w' := by
  by_cases h1 : c.ki = 1
  · exact delta_go s hi c h1 w
  by_cases h2 : c.ki = 2
  · exact delta_arm s hi c h2 w
  by_cases h3 : c.ki = 3
  · have e1 : Dw.deltaE s c = Dw.disarmE s := by unfold Dw.deltaE; rw [if_neg h1, if_neg h2, if_pos h3]
    have e2 : Dw.deltaS s c = if Dw.disarmE s = 0 then { s with ar := false, mo := 0 } else s := by unfold Dw.deltaS; rw [e1]; unfold Dw.deltaT; rw [if_neg h1, if_neg h2, if_pos h3]
    rw [e1, e2]
    exact delta_core s c 76 2 _ _ w (fun args w => by go_simp) (fun g => by rw [h3]; rfl) (fun g w' hg => disarm_any s c g w' hg)
  by_cases h4 : c.ki = 4
  · have e1 : Dw.deltaE s c = Dw.homeE c := by unfold Dw.deltaE; rw [if_neg h1, if_neg h2, if_neg h3, if_pos h4]
    have e2 : Dw.deltaS s c = if Dw.homeE c = 0 then { s with ho := true, la := Dw.fixV c.la, lo := Dw.fixV c.lo } else s := by unfold Dw.deltaS; rw [e1]; unfold Dw.deltaT; rw [if_neg h1, if_neg h2, if_neg h3, if_pos h4]
    rw [e1, e2]
    exact delta_core s c 77 3 _ _ w (fun args w => by go_simp) (fun g => by rw [h4]; rfl) (fun g w' hg => chome_any s c hla hlo g w' hg)
  by_cases h5 : c.ki = 5
  · have e1 : Dw.deltaE s c = Dw.isoE s c.n := by unfold Dw.deltaE; rw [if_neg h1, if_neg h2, if_neg h3, if_neg h4, if_pos h5]
    have e2 : Dw.deltaS s c = if Dw.isoE s c.n = 0 then { s with iso := Dw.setOn s.iso c.n } else s := by unfold Dw.deltaS; rw [e1]; unfold Dw.deltaT; rw [if_neg h1, if_neg h2, if_neg h3, if_neg h4, if_pos h5]
    rw [e1, e2]
    exact delta_core s c 78 4 _ _ w (fun args w => by go_simp) (fun g => by rw [h5]; rfl) (fun g w' hg => sensor5_any s hi c h5 g w' hg)
  by_cases h6 : c.ki = 6
  · have e1 : Dw.deltaE s c = Dw.resE c.n := by unfold Dw.deltaE; rw [if_neg h1, if_neg h2, if_neg h3, if_neg h4, if_neg h5, if_pos h6]
    have e2 : Dw.deltaS s c = if Dw.resE c.n = 0 then { s with iso := Dw.setOff s.iso c.n } else s := by unfold Dw.deltaS; rw [e1]; unfold Dw.deltaT; rw [if_neg h1, if_neg h2, if_neg h3, if_neg h4, if_neg h5]
    rw [e1, e2]
    exact delta_core s c 78 5 _ _ w (fun args w => by go_simp) (fun g => by rw [h6]; rfl) (fun g w' hg => sensor6_any s hi c h6 g w' hg)
  · have e1 : Dw.deltaE s c = 1 := by unfold Dw.deltaE; rw [if_neg h1, if_neg h2, if_neg h3, if_neg h4, if_neg h5, if_neg h6]
    have e2 : Dw.deltaS s c = s := by unfold Dw.deltaS; rw [e1, if_neg (by decide)]
    rw [e1, e2]
    refine delta_none s c w (fun g => ?_)
    obtain ⟨ki, n, la, lo⟩ := c
    dsimp only at h1 h2 h3 h4 h5 h6
    have q : ∀ k : Int, ki ≠ k → ∀ (v : Value) (b : Nat) (r : List MapEntry) (i : Nat), Instr.findNow (.int .i64) (.int .i64 ki) ({ key := .int .i64 k, val := v, born := b } :: r) i = Instr.findNow (.int .i64) (.int .i64 ki) r (i + 1) := fun k hk v b r i => by
      have hs : Instr.sameNow (.int .i64) (.int .i64 ki) (.int .i64 k) = some false := by simp [Instr.sameNow, hk]
      simp [Instr.findNow, hs]
    show Instr.findNow (.int .i64) (.int .i64 ki) [ent g 1 _ 0, ent g 2 _ 1, ent g 3 _ 2, ent g 4 _ 3, ent g 5 _ 4, ent g 6 _ 5] 0 = _
    rw [q 1 h1, q 2 h2, q 3 h3, q 4 h4, q 5 h5, q 6 h6]
    rfl
end Go.Proofs.YtcadgecnlahkgaaGreatDoor
