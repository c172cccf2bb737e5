/- What the statement's proof stands on, part 46: Con7, Con8. -/
import Derived.Test.YtjibbchfndhhpaaGreatDoorRc45
import Derived.Test.YtjibbchfndhhpaaGreatDoorRc27
import Derived.Laws.Cover2
import Derived.Laws.FloatArith
import Derived.Test.YtjibbchfndhhpaaGreatDoorRc2
import Derived.Laws.IdiomStrings
set_option linter.unusedSimpArgs false
set_option linter.unusedVariables false
set_option maxRecDepth 100000
set_option maxHeartbeats 4000000
namespace Go.Proofs.YtjibbchfndhhpaaGreatDoor
open Go.RowKit Go.Shelf
attribute [local go_sem] Oper.semAt_some
theorem f64_lt (n : Int) : Dw.f64 n < 18446744073709551616 := by
  have h := floatOfInt_wf .f64 n
  unfold Lit.wf at h
  exact of_decide_eq_true h
theorem two_of {l : List Int} (hl : l.length = 2) : ∃ n m, l = [n, m] := by
  match l, hl with
  | [n, m], _ => exact ⟨n, m, rfl⟩
theorem ord_begin : OrdOk 37 0 2 := fun d hd l hl hr v vi g w hg hrp hv hn => by
  obtain ⟨n, m, rfl⟩ := two_of hl
  obtain ⟨bb, off, cap, rfl, hc⟩ := ints_get hv (by simp)
  have c0 : w.cell? ⟨bb, off, none⟩ = some (.int .i64 n) := hc 0 n rfl
  have c1 : w.cell? ⟨bb, off + 1, none⟩ = some (.int .i64 m) := hc 1 m rfl
  have hok := Dw.newF_ok n m
  obtain ⟨X0, hX0⟩ : ∃ X, (Dw.beginF n m).x = X := ⟨_, rfl⟩
  have HS := Lib.hid (show ∀ w, NoneAt w → Calls Tryz.prog 15 #[.int .i64 n, .int .i64 m] w fun e w' => e = .returned (fliV X0 (.slice none 0 0)) ∧ Below w.heap.size w w' from fun w hn => by rw [← hX0]; exact begin_any n m w hn)
  have HRES := Lib.hid (show Dw.doD d 0 [n, m] = (⟨⟨X0, []⟩, d.p⟩, Dw.replyS X0 0) by rw [← hX0]; rfl)
  have HLG := Lib.hid (show Dw.legal X0.s = true by rw [← hX0]; exact Dw.boot_legal _)
  have HN := Lib.hid hn
  obtain ⟨⟨x, o⟩, pw⟩ := d
  dsimp only at *
  clear hrp hv hn hd hr hl hc hok hX0
  go_enter Tryz.func37, Tryz.ntmps37
  go_wp2_with fail
  refine wp_letter [0, 1, 2, 3, 4, 5, 6] 7 8 (fun v w' => v = fliV X0 (.slice none 0 0)) rfl (by kernel_rfl) (by kernel_rfl) rfl (fun v A B h hk => h) ?_
  (apply rat; (focus (intro w' hk; obtain ⟨k0,k1⟩ := look2 hk c0 c1; (iterate 7 (refine' rv ?_ rfl rfl (by go_simp; first | done | with_reducible rfl | exact rfl); try simp only [Act.put, List.setIfInBounds_toArray, List.set_cons_zero, List.set_cons_succ])); (exact rn))))
  refine ⟨rfl, sure_call (f := 15) (args := #[.int .i64 n, .int .i64 m]) (fun w' hk => by go_simp; first | done | (constructor <;> with_reducible rfl) | with_reducible rfl) (fun w' hk => (HS.out w' (HN.out.here.none.keep hk)).mono ?_), ?_⟩
  · rintro en w'' ⟨rfl, hb⟩
    exact ⟨_, rfl, keepB hb, rfl⟩
  rintro u w5 hk5 rfl
  have b5 := kpi hk5 hg
  have b6 := srh (c' := deskC X0 (.slice none 0 0) pw) b5
  have hA : At1 w g (deskC X0 (.slice none 0 0) pw) 53 (w5.setRow g (deskC X0 (.slice none 0 0) pw)) := ⟨(hk5.mono fun _ _ h => h.elim).setRow (g := g) (X := fun k => k = g) rfl _, b6⟩
  have hN6 : ConG g (w5.setRow g (deskC X0 (.slice none 0 0) pw)) := (HN.out.keep hk5).but ((KeepBut.refl _ w5).setRow (g := g) (X := fun k => k = g) rfl _)
  obtain ⟨W6, hW6⟩ : ∃ W, w5.setRow g (deskC X0 (.slice none 0 0) pw) = W := ⟨_, rfl⟩
  rw [hW6] at b6 hA hN6
  have HW6 := Lib.hid hW6
  have HDS := Lib.hid (dsaid_any X0 (.slice none 0 0) pw 0 ⟨by omega, by omega⟩ g W6 b6 HLG.out hN6.here)
  have HA6 := Lib.hid hA
  clear hW6 hA hN6 hk5 HN hg b6
  change wpList _ _ _ [_, _, _] _ _
  (try simp only [Act.put, List.setIfInBounds_toArray, List.set_cons_zero, List.set_cons_succ])
  go_wp2_with (first | (refine sp 48 0 (fliC X0 (.slice none 0 0)) (deskC X0 (.slice none 0 0) pw) b5 rfl rfl rfl rfl (by kernel_rfl) (by rfl) (by rfl) ?_; rw [HW6.out]; clear b5))
  refine HDS.out.mono ?_
  rintro en w9 ⟨rfl, hb⟩
  have HA9 := Lib.hid (HA6.out.keep (keepB hb))
  clear hb
  go_wp2_with fail
  go_ret
  rw [HRES.out]
  exact ⟨rfl, _, HA9.out, ⟨rfl, .inl ⟨rfl, rfl⟩⟩⟩
theorem ord_home : OrdOk 41 4 2 := fun d hd l hl hr v vi g w hg hrp hv hn => by
  obtain ⟨n, m, rfl⟩ := two_of hl
  obtain ⟨bb, off, cap, rfl, hc⟩ := ints_get hv (by simp)
  have c0 : w.cell? ⟨bb, off, none⟩ = some (.int .i64 n) := hc 0 n rfl
  have c1 : w.cell? ⟨bb, off + 1, none⟩ = some (.int .i64 m) := hc 1 m rfl
  have HS0 : ∀ W, Keep w W → Calls Tryz.prog 83 #[.pointer (some ⟨g, 0, none⟩), cmV ⟨4, 0, Dw.f64 n, Dw.f64 m⟩] W fun en w' => en = .returned (.string ⟨(Dw.askD d ⟨4, 0, Dw.f64 n, Dw.f64 m⟩).2.toArray⟩) ∧ DeskAt w g (Dw.askD d ⟨4, 0, Dw.f64 n, Dw.f64 m⟩).1 w' := fun W hk =>
    (dask_any d hd.now ⟨4, 0, Dw.f64 n, Dw.f64 m⟩ ⟨f64_lt n, f64_lt m⟩ v g W (kpi hk hg) (reps_next hrp hk.whole) (hn.keep hk)).mono fun en w' h => ⟨h.1, DeskAt.after (hk.mono fun _ _ h => h.elim) h.2⟩
  have HS := Lib.hid HS0
  have HRES := Lib.hid (show Dw.doD d 4 [n, m] = Dw.askD d ⟨4, 0, Dw.f64 n, Dw.f64 m⟩ from rfl)
  clear hg hrp hv hn hd hr hl hc HS0
  go_enter Tryz.func41, Tryz.ntmps41
  go_wp2_with fail
  refine wp_pure [0, 1, 2, 3, 4, 5, 6, 7, 8, 9] 10 (by kernel_rfl) (by kernel_rfl) rfl ?_
  (apply rat; (focus (intro w' hk; obtain ⟨k0,k1⟩ := look2 hk c0 c1; (iterate 10 (refine' rv ?_ rfl rfl (by go_simp; first | done | with_reducible rfl | exact rfl); try simp only [Act.put, List.setIfInBounds_toArray, List.set_cons_zero, List.set_cons_succ])); (exact rn))))
  intro w9 hk9
  simp only [List.drop_succ_cons, List.drop_zero]
  have HS9 := Lib.hid (HS.out w9 hk9)
  clear hk9 c0 c1 HS
  go_wp2_with fail
  refine HS9.out.mono ?_
  rintro en w10 ⟨rfl, hD⟩
  have HD := Lib.hid hD
  clear hD
  go_wp2_with fail
  go_ret
  exact ⟨by rw [HRES.out]; rfl, by rw [HRES.out]; exact HD.out⟩
theorem ord_wear : OrdOk 50 13 0 := fun d hd l hl hr v vi g w hg hrp hv hn => by
  obtain rfl : l = [] := List.eq_nil_of_length_eq_zero hl
  have hwo := hd.wo
  have HW := Lib.hid (wear_any d.f.x.f ⟨hwo.a.1, by have := hwo.a.2; omega⟩ ⟨hwo.b.1, by have := hwo.b.2; omega⟩)
  have HRES := Lib.hid (show Dw.doD d 13 [] = (d, Dw.saidS [119, 101, 97, 114] [d.f.x.f.e0 + d.f.x.f.e1]) from rfl)
  have HC := Lib.hid (fun vi w hv hn => csaid_any [119, 101, 97, 114] [d.f.x.f.e0 + d.f.x.f.e1] (by simp) (by simp) (fun k hk => by have h1 := hwo.a; have h2 := hwo.b; simp at hk; omega) vi w hv hn)
  have HN := Lib.hid hn.here
  have HFIN := Lib.hid (show ∀ W, Below w.heap.size w W → DeskAt w g d W from fun W hb => ⟨v, ⟨(keepB hb).mono fun _ _ h => h.elim, kp hb hg⟩, reps_next hrp hb⟩)
  obtain ⟨⟨⟨f, st, q1, q2, q3⟩, o⟩, pw⟩ := d
  obtain ⟨fa, fb, fe0, fe1, fli⟩ := f
  dsimp only at *
  clear hrp hv hn hd hr hl hwo
  go_enter Tryz.func50, Tryz.ntmps50
  go_wp2_with (first | (refine lp 41 0 (flashC fa fb fe0 fe1 fli) hg rfl rfl rfl (by kernel_rfl) (by rfl) ?_))
  refine (HW.out _).mono ?_
  rintro en w1 ⟨rfl, hb1⟩
  clear hg
  go_wp2_with fail
  have hib := (Below.refl w1.heap.size w1).alloc (Nat.le_refl _) (.cells #[.int .i64 (fe0 + fe1)] 3)
  refine (HC.out _ _ (ints_new w1 [fe0 + fe1] 3 rfl) (HN.out.next (tr hb1 hib))).mono ?_
  rintro en w2 ⟨rfl, hb2⟩
  have HB2 := Lib.hid (HFIN.out _ (tr (tr hb1 hib) hb2))
  clear hb1 hib hb2
  go_wp2_with fail
  go_ret
  rw [HRES.out]
  exact ⟨rfl, HB2.out⟩
theorem rep_one (c : UInt8) : ∀ n, Lib.repeatL [c] n = List.replicate n c
  | 0 => rfl
  | n + 1 => by
    rw [List.replicate_succ, ← rep_one c n]
    rfl
theorem wrap_byteI (n : Int) : IntKind.u8.wrap n = ((Dw.byteI n).toNat : Int) := by
  unfold Dw.byteI
  rw [UInt8.toNat_ofNat']
  show n % 256 = _
  omega
theorem exec_str1 {w : World} {o : Oper} {a : Act} {x : Operand} {b : Nat} {c : UInt8} (hb : w.heap[b]? = some (.cells #[.int .u8 (c.toNat : Int)] 5)) (hop : o.op = .convert 119 9 x) (hx : a.eval x = .slice (some ⟨b, 0, none⟩) 1 1) :
    (execOp a.eval o).run Tryz.prog w = .ok (.value (.string ⟨#[c]⟩)) w := by
  have h := run_convert_bytes_back (P := Tryz.prog) w 119 9 5 ⟨b, 0, none⟩ 1 [c] Tryz.underlying119 Tryz.underlying5 Tryz.underlying9 (fun j hj => by
    have : j = 0 := by simp at hj; omega
    subst this
    rw [addr0, cell_of_row _ _ 0 _ _ _ hb]
    rfl)
  simp only [List.length_cons, List.length_nil, Nat.zero_add] at h
  simp [execOp, hop, hx, h, Result.andThen]
theorem ord_cut : OrdOk 49 12 2 := fun d hd l hl hr v vi g w hg hrp hv hn => by
  obtain ⟨n, m, rfl⟩ := two_of hl
  obtain ⟨bb, off, cap, rfl, hc⟩ := ints_get hv (by simp)
  have c0 : w.cell? ⟨bb, off, none⟩ = some (.int .i64 n) := hc 0 n rfl
  have c1 : w.cell? ⟨bb, off + 1, none⟩ = some (.int .i64 m) := hc 1 m rfl
  have hwb := wrap_byteI m
  obtain ⟨c, hcc⟩ : ∃ c, Dw.byteI m = c := ⟨_, rfl⟩
  obtain ⟨M, hM⟩ : ∃ M, List.replicate 300 c = M := ⟨_, rfl⟩
  have HRP := Lib.hid (show ∀ w, Calls Tryz.prog 73 #[.string ⟨#[c]⟩, .int .i64 300] w fun e w' => e = .returned (.string ⟨M.toArray⟩) ∧ Below w.heap.size w w' from fun w => by
    have h := Tryz.strings_Repeat_main ⟨#[c]⟩ 300 w (by omega) (by omega) (by rw [show (⟨#[c]⟩ : ByteArray).size = 1 from rfl]; omega) (show 0 < 1 by omega)
    rw [show (⟨#[c]⟩ : ByteArray).data.toList = [c] from rfl, rep_one, hM] at h
    exact h)
  have HRES := Lib.hid (show Dw.doD d 12 [n, m] = (⟨d.f, ⟨n, M⟩⟩, [111, 107]) by rw [← hM, ← hcc]; rfl)
  rw [hcc] at hwb
  have HRPS := Lib.hid hrp
  obtain ⟨⟨x, o⟩, pw⟩ := d
  dsimp only at *
  clear hrp hv hn hd hr hl hc hM hcc
  go_enter Tryz.func49, Tryz.ntmps49
  go_wp2_with fail
  refine wp_letterP [0, 1, 2, 3, 4, 5, 6, 7] 8 [9, 10, 11] 12 (fun v w' => ∃ b, v = .slice (some ⟨b, 0, none⟩) 1 1 ∧ w'.heap[b]? = some (.cells #[.int .u8 (c.toNat : Int)] 5)) rfl (by kernel_rfl) (by kernel_rfl) (by kernel_rfl) rfl ?_
  (apply rat; (focus (intro w' hk; obtain ⟨k0,k1⟩ := look2 hk c0 c1; (iterate 8 (refine' rv ?_ rfl rfl (by go_simp; first | done | with_reducible rfl | exact rfl); try simp only [Act.put, List.setIfInBounds_toArray, List.set_cons_zero, List.set_cons_succ])); (exact rn))))
  refine ⟨rfl, fun w' hk => .inl ⟨.slice (some ⟨w'.heap.size, 0, none⟩) 1 1, w'.alloc (.cells #[.int .u8 (c.toNat : Int)] 5), by go_simp; first | done | with_reducible rfl | exact rfl, (KeepBut.refl _ _).alloc _, w'.heap.size, rfl, World.alloc_heap_new _ _⟩, ?_⟩
  rintro u w5 hk5 ⟨b, rfl, hb5⟩
  (try simp only [Act.put, List.setIfInBounds_toArray, List.set_cons_zero, List.set_cons_succ])
  (apply rat; (focus (intro w' hk; (refine' rv ?_ rfl rfl (by exact exec_str1 (kpi hk hb5) rfl rfl); try simp only [Act.put, List.setIfInBounds_toArray, List.set_cons_zero, List.set_cons_succ]); (refine' rc ?_ (by exact rfl) (by exact rfl) (by go_simp; first | done | (constructor <;> with_reducible rfl) | with_reducible rfl) (by exact HRP.out w'); try simp only [Act.put, List.setIfInBounds_toArray, List.set_cons_zero, List.set_cons_succ]); (refine' rv ?_ rfl rfl (by go_simp; first | done | with_reducible rfl | exact rfl); try simp only [Act.put, List.setIfInBounds_toArray, List.set_cons_zero, List.set_cons_succ]); (exact rn))))
  intro w9 hk9
  simp only [List.drop_succ_cons, List.drop_zero]
  have hkw := hk5.trans hk9
  have bG := kpi hkw hg
  have hRG := reps_next HRPS.out hkw.whole
  have b6 := srh (c' := deskC x v ⟨n, M⟩) bG
  have hA : At1 w g (deskC x v ⟨n, M⟩) 53 (w9.setRow g (deskC x v ⟨n, M⟩)) := ⟨(hkw.mono fun _ _ h => h.elim).setRow (g := g) (X := fun k => k = g) rfl _, b6⟩
  have hR6 : RepsAt (w9.setRow g (deskC x v ⟨n, M⟩)) v o := own_but hRG ((KeepBut.refl _ w9).setRow (g := g) (X := fun k => k = g) rfl _) (fun j hj => by subst hj; exact ⟨_, _, _, bG, by decide⟩)
  have HA := Lib.hid hA; have HR6 := Lib.hid hR6
  clear hk5 hk9 hkw hRG b6 hA hR6 hb5 HRPS HRP hg
  go_wp2_with (first | (refine sp 51 15 (pwC ⟨n, M⟩) (deskC x v ⟨n, M⟩) bG rfl rfl rfl rfl (by kernel_rfl) (by rfl) (by rfl) ?_; clear bG))
  go_ret
  rw [HRES.out]
  exact ⟨rfl, v, HA.out, HR6.out⟩
end Go.Proofs.YtjibbchfndhhpaaGreatDoor
