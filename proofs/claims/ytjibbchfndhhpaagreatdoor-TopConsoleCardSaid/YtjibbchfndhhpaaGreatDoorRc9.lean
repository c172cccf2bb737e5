/- What the statement's proof stands on, part 9: Deb2. -/
import Derived.Test.YtjibbchfndhhpaaGreatDoorRc8
import Derived.Outline
set_option linter.unusedSimpArgs false
set_option linter.unusedVariables false
set_option maxRecDepth 100000
set_option maxHeartbeats 4000000
namespace Go.Proofs.YtjibbchfndhhpaaGreatDoor
open Go.RowKit Go.Shelf
attribute [local go_sem] Oper.semAt_some
theorem callsIn_anyD {n m : Nat} {P : Program} {f : FuncId} {args : Array Value} {w : World} {R : Ending → World → Prop} (h : CallsIn Fence.wide n P f args w R) : CallsIn Fence.wide m P f args w R :=
  callsIn_wide.2 (callsIn_wide.1 h)
theorem upon_yield {P : Program} {R : Ending → World → Prop} {o : Oper} {a : Act} {K : Act → World → Prop} {Q : Exit → Act → World → Prop} {n m l l' : Nat} {args args' : Array Value} {W : World}
    (hargs : args' = args) (h : YieldAt Fence.wide n P l args W R) (hR : ∀ e W', R e W' → ∃ v, e = .returned v ∧ K (a.put o.dst v) W') :
    Oper.uponIn (Fence.wide.inRound l') m P o a K Q ((Instr.yield l args').run P W) := by
  subst hargs
  obtain ⟨fn, tmps, assign, body, hy, hR'⟩ := h
  rw [hy, Oper.uponIn_round]
  refine ⟨fun h => by simp [Fence.wide] at h, ?_⟩
  have : RoundIn (Fence.wide.inRound l') (m - 1) P l fn tmps assign body W R := ⟨hR'.1, fun c cs _ => hR'.2 c cs (room_wide _)⟩
  refine this.mono ?_
  intro e W' he
  obtain ⟨v, rfl, hk⟩ := hR e W' he
  exact hk
theorem after_store {U U' : World} {X : Nat → Prop} {Bc : Nat} {v0 v1 o0 o1 : Value} (h0 : U.cell? ⟨Bc, 0, none⟩ = some o0) (h1 : U.cell? ⟨Bc, 1, none⟩ = some o1) (f0 : U.frozen? ⟨Bc, 0, none⟩ = false) (f1 : U.frozen? ⟨Bc, 1, none⟩ = false)
    (hX : ¬ X Bc) (hk : KeepBut X ((U.setCell ⟨Bc, 0, none⟩ v0).setCell ⟨Bc, 1, none⟩ v1) U') :
    U'.cell? ⟨Bc, 0, none⟩ = some v0 ∧ U'.cell? ⟨Bc, 1, none⟩ = some v1 ∧ U'.frozen? ⟨Bc, 0, none⟩ = false ∧ U'.frozen? ⟨Bc, 1, none⟩ = false ∧ KeepBut (fun k => X k ∨ k = Bc) U U' ∧
      (∀ (p : Addr) (v : Value), p.block ≠ Bc → ¬ X p.block → U.cell? p = some v → U'.cell? p = some v) := by
  have hlt : Bc < U.heap.size := lt_of_cell h0
  have e0 : (U.setCell ⟨Bc, 0, none⟩ v0).cell? ⟨Bc, 0, none⟩ = some v0 := World.cell?_setCell_same' _ _ _ (by rw [h0]; rfl)
  have hk2 : KeepBut (fun k => k = Bc) U ((U.setCell ⟨Bc, 0, none⟩ v0).setCell ⟨Bc, 1, none⟩ v1) := ((KeepBut.refl (fun k => k = Bc) U).setCell (p := ⟨Bc, 0, none⟩) rfl _).setCell (p := ⟨Bc, 1, none⟩) rfl _
  have hlt2 : Bc < ((U.setCell ⟨Bc, 0, none⟩ v0).setCell ⟨Bc, 1, none⟩ v1).heap.size := Nat.lt_of_lt_of_le hlt hk2.size
  refine ⟨?_, ?_, ?_, ?_, (hk2.mono (fun _ _ h => .inr h)).trans (hk.mono (fun _ _ h => .inl h)), ?_⟩
  · rw [hk.cell (p := ⟨Bc, 0, none⟩) hlt2 hX]
    simp [go_sem, e0]
  · rw [hk.cell (p := ⟨Bc, 1, none⟩) hlt2 hX]
    exact World.cell?_setCell_same' _ _ _ (by simp [go_sem, h1])
  · rw [hk.frozen (p := ⟨Bc, 0, none⟩) hlt2 hX]; simpa [go_sem] using f0
  · rw [hk.frozen (p := ⟨Bc, 1, none⟩) hlt2 hX]; simpa [go_sem] using f1
  · intro p v hp hx hv
    have hpl := lt_of_cell hv
    rw [hk.cell (Nat.lt_of_lt_of_le hpl hk2.size) hx, hk2.cell hpl hp]
    exact hv
theorem scanC_split (c : Int × Int) (pre : List Int) (x : Int) (suf : List Int) : ∃ suf', scanC c (pre ++ x :: suf) = scanC c pre ++ allC c (pre ++ [x]) :: suf' := by
  unfold scanC
  refine ⟨(List.range suf.length).map (fun k => allC c ((pre ++ x :: suf).take (pre.length + 1 + k + 1))), ?_⟩
  rw [show (pre ++ x :: suf).length = pre.length + (1 + suf.length) from by simp; omega, List.range_add, List.range_add]
  simp only [List.map_append, List.map_map]
  congr 1
  · apply List.map_congr_left
    intro k hk
    have : k < pre.length := by simpa using hk
    rw [List.take_append_of_le_length (by omega)]
  · simp [Function.comp_def]
    refine ⟨by rw [List.take_append]; simp; rw [List.take_of_length_le (by omega)], ?_⟩
    intro k hk
    congr 2; omega
theorem scanC_prefix (c : Int × Int) (pre suf : List Int) : scanC c pre <+: scanC c (pre ++ suf) := by
  cases suf with
  | nil => simp
  | cons x suf => obtain ⟨s', h⟩ := scanC_split c pre x suf; exact ⟨_, h.symm⟩
theorem scanC_snoc (c : Int × Int) (pre : List Int) (x : Int) : scanC c (pre ++ [x]) = scanC c pre ++ [allC c (pre ++ [x])] := by
  unfold scanC
  rw [show (pre ++ [x]).length = pre.length + 1 from by simp, List.range_succ, List.map_append]
  congr 1
  · apply List.map_congr_left
    intro k hk
    have : k < pre.length := by simpa using hk
    rw [List.take_append_of_le_length (by omega)]
  · simp; rw [List.take_append]; simp; rw [List.take_of_length_le (by omega)]
theorem counts_tells (Bl Bc Bs : Nat) (sv : Value) (c0 : Int × Int) (zs : List Int) (hreach : zs.length * 8 ≤ 140737488351232) (X : Nat → Prop) (w : World)
    (hX : ∀ k, X k → k < w.heap.size) (_hXl : ¬ X Bl) (hXc : ¬ X Bc) (hlc : Bl ≠ Bc)
    (hl : w.cell? ⟨Bl, 0, none⟩ = some (.func (.func 200) #[] #[.pointer (some ⟨Bs, 0, none⟩)]))
    (hs : w.cell? ⟨Bs, 0, none⟩ = some sv) (hI : Ints (fun k => X k ∨ k = Bc) w sv zs)
    (hc0 : w.cell? ⟨Bc, 0, none⟩ = some (.int .i64 c0.1)) (hc1 : w.cell? ⟨Bc, 1, none⟩ = some (.int .i64 c0.2)) (hf0 : w.frozen? ⟨Bc, 0, none⟩ = false) (hf1 : w.frozen? ⟨Bc, 1, none⟩ = false) :
    Tells Tryz.prog 199 #[.pointer (some ⟨Bl, 0, none⟩), .pointer (some ⟨Bc, 0, none⟩)] (fun x : Int × Int => #[Value.agg #[.int .i64 x.1, .int .i64 x.2]]) (scanC c0 zs) X (fun k => k = Bc) w := fun n l J Jx W hW hl1 hl2 hJ hJx hY h0 => by
  have keep : ∀ {p : Addr} {v : Value}, w.cell? p = some v → W.cell? p = some v := fun h => (hW.cell (lt_of_cell h) id).trans h
  have hlB : Bl < w.heap.size := lt_of_cell hl
  have hcB : Bc < w.heap.size := lt_of_cell hc0
  have gl := keep hl; have gs := keep hs; have gc0 := keep hc0; have gc1 := keep hc1
  have gf0 := (hW.frozen (p := ⟨Bc, 0, none⟩) hcB id).trans hf0
  have gf1 := (hW.frozen (p := ⟨Bc, 1, none⟩) hcB id).trans hf1
  have gI : Ints (fun k => (X k ∨ k = l) ∨ k = Bc) W sv zs := by
    rcases hI with h | ⟨b, off, cap, e, hb, hx, hcs⟩
    · exact .inl h
    · exact .inr ⟨b, off, cap, e, Nat.lt_of_lt_of_le hb hW.size, fun h => hx (h.elim (fun h => h.elim .inl (fun h => by omega)) .inr), fun j hj => (hW.cell (p := ⟨b, off + j, none⟩) hb id).trans (hcs j hj)⟩
  have hsz := hW.size
  have hlB' : Bl < W.heap.size := by omega
  have hcB' : Bc < W.heap.size := by omega
  clear keep
  refine callsIn_anyD (n := 9) ?_
  refine callsIn_of_wp_marks Tryz.func199 rfl trivial ?_ rfl
  simp only [Tryz.ntmps199, List.size_toArray, List.length_cons, List.length_nil, Nat.reduceAdd, Nat.reduceSub, Array.replicate_succ, Array.replicate_zero, List.push_toArray, List.append_toArray, List.nil_append, List.cons_append]
  gi_wp2
  obtain ⟨V, hV⟩ : ∃ V, W.alloc (.cells #[.func (.yield l) #[] #[]] 287) = V := ⟨_, rfl⟩
  have kV : KeepBut (fun k => k = Bc ∨ W.heap.size ≤ k) W V := by rw [← hV]; exact (KeepBut.refl _ _).alloc _
  have vy : V.cell? ⟨W.heap.size, 0, none⟩ = some (.func (.yield l) #[] #[]) := by rw [← hV]; simp [go_sem]
  have vl : ∀ {p : Addr} {v : Value}, W.cell? p = some v → V.cell? p = some v := fun {p v} h => by rw [← hV]; exact (((KeepBut.refl (fun _ => False) W).alloc _).cell (lt_of_cell h) id).trans h
  have vf : ∀ {p : Addr}, p.block < W.heap.size → V.frozen? p = W.frozen? p := fun {p} h => by rw [← hV]; exact ((KeepBut.refl (fun _ => False) W).alloc _).frozen h id
  have vI : Ints (fun k => (X k ∨ k = l) ∨ k = Bc) V sv zs := by rw [← hV]; exact gI.keep ((KeepBut.refl (fun _ => False) W).alloc _) (fun _ h => h.elim)
  have vz : V.heap.size = W.heap.size + 1 := by rw [← hV]; simp
  rw [hV]
  have H0 := hJ _ _ _ h0 kV
  have V0 := vl gc0; have V1 := vl gc1; have F0 := (vf (p := ⟨Bc, 0, none⟩) hcB').trans gf0; have F1 := (vf (p := ⟨Bc, 1, none⟩) hcB').trans gf1
  have T := values_tells Bs sv zs hreach (fun k => (X k ∨ k = l) ∨ k = Bc) (fun _ => False) V (vl gs) vI
  clear gc0 gc1 gf0 gf1 gI vI gl hc0 hc1 hf0 hf1 hI hl
  refine wp_tells (n := 7) (gf := 200) (lb := #[.pointer (some ⟨Bs, 0, none⟩)]) rfl (enters_of Tryz.func200 (by kernel_rfl) rfl) T
    (by rintro k ((h | rfl) | rfl) <;> first | omega | (have := hX k h; omega)) (fun _ h => h.elim) (fun _ => rfl)
    (fun pre U => U.cell? ⟨Bc, 0, none⟩ = some (.int .i64 (allC c0 pre).1) ∧ U.cell? ⟨Bc, 1, none⟩ = some (.int .i64 (allC c0 pre).2) ∧ U.frozen? ⟨Bc, 0, none⟩ = false ∧ U.frozen? ⟨Bc, 1, none⟩ = false ∧
      U.cell? ⟨W.heap.size, 0, none⟩ = some (.func (.yield l) #[] #[]) ∧ J (scanC c0 pre) U)
    (fun c pre U => c = Code.ret ∧ Jx (scanC c0 pre) U)
    ?hI ?hIx ⟨V0, V1, F0, F1, vy, H0⟩
    (fun x => { tmps := #[.func (.yield l) #[] #[], .pointer (some ⟨Bl, 0, none⟩), .pointer (some ⟨Bc, 0, none⟩), .pointer (some ⟨W.heap.size, 0, none⟩), .int .i64 x, undef, .func (.func 200) #[] #[.pointer (some ⟨Bs, 0, none⟩)], .int .i64 x, undef, undef, undef, undef, undef, undef, undef, undef, undef, undef, undef, undef, undef, undef, undef, undef, undef, undef], defers := [] }) (fun pre _ U => U.cell? ⟨Bc, 0, none⟩ = some (.int .i64 (allC c0 pre).1) ∧ U.cell? ⟨Bc, 1, none⟩ = some (.int .i64 (allC c0 pre).2) ∧ U.frozen? ⟨Bc, 0, none⟩ = false ∧ U.frozen? ⟨Bc, 1, none⟩ = false ∧
      U.cell? ⟨W.heap.size, 0, none⟩ = some (.func (.yield l) #[] #[]) ∧ J (scanC c0 pre) U) ?hIA ?assign ?body ?done ?stop
  case hI =>
    rintro s A B ⟨a0, a1, b0, b1, c0', j⟩ k
    have k' : KeepBut (fun k => W.heap.size + 1 ≤ k) A B := k.mono (fun _ _ h => h.elim (fun h => h.elim) (fun h => by omega))
    have e1 : Bc < A.heap.size := lt_of_cell a0
    have e2 : W.heap.size < A.heap.size := lt_of_cell c0'
    exact ⟨(k'.cell e1 (by simp; omega)).trans a0, (k'.cell (p := ⟨Bc, 1, none⟩) e1 (by simp; omega)).trans a1, (k'.frozen (p := ⟨Bc, 0, none⟩) e1 (by simp; omega)).trans b0, (k'.frozen (p := ⟨Bc, 1, none⟩) e1 (by simp; omega)).trans b1,
      (k'.cell e2 (by simp)).trans c0', hJ _ _ _ j (k'.mono (fun _ _ h => .inr (by omega)))⟩
  case hIA =>
    rintro s _ A B ⟨a0, a1, b0, b1, c0', j⟩ k
    have k' : KeepBut (fun k => W.heap.size + 1 ≤ k) A B := k.mono (fun _ _ h => by omega)
    have e1 : Bc < A.heap.size := lt_of_cell a0
    have e2 : W.heap.size < A.heap.size := lt_of_cell c0'
    exact ⟨(k'.cell e1 (by simp; omega)).trans a0, (k'.cell (p := ⟨Bc, 1, none⟩) e1 (by simp; omega)).trans a1, (k'.frozen (p := ⟨Bc, 0, none⟩) e1 (by simp; omega)).trans b0, (k'.frozen (p := ⟨Bc, 1, none⟩) e1 (by simp; omega)).trans b1,
      (k'.cell e2 (by simp)).trans c0', hJ _ _ _ j (k'.mono (fun _ _ h => .inr (by omega)))⟩
  case hIx =>
    intro c s A B h k
    exact ⟨h.1, hJx _ _ _ h.2 (k.mono (fun _ _ h => h.elim (fun h => h.elim) (fun h => .inr (by omega))))⟩
  case assign =>
    intro l pre x suf U _ _ hI K hK
    gi_wp2
    exact hK _ (KeepBut.refl _ _) hI
  case body =>
    rintro l' pre x suf U hsuf hU ⟨u0, u1, g0, g1, uy, j⟩
    obtain ⟨suf', hsp⟩ := scanC_split c0 pre x suf
    rw [← hsuf] at hsp
    have hxx : W.heap.size ≠ Bc := by omega
    have hstep : allC c0 (pre ++ [x]) = add1 (allC c0 pre) x := allC_snoc _ _ _
    have sayl : saysB x = true → x = 1 ∨ x = 2 := by simp [saysB]
    have sayr : saysB x = false → ¬ (x = 1 ∨ x = 2) := by simp [saysB]
    have Hstep := Lib.hid hstep; clear hstep
    have Hsp := Lib.hid hsp; clear hsp
    have Hsuf := Lib.hid hsuf; clear hsuf
    generalize hcp : allC c0 pre = cp at *
    have Hcp := Lib.hid hcp; clear hcp
    obtain ⟨cv, cn⟩ := cp
    have Hss := Lib.hid (scanC_snoc c0 pre x)
    have hXW : ¬ (X W.heap.size ∨ W.heap.size = l) := fun h => h.elim (fun h => by have := hX _ h; omega) (fun h => by omega)
    have hXcl : ¬ (X Bc ∨ Bc = l) := fun h => h.elim hXc (fun h => by omega)
    by_cases hsay : saysB x = true
    · have sayl' := sayl hsay
      clear sayl sayr
      by_cases hv : cv = x
      all_goals
        gi_wp2_with (refine ⟨trivial, ?_⟩; gi_at_call 137; refine (CallsIn.inRound l' (callsIn_wide.2 (says_any _ _))).mono ?_; rintro e w' ⟨rfl, rfl⟩)
      all_goals
        refine upon_yield ?_ (hY _ (allC c0 (pre ++ [x])) suf' _ Hsp.out (hJ _ _ _ j (((KeepBut.refl _ _).setCell (p := ⟨Bc, 0, none⟩) (.inl rfl) _).setCell (p := ⟨Bc, 1, none⟩) (.inl rfl) _))) ?_
        · rw [Hstep.out]
          simp [add1, addV, addN, sayl', hv]
          try omega
        · rintro e U' (⟨rfl, hj, hk⟩ | ⟨rfl, hj, hk⟩)
          all_goals
            refine ⟨_, rfl, ?_⟩
            have Hj := Lib.hid hj; clear hj
            have hS := after_store u0 u1 g0 g1 hXcl (hk.mono (Y := fun k => X k ∨ k = l) (fun _ _ h => by first | exact .inl h | exact h))
            have HS := Lib.hid hS; clear hS hk
            gi_wp2
            obtain ⟨a0, a1, b0, b1, kk, ot⟩ := HS.out
          · refine ⟨kk, a0.trans ?_, a1.trans ?_, b0, b1, ot _ _ hxx hXW uy, by rw [Hss.out]; exact Hj.out⟩
            · rw [Hstep.out]; simp [add1, addV, sayl']
            · rw [Hstep.out]; simp [add1, addN, sayl', hv]; try omega
          · exact ⟨kk, rfl, by rw [Hss.out]; exact Hj.out⟩
    · have sayr' := sayr (by simpa using hsay)
      gi_wp2_with (refine ⟨trivial, ?_⟩; gi_at_call 137; refine (CallsIn.inRound l' (callsIn_wide.2 (says_any _ _))).mono ?_; rintro e w' ⟨rfl, rfl⟩)
      refine upon_yield ?_ (hY _ (allC c0 (pre ++ [x])) suf' _ Hsp.out j) ?_
      · rw [Hstep.out]
        simp [add1, addV, addN, sayr']
      · rintro e U' (⟨rfl, hj, hk⟩ | ⟨rfl, hj, hk⟩)
        all_goals
          refine ⟨_, rfl, ?_⟩
          have Hj := Lib.hid hj; clear hj
          have Hk := Lib.hid hk; clear hk
          gi_wp2
          have hk := Hk.out
          have hk : KeepBut (fun k => X k ∨ k = l) U U' := hk.mono (fun _ _ h => by first | exact .inl h | exact h)
          have kk : KeepBut (fun k => (X k ∨ k = l) ∨ k = Bc) U U' := hk.mono (fun _ _ h => .inl h)
          have el : Bc < U.heap.size := lt_of_cell u0
        · refine ⟨kk, (hk.cell (p := ⟨Bc, 0, none⟩) el hXcl).trans ?_, (hk.cell (p := ⟨Bc, 1, none⟩) el hXcl).trans ?_, (hk.frozen (p := ⟨Bc, 0, none⟩) el hXcl).trans g0, (hk.frozen (p := ⟨Bc, 1, none⟩) el hXcl).trans g1,
            (hk.cell (lt_of_cell uy) hXW).trans uy, by rw [Hss.out]; exact Hj.out⟩
          · rw [u0, Hstep.out]; simp [add1, addV, sayr']
          · rw [u1, Hstep.out]; simp [add1, addN, sayr']
        · exact ⟨kk, rfl, by rw [Hss.out]; exact Hj.out⟩
  case done =>
    rintro D U hD ⟨_, _, _, _, _, hj⟩ hK
    gi_wp2
    refine ⟨by simp, .inl ⟨_, _, rfl, run_takeDeferred hK, ?_⟩⟩
    refine ⟨_, results_none rfl _ _ _, ?_⟩
    exact ⟨⟨_, rfl⟩, .inl (hJ _ _ _ hj (KeepBut.putObj _ (.inr (by omega))))⟩
  case stop =>
    rintro D c pre U hD hpre ⟨rfl, hj⟩ hK
    gi_wp2
    refine ⟨by simp, .inl ⟨_, _, rfl, run_takeDeferred hK, ?_⟩⟩
    refine ⟨_, results_none rfl _ _ _, ?_⟩
    refine ⟨⟨_, rfl⟩, .inr ⟨scanC c0 pre, ?_, hJx _ _ _ hj (KeepBut.putObj _ (.inr (by omega)))⟩⟩
    obtain ⟨suf, rfl⟩ := hpre
    exact scanC_prefix _ _ _
end Go.Proofs.YtjibbchfndhhpaaGreatDoor
