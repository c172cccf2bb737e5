/- What the statement's proof stands on, part 45: Con3, Con4, Con5, Con6. -/
import Derived.Test.YtjibbchfndhhpaaGreatDoorRc44
import Derived.Test.YtjibbchfndhhpaaGreatDoorRc39
import Derived.Test.YtjibbchfndhhpaaGreatDoorRc43
import Derived.Test.YtjibbchfndhhpaaGreatDoorRc30
set_option linter.unusedSimpArgs false
set_option linter.unusedVariables false
set_option maxRecDepth 100000
set_option maxHeartbeats 4000000
namespace Go.Proofs.YtjibbchfndhhpaaGreatDoor
open Go.RowKit Go.Shelf
attribute [local go_sem] Oper.semAt_some
abbrev deskC (x : Dw.Su) (v : Value) (p : Dw.Pw) : Array Value := #[.string ⟨x.f.a.toArray⟩, .string ⟨x.f.b.toArray⟩, .int .i64 x.f.e0, .int .i64 x.f.e1, .int .i64 x.f.li, .int .i64 x.s.mo, .bool x.s.ar, .bool x.s.ho, .int .i64 x.s.la, .int .i64 x.s.lo, .int .i64 x.s.iso, .int .i64 x.ph, .int .i64 x.vo, .int .i64 x.n, v, .int .i64 p.cut, .string ⟨p.mask.toArray⟩]
theorem find4s (k : Int) (a b c d : Value) : Instr.findNow (.int .i64) (.int .i64 k) [⟨.int .i64 0, a, 0⟩, ⟨.int .i64 1, b, 1⟩, ⟨.int .i64 2, c, 2⟩, ⟨.int .i64 3, d, 3⟩] 0 =
    some (if k = 0 then some (0, a) else if k = 1 then some (1, b) else if k = 2 then some (2, c) else if k = 3 then some (3, d) else none) := by
  have step : ∀ (j : Int) (v : Value) (b : Nat) (es : List MapEntry) (i : Nat), Instr.findNow (.int .i64) (.int .i64 k) (⟨.int .i64 j, v, b⟩ :: es) i = if k = j then some (some (i, v)) else Instr.findNow (.int .i64) (.int .i64 k) es (i + 1) := fun j v b es i => by
    by_cases h : k = j
    · subst h
      rw [if_pos rfl]
      simp [Instr.findNow, Instr.sameNow]
    · rw [if_neg h]
      have e : (k == j) = false := by simpa using h
      simp [Instr.findNow, Instr.sameNow, e]
  rw [step, step, step, step]
  by_cases h1 : k = 0
  · subst h1; rfl
  by_cases h2 : k = 1
  · subst h2; rfl
  by_cases h3 : k = 2
  · subst h3; rfl
  by_cases h4 : k = 3
  · subst h4; rfl
  rw [if_neg h1, if_neg h2, if_neg h3, if_neg h4, if_neg h1, if_neg h2, if_neg h3, if_neg h4]
  rfl
theorem phase_eq (k : Int) : Value.string ⟨(Dw.phaseW k).toArray⟩ = gotV false (.string ⟨#[]⟩) (if k = 0 then some (0, Value.string ⟨#[104, 111, 108, 100]⟩) else if k = 1 then some (1, .string ⟨#[114, 117, 110]⟩) else if k = 2 then some (2, .string ⟨#[102, 97, 105, 108, 101, 100]⟩) else if k = 3 then some (3, .string ⟨#[111, 102, 102]⟩) else none) := by
  unfold Dw.phaseW
  (repeat' split) <;> rfl
theorem look4s (k : Int) (b : Nat) (W : World) (h : W.heap[b]? = some (.map (((((#[] : Array MapEntry).push ⟨.int .i64 0, .string ⟨#[104, 111, 108, 100]⟩, 0⟩).push ⟨.int .i64 1, .string ⟨#[114, 117, 110]⟩, 0 + 1⟩).push ⟨.int .i64 2, .string ⟨#[102, 97, 105, 108, 101, 100]⟩, 0 + 1 + 1⟩).push ⟨.int .i64 3, .string ⟨#[111, 102, 102]⟩, 0 + 1 + 1 + 1⟩) (0 + 1 + 1 + 1 + 1))) : (Instr.lookup 170 (.map (some b)) (.int .i64 k) false).run Tryz.prog W = .ok (.string ⟨(Dw.phaseW k).toArray⟩) W :=
  run_mget (P := Tryz.prog) (kv := .int .i64 k) (x := .string ⟨(Dw.phaseW k).toArray⟩) (ok := false) h Tryz.underlying170 Tryz.underlying3 rfl (find4s k _ _ _ _) (by kernel_rfl) (phase_eq k)
theorem text_len (s : Dw.St) : (Dw.textS s).length ≤ 140737488355328 := by
  obtain ⟨mo, ar, ho, la, lo, iso⟩ := s
  have h1 := Nat.le_trans (said_len [mo] [109, 111, 100, 101]) (show _ ≤ 100 by simp)
  have h2 := Nat.le_trans (said_len [la, lo] [104, 111, 109, 101]) (show _ ≤ 100 by simp)
  have h3 := Nat.le_trans (said_len [iso] [105, 115, 111]) (show _ ≤ 100 by simp)
  unfold Dw.textS Dw.textL
  dsimp only
  refine join_small _ (by cases ar <;> cases ho <;> simp) ?_
  cases ar <;> cases ho <;> simp only [Bool.false_eq_true, if_false, if_true, List.append_nil, List.forall_mem_append, List.forall_mem_singleton] <;> (repeat' (first | exact h1 | exact h2 | exact h3 | decide | constructor))
theorem phase_len (k : Int) : (Dw.phaseW k).length ≤ 10 := by
  unfold Dw.phaseW
  (repeat' split) <;> decide
theorem dsaid_any (x : Dw.Su) (v : Value) (p : Dw.Pw) (er : Int) (he : -1000 ≤ er ∧ er ≤ 1000) (g : Nat) (w : World) (hg : w.heap[g]? = some (.cells (deskC x v p) 53 (0, 0))) (hl : Dw.legal x.s = true) (hn : ConAt w) :
    Calls Tryz.prog 82 #[.pointer (some ⟨g, 0, none⟩), .int .i64 er] w fun e w' => e = .returned (.string ⟨(Dw.replyS x er).toArray⟩) ∧ Below w.heap.size w w' := by
  have hmm := @run_makeMap Tryz.prog
  obtain ⟨V, hV⟩ : ∃ V, w.alloc (.map #[] 0) = V := ⟨_, rfl⟩
  have bM : V.heap[w.heap.size]? = some (.map #[] 0) := by rw [← hV]; exact han _ _
  have hB : Below w.heap.size w V := by rw [← hV]; exact (Below.refl _ w).alloc (Nat.le_refl _) _
  have bG := kp hB hg
  have zg := block_lt hg
  have hne : g ≠ w.heap.size := by omega
  have hz : ∀ W, (zeroValue 9).run Tryz.prog W = .ok (.string ⟨#[]⟩) W := fun W => by kernel_rfl
  have HB := Lib.hid hB
  have HT := Lib.hid (fun w hn => text_any x.s hl w hn)
  have e1 : ∀ (x y : List UInt8), (⟨x.toArray⟩ : ByteArray) ++ ⟨y.toArray⟩ = ⟨(x ++ y).toArray⟩ := bs_append
  have e2 : ∀ (y : List UInt8), (⟨y.toArray⟩ : ByteArray) ++ ⟨#[32]⟩ = ⟨(y ++ [32]).toArray⟩ := fun y => bs_append y [32]
  clear hB hg hl
  by_cases h0 : er = 0
  · have q0 : (er != 0) = false := by simp [h0]
    have HR := Lib.hid (show Dw.replyS x er = Dw.phaseW x.ph ++ 32 :: Dw.textS x.s by unfold Dw.replyS; rw [if_pos h0, List.append_assoc]; rfl)
    have gt := text_len x.s
    have ga := phase_len x.ph
    have g1 : ¬ 9223372036854775807 < (Dw.phaseW x.ph).length + 1 := by omega
    have g2 : ¬ 9223372036854775807 < (Dw.phaseW x.ph).length + 1 + (Dw.textS x.s).length := by omega
    clear h0 he gt ga
    go_enter Tryz.func82, Tryz.ntmps82
    go_wp2_with (first | (refine mput (k := .const (.int .i64 0)) (kv := .int .i64 0) (vv := .string ⟨#[104, 111, 108, 100]⟩) rfl bM rfl rfl rfl rfl Tryz.underlying170 Tryz.underlying3 rfl rfl ?_; intro W1 p1 m1; have d1 := p1.block bG hne; have HB1 := Lib.hid (p1.below HB.out (Nat.le_refl _)); clear p1 bG bM HB hV) | (refine mput (k := .const (.int .i64 1)) (kv := .int .i64 1) (vv := .string ⟨#[114, 117, 110]⟩) rfl m1 rfl rfl rfl rfl Tryz.underlying170 Tryz.underlying3 rfl rfl ?_; intro W2 p2 m2; have d2 := p2.block d1 hne; have HB2 := Lib.hid (p2.below HB1.out (Nat.le_refl _)); clear p2 d1 m1 HB1) | (refine mput (k := .const (.int .i64 2)) (kv := .int .i64 2) (vv := .string ⟨#[102, 97, 105, 108, 101, 100]⟩) rfl m2 rfl rfl rfl rfl Tryz.underlying170 Tryz.underlying3 rfl rfl ?_; intro W3 p3 m3; have d3 := p3.block d2 hne; have HB3 := Lib.hid (p3.below HB2.out (Nat.le_refl _)); clear p3 d2 m2 HB2) | (refine mput (k := .const (.int .i64 3)) (kv := .int .i64 3) (vv := .string ⟨#[111, 102, 102]⟩) rfl m3 rfl rfl rfl rfl Tryz.underlying170 Tryz.underlying3 rfl rfl ?_; intro W4 p4 m4; have d4 := p4.block d3 hne; have HB4 := Lib.hid (p4.below HB3.out (Nat.le_refl _)); clear p4 d3 m3 HB3; have c11 : W4.cell? ⟨g, 11, none⟩ = some (.int .i64 x.ph) := (by rw [cell_of_row _ _ 11 _ _ _ d4]; rfl); have hlk := look4s x.ph w.heap.size W4 m4) | (refine lp 28 5 (stC x.s) d4 rfl rfl rfl (by kernel_rfl) (by rfl) ?_))
    refine cb (HT.out _ (hn.next HB4.out)) fun w5 hb => ?_
    have HB5 := Lib.hid (tr HB4.out hb)
    clear hb HB4 d4 m4 c11 hlk
    go_wp2_with fail
    go_ret
    exact ⟨by rw [HR.out]; rfl, HB5.out⟩
  · have q0 : (er != 0) = true := by simp [h0]
    have HR := Lib.hid (show Dw.replyS x er = Dw.saidS [101, 114, 114, 111, 114] [er] ++ 32 :: Dw.textS x.s by unfold Dw.replyS; rw [if_neg h0, List.append_assoc]; rfl)
    have HE := Lib.hid he
    have gt := text_len x.s
    have ga := said_len [er] [101, 114, 114, 111, 114]
    have g1 : ¬ 9223372036854775807 < (Dw.saidS [101, 114, 114, 111, 114] [er]).length + 1 := by simp at ga; omega
    have g2 : ¬ 9223372036854775807 < (Dw.saidS [101, 114, 114, 111, 114] [er]).length + 1 + (Dw.textS x.s).length := by simp at ga; omega
    clear h0 he gt ga
    go_enter Tryz.func82, Tryz.ntmps82
    go_wp2_with (first | (refine mput (k := .const (.int .i64 0)) (kv := .int .i64 0) (vv := .string ⟨#[104, 111, 108, 100]⟩) rfl bM rfl rfl rfl rfl Tryz.underlying170 Tryz.underlying3 rfl rfl ?_; intro W1 p1 m1; have d1 := p1.block bG hne; have HB1 := Lib.hid (p1.below HB.out (Nat.le_refl _)); clear p1 bG bM HB hV) | (refine mput (k := .const (.int .i64 1)) (kv := .int .i64 1) (vv := .string ⟨#[114, 117, 110]⟩) rfl m1 rfl rfl rfl rfl Tryz.underlying170 Tryz.underlying3 rfl rfl ?_; intro W2 p2 m2; have d2 := p2.block d1 hne; have HB2 := Lib.hid (p2.below HB1.out (Nat.le_refl _)); clear p2 d1 m1 HB1) | (refine mput (k := .const (.int .i64 2)) (kv := .int .i64 2) (vv := .string ⟨#[102, 97, 105, 108, 101, 100]⟩) rfl m2 rfl rfl rfl rfl Tryz.underlying170 Tryz.underlying3 rfl rfl ?_; intro W3 p3 m3; have d3 := p3.block d2 hne; have HB3 := Lib.hid (p3.below HB2.out (Nat.le_refl _)); clear p3 d2 m2 HB2) | (refine mput (k := .const (.int .i64 3)) (kv := .int .i64 3) (vv := .string ⟨#[111, 102, 102]⟩) rfl m3 rfl rfl rfl rfl Tryz.underlying170 Tryz.underlying3 rfl rfl ?_; intro W4 p4 m4; have d4 := p4.block d3 hne; have HB4 := Lib.hid (p4.below HB3.out (Nat.le_refl _)); clear p4 d3 m3 HB3; have c11 : W4.cell? ⟨g, 11, none⟩ = some (.int .i64 x.ph) := (by rw [cell_of_row _ _ 11 _ _ _ d4]; rfl); have hlk := look4s x.ph w.heap.size W4 m4))
    have hib := (Below.refl W4.heap.size W4).alloc (Nat.le_refl _) (.cells #[.int .i64 er] 3)
    refine (csaid_any [101, 114, 114, 111, 114] [er] (by simp) (by simp) (fun n hn => by have := HE.out; simp at hn; omega) _ _ (ints_block (ns := [er]) (han W4 (.cells #[.int .i64 er] 3))) (hn.next (tr HB4.out hib))).mono ?_
    rintro en w5 ⟨rfl, hb⟩
    have d5 := kp hb (kp hib d4)
    have HB5 := Lib.hid (tr (tr HB4.out hib) hb)
    clear hb hib HB4 d4 m4 c11 hlk
    go_wp2_with (first | (refine lp 28 5 (stC x.s) d5 rfl rfl rfl (by kernel_rfl) (by rfl) ?_))
    refine cb (HT.out _ (hn.next HB5.out)) fun w6 hb => ?_
    have HB6 := Lib.hid (tr HB5.out hb)
    clear hb HB5 d5
    go_wp2_with fail
    go_ret
    exact ⟨by rw [HR.out]; rfl, HB6.out⟩
theorem sure_call {P : Program} {w : World} {s : Sem Next} {F : Value → World → Prop} {f : FuncId} {args : Array Value} (h : ∀ w', Keep w w' → s.run P w' = .ok (.enter f args) w')
    (hc : ∀ w', Keep w w' → Calls P f args w' fun e w'' => ∃ v, e = .returned v ∧ Keep w' w'' ∧ F v w'') : SureSome P w s F := fun w' hk => .inr ⟨f, args, w', h w' hk, hc w' hk⟩
theorem part_cells {w : World} {b : Nat} {c : Array Value} {t : TypeId} {fr : Nat × Nat} (h : w.heap[b]? = some (.cells c t fr)) (off : Nat) (part : Array Value) (hp : (c.toList.drop off).take part.size = part.toList) (i : Nat) (u : Value) (hi : part.toList[i]? = some u) : w.cell? ⟨b, off + i, none⟩ = some u := by
  have hn : i < part.size := by simpa using (List.getElem?_eq_some_iff.1 hi).1
  rw [cell_of_row _ _ (off + i) _ _ _ h]
  rw [← hp, List.getElem?_take_of_lt hn, List.getElem?_drop] at hi
  simpa using hi
def ConG (g : Nat) (w : World) : Prop := ∃ w0, ConAt w0 ∧ w0.heap.size ≤ g ∧ Below w0.heap.size w0 w
theorem ConG.here {g : Nat} {w : World} (h : ConG g w) : ConAt w := by obtain ⟨w0, h0, _, hb⟩ := h; exact h0.next hb
theorem ConG.next {g : Nat} {w w' : World} (h : ConG g w) (hb : Below w.heap.size w w') : ConG g w' := by obtain ⟨w0, h0, h1, h2⟩ := h; exact ⟨w0, h0, h1, tr h2 hb⟩
theorem ConG.keep {g : Nat} {w w' : World} (h : ConG g w) (hk : Keep w w') : ConG g w' := h.next hk.whole
theorem ConG.but {g : Nat} {w w' : World} (h : ConG g w) (hk : KeepBut (fun k => k = g) w w') : ConG g w' := by
  obtain ⟨w0, h0, h1, h2⟩ := h
  exact ⟨w0, h0, h1, h2.trans (hk.below h2.size (fun k e => by omega))⟩
def DeskAt (w : World) (g : Nat) (d : Dw.Dk) (w' : World) : Prop := ∃ v, At1 w g (deskC d.f.x v d.p) 53 w' ∧ RepsAt w' v d.f.out
theorem DeskAt.after {w w1 w2 : World} {g : Nat} {d : Dw.Dk} (hk : KeepBut (fun k => k = g) w w1) (h : DeskAt w1 g d w2) : DeskAt w g d w2 := by
  obtain ⟨v, h1, h2⟩ := h
  exact ⟨v, ⟨hk.trans h1.1, h1.2⟩, h2⟩
theorem DeskAt.keep {w w1 w2 : World} {g : Nat} {d : Dw.Dk} (h : DeskAt w g d w1) (hk : Keep w1 w2) : DeskAt w g d w2 := by
  obtain ⟨v, h1, h2⟩ := h
  exact ⟨v, h1.keep hk, reps_next h2 hk.whole⟩
structure DkOk (d : Dw.Dk) : Prop where
  fl : Dw.FlOk d.f.x.f
  leg : Dw.legal d.f.x.s = true
  len : d.f.out.length ≤ 100000
theorem deltaE_range (s : Dw.St) (c : Dw.Cmd) : -1000 ≤ Dw.deltaE s c ∧ Dw.deltaE s c ≤ 1000 := by
  unfold Dw.deltaE Dw.goesE Dw.armE Dw.disarmE Dw.homeE Dw.isoE Dw.resE Dw.fixE
  (repeat' split) <;> decide
theorem stepE_range (x : Dw.Su) (e : Dw.En) : -1000 ≤ Dw.stepE x e ∧ Dw.stepE x e ≤ 1000 := by
  have h := deltaE_range x.s e.c
  unfold Dw.stepE Dw.commandE Dw.sampleE Dw.refusedE Dw.writeE
  dsimp only
  (repeat' split) <;> first | exact h | decide
theorem dstep_any (d : Dw.Dk) (hd : DkOk d) (e : Dw.En) (he : enOk e) (hi : Dw.isK e = true) (v : Value) (g : Nat) (w : World) (hg : w.heap[g]? = some (.cells (deskC d.f.x v d.p) 53 (0, 0))) (hr : RepsAt w v d.f.out) (hn : ConG g w) :
    Calls Tryz.prog 85 #[.pointer (some ⟨g, 0, none⟩), enV e] w fun en w' => en = .returned (.string ⟨(Dw.stepD d e).2.toArray⟩) ∧ DeskAt w g (Dw.stepD d e).1 w' := by
  obtain ⟨V, hV⟩ : ∃ V, w.alloc (.cells (enC e) 136) = V := ⟨_, rfl⟩
  have b3 : V.heap[w.heap.size]? = some (.cells (enC e) 136) := by rw [← hV]; exact han _ _
  have hB : Below w.heap.size w V := by rw [← hV]; exact (Below.refl _ w).alloc (Nat.le_refl _) _
  have bG := kp hB hg
  have hR := reps_next hr hB
  have ho : (Dw.stepF d.f e).out = d.f.out ++ [Dw.repOf d.f.x e] := by unfold Dw.stepF; rw [hi]; rfl
  have hx : (Dw.stepF d.f e).x = Dw.stepX d.f.x e := Dw.stepF_x _ _
  have HS0 := fun v w hn hv => fstep_any d.f e hd.fl hd.leg he (Nat.le_trans hd.len (by decide)) v w hn hv
  have HE := Lib.hid (stepE_range d.f.x e)
  have HLG := Lib.hid (Dw.stepX_legal hd.leg e)
  have HRP := Lib.hid (show (Dw.stepD d e).2 = Dw.replyS (Dw.stepX d.f.x e) (Dw.stepE d.f.x e) from rfl)
  obtain ⟨p, q, rfl⟩ := reps_shape hr
  have hlen := hd.len
  rw [hx, ho] at HS0
  have HS := Lib.hid HS0
  have HD := Lib.hid (show (Dw.stepD d e).1 = ⟨⟨Dw.stepX d.f.x e, d.f.out ++ [Dw.repOf d.f.x e]⟩, d.p⟩ by
    show (⟨Dw.stepF d.f e, d.p⟩ : Dw.Dk) = _
    rw [← hx, ← ho])
  have HNV := Lib.hid (hn.next hB)
  obtain ⟨⟨x, o⟩, pw⟩ := d
  dsimp only at *
  obtain ⟨X2, hX2⟩ : ∃ X, Dw.stepX x e = X := ⟨_, rfl⟩
  obtain ⟨er, her⟩ : ∃ k, Dw.stepE x e = k := ⟨_, rfl⟩
  obtain ⟨rp, hrp⟩ : ∃ r, Dw.repOf x e = r := ⟨_, rfl⟩
  have hre : rp.e = er := by rw [← hrp]; exact her
  rw [hX2] at HS HD HLG HRP
  rw [hrp] at HS HD
  rw [her] at HE HRP
  have HKE := Lib.hid hB
  clear hg hr hd he hi ho hx hX2 her hrp hn hB HS0
  go_enter Tryz.func85, Tryz.ntmps85
  go_wp2_with fail
  try rw [hV]
  clear hV
  refine wp_letter [0, 1, 2, 3, 4, 5] 6 7 (fun v w' => ∃ v', v = fliV X2 v' ∧ RepsAt w' v' (o ++ [rp])) rfl (by kernel_rfl) (by kernel_rfl) rfl (fun v A B h hk => by obtain ⟨v', e, h⟩ := h; exact ⟨v', e, reps_next h hk.whole⟩) ?_
  (apply rat; (focus (intro w' hk; (iterate 4 (refine' rv ?_ rfl rfl (by go_simp; first | done | with_reducible rfl | exact rfl); try simp only [Act.put, List.setIfInBounds_toArray, List.set_cons_zero, List.set_cons_succ])); (refine' rv ?_ rfl rfl (by exact exec_cells (b := g) (off := 0) (fliC x (.slice p o.length q)) (part_cells (kpi hk bG) 0 (fliC x (.slice p o.length q)) rfl) rfl rfl (by kernel_rfl)); try simp only [Act.put, List.setIfInBounds_toArray, List.set_cons_zero, List.set_cons_succ]); (refine' rv ?_ rfl rfl (by exact exec_cells (enC e) (cells_of (kpi hk b3)) rfl rfl (by kernel_rfl)); try simp only [Act.put, List.setIfInBounds_toArray, List.set_cons_zero, List.set_cons_succ]); (exact rn))))
  refine ⟨rfl, sure_call (f := 120) (args := #[fliV x (.slice p o.length q), enV e]) (fun w' hk => by go_simp; first | done | (constructor <;> with_reducible rfl) | with_reducible rfl) (fun w' hk => (HS.out _ _ (HNV.out.here.none.keep hk) (reps_next hR hk.whole)).mono ?_), ?_⟩
  · rintro en w'' ⟨⟨v', rfl, hr'⟩, hb⟩
    exact ⟨_, rfl, keepB hb, v', rfl, hr'⟩
  rintro u w5 hk5 ⟨v5, rfl, hr5⟩
  obtain ⟨p5, q5, hv5⟩ := reps_shape hr5
  have hln : (o ++ [rp]).length = o.length + 1 := by simp
  rw [hln] at hv5
  obtain ⟨K, hK⟩ : ∃ K, o.length = K := ⟨_, rfl⟩
  rw [hK] at hv5 hlen bG ⊢
  subst hv5
  have b5 := kpi hk5 bG
  have hB5 := HKE.out.trans (hk5.whole.mono HKE.out.size)
  have b6 := srh (c' := deskC X2 (.slice p5 (K + 1) q5) pw) b5
  have hA : At1 w g (deskC X2 (.slice p5 (K + 1) q5) pw) 53 (w5.setRow g (deskC X2 (.slice p5 (K + 1) q5) pw)) := ⟨((keepB hB5).mono fun _ _ h => h.elim).setRow (g := g) (X := fun k => k = g) rfl _, b6⟩
  have hR6 : RepsAt (w5.setRow g (deskC X2 (.slice p5 (K + 1) q5) pw)) (.slice p5 (K + 1) q5) (o ++ [rp]) := own_but hr5 ((KeepBut.refl _ w5).setRow (g := g) (X := fun k => k = g) rfl _) (fun j hj => by subst hj; exact ⟨_, _, _, b5, by decide⟩)
  have hN6 : ConG g (w5.setRow g (deskC X2 (.slice p5 (K + 1) q5) pw)) := (HNV.out.keep hk5).but ((KeepBut.refl _ w5).setRow (g := g) (X := fun k => k = g) rfl _)
  obtain ⟨W6, hW6⟩ : ∃ W, w5.setRow g (deskC X2 (.slice p5 (K + 1) q5) pw) = W := ⟨_, rfl⟩
  rw [hW6] at b6 hA hR6 hN6
  have HW6 := Lib.hid hW6
  obtain ⟨qq, hqq, hc⟩ := own_get (k := K) (r := rp) hR6 (by rw [← hK]; simp)
  subst hqq
  have d0 : W6.cell? ⟨qq, K * 8, none⟩ = some (.int .i64 er) := by rw [← hre]; exact hc 0 _ rfl
  have y14 : W6.cell? ⟨g, 14, none⟩ = some (.slice (some ⟨qq, 0, none⟩) (K + 1) q5) := by rw [cell_of_row _ _ 14 _ _ _ b6]; rfl
  have HDS := Lib.hid (fun w h hn => dsaid_any X2 (.slice (some ⟨qq, 0, none⟩) (K + 1) q5) pw er HE.out g w h HLG.out hn)
  have a1 : IntKind.i64.wrap (K : Int) = (K : Int) := IntWalk.i64_in _ (by omega)
  have a2 : wrap64 (K : Int) = (K : Int) := by clear a1; exact IntWalk.wrap64_in _ (by omega)
  have a4 : (0 : Int) ≤ (K : Int) := by clear a1 a2; omega
  have a5 : (K : Int) < (K : Int) + 1 := by clear a1 a2; omega
  have HA6 := Lib.hid hA; have HR6 := Lib.hid hR6; have HN6 := Lib.hid hN6
  clear hW6 hA hR6 hN6 hc hr5 hre hk5 HS HNV hR hln hK hB5 HKE HE b3 bG
  change wpList _ _ _ [_, _, _] _ _
  (try simp only [Act.put, List.setIfInBounds_toArray, List.set_cons_zero, List.set_cons_succ])
  go_wp2_with (first | (refine sp 48 0 (fliC X2 (.slice (some ⟨qq, 0, none⟩) (K + 1) q5)) (deskC X2 (.slice (some ⟨qq, 0, none⟩) (K + 1) q5) pw) b5 rfl rfl rfl rfl (by kernel_rfl) (by rfl) (by rfl) ?_; rw [HW6.out]))
  clear HW6 b5
  refine wp_pure [0, 1, 2, 3, 4, 5, 6, 7, 8, 9, 10, 11, 12, 13, 14, 15, 16] 17 (by kernel_rfl) (by kernel_rfl) rfl ?_
  (apply rat; (focus (intro w' hk; obtain ⟨k14,k0⟩ := look2 hk y14 d0; (iterate 16 (refine' rv ?_ rfl rfl (by go_simp; first | done | with_reducible rfl | exact rfl); try simp only [Act.put, List.setIfInBounds_toArray, List.set_cons_zero, List.set_cons_succ])); (refine' rc ?_ (by exact rfl) (by exact rfl) (by go_simp; first | done | (constructor <;> with_reducible rfl) | with_reducible rfl) (by exact HDS.out w' (kpi hk b6) (HN6.out.keep hk).here); try simp only [Act.put, List.setIfInBounds_toArray, List.set_cons_zero, List.set_cons_succ]); (exact rn))))
  intro w9 hk9
  simp only [List.drop_succ_cons, List.drop_zero]
  have HA9 := Lib.hid (HA6.out.keep hk9)
  have HR9 := Lib.hid (reps_next HR6.out hk9.whole)
  clear hk9 HA6 HR6 HN6 d0 y14 b6
  go_wp2_with fail
  go_ret
  rw [HRP.out, HD.out]
  exact ⟨rfl, _, HA9.out, HR9.out⟩
abbrev saC (a b c : Nat) : Array Value := #[.float .f64 a, .float .f64 b, .float .f64 c]
theorem row_other {w : World} {g h : Nat} {c c' : Array Value} {t : TypeId} {fr : Nat × Nat} (hb : w.heap[g]? = some (.cells c t fr)) (hne : g ≠ h) : (w.setRow h c').heap[g]? = some (.cells c t fr) :=
  (((KeepBut.refl _ w).setRow (g := h) (X := fun k => k = h) rfl c').block g (block_lt hb) hne).trans hb
theorem below_row {w V : World} {B h : Nat} {c' : Array Value} (hb : Below B w V) (hw : B ≤ w.heap.size) (hz : B ≤ h) : Below B w (V.setRow h c') :=
  hb.trans (((KeepBut.refl _ V).setRow (g := h) (X := fun k => k = h) rfl c').below (Nat.le_trans hw hb.size) (fun k e => by omega))
theorem dpow_any (d : Dw.Dk) (hd : DkOk d) (e : Dw.En) (he : enOk e) (hi : Dw.isK e = true) (v : Value) (g : Nat) (w : World) (hg : w.heap[g]? = some (.cells (deskC d.f.x v d.p) 53 (0, 0))) (hr : RepsAt w v d.f.out) (hn : ConG g w) :
    Calls Tryz.prog 119 #[.pointer (some ⟨g, 0, none⟩), enV e] w fun en w' => en = .returned (.string ⟨(Dw.powD d e).2.toArray⟩) ∧ DeskAt w g (Dw.powD d e).1 w' := by
  obtain ⟨V, hV⟩ : ∃ V, w.alloc (.cells (enC e) 136) = V := ⟨_, rfl⟩
  have b3 : V.heap[w.heap.size]? = some (.cells (enC e) 136) := by rw [← hV]; exact han _ _
  have hB : Below w.heap.size w V := by rw [← hV]; exact (Below.refl _ w).alloc (Nat.le_refl _) _
  have bG := kp hB hg
  have hne : g ≠ w.heap.size := by have := block_lt hg; omega
  obtain ⟨W1, hW1⟩ : ∃ W, V.setRow w.heap.size (enC { e with p := d.p }) = W := ⟨_, rfl⟩
  have b31 : W1.heap[w.heap.size]? = some (.cells (enC { e with p := d.p }) 136 (0, 0)) := by rw [← hW1]; exact srh b3
  have bG1 : W1.heap[g]? = some (.cells (deskC d.f.x v d.p) 53 (0, 0)) := by rw [← hW1]; exact row_other bG hne
  have hB1 : Below w.heap.size w W1 := by rw [← hW1]; exact below_row hB (Nat.le_refl _) (Nat.le_refl _)
  obtain ⟨W2, hW2⟩ : ∃ W, W1.setRow g (deskC d.f.x v Dw.noP) = W := ⟨_, rfl⟩
  have b32 : W2.heap[w.heap.size]? = some (.cells (enC { e with p := d.p }) 136 (0, 0)) := by rw [← hW2]; exact row_other b31 (Ne.symm hne)
  have bG2 : W2.heap[g]? = some (.cells (deskC d.f.x v Dw.noP) 53 (0, 0)) := by rw [← hW2]; exact srh bG1
  have k12 : KeepBut (fun k => k = g) W1 W2 := by rw [← hW2]; exact (KeepBut.refl _ W1).setRow (g := g) (X := fun k => k = g) rfl _
  have hR2 : RepsAt W2 v d.f.out := own_but (reps_next hr hB1) k12 (fun j hj => by subst hj; exact ⟨_, _, _, bG1, by decide⟩)
  have hN2 : ConG g W2 := (hn.next hB1).but k12
  have hK : KeepBut (fun k => k = g) w W2 := ((keepB hB1).mono fun _ _ h => h.elim).trans k12
  have HS := Lib.hid (dstep_any ⟨d.f, Dw.noP⟩ ⟨hd.fl, hd.leg, hd.len⟩ { e with p := d.p } he hi v g W2 bG2 hR2 hN2)
  have HW1 := Lib.hid hW1; have HW2 := Lib.hid hW2
  have HKA := Lib.hid hK
  have HRES := Lib.hid (show Dw.powD d e = Dw.stepD ⟨d.f, Dw.noP⟩ { e with p := d.p } from rfl)
  clear hg hr hd he hi hn hB hB1 k12 hR2 hN2 hK hW1 hW2 b31
  obtain ⟨⟨x, o⟩, ⟨pc, pm⟩⟩ := d
  dsimp only at *
  go_enter Tryz.func119, Tryz.ntmps119
  go_wp2_with (first | (refine lp 51 15 (pwC ⟨pc, pm⟩) bG rfl rfl rfl (by kernel_rfl) (by rfl) ?_) | (refine sp 51 8 (pwC ⟨pc, pm⟩) (enC { e with p := ⟨pc, pm⟩ }) b3 rfl rfl rfl rfl (by kernel_rfl) (by rfl) (by rfl) ?_; rw [HW1.out]; clear bG b3) | (refine sp 51 15 (pwC Dw.noP) (deskC x v Dw.noP) bG1 rfl rfl rfl rfl (by kernel_rfl) (by rfl) (by rfl) ?_; rw [HW2.out]; clear bG1) | (refine lp 136 0 (enC { e with p := ⟨pc, pm⟩ }) b32 rfl rfl rfl (by kernel_rfl) (by rfl) ?_))
  try clear hV
  refine HS.out.mono ?_
  rintro en w9 ⟨rfl, hD⟩
  have HD := Lib.hid (DeskAt.after HKA.out hD)
  clear hD
  go_wp2_with fail
  go_ret
  exact ⟨by rw [HRES.out]; rfl, by rw [HRES.out]; exact HD.out⟩
theorem dask_any (d : Dw.Dk) (hd : DkOk d) (c : Dw.Cmd) (he : (c.la < 18446744073709551616 ∧ c.lo < 18446744073709551616)) (v : Value) (g : Nat) (w : World) (hg : w.heap[g]? = some (.cells (deskC d.f.x v d.p) 53 (0, 0))) (hr : RepsAt w v d.f.out) (hn : ConG g w) :
    Calls Tryz.prog 83 #[.pointer (some ⟨g, 0, none⟩), cmV c] w fun en w' => en = .returned (.string ⟨(Dw.askD d c).2.toArray⟩) ∧ DeskAt w g (Dw.askD d c).1 w' := by
  obtain ⟨V, hV⟩ : ∃ V, w.alloc (.cells (cmC c) 67) = V := ⟨_, rfl⟩
  have b3 : V.heap[w.heap.size]? = some (.cells (cmC c) 67) := by rw [← hV]; exact han _ _
  have hB : Below w.heap.size w V := by rw [← hV]; exact (Below.refl _ w).alloc (Nat.le_refl _) _
  have HS := Lib.hid (dpow_any d hd ⟨1, c, 0, 0, 0, ⟨0, []⟩, 0⟩ ⟨⟨he.1, he.2, by show (0 : Nat) < _; omega⟩, by show (-9223372036854775808 : Int) ≤ 0; omega, by show (0 : Int) ≤ _; omega⟩ rfl v g V (kp hB hg) (reps_next hr hB) (hn.next hB))
  have HKA := Lib.hid (show KeepBut (fun k => k = g) w V from (keepB hB).mono fun _ _ h => h.elim)
  have HRES := Lib.hid (show Dw.askD d c = Dw.powD d ⟨1, c, 0, 0, 0, ⟨0, []⟩, 0⟩ from rfl)
  clear hg hr hd he hn hB
  go_enter Tryz.func83, Tryz.ntmps83
  go_wp2_with (first | (refine lp 67 0 (cmC c) b3 rfl rfl rfl (by kernel_rfl) (by rfl) ?_))
  try clear hV
  refine HS.out.mono ?_
  rintro en w9 ⟨rfl, hD⟩
  have HD := Lib.hid (DeskAt.after HKA.out hD)
  clear hD
  go_wp2_with fail
  go_ret
  exact ⟨by rw [HRES.out]; rfl, by rw [HRES.out]; exact HD.out⟩
theorem dsee_any (d : Dw.Dk) (hd : DkOk d) (a b c : Nat) (he : b < 18446744073709551616) (v : Value) (g : Nat) (w : World) (hg : w.heap[g]? = some (.cells (deskC d.f.x v d.p) 53 (0, 0))) (hr : RepsAt w v d.f.out) (hn : ConG g w) :
    Calls Tryz.prog 84 #[.pointer (some ⟨g, 0, none⟩), .agg (saC a b c)] w fun en w' => en = .returned (.string ⟨(Dw.seeD d a b c).2.toArray⟩) ∧ DeskAt w g (Dw.seeD d a b c).1 w' := by
  obtain ⟨V, hV⟩ : ∃ V, w.alloc (.cells (saC a b c) 72) = V := ⟨_, rfl⟩
  have b3 : V.heap[w.heap.size]? = some (.cells (saC a b c) 72) := by rw [← hV]; exact han _ _
  have hB : Below w.heap.size w V := by rw [← hV]; exact (Below.refl _ w).alloc (Nat.le_refl _) _
  have HS := Lib.hid (dpow_any d hd ⟨2, ⟨0, 0, 0, 0⟩, a, b, c, ⟨0, []⟩, 0⟩ ⟨⟨by show (0 : Nat) < _; omega, by show (0 : Nat) < _; omega, he⟩, by show (-9223372036854775808 : Int) ≤ 0; omega, by show (0 : Int) ≤ _; omega⟩ rfl v g V (kp hB hg) (reps_next hr hB) (hn.next hB))
  have HKA := Lib.hid (show KeepBut (fun k => k = g) w V from (keepB hB).mono fun _ _ h => h.elim)
  have HRES := Lib.hid (show Dw.seeD d a b c = Dw.powD d ⟨2, ⟨0, 0, 0, 0⟩, a, b, c, ⟨0, []⟩, 0⟩ from rfl)
  clear hg hr hd he hn hB
  go_enter Tryz.func84, Tryz.ntmps84
  go_wp2_with (first | (refine lp 72 0 (saC a b c) b3 rfl rfl rfl (by kernel_rfl) (by rfl) ?_))
  try clear hV
  refine HS.out.mono ?_
  rintro en w9 ⟨rfl, hD⟩
  have HD := Lib.hid (DeskAt.after HKA.out hD)
  clear hD
  go_wp2_with fail
  go_ret
  exact ⟨by rw [HRES.out]; rfl, by rw [HRES.out]; exact HD.out⟩
theorem ints_get {w : World} {v : Value} {l : List Int} (h : IntsAt w v l) (h0 : 0 < l.length) : ∃ bb off cap, v = .slice (some ⟨bb, off, none⟩) l.length cap ∧ ∀ k n, l[k]? = some n → w.cell? ⟨bb, off + k, none⟩ = some (.int .i64 n) := by
  obtain ⟨ao, cap, rfl, -, hnil, hc⟩ := h
  obtain ⟨b, rfl⟩ : ∃ b, ao = some b := by
    cases ao with
    | none => exact absurd (hnil rfl) (by omega)
    | some b => exact ⟨b, rfl⟩
  obtain ⟨bb, off, spot⟩ := b
  have hs0 : spot = none := by
    obtain ⟨m, hm⟩ : ∃ m, l[0]? = some m := ⟨l[0]'(by omega), List.getElem?_eq_getElem (by omega)⟩
    have h2 := World.cell?_spot (hc _ rfl 0 (.int .i64 m) (by rw [List.getElem?_map, hm]; rfl))
    simpa [Addr.add] using h2
  subst hs0
  refine ⟨bb, off, cap, rfl, fun k n hk => ?_⟩
  have h3 := hc _ rfl k (.int .i64 n) (by rw [List.getElem?_map, hk]; rfl)
  rwa [Addr.add_lit] at h3
theorem Dw.Dok.now {d : Dw.Dk} (h : Dw.Dok 99999 d) : DkOk d := ⟨h.fl, h.leg, by have := h.len; omega⟩
def OrdOk (f : FuncId) (i asks : Nat) : Prop := ∀ (d : Dw.Dk), Dw.Dok 99999 d → ∀ (l : List Int), l.length = asks → (∀ n ∈ l, -1000000000 ≤ n ∧ n ≤ 1000000000) → ∀ (v vi : Value) (g : Nat) (w : World), w.heap[g]? = some (.cells (deskC d.f.x v d.p) 53 (0, 0)) → RepsAt w v d.f.out → IntsAt w vi l → ConG g w →
    Calls Tryz.prog f #[.pointer (some ⟨g, 0, none⟩), vi] w fun en w' => en = .returned (.string ⟨(Dw.doD d i l).2.toArray⟩) ∧ DeskAt w g (Dw.doD d i l).1 w'
theorem ord_goes : OrdOk 38 1 1 := fun d hd l hl hr v vi g w hg hrp hv hn => by
  obtain ⟨n, rfl⟩ := List.length_eq_one_iff.1 hl
  obtain ⟨bb, off, cap, rfl, hc⟩ := ints_get hv (by simp)
  have c0 : w.cell? ⟨bb, off, none⟩ = some (.int .i64 n) := hc 0 n rfl
  obtain ⟨r0, r1⟩ := hr n (by simp)
  clear hc
  have HS := Lib.hid (dask_any d hd.now ⟨1, n, 0, 0⟩ (by dsimp only; omega) v g w hg hrp hn)
  have HRES := Lib.hid (show Dw.doD d 1 [n] = Dw.askD d ⟨1, n, 0, 0⟩ from rfl)
  clear hg hrp hv hn hd hr hl
  go_enter Tryz.func38, Tryz.ntmps38
  go_wp2_with fail
  refine HS.out.mono ?_
  rintro en w9 ⟨rfl, hD⟩
  have HD := Lib.hid hD
  clear hD
  go_wp2_with fail
  go_ret
  exact ⟨by rw [HRES.out]; rfl, by rw [HRES.out]; exact HD.out⟩
theorem ord_isolate : OrdOk 42 5 1 := fun d hd l hl hr v vi g w hg hrp hv hn => by
  obtain ⟨n, rfl⟩ := List.length_eq_one_iff.1 hl
  obtain ⟨bb, off, cap, rfl, hc⟩ := ints_get hv (by simp)
  have c0 : w.cell? ⟨bb, off, none⟩ = some (.int .i64 n) := hc 0 n rfl
  obtain ⟨r0, r1⟩ := hr n (by simp)
  clear hc
  have HS := Lib.hid (dask_any d hd.now ⟨5, n, 0, 0⟩ (by dsimp only; omega) v g w hg hrp hn)
  have HRES := Lib.hid (show Dw.doD d 5 [n] = Dw.askD d ⟨5, n, 0, 0⟩ from rfl)
  clear hg hrp hv hn hd hr hl
  go_enter Tryz.func42, Tryz.ntmps42
  go_wp2_with fail
  refine HS.out.mono ?_
  rintro en w9 ⟨rfl, hD⟩
  have HD := Lib.hid hD
  clear hD
  go_wp2_with fail
  go_ret
  exact ⟨by rw [HRES.out]; rfl, by rw [HRES.out]; exact HD.out⟩
theorem ord_restore : OrdOk 43 6 1 := fun d hd l hl hr v vi g w hg hrp hv hn => by
  obtain ⟨n, rfl⟩ := List.length_eq_one_iff.1 hl
  obtain ⟨bb, off, cap, rfl, hc⟩ := ints_get hv (by simp)
  have c0 : w.cell? ⟨bb, off, none⟩ = some (.int .i64 n) := hc 0 n rfl
  obtain ⟨r0, r1⟩ := hr n (by simp)
  clear hc
  have HS := Lib.hid (dask_any d hd.now ⟨6, n, 0, 0⟩ (by dsimp only; omega) v g w hg hrp hn)
  have HRES := Lib.hid (show Dw.doD d 6 [n] = Dw.askD d ⟨6, n, 0, 0⟩ from rfl)
  clear hg hrp hv hn hd hr hl
  go_enter Tryz.func43, Tryz.ntmps43
  go_wp2_with fail
  refine HS.out.mono ?_
  rintro en w9 ⟨rfl, hD⟩
  have HD := Lib.hid hD
  clear hD
  go_wp2_with fail
  go_ret
  exact ⟨by rw [HRES.out]; rfl, by rw [HRES.out]; exact HD.out⟩
theorem ord_arm : OrdOk 39 2 0 := fun d hd l hl hr v vi g w hg hrp hv hn => by
  obtain rfl : l = [] := List.eq_nil_of_length_eq_zero hl
  have HS := Lib.hid (dask_any d hd.now ⟨2, 0, 0, 0⟩ (by dsimp only; omega) v g w hg hrp hn)
  have HRES := Lib.hid (show Dw.doD d 2 [] = Dw.askD d ⟨2, 0, 0, 0⟩ from rfl)
  clear hg hrp hv hn hd hr hl
  go_enter Tryz.func39, Tryz.ntmps39
  go_wp2_with fail
  refine HS.out.mono ?_
  rintro en w9 ⟨rfl, hD⟩
  have HD := Lib.hid hD
  clear hD
  go_wp2_with fail
  go_ret
  exact ⟨by rw [HRES.out]; rfl, by rw [HRES.out]; exact HD.out⟩
theorem ord_disarm : OrdOk 40 3 0 := fun d hd l hl hr v vi g w hg hrp hv hn => by
  obtain rfl : l = [] := List.eq_nil_of_length_eq_zero hl
  have HS := Lib.hid (dask_any d hd.now ⟨3, 0, 0, 0⟩ (by dsimp only; omega) v g w hg hrp hn)
  have HRES := Lib.hid (show Dw.doD d 3 [] = Dw.askD d ⟨3, 0, 0, 0⟩ from rfl)
  clear hg hrp hv hn hd hr hl
  go_enter Tryz.func40, Tryz.ntmps40
  go_wp2_with fail
  refine HS.out.mono ?_
  rintro en w9 ⟨rfl, hD⟩
  have HD := Lib.hid hD
  clear hD
  go_wp2_with fail
  go_ret
  exact ⟨by rw [HRES.out]; rfl, by rw [HRES.out]; exact HD.out⟩
theorem ord_air : OrdOk 44 7 0 := fun d hd l hl hr v vi g w hg hrp hv hn => by
  obtain rfl : l = [] := List.eq_nil_of_length_eq_zero hl
  have HS := Lib.hid (dsee_any d hd.now 4621819117588971520 4621819117588971520 4607182418800017408 (by omega) v g w hg hrp hn)
  have HRES := Lib.hid (show Dw.doD d 7 [] = Dw.seeD d 4621819117588971520 4621819117588971520 4607182418800017408 from rfl)
  clear hg hrp hv hn hd hr hl
  go_enter Tryz.func44, Tryz.ntmps44
  go_wp2_with fail
  refine HS.out.mono ?_
  rintro en w9 ⟨rfl, hD⟩
  have HD := Lib.hid hD
  clear hD
  go_wp2_with fail
  go_ret
  exact ⟨by rw [HRES.out]; rfl, by rw [HRES.out]; exact HD.out⟩
theorem ord_ground : OrdOk 45 8 0 := fun d hd l hl hr v vi g w hg hrp hv hn => by
  obtain rfl : l = [] := List.eq_nil_of_length_eq_zero hl
  have HS := Lib.hid (dsee_any d hd.now 0 0 0 (by omega) v g w hg hrp hn)
  have HRES := Lib.hid (show Dw.doD d 8 [] = Dw.seeD d 0 0 0 from rfl)
  clear hg hrp hv hn hd hr hl
  go_enter Tryz.func45, Tryz.ntmps45
  go_wp2_with fail
  refine HS.out.mono ?_
  rintro en w9 ⟨rfl, hD⟩
  have HD := Lib.hid hD
  clear hD
  go_wp2_with fail
  go_ret
  exact ⟨by rw [HRES.out]; rfl, by rw [HRES.out]; exact HD.out⟩
theorem ord_nothing : OrdOk 46 9 0 := fun d hd l hl hr v vi g w hg hrp hv hn => by
  obtain rfl : l = [] := List.eq_nil_of_length_eq_zero hl
  have HS := Lib.hid (dsee_any d hd.now 4609434218613702656 4611686018427387904 4596373779694328218 (by omega) v g w hg hrp hn)
  have HRES := Lib.hid (show Dw.doD d 9 [] = Dw.seeD d 4609434218613702656 4611686018427387904 4596373779694328218 from rfl)
  clear hg hrp hv hn hd hr hl
  go_enter Tryz.func46, Tryz.ntmps46
  go_wp2_with fail
  refine HS.out.mono ?_
  rintro en w9 ⟨rfl, hD⟩
  have HD := Lib.hid hD
  clear hD
  go_wp2_with fail
  go_ret
  exact ⟨by rw [HRES.out]; rfl, by rw [HRES.out]; exact HD.out⟩
theorem ord_reset : OrdOk 47 10 0 := fun d hd l hl hr v vi g w hg hrp hv hn => by
  obtain rfl : l = [] := List.eq_nil_of_length_eq_zero hl
  have HS := Lib.hid (dstep_any d hd.now ⟨3, ⟨0, 0, 0, 0⟩, 0, 0, 0, ⟨0, []⟩, 0⟩ ⟨⟨by dsimp only; omega, by dsimp only; omega, by dsimp only; omega⟩, by dsimp only; omega, by dsimp only; omega⟩ rfl v g w hg hrp hn)
  have HRES := Lib.hid (show Dw.doD d 10 [] = Dw.stepD d ⟨3, ⟨0, 0, 0, 0⟩, 0, 0, 0, ⟨0, []⟩, 0⟩ from rfl)
  clear hg hrp hv hn hd hr hl
  go_enter Tryz.func47, Tryz.ntmps47
  go_wp2_with fail
  refine HS.out.mono ?_
  rintro en w9 ⟨rfl, hD⟩
  have HD := Lib.hid hD
  clear hD
  go_wp2_with fail
  go_ret
  exact ⟨by rw [HRES.out]; rfl, by rw [HRES.out]; exact HD.out⟩
theorem ord_turn : OrdOk 48 11 1 := fun d hd l hl hr v vi g w hg hrp hv hn => by
  obtain ⟨n, rfl⟩ := List.length_eq_one_iff.1 hl
  obtain ⟨bb, off, cap, rfl, hc⟩ := ints_get hv (by simp)
  have c0 : w.cell? ⟨bb, off, none⟩ = some (.int .i64 n) := hc 0 n rfl
  obtain ⟨r0, r1⟩ := hr n (by simp)
  clear hc
  have HS := Lib.hid (dstep_any d hd.now ⟨4, ⟨0, 0, 0, 0⟩, 0, 0, 0, ⟨0, []⟩, n⟩ ⟨⟨by dsimp only; omega, by dsimp only; omega, by dsimp only; omega⟩, by dsimp only; omega, by dsimp only; omega⟩ rfl v g w hg hrp hn)
  have HRES := Lib.hid (show Dw.doD d 11 [n] = Dw.stepD d ⟨4, ⟨0, 0, 0, 0⟩, 0, 0, 0, ⟨0, []⟩, n⟩ from rfl)
  clear hg hrp hv hn hd hr hl
  go_enter Tryz.func48, Tryz.ntmps48
  go_wp2_with fail
  refine HS.out.mono ?_
  rintro en w9 ⟨rfl, hD⟩
  have HD := Lib.hid hD
  clear hD
  go_wp2_with fail
  go_ret
  exact ⟨by rw [HRES.out]; rfl, by rw [HRES.out]; exact HD.out⟩
end Go.Proofs.YtjibbchfndhhpaaGreatDoor
