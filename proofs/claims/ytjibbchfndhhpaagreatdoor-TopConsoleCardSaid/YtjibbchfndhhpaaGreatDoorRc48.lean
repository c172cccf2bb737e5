/- What the statement's proof stands on, part 48: Con10, Con11. -/
import Derived.Test.YtjibbchfndhhpaaGreatDoorRc46
import Derived.Test.YtjibbchfndhhpaaGreatDoorRc47
import Derived.Test.YtjibbchfndhhpaaGreatDoorRc38
import Derived.Test.YtjibbchfndhhpaaGreatDoorRc43
set_option linter.unusedSimpArgs false
set_option linter.unusedVariables false
set_option maxRecDepth 100000
set_option maxHeartbeats 4000000
namespace Go.Proofs.YtjibbchfndhhpaaGreatDoor
open Go.RowKit Go.Shelf
attribute [local go_sem] Oper.semAt_some
def ordT : List (List UInt8 × Value) := [([98, 101, 103, 105, 110], .agg #[.int .i64 2, .func (.func 37) #[] #[]]), ([103, 111], .agg #[.int .i64 1, .func (.func 38) #[] #[]]), ([97, 114, 109], .agg #[.int .i64 0, .func (.func 39) #[] #[]]), ([100, 105, 115, 97, 114, 109], .agg #[.int .i64 0, .func (.func 40) #[] #[]]), ([104, 111, 109, 101], .agg #[.int .i64 2, .func (.func 41) #[] #[]]), ([105, 115, 111, 108, 97, 116, 101], .agg #[.int .i64 1, .func (.func 42) #[] #[]]), ([114, 101, 115, 116, 111, 114, 101], .agg #[.int .i64 1, .func (.func 43) #[] #[]]), ([97, 105, 114], .agg #[.int .i64 0, .func (.func 44) #[] #[]]), ([103, 114, 111, 117, 110, 100], .agg #[.int .i64 0, .func (.func 45) #[] #[]]), ([110, 111, 116, 104, 105, 110, 103], .agg #[.int .i64 0, .func (.func 46) #[] #[]]), ([114, 101, 115, 101, 116], .agg #[.int .i64 0, .func (.func 47) #[] #[]]), ([116, 117, 114, 110], .agg #[.int .i64 1, .func (.func 48) #[] #[]]), ([99, 117, 116], .agg #[.int .i64 2, .func (.func 49) #[] #[]]), ([119, 101, 97, 114], .agg #[.int .i64 0, .func (.func 50) #[] #[]])]
def keyed (l : List MapEntry) : List (Value × Value) := l.map fun (e : MapEntry) => (e.key, e.val)
def keyedT (l : List (List UInt8 × Value)) : List (Value × Value) := l.map fun (x : List UInt8 × Value) => (Value.string ⟨x.1.toArray⟩, x.2)
theorem find_str (w : List UInt8) : ∀ (l : List MapEntry) (ks : List (List UInt8 × Value)) (i : Nat), keyed l = keyedT ks →
    Instr.findNow .string (.string ⟨w.toArray⟩) l i = some ((ks.findIdx? fun (x : List UInt8 × Value) => decide (x.1 = w)).bind fun k => (ks[k]?).map fun (x : List UInt8 × Value) => (i + k, x.2))
  | [], [], i, h => rfl
  | [], _ :: _, i, h => by cases h
  | _ :: _, [], i, h => by cases h
  | e :: l, a :: r, i, h => by
    unfold keyed keyedT at h
    simp only [List.map_cons, List.cons.injEq, Prod.mk.injEq] at h
    obtain ⟨⟨h1, h2⟩, h3⟩ := h
    have hr := find_str w l r (i + 1) h3
    unfold Instr.findNow
    rw [h1]
    rw [show Instr.sameNow .string (.string ⟨w.toArray⟩) (.string ⟨a.1.toArray⟩) = some (decide (w = a.1)) from by
      show some ((⟨w.toArray⟩ : ByteArray) == ⟨a.1.toArray⟩) = _
      rw [ba_list]]
    rw [List.findIdx?_cons]
    by_cases hw : a.1 = w
    · rw [decide_eq_true hw, decide_eq_true hw.symm]
      simp [h2]
    · rw [decide_eq_false hw, decide_eq_false (fun q => hw q.symm)]
      dsimp only
      rw [hr]
      cases hq : r.findIdx? fun (x : List UInt8 × Value) => decide (x.1 = w) with
      | none => simp
      | some k => simp [Nat.add_assoc, Nat.add_comm 1 k]
theorem ordT_idx (w : List UInt8) : (ordT.findIdx? fun x => decide (x.1 = w)) = Dw.ordW w := by
  unfold Dw.ordW ordT Dw.orders
  simp only [List.findIdx?_cons, List.findIdx?_nil]
def ordV : Option Nat → Value
  | some i => .tuple #[(ordT.getD i ([], undef)).2, .bool true]
  | none => .tuple #[.agg #[.int .i64 0, .nilFunc], .bool false]
theorem look_ord (w : List UInt8) (b c : Nat) (W : World) (es : Array MapEntry) (hb : W.heap[b]? = some (.map es c)) (he : keyed es.toList = keyedT ordT) :
    (Instr.lookup 93 (.map (some b)) (.string ⟨w.toArray⟩) true).run Tryz.prog W = .ok (ordV (Dw.ordW w)) W := by
  have hf := find_str w es.toList ordT 0 he
  rw [ordT_idx] at hf
  refine run_mget (P := Tryz.prog) (kv := .string ⟨w.toArray⟩) (z := .agg #[.int .i64 0, .nilFunc]) hb Tryz.underlying93 Tryz.underlying9 trivial hf (by kernel_rfl) ?_
  cases hw : Dw.ordW w with
  | none => rfl
  | some i =>
    have hi : i < ordT.length := by
      rw [← ordT_idx] at hw
      exact (List.findIdx?_eq_some_iff_getElem.1 hw).1
    simp only [Option.bind_some]
    rw [List.getElem?_eq_getElem hi]
    simp only [Option.map_some]
    unfold ordV gotV
    simp only [if_true]
    rw [List.getD_eq_getElem?_getD, List.getElem?_eq_getElem hi]
    rfl
abbrev StrsAt (w : World) (v : Value) (l : List (List UInt8)) : Prop := SlAt w v l.length (strCells l)
theorem strs_get {w : World} {v : Value} {l : List (List UInt8)} (h : StrsAt w v l) (h0 : 0 < l.length) : ∃ bb off cap, v = .slice (some ⟨bb, off, none⟩) l.length cap ∧ l.length ≤ cap ∧ ∀ k s, l[k]? = some s → w.cell? ⟨bb, off + k, none⟩ = some (.string ⟨s.toArray⟩) := by
  obtain ⟨ao, cap, rfl, hcap, hnil, hc⟩ := h
  obtain ⟨b, rfl⟩ : ∃ b, ao = some b := by
    cases ao with
    | none => exact absurd (hnil rfl) (by omega)
    | some b => exact ⟨b, rfl⟩
  obtain ⟨bb, off, spot⟩ := b
  have hs0 : spot = none := by
    obtain ⟨m, hm⟩ : ∃ m, l[0]? = some m := ⟨l[0]'(by omega), List.getElem?_eq_getElem (by omega)⟩
    have h2 := World.cell?_spot (hc _ rfl 0 (.string ⟨m.toArray⟩) (by unfold strCells; rw [List.getElem?_map, hm]; rfl))
    simpa [Addr.add] using h2
  subst hs0
  refine ⟨bb, off, cap, rfl, hcap, fun k n hk => ?_⟩
  have h3 := hc _ rfl k (.string ⟨n.toArray⟩) (by unfold strCells; rw [List.getElem?_map, hk]; rfl)
  rwa [Addr.add_lit] at h3
def intCells (l : List Int) : List Value := l.map fun n => .int .i64 n
theorem intCells_snoc (l : List Int) (n : Int) : intCells (l ++ [n]) = intCells l ++ [.int .i64 n] := by unfold intCells; simp
theorem infoInt : (Tryz.prog.info? 3).map (fun i => (i.zero, i.size, i.bytes)) = some (some (.int .i64 0), 1, 8) := by kernel_rfl
theorem line_none
    (d : Dw.Dk) (hd : Dw.Dok 99999 d) (w0 : List UInt8) (l : List (List UInt8)) (hl : l.length ≤ 100000) (hsz : ∀ s ∈ l, s.length ≤ 1000000) (v vi : Value) (g : Nat) (w : World)
    (hlo : ∀ b c W es, W.heap[b]? = some (.map es c) → keyed es.toList = keyedT ordT → (Instr.lookup 93 (.map (some b)) (.string ⟨w0.toArray⟩) true).run Tryz.prog W = .ok (.tuple #[.agg #[.int .i64 0, .nilFunc], .bool false]) W)
    (hg : w.heap[g]? = some (.cells (deskC d.f.x v d.p) 53 (0, 0))) (hr : RepsAt w v d.f.out) (hv : StrsAt w vi (w0 :: l)) (hn : ConG g w) :
    Calls Tryz.prog 20 #[.pointer (some ⟨g, 0, none⟩), vi] w fun en w' =>
      en = .returned (.string ⟨(Dw.errW 33).toArray⟩) ∧ DeskAt w g d w' := by
  have hmm := @run_makeMap Tryz.prog
  obtain ⟨V, hV⟩ : ∃ V, w.alloc (.map #[] 0) = V := ⟨_, rfl⟩
  have bM : V.heap[w.heap.size]? = some (.map #[] 0) := by rw [← hV]; exact han _ _
  have hB : Below w.heap.size w V := by rw [← hV]; exact (Below.refl _ w).alloc (Nat.le_refl _) _
  have bG := kp hB hg
  have zg := block_lt hg
  have hne : g ≠ w.heap.size := by omega
  have HB := Lib.hid hB
  have LOOK := Lib.hid hlo
  obtain ⟨bb, off, cap, rfl, hcap, hc⟩ := strs_get hv (by simp)
  have x0 : w.cell? ⟨bb, off, none⟩ = some (.string ⟨w0.toArray⟩) := hc 0 w0 rfl
  have HC := Lib.hid (show ∀ k s, l[k]? = some s → w.cell? ⟨bb, off + 1 + k, none⟩ = some (.string ⟨s.toArray⟩) from fun k s hk => by have := hc (k + 1) s (by simpa using hk); rwa [show off + 1 + k = off + (k + 1) by omega])
  have HFIN := Lib.hid (show ∀ W, Below w.heap.size w W → DeskAt w g d W from fun W hb => ⟨v, ⟨(keepB hb).mono fun _ _ h => h.elim, kp hb hg⟩, reps_next hr hb⟩)
  have HN := Lib.hid hn
  have HER := Lib.hid (fun vi w hv hn => csaid_any [101, 114, 114, 111, 114] [33] (by simp) (by simp) (fun k hk => by simp at hk; omega) vi w hv hn)
  have HSZ := Lib.hid hsz
  rw [List.length_cons] at hcap ⊢
  have h1c : (1 : Int) ≤ ((l.length + 1 : Nat) : Int) := by omega
  have h2c : ((l.length + 1 : Nat) : Int) ≤ (cap : Int) := by omega
  clear hB hg hr hv hc hn hlo zg hsz
  go_enter Tryz.func20, Tryz.ntmps20
  go_wp2_with (first | (refine mput (k := .const (.string ⟨#[98, 101, 103, 105, 110]⟩)) (kv := .string ⟨#[98, 101, 103, 105, 110]⟩) (vv := .agg #[.int .i64 2, .func (.func 37) #[] #[]]) rfl bM rfl rfl rfl rfl Tryz.underlying93 Tryz.underlying9 trivial (by kernel_rfl) ?_; intro W1 p1 m1; have d1 := p1.block bG hne; have HB1 := Lib.hid (p1.below HB.out (Nat.le_refl _)); clear p1 bG bM HB hV) | (refine mput (k := .const (.string ⟨#[103, 111]⟩)) (kv := .string ⟨#[103, 111]⟩) (vv := .agg #[.int .i64 1, .func (.func 38) #[] #[]]) rfl m1 rfl rfl rfl rfl Tryz.underlying93 Tryz.underlying9 trivial (by kernel_rfl) ?_; intro W2 p2 m2; have d2 := p2.block d1 hne; have HB2 := Lib.hid (p2.below HB1.out (Nat.le_refl _)); clear p2 d1 m1 HB1) | (refine mput (k := .const (.string ⟨#[97, 114, 109]⟩)) (kv := .string ⟨#[97, 114, 109]⟩) (vv := .agg #[.int .i64 0, .func (.func 39) #[] #[]]) rfl m2 rfl rfl rfl rfl Tryz.underlying93 Tryz.underlying9 trivial (by kernel_rfl) ?_; intro W3 p3 m3; have d3 := p3.block d2 hne; have HB3 := Lib.hid (p3.below HB2.out (Nat.le_refl _)); clear p3 d2 m2 HB2) | (refine mput (k := .const (.string ⟨#[100, 105, 115, 97, 114, 109]⟩)) (kv := .string ⟨#[100, 105, 115, 97, 114, 109]⟩) (vv := .agg #[.int .i64 0, .func (.func 40) #[] #[]]) rfl m3 rfl rfl rfl rfl Tryz.underlying93 Tryz.underlying9 trivial (by kernel_rfl) ?_; intro W4 p4 m4; have d4 := p4.block d3 hne; have HB4 := Lib.hid (p4.below HB3.out (Nat.le_refl _)); clear p4 d3 m3 HB3) | (refine mput (k := .const (.string ⟨#[104, 111, 109, 101]⟩)) (kv := .string ⟨#[104, 111, 109, 101]⟩) (vv := .agg #[.int .i64 2, .func (.func 41) #[] #[]]) rfl m4 rfl rfl rfl rfl Tryz.underlying93 Tryz.underlying9 trivial (by kernel_rfl) ?_; intro W5 p5 m5; have d5 := p5.block d4 hne; have HB5 := Lib.hid (p5.below HB4.out (Nat.le_refl _)); clear p5 d4 m4 HB4) | (refine mput (k := .const (.string ⟨#[105, 115, 111, 108, 97, 116, 101]⟩)) (kv := .string ⟨#[105, 115, 111, 108, 97, 116, 101]⟩) (vv := .agg #[.int .i64 1, .func (.func 42) #[] #[]]) rfl m5 rfl rfl rfl rfl Tryz.underlying93 Tryz.underlying9 trivial (by kernel_rfl) ?_; intro W6 p6 m6; have d6 := p6.block d5 hne; have HB6 := Lib.hid (p6.below HB5.out (Nat.le_refl _)); clear p6 d5 m5 HB5) | (refine mput (k := .const (.string ⟨#[114, 101, 115, 116, 111, 114, 101]⟩)) (kv := .string ⟨#[114, 101, 115, 116, 111, 114, 101]⟩) (vv := .agg #[.int .i64 1, .func (.func 43) #[] #[]]) rfl m6 rfl rfl rfl rfl Tryz.underlying93 Tryz.underlying9 trivial (by kernel_rfl) ?_; intro W7 p7 m7; have d7 := p7.block d6 hne; have HB7 := Lib.hid (p7.below HB6.out (Nat.le_refl _)); clear p7 d6 m6 HB6) | (refine mput (k := .const (.string ⟨#[97, 105, 114]⟩)) (kv := .string ⟨#[97, 105, 114]⟩) (vv := .agg #[.int .i64 0, .func (.func 44) #[] #[]]) rfl m7 rfl rfl rfl rfl Tryz.underlying93 Tryz.underlying9 trivial (by kernel_rfl) ?_; intro W8 p8 m8; have d8 := p8.block d7 hne; have HB8 := Lib.hid (p8.below HB7.out (Nat.le_refl _)); clear p8 d7 m7 HB7) | (refine mput (k := .const (.string ⟨#[103, 114, 111, 117, 110, 100]⟩)) (kv := .string ⟨#[103, 114, 111, 117, 110, 100]⟩) (vv := .agg #[.int .i64 0, .func (.func 45) #[] #[]]) rfl m8 rfl rfl rfl rfl Tryz.underlying93 Tryz.underlying9 trivial (by kernel_rfl) ?_; intro W9 p9 m9; have d9 := p9.block d8 hne; have HB9 := Lib.hid (p9.below HB8.out (Nat.le_refl _)); clear p9 d8 m8 HB8) | (refine mput (k := .const (.string ⟨#[110, 111, 116, 104, 105, 110, 103]⟩)) (kv := .string ⟨#[110, 111, 116, 104, 105, 110, 103]⟩) (vv := .agg #[.int .i64 0, .func (.func 46) #[] #[]]) rfl m9 rfl rfl rfl rfl Tryz.underlying93 Tryz.underlying9 trivial (by kernel_rfl) ?_; intro W10 p10 m10; have d10 := p10.block d9 hne; have HB10 := Lib.hid (p10.below HB9.out (Nat.le_refl _)); clear p10 d9 m9 HB9) | (refine mput (k := .const (.string ⟨#[114, 101, 115, 101, 116]⟩)) (kv := .string ⟨#[114, 101, 115, 101, 116]⟩) (vv := .agg #[.int .i64 0, .func (.func 47) #[] #[]]) rfl m10 rfl rfl rfl rfl Tryz.underlying93 Tryz.underlying9 trivial (by kernel_rfl) ?_; intro W11 p11 m11; have d11 := p11.block d10 hne; have HB11 := Lib.hid (p11.below HB10.out (Nat.le_refl _)); clear p11 d10 m10 HB10) | (refine mput (k := .const (.string ⟨#[116, 117, 114, 110]⟩)) (kv := .string ⟨#[116, 117, 114, 110]⟩) (vv := .agg #[.int .i64 1, .func (.func 48) #[] #[]]) rfl m11 rfl rfl rfl rfl Tryz.underlying93 Tryz.underlying9 trivial (by kernel_rfl) ?_; intro W12 p12 m12; have d12 := p12.block d11 hne; have HB12 := Lib.hid (p12.below HB11.out (Nat.le_refl _)); clear p12 d11 m11 HB11) | (refine mput (k := .const (.string ⟨#[99, 117, 116]⟩)) (kv := .string ⟨#[99, 117, 116]⟩) (vv := .agg #[.int .i64 2, .func (.func 49) #[] #[]]) rfl m12 rfl rfl rfl rfl Tryz.underlying93 Tryz.underlying9 trivial (by kernel_rfl) ?_; intro W13 p13 m13; have d13 := p13.block d12 hne; have HB13 := Lib.hid (p13.below HB12.out (Nat.le_refl _)); clear p13 d12 m12 HB12) | (refine mput (k := .const (.string ⟨#[119, 101, 97, 114]⟩)) (kv := .string ⟨#[119, 101, 97, 114]⟩) (vv := .agg #[.int .i64 0, .func (.func 50) #[] #[]]) rfl m13 rfl rfl rfl rfl Tryz.underlying93 Tryz.underlying9 trivial (by kernel_rfl) ?_; intro W14 p14 m14; have d14 := p14.block d13 hne; have HB14 := Lib.hid (p14.below HB13.out (Nat.le_refl _)); clear p14 d13 m13 HB13; have hlk := LOOK.out w.heap.size 14 W14 _ m14 rfl; have c0 := look (keepB HB14.out) x0; obtain ⟨W15, hW15⟩ : ∃ W, W14.alloc (.cells #[.int .i64 0, .nilFunc] 90) = W := ⟨_, rfl⟩; have b15 : W15.heap[W14.heap.size]? = some (.cells #[.int .i64 0, .nilFunc] 90) := (by rw [← hW15]; exact han _ _); have HB15 := Lib.hid (show Below w.heap.size w W15 from tr HB14.out (by rw [← hW15]; exact (Below.refl _ W14).alloc (Nat.le_refl _) _)); have HW15 := Lib.hid hW15; clear hW15 HB14 d14) | (refine nb rfl rfl rfl rfl (by go_simp; first | done | with_reducible rfl | exact rfl) rfl rfl (by kernel_rfl) ?_; rw [HW15.out]))
  · go_loopw [6, 7, 38] (fun is v7 i wr => ∃ (k : Nat) (vo : Value), k ≤ l.length ∧ i = .int .i64 k ∧ is = .bool (false && (l.take k).all Dw.numOk) ∧ vo = v7 ∧ wr.ownsRow W15.heap.size 3 1 vo k (intCells ((l.take k).map Dw.numV)) ∧ Below W15.heap.size W15 wr) (fun _ _ i _ => l.length - (intOf i).toNat)
    case atStart => exact ⟨0, _, Nat.zero_le _, rfl, rfl, rfl, ⟨rfl, .inl ⟨rfl, rfl⟩⟩, Below.refl _ _⟩
    case round =>
      clear c0
      obtain ⟨k, vo, hk, rfl, rfl, rfl, hown, hB⟩ := hrel
      have z0 := hB.size
      by_cases hlt : k < l.length
      · exfalso
        clear h1c h2c
        omega
      · have hge : ¬ (k : Int) < (l.length : Int) := by omega
        obtain rfl : k = l.length := by omega
        rw [List.take_length] at hown ⊢
        have c50 : wr.cell? ⟨W14.heap.size, 0, none⟩ = some (.int .i64 0) := by rw [cell_of_row _ _ 0 _ _ _ (kp hB b15)]; rfl
        have c51 : wr.cell? ⟨W14.heap.size, 1, none⟩ = some (.nilFunc) := by rw [cell_of_row _ _ 1 _ _ _ (kp hB b15)]; rfl
        clear b15
        rw [Bool.false_and]
        go_wp2_with fail
        have ib := (Below.refl wr.heap.size wr).alloc (Nat.le_refl _) (.cells #[.int .i64 33] 3)
        refine (HER.out _ _ (ints_new wr [33] 3 rfl) (HN.out.here.next (tr (tr HB15.out hB) ib))).mono ?_
        rintro en w2 ⟨rfl, hb2⟩
        have HF := Lib.hid (HFIN.out _ (tr (tr (tr HB15.out hB) ib) hb2))
        clear hb2 ib hB
        go_wp2_with fail
        go_ret
        exact ⟨rfl, HF.out⟩
  · go_loopw [6, 7, 38] (fun is v7 i wr => ∃ (k : Nat) (vo : Value), k ≤ l.length ∧ i = .int .i64 k ∧ is = .bool (false && (l.take k).all Dw.numOk) ∧ vo = v7 ∧ wr.ownsRow W15.heap.size 3 1 vo k (intCells ((l.take k).map Dw.numV)) ∧ Below W15.heap.size W15 wr) (fun _ _ i _ => l.length - (intOf i).toNat)
    case atStart => exact ⟨0, _, Nat.zero_le _, rfl, rfl, rfl, ⟨rfl, .inl ⟨rfl, rfl⟩⟩, Below.refl _ _⟩
    case round =>
      clear c0
      obtain ⟨k, vo, hk, rfl, rfl, rfl, hown, hB⟩ := hrel
      have z0 := hB.size
      by_cases hlt : k < l.length
      · have hlt' : (k : Int) < (l.length : Int) := by omega
        obtain ⟨s, hs⟩ : ∃ s, l[k]? = some s := ⟨l[k], List.getElem?_eq_getElem hlt⟩
        have hcell := look (keepB (tr HB15.out hB)) (HC.out k s hs)
        have HNU := Lib.hid (fun w => number_any s (HSZ.out s (List.mem_of_getElem? hs)) w)
        have HTA := Lib.hid (show (l.take (k + 1)).all Dw.numOk = ((l.take k).all Dw.numOk && Dw.numOk s) by rw [Dw.take_snoc hs]; simp)
        have HTM := Lib.hid (show intCells ((l.take (k + 1)).map Dw.numV) = intCells ((l.take k).map Dw.numV) ++ [.int .i64 (Dw.numV s)] by rw [Dw.take_snoc hs, List.map_append]; exact intCells_snoc _ _)
        obtain ⟨b, hbb⟩ : ∃ b, (false && (l.take k).all Dw.numOk) = b := ⟨_, rfl⟩
        rw [hbb]
        have HBB := Lib.hid hbb
        clear hs hbb h1c h2c
        go_wp2_with fail
        refine (HNU.out _).mono ?_
        rintro en w1 ⟨rfl, hb⟩
        obtain ⟨nv, hnv⟩ : ∃ n, Dw.numV s = n := ⟨_, rfl⟩
        obtain ⟨nb, hnb⟩ : ∃ n, Dw.numOk s = n := ⟨_, rfl⟩
        rw [hnv] at HTM ⊢
        rw [hnb] at HTA ⊢
        obtain ⟨V6, hV6⟩ : ∃ W, w1.alloc (.cells #[.int .i64 nv] 3) = W := ⟨_, rfl⟩
        have hb6 : Below w1.heap.size w1 V6 := by rw [← hV6]; exact (Below.refl _ w1).alloc (Nat.le_refl _) _
        have b6 : V6.heap[w1.heap.size]? = some (.cells #[.int .i64 nv] 3) := by rw [← hV6]; exact han _ _
        have how6 := own_next (own_next hown hb) hb6
        have z6 : W15.heap.size ≤ V6.heap.size := by have h1 := hb6.size; have h2 := hb.size; omega
        have HB6 := Lib.hid (tr (tr hB hb) hb6)
        have hk6 : k ≤ 1000000 := by omega
        have HV6 := Lib.hid hV6
        clear hb hb6 hown hcell hB hV6 hnv hnb
        cases b
        all_goals
          go_wp2_with (first | (at_builtin; (try rw [HV6.out]); refine append_own22 (by rfl) (by rfl) Tryz.underlying94 infoInt rfl (by decide) (by decide) how6 hk6 z6 rfl b6 rfl rfl (by simp [Value.oneCell']) ?_; intro v7 y7 how7 hk7; have HOW7 := Lib.hid how7; have HB7 := Lib.hid (show Below W15.heap.size W15 y7 from HB6.out.trans (hk7.below HB6.out.size (fun j e => (own_blk how6 e).1))); clear how7 hk7))
          go_roundw
          case rel => exact ⟨k + 1, _, hlt, by go_num, by rw [HTA.out, ← Bool.and_assoc, HBB.out]; simp, rfl, by rw [HTM.out]; exact HOW7.out, HB7.out⟩
          case measure => first | done | (simp [intOf]; done) | (simp [intOf]; omega)
      · have hge : ¬ (k : Int) < (l.length : Int) := by omega
        obtain rfl : k = l.length := by omega
        rw [List.take_length] at hown ⊢
        have c50 : wr.cell? ⟨W14.heap.size, 0, none⟩ = some (.int .i64 0) := by rw [cell_of_row _ _ 0 _ _ _ (kp hB b15)]; rfl
        have c51 : wr.cell? ⟨W14.heap.size, 1, none⟩ = some (.nilFunc) := by rw [cell_of_row _ _ 1 _ _ _ (kp hB b15)]; rfl
        clear b15
        rw [Bool.false_and]
        go_wp2_with fail
        have ib := (Below.refl wr.heap.size wr).alloc (Nat.le_refl _) (.cells #[.int .i64 33] 3)
        refine (HER.out _ _ (ints_new wr [33] 3 rfl) (HN.out.here.next (tr (tr HB15.out hB) ib))).mono ?_
        rintro en w2 ⟨rfl, hb2⟩
        have HF := Lib.hid (HFIN.out _ (tr (tr (tr HB15.out hB) ib) hb2))
        clear hb2 ib hB
        go_wp2_with fail
        go_ret
        exact ⟨rfl, HF.out⟩
theorem line_some
    (f : FuncId) (i K : Nat) (hF : OrdOk f i K) (hK : K ≤ 2) (hcf : ∀ args w, (callFunc f args).run Tryz.prog w = .ok (.enter f args) w)
    (d : Dw.Dk) (hd : Dw.Dok 99999 d) (w0 : List UInt8) (l : List (List UInt8)) (hl : l.length ≤ 100000) (hsz : ∀ s ∈ l, s.length ≤ 1000000) (v vi : Value) (g : Nat) (w : World)
    (hlo : ∀ b c W es, W.heap[b]? = some (.map es c) → keyed es.toList = keyedT ordT → (Instr.lookup 93 (.map (some b)) (.string ⟨w0.toArray⟩) true).run Tryz.prog W = .ok (.tuple #[.agg #[.int .i64 (K : Nat), .func (.func f) #[] #[]], .bool true]) W)
    (hg : w.heap[g]? = some (.cells (deskC d.f.x v d.p) 53 (0, 0))) (hr : RepsAt w v d.f.out) (hv : StrsAt w vi (w0 :: l)) (hn : ConG g w) :
    Calls Tryz.prog 20 #[.pointer (some ⟨g, 0, none⟩), vi] w fun en w' =>
      (¬ (l.all Dw.numOk = true ∧ l.length = K) ∧ en = .returned (.string ⟨(Dw.errW 33).toArray⟩) ∧ DeskAt w g d w') ∨ ((l.all Dw.numOk = true ∧ l.length = K) ∧ en = .returned (.string ⟨(Dw.doD d i (l.map Dw.numV)).2.toArray⟩) ∧ DeskAt w g (Dw.doD d i (l.map Dw.numV)).1 w') := by
  have hmm := @run_makeMap Tryz.prog
  obtain ⟨V, hV⟩ : ∃ V, w.alloc (.map #[] 0) = V := ⟨_, rfl⟩
  have bM : V.heap[w.heap.size]? = some (.map #[] 0) := by rw [← hV]; exact han _ _
  have hB : Below w.heap.size w V := by rw [← hV]; exact (Below.refl _ w).alloc (Nat.le_refl _) _
  have bG := kp hB hg
  have zg := block_lt hg
  have hne : g ≠ w.heap.size := by omega
  have HB := Lib.hid hB
  have LOOK := Lib.hid hlo
  obtain ⟨bb, off, cap, rfl, hcap, hc⟩ := strs_get hv (by simp)
  have x0 : w.cell? ⟨bb, off, none⟩ = some (.string ⟨w0.toArray⟩) := hc 0 w0 rfl
  have HC := Lib.hid (show ∀ k s, l[k]? = some s → w.cell? ⟨bb, off + 1 + k, none⟩ = some (.string ⟨s.toArray⟩) from fun k s hk => by have := hc (k + 1) s (by simpa using hk); rwa [show off + 1 + k = off + (k + 1) by omega])
  have HFIN := Lib.hid (show ∀ W, Below w.heap.size w W → DeskAt w g d W from fun W hb => ⟨v, ⟨(keepB hb).mono fun _ _ h => h.elim, kp hb hg⟩, reps_next hr hb⟩)
  have HN := Lib.hid hn
  have HER := Lib.hid (fun vi w hv hn => csaid_any [101, 114, 114, 111, 114] [33] (by simp) (by simp) (fun k hk => by simp at hk; omega) vi w hv hn)
  have HSZ := Lib.hid hsz
  have HOF := Lib.hid (fun W (hb : Below w.heap.size w W) vo (hvo : IntsAt W vo (l.map Dw.numV)) (hKK : l.length = K) => hF d hd (l.map Dw.numV) (by rw [List.length_map]; exact hKK) (fun n hn => by obtain ⟨s, _, rfl⟩ := List.mem_map.1 hn; have := Dw.numV_range s; omega) v vo g W (kp hb hg) (reps_next hr hb) hvo (hn.next hb))
  rw [List.length_cons] at hcap ⊢
  have h1c : (1 : Int) ≤ ((l.length + 1 : Nat) : Int) := by omega
  have h2c : ((l.length + 1 : Nat) : Int) ≤ (cap : Int) := by omega
  clear hB hg hr hv hc hn hlo zg hsz
  go_enter Tryz.func20, Tryz.ntmps20
  go_wp2_with (first | (refine mput (k := .const (.string ⟨#[98, 101, 103, 105, 110]⟩)) (kv := .string ⟨#[98, 101, 103, 105, 110]⟩) (vv := .agg #[.int .i64 2, .func (.func 37) #[] #[]]) rfl bM rfl rfl rfl rfl Tryz.underlying93 Tryz.underlying9 trivial (by kernel_rfl) ?_; intro W1 p1 m1; have d1 := p1.block bG hne; have HB1 := Lib.hid (p1.below HB.out (Nat.le_refl _)); clear p1 bG bM HB hV) | (refine mput (k := .const (.string ⟨#[103, 111]⟩)) (kv := .string ⟨#[103, 111]⟩) (vv := .agg #[.int .i64 1, .func (.func 38) #[] #[]]) rfl m1 rfl rfl rfl rfl Tryz.underlying93 Tryz.underlying9 trivial (by kernel_rfl) ?_; intro W2 p2 m2; have d2 := p2.block d1 hne; have HB2 := Lib.hid (p2.below HB1.out (Nat.le_refl _)); clear p2 d1 m1 HB1) | (refine mput (k := .const (.string ⟨#[97, 114, 109]⟩)) (kv := .string ⟨#[97, 114, 109]⟩) (vv := .agg #[.int .i64 0, .func (.func 39) #[] #[]]) rfl m2 rfl rfl rfl rfl Tryz.underlying93 Tryz.underlying9 trivial (by kernel_rfl) ?_; intro W3 p3 m3; have d3 := p3.block d2 hne; have HB3 := Lib.hid (p3.below HB2.out (Nat.le_refl _)); clear p3 d2 m2 HB2) | (refine mput (k := .const (.string ⟨#[100, 105, 115, 97, 114, 109]⟩)) (kv := .string ⟨#[100, 105, 115, 97, 114, 109]⟩) (vv := .agg #[.int .i64 0, .func (.func 40) #[] #[]]) rfl m3 rfl rfl rfl rfl Tryz.underlying93 Tryz.underlying9 trivial (by kernel_rfl) ?_; intro W4 p4 m4; have d4 := p4.block d3 hne; have HB4 := Lib.hid (p4.below HB3.out (Nat.le_refl _)); clear p4 d3 m3 HB3) | (refine mput (k := .const (.string ⟨#[104, 111, 109, 101]⟩)) (kv := .string ⟨#[104, 111, 109, 101]⟩) (vv := .agg #[.int .i64 2, .func (.func 41) #[] #[]]) rfl m4 rfl rfl rfl rfl Tryz.underlying93 Tryz.underlying9 trivial (by kernel_rfl) ?_; intro W5 p5 m5; have d5 := p5.block d4 hne; have HB5 := Lib.hid (p5.below HB4.out (Nat.le_refl _)); clear p5 d4 m4 HB4) | (refine mput (k := .const (.string ⟨#[105, 115, 111, 108, 97, 116, 101]⟩)) (kv := .string ⟨#[105, 115, 111, 108, 97, 116, 101]⟩) (vv := .agg #[.int .i64 1, .func (.func 42) #[] #[]]) rfl m5 rfl rfl rfl rfl Tryz.underlying93 Tryz.underlying9 trivial (by kernel_rfl) ?_; intro W6 p6 m6; have d6 := p6.block d5 hne; have HB6 := Lib.hid (p6.below HB5.out (Nat.le_refl _)); clear p6 d5 m5 HB5) | (refine mput (k := .const (.string ⟨#[114, 101, 115, 116, 111, 114, 101]⟩)) (kv := .string ⟨#[114, 101, 115, 116, 111, 114, 101]⟩) (vv := .agg #[.int .i64 1, .func (.func 43) #[] #[]]) rfl m6 rfl rfl rfl rfl Tryz.underlying93 Tryz.underlying9 trivial (by kernel_rfl) ?_; intro W7 p7 m7; have d7 := p7.block d6 hne; have HB7 := Lib.hid (p7.below HB6.out (Nat.le_refl _)); clear p7 d6 m6 HB6) | (refine mput (k := .const (.string ⟨#[97, 105, 114]⟩)) (kv := .string ⟨#[97, 105, 114]⟩) (vv := .agg #[.int .i64 0, .func (.func 44) #[] #[]]) rfl m7 rfl rfl rfl rfl Tryz.underlying93 Tryz.underlying9 trivial (by kernel_rfl) ?_; intro W8 p8 m8; have d8 := p8.block d7 hne; have HB8 := Lib.hid (p8.below HB7.out (Nat.le_refl _)); clear p8 d7 m7 HB7) | (refine mput (k := .const (.string ⟨#[103, 114, 111, 117, 110, 100]⟩)) (kv := .string ⟨#[103, 114, 111, 117, 110, 100]⟩) (vv := .agg #[.int .i64 0, .func (.func 45) #[] #[]]) rfl m8 rfl rfl rfl rfl Tryz.underlying93 Tryz.underlying9 trivial (by kernel_rfl) ?_; intro W9 p9 m9; have d9 := p9.block d8 hne; have HB9 := Lib.hid (p9.below HB8.out (Nat.le_refl _)); clear p9 d8 m8 HB8) | (refine mput (k := .const (.string ⟨#[110, 111, 116, 104, 105, 110, 103]⟩)) (kv := .string ⟨#[110, 111, 116, 104, 105, 110, 103]⟩) (vv := .agg #[.int .i64 0, .func (.func 46) #[] #[]]) rfl m9 rfl rfl rfl rfl Tryz.underlying93 Tryz.underlying9 trivial (by kernel_rfl) ?_; intro W10 p10 m10; have d10 := p10.block d9 hne; have HB10 := Lib.hid (p10.below HB9.out (Nat.le_refl _)); clear p10 d9 m9 HB9) | (refine mput (k := .const (.string ⟨#[114, 101, 115, 101, 116]⟩)) (kv := .string ⟨#[114, 101, 115, 101, 116]⟩) (vv := .agg #[.int .i64 0, .func (.func 47) #[] #[]]) rfl m10 rfl rfl rfl rfl Tryz.underlying93 Tryz.underlying9 trivial (by kernel_rfl) ?_; intro W11 p11 m11; have d11 := p11.block d10 hne; have HB11 := Lib.hid (p11.below HB10.out (Nat.le_refl _)); clear p11 d10 m10 HB10) | (refine mput (k := .const (.string ⟨#[116, 117, 114, 110]⟩)) (kv := .string ⟨#[116, 117, 114, 110]⟩) (vv := .agg #[.int .i64 1, .func (.func 48) #[] #[]]) rfl m11 rfl rfl rfl rfl Tryz.underlying93 Tryz.underlying9 trivial (by kernel_rfl) ?_; intro W12 p12 m12; have d12 := p12.block d11 hne; have HB12 := Lib.hid (p12.below HB11.out (Nat.le_refl _)); clear p12 d11 m11 HB11) | (refine mput (k := .const (.string ⟨#[99, 117, 116]⟩)) (kv := .string ⟨#[99, 117, 116]⟩) (vv := .agg #[.int .i64 2, .func (.func 49) #[] #[]]) rfl m12 rfl rfl rfl rfl Tryz.underlying93 Tryz.underlying9 trivial (by kernel_rfl) ?_; intro W13 p13 m13; have d13 := p13.block d12 hne; have HB13 := Lib.hid (p13.below HB12.out (Nat.le_refl _)); clear p13 d12 m12 HB12) | (refine mput (k := .const (.string ⟨#[119, 101, 97, 114]⟩)) (kv := .string ⟨#[119, 101, 97, 114]⟩) (vv := .agg #[.int .i64 0, .func (.func 50) #[] #[]]) rfl m13 rfl rfl rfl rfl Tryz.underlying93 Tryz.underlying9 trivial (by kernel_rfl) ?_; intro W14 p14 m14; have d14 := p14.block d13 hne; have HB14 := Lib.hid (p14.below HB13.out (Nat.le_refl _)); clear p14 d13 m13 HB13; have hlk := LOOK.out w.heap.size 14 W14 _ m14 rfl; have c0 := look (keepB HB14.out) x0; obtain ⟨W15, hW15⟩ : ∃ W, W14.alloc (.cells #[.int .i64 (K : Nat), .func (.func f) #[] #[]] 90) = W := ⟨_, rfl⟩; have b15 : W15.heap[W14.heap.size]? = some (.cells #[.int .i64 (K : Nat), .func (.func f) #[] #[]] 90) := (by rw [← hW15]; exact han _ _); have HB15 := Lib.hid (show Below w.heap.size w W15 from tr HB14.out (by rw [← hW15]; exact (Below.refl _ W14).alloc (Nat.le_refl _) _)); have HW15 := Lib.hid hW15; clear hW15 HB14 d14) | (refine nb rfl rfl rfl rfl (by go_simp; first | done | with_reducible rfl | exact rfl) rfl rfl (by kernel_rfl) ?_; rw [HW15.out]))
  · go_loopw [6, 7, 38] (fun is v7 i wr => ∃ (k : Nat) (vo : Value), k ≤ l.length ∧ i = .int .i64 k ∧ is = .bool (true && (l.take k).all Dw.numOk) ∧ vo = v7 ∧ wr.ownsRow W15.heap.size 3 1 vo k (intCells ((l.take k).map Dw.numV)) ∧ Below W15.heap.size W15 wr) (fun _ _ i _ => l.length - (intOf i).toNat)
    case atStart => exact ⟨0, _, Nat.zero_le _, rfl, rfl, rfl, ⟨rfl, .inl ⟨rfl, rfl⟩⟩, Below.refl _ _⟩
    case round =>
      clear c0
      obtain ⟨k, vo, hk, rfl, rfl, rfl, hown, hB⟩ := hrel
      have z0 := hB.size
      by_cases hlt : k < l.length
      · exfalso
        clear h1c h2c
        omega
      · have hge : ¬ (k : Int) < (l.length : Int) := by omega
        obtain rfl : k = l.length := by omega
        rw [List.take_length] at hown ⊢
        have c50 : wr.cell? ⟨W14.heap.size, 0, none⟩ = some (.int .i64 (K : Nat)) := by rw [cell_of_row _ _ 0 _ _ _ (kp hB b15)]; rfl
        have c51 : wr.cell? ⟨W14.heap.size, 1, none⟩ = some (.func (.func f) #[] #[]) := by rw [cell_of_row _ _ 1 _ _ _ (kp hB b15)]; rfl
        clear b15
        rw [Bool.true_and]
        cases hq : l.all Dw.numOk
        · go_wp2_with fail
          have ib := (Below.refl wr.heap.size wr).alloc (Nat.le_refl _) (.cells #[.int .i64 33] 3)
          refine (HER.out _ _ (ints_new wr [33] 3 rfl) (HN.out.here.next (tr (tr HB15.out hB) ib))).mono ?_
          rintro en w2 ⟨rfl, hb2⟩
          have HF := Lib.hid (HFIN.out _ (tr (tr (tr HB15.out hB) ib) hb2))
          clear hb2 ib hB
          go_wp2_with fail
          go_ret
          exact .inl ⟨(fun h => by rw [hq] at h; exact Bool.noConfusion h.1), rfl, HF.out⟩
        · by_cases hKK : l.length = K
          · have q0 : ((l.length : Int) != (K : Int)) = false := by simp [hKK]
            have hvo : IntsAt wr vo (l.map Dw.numV) := by
              have := slAt_own hown
              show SlAt wr vo (l.map Dw.numV).length _
              rw [List.length_map]
              exact this
            have HO := Lib.hid (HOF.out wr (tr HB15.out hB) vo hvo hKK)
            have HKW := Lib.hid (show KeepBut (fun k => k = g) w wr from (keepB (tr HB15.out hB)).mono fun _ _ h => h.elim)
            obtain ⟨p7, q7, hvs⟩ : ∃ p q, vo = .slice p l.length q := by
              obtain ⟨ao, cap7, e7, _⟩ := slAt_own hown
              exact ⟨ao, cap7, e7⟩
            subst hvs
            have h9 := HO.out
            rw [hKK] at h9
            have HO9 := Lib.hid h9
            clear hown hvo hB hge HO h9
            go_wp2_with fail
            refine HO9.out.mono ?_
            rintro en w9 ⟨rfl, hD⟩
            have HD := Lib.hid (DeskAt.after HKW.out hD)
            clear hD
            go_wp2_with fail
            go_ret
            exact .inr ⟨⟨hq, hKK⟩, rfl, HD.out⟩
          · have q0 : ((l.length : Int) != (K : Int)) = true := by simp; omega
            obtain ⟨p7, q7, hvs⟩ : ∃ p q, vo = .slice p l.length q := by
              obtain ⟨ao, cap7, e7, _⟩ := slAt_own hown
              exact ⟨ao, cap7, e7⟩
            subst hvs
            clear hown hge
            go_wp2_with fail
            have ib := (Below.refl wr.heap.size wr).alloc (Nat.le_refl _) (.cells #[.int .i64 33] 3)
            refine (HER.out _ _ (ints_new wr [33] 3 rfl) (HN.out.here.next (tr (tr HB15.out hB) ib))).mono ?_
            rintro en w2 ⟨rfl, hb2⟩
            have HF := Lib.hid (HFIN.out _ (tr (tr (tr HB15.out hB) ib) hb2))
            clear hb2 ib hB
            go_wp2_with fail
            go_ret
            exact .inl ⟨(fun h => hKK h.2), rfl, HF.out⟩
  · go_loopw [6, 7, 38] (fun is v7 i wr => ∃ (k : Nat) (vo : Value), k ≤ l.length ∧ i = .int .i64 k ∧ is = .bool (true && (l.take k).all Dw.numOk) ∧ vo = v7 ∧ wr.ownsRow W15.heap.size 3 1 vo k (intCells ((l.take k).map Dw.numV)) ∧ Below W15.heap.size W15 wr) (fun _ _ i _ => l.length - (intOf i).toNat)
    case atStart => exact ⟨0, _, Nat.zero_le _, rfl, rfl, rfl, ⟨rfl, .inl ⟨rfl, rfl⟩⟩, Below.refl _ _⟩
    case round =>
      clear c0
      obtain ⟨k, vo, hk, rfl, rfl, rfl, hown, hB⟩ := hrel
      have z0 := hB.size
      by_cases hlt : k < l.length
      · have hlt' : (k : Int) < (l.length : Int) := by omega
        obtain ⟨s, hs⟩ : ∃ s, l[k]? = some s := ⟨l[k], List.getElem?_eq_getElem hlt⟩
        have hcell := look (keepB (tr HB15.out hB)) (HC.out k s hs)
        have HNU := Lib.hid (fun w => number_any s (HSZ.out s (List.mem_of_getElem? hs)) w)
        have HTA := Lib.hid (show (l.take (k + 1)).all Dw.numOk = ((l.take k).all Dw.numOk && Dw.numOk s) by rw [Dw.take_snoc hs]; simp)
        have HTM := Lib.hid (show intCells ((l.take (k + 1)).map Dw.numV) = intCells ((l.take k).map Dw.numV) ++ [.int .i64 (Dw.numV s)] by rw [Dw.take_snoc hs, List.map_append]; exact intCells_snoc _ _)
        obtain ⟨b, hbb⟩ : ∃ b, (true && (l.take k).all Dw.numOk) = b := ⟨_, rfl⟩
        rw [hbb]
        have HBB := Lib.hid hbb
        clear hs hbb h1c h2c
        go_wp2_with fail
        refine (HNU.out _).mono ?_
        rintro en w1 ⟨rfl, hb⟩
        obtain ⟨nv, hnv⟩ : ∃ n, Dw.numV s = n := ⟨_, rfl⟩
        obtain ⟨nb, hnb⟩ : ∃ n, Dw.numOk s = n := ⟨_, rfl⟩
        rw [hnv] at HTM ⊢
        rw [hnb] at HTA ⊢
        obtain ⟨V6, hV6⟩ : ∃ W, w1.alloc (.cells #[.int .i64 nv] 3) = W := ⟨_, rfl⟩
        have hb6 : Below w1.heap.size w1 V6 := by rw [← hV6]; exact (Below.refl _ w1).alloc (Nat.le_refl _) _
        have b6 : V6.heap[w1.heap.size]? = some (.cells #[.int .i64 nv] 3) := by rw [← hV6]; exact han _ _
        have how6 := own_next (own_next hown hb) hb6
        have z6 : W15.heap.size ≤ V6.heap.size := by have h1 := hb6.size; have h2 := hb.size; omega
        have HB6 := Lib.hid (tr (tr hB hb) hb6)
        have hk6 : k ≤ 1000000 := by omega
        have HV6 := Lib.hid hV6
        clear hb hb6 hown hcell hB hV6 hnv hnb
        cases b
        all_goals
          go_wp2_with (first | (at_builtin; (try rw [HV6.out]); refine append_own22 (by rfl) (by rfl) Tryz.underlying94 infoInt rfl (by decide) (by decide) how6 hk6 z6 rfl b6 rfl rfl (by simp [Value.oneCell']) ?_; intro v7 y7 how7 hk7; have HOW7 := Lib.hid how7; have HB7 := Lib.hid (show Below W15.heap.size W15 y7 from HB6.out.trans (hk7.below HB6.out.size (fun j e => (own_blk how6 e).1))); clear how7 hk7))
          go_roundw
          case rel => exact ⟨k + 1, _, hlt, by go_num, by rw [HTA.out, ← Bool.and_assoc, HBB.out]; simp, rfl, by rw [HTM.out]; exact HOW7.out, HB7.out⟩
          case measure => first | done | (simp [intOf]; done) | (simp [intOf]; omega)
      · have hge : ¬ (k : Int) < (l.length : Int) := by omega
        obtain rfl : k = l.length := by omega
        rw [List.take_length] at hown ⊢
        have c50 : wr.cell? ⟨W14.heap.size, 0, none⟩ = some (.int .i64 (K : Nat)) := by rw [cell_of_row _ _ 0 _ _ _ (kp hB b15)]; rfl
        have c51 : wr.cell? ⟨W14.heap.size, 1, none⟩ = some (.func (.func f) #[] #[]) := by rw [cell_of_row _ _ 1 _ _ _ (kp hB b15)]; rfl
        clear b15
        rw [Bool.true_and]
        cases hq : l.all Dw.numOk
        · go_wp2_with fail
          have ib := (Below.refl wr.heap.size wr).alloc (Nat.le_refl _) (.cells #[.int .i64 33] 3)
          refine (HER.out _ _ (ints_new wr [33] 3 rfl) (HN.out.here.next (tr (tr HB15.out hB) ib))).mono ?_
          rintro en w2 ⟨rfl, hb2⟩
          have HF := Lib.hid (HFIN.out _ (tr (tr (tr HB15.out hB) ib) hb2))
          clear hb2 ib hB
          go_wp2_with fail
          go_ret
          exact .inl ⟨(fun h => by rw [hq] at h; exact Bool.noConfusion h.1), rfl, HF.out⟩
        · by_cases hKK : l.length = K
          · have q0 : ((l.length : Int) != (K : Int)) = false := by simp [hKK]
            have hvo : IntsAt wr vo (l.map Dw.numV) := by
              have := slAt_own hown
              show SlAt wr vo (l.map Dw.numV).length _
              rw [List.length_map]
              exact this
            have HO := Lib.hid (HOF.out wr (tr HB15.out hB) vo hvo hKK)
            have HKW := Lib.hid (show KeepBut (fun k => k = g) w wr from (keepB (tr HB15.out hB)).mono fun _ _ h => h.elim)
            obtain ⟨p7, q7, hvs⟩ : ∃ p q, vo = .slice p l.length q := by
              obtain ⟨ao, cap7, e7, _⟩ := slAt_own hown
              exact ⟨ao, cap7, e7⟩
            subst hvs
            have h9 := HO.out
            rw [hKK] at h9
            have HO9 := Lib.hid h9
            clear hown hvo hB hge HO h9
            go_wp2_with fail
            refine HO9.out.mono ?_
            rintro en w9 ⟨rfl, hD⟩
            have HD := Lib.hid (DeskAt.after HKW.out hD)
            clear hD
            go_wp2_with fail
            go_ret
            exact .inr ⟨⟨hq, hKK⟩, rfl, HD.out⟩
          · have q0 : ((l.length : Int) != (K : Int)) = true := by simp; omega
            obtain ⟨p7, q7, hvs⟩ : ∃ p q, vo = .slice p l.length q := by
              obtain ⟨ao, cap7, e7, _⟩ := slAt_own hown
              exact ⟨ao, cap7, e7⟩
            subst hvs
            clear hown hge
            go_wp2_with fail
            have ib := (Below.refl wr.heap.size wr).alloc (Nat.le_refl _) (.cells #[.int .i64 33] 3)
            refine (HER.out _ _ (ints_new wr [33] 3 rfl) (HN.out.here.next (tr (tr HB15.out hB) ib))).mono ?_
            rintro en w2 ⟨rfl, hb2⟩
            have HF := Lib.hid (HFIN.out _ (tr (tr (tr HB15.out hB) ib) hb2))
            clear hb2 ib hB
            go_wp2_with fail
            go_ret
            exact .inl ⟨(fun h => hKK h.2), rfl, HF.out⟩
theorem line_any (d : Dw.Dk) (hd : Dw.Dok 99999 d) (w0 : List UInt8) (l : List (List UInt8)) (hl : l.length ≤ 100000) (hsz : ∀ s ∈ l, s.length ≤ 1000000) (v vi : Value) (g : Nat) (w : World)
    (hg : w.heap[g]? = some (.cells (deskC d.f.x v d.p) 53 (0, 0))) (hr : RepsAt w v d.f.out) (hv : StrsAt w vi (w0 :: l)) (hn : ConG g w) :
    Calls Tryz.prog 20 #[.pointer (some ⟨g, 0, none⟩), vi] w fun en w' => en = .returned (.string ⟨(Dw.lineD d w0 l).2.toArray⟩) ∧ DeskAt w g (Dw.lineD d w0 l).1 w' := by
  have go : ∀ (f : FuncId) (i K : Nat), OrdOk f i K → K ≤ 2 → (∀ args w, (callFunc f args).run Tryz.prog w = .ok (.enter f args) w) → Dw.ordW w0 = some i → (Dw.orders.getD i ([], 0)).2 = K → (ordT.getD i ([], undef)).2 = .agg #[.int .i64 K, .func (.func f) #[] #[]] →
      Calls Tryz.prog 20 #[.pointer (some ⟨g, 0, none⟩), vi] w fun en w' => en = .returned (.string ⟨(Dw.lineD d w0 l).2.toArray⟩) ∧ DeskAt w g (Dw.lineD d w0 l).1 w' := fun f i K hF hK hcf ho hk ht => by
    refine (line_some f i K hF hK hcf d hd w0 l hl hsz v vi g w (fun b c W es hb he => ?_) hg hr hv hn).mono ?_
    · have := look_ord w0 b c W es hb he
      rw [ho] at this
      unfold ordV at this
      dsimp only at this
      rw [ht] at this
      exact this
    · rintro en w' (⟨h1, h2, h3⟩ | ⟨h1, h2, h3⟩)
      · unfold Dw.lineD
        rw [ho]
        dsimp only
        rw [hk, if_neg h1]
        exact ⟨h2, h3⟩
      · unfold Dw.lineD
        rw [ho]
        dsimp only
        rw [hk, if_pos h1]
        exact ⟨h2, h3⟩
  cases ho : Dw.ordW w0 with
  | none =>
    refine (line_none d hd w0 l hl hsz v vi g w (fun b c W es hb he => ?_) hg hr hv hn).mono ?_
    · have := look_ord w0 b c W es hb he
      rw [ho] at this
      exact this
    · rintro en w' ⟨h2, h3⟩
      unfold Dw.lineD
      rw [ho]
      exact ⟨h2, h3⟩
  | some i =>
    have hi : i < 14 := by
      rw [← ordT_idx] at ho
      exact (List.findIdx?_eq_some_iff_getElem.1 ho).1
    have hcs : i = 0 ∨ i = 1 ∨ i = 2 ∨ i = 3 ∨ i = 4 ∨ i = 5 ∨ i = 6 ∨ i = 7 ∨ i = 8 ∨ i = 9 ∨ i = 10 ∨ i = 11 ∨ i = 12 ∨ i = 13 := by omega
    rcases hcs with rfl | rfl | rfl | rfl | rfl | rfl | rfl | rfl | rfl | rfl | rfl | rfl | rfl | rfl
    · exact go _ _ _ ord_begin (by decide) (fun args w => by go_simp) ho rfl rfl
    · exact go _ _ _ ord_goes (by decide) (fun args w => by go_simp) ho rfl rfl
    · exact go _ _ _ ord_arm (by decide) (fun args w => by go_simp) ho rfl rfl
    · exact go _ _ _ ord_disarm (by decide) (fun args w => by go_simp) ho rfl rfl
    · exact go _ _ _ ord_home (by decide) (fun args w => by go_simp) ho rfl rfl
    · exact go _ _ _ ord_isolate (by decide) (fun args w => by go_simp) ho rfl rfl
    · exact go _ _ _ ord_restore (by decide) (fun args w => by go_simp) ho rfl rfl
    · exact go _ _ _ ord_air (by decide) (fun args w => by go_simp) ho rfl rfl
    · exact go _ _ _ ord_ground (by decide) (fun args w => by go_simp) ho rfl rfl
    · exact go _ _ _ ord_nothing (by decide) (fun args w => by go_simp) ho rfl rfl
    · exact go _ _ _ ord_reset (by decide) (fun args w => by go_simp) ho rfl rfl
    · exact go _ _ _ ord_turn (by decide) (fun args w => by go_simp) ho rfl rfl
    · exact go _ _ _ ord_cut (by decide) (fun args w => by go_simp) ho rfl rfl
    · exact go _ _ _ ord_wear (by decide) (fun args w => by go_simp) ho rfl rfl
end Go.Proofs.YtjibbchfndhhpaaGreatDoor
