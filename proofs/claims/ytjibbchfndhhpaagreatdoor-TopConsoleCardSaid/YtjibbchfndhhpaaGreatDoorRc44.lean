/- What the statement's proof stands on, part 44: Con1, Con2. -/
import Derived.Test.YtjibbchfndhhpaaGreatDoorRc30
import Derived.Test.YtjibbchfndhhpaaGreatDoorRc43
import Derived.Test.YtjibbchfndhhpaaGreatDoorRcShelf
import Derived.Shelf.Strings.SlTrimAscii
import Derived.Lib.AtoiErrMem
set_option linter.unusedSimpArgs false
set_option linter.unusedVariables false
set_option maxRecDepth 100000
set_option maxHeartbeats 4000000
namespace Go.Proofs.YtjibbchfndhhpaaGreatDoor
open Go.RowKit Go.Shelf
attribute [local go_sem] Oper.semAt_some
theorem var_next {P : Program} {w w' : World} {name : String} {cs : Array Value} (h : w.var? P name = some cs) (hb : Below w.heap.size w w') : w'.var? P name = some cs := by
  unfold World.var? at *
  cases hg : P.globalNamed name with
  | none => simp [hg] at h
  | some g =>
    simp only [hg, Option.bind_some] at h ⊢
    cases ho : w.heap[g]? with
    | none => rw [ho] at h; cases h
    | some o =>
      rw [hb.block g (block_lt ho)]
      exact h
structure ConAt (w : World) : Prop where
  none : NoneAt w
  pow : Lib.TabIs Tryz.prog w "internal/strconv.uint64pow10" .u64 Lib.pow10Tab
theorem ConAt.next {w w' : World} (h : ConAt w) (hb : Below w.heap.size w w') : ConAt w' := ⟨h.none.next hb, var_next h.pow hb⟩
theorem ConAt.keep {w w' : World} (h : ConAt w) (hk : Keep w w') : ConAt w' := h.next hk.whole
abbrev digs : List UInt8 := [48, 49, 50, 51, 52, 53, 54, 55, 56, 57]
theorem digs_is (b : UInt8) : digs.contains b = Dw.isDig b := by
  rw [Bool.eq_iff_iff, List.contains_iff_mem]
  unfold Dw.isDig
  rw [decide_eq_true_iff]
  constructor
  · intro h
    simp only [List.mem_cons, List.not_mem_nil, or_false] at h
    rcases h with rfl | rfl | rfl | rfl | rfl | rfl | rfl | rfl | rfl | rfl <;> decide
  · rintro ⟨h1, h2⟩
    have : b.toNat = 48 ∨ b.toNat = 49 ∨ b.toNat = 50 ∨ b.toNat = 51 ∨ b.toNat = 52 ∨ b.toNat = 53 ∨ b.toNat = 54 ∨ b.toNat = 55 ∨ b.toNat = 56 ∨ b.toNat = 57 := by omega
    have key : ∀ c : UInt8, b.toNat = c.toNat → b = c := fun c h => UInt8.toNat_inj.1 h
    simp only [List.mem_cons, List.not_mem_nil, or_false]
    rcases this with h | h | h | h | h | h | h | h | h | h
    · exact .inl (key 48 h)
    · exact .inr (.inl (key 49 h))
    · exact .inr (.inr (.inl (key 50 h)))
    · exact .inr (.inr (.inr (.inl (key 51 h))))
    · exact .inr (.inr (.inr (.inr (.inl (key 52 h)))))
    · exact .inr (.inr (.inr (.inr (.inr (.inl (key 53 h))))))
    · exact .inr (.inr (.inr (.inr (.inr (.inr (.inl (key 54 h)))))))
    · exact .inr (.inr (.inr (.inr (.inr (.inr (.inr (.inl (key 55 h))))))))
    · exact .inr (.inr (.inr (.inr (.inr (.inr (.inr (.inr (.inl (key 56 h)))))))))
    · exact .inr (.inr (.inr (.inr (.inr (.inr (.inr (.inr (.inr (key 57 h)))))))))
theorem dropWhile_nil {α : Type} {p : α → Bool} : ∀ {l : List α}, l.dropWhile p = [] ↔ l.all p = true
  | [] => by simp
  | a :: l => by
    rw [List.dropWhile_cons, List.all_cons]
    cases h : p a
    · simp
    · simp [dropWhile_nil (l := l)]
theorem dropWhile_head {α : Type} {p : α → Bool} : ∀ {l : List α} {a : α} {r : List α}, l.dropWhile p = a :: r → p a = false
  | [], _, _, h => by cases h
  | b :: l, a, r, h => by
    rw [List.dropWhile_cons] at h
    cases hb : p b
    · rw [hb] at h
      simp at h
      rw [← h.1]; exact hb
    · rw [hb] at h
      exact dropWhile_head (by simpa using h)
theorem trim_digs (d : List UInt8) : Lib.trimS d digs = [] ↔ d.all Dw.isDig = true := by
  have hp : (fun b : UInt8 => digs.contains b) = Dw.isDig := funext digs_is
  unfold Lib.trimS Lib.trimLeftS Lib.trimRightS
  rw [hp, dropWhile_nil, List.all_reverse]
  constructor
  · intro h
    cases hd : d.reverse.dropWhile Dw.isDig with
    | nil =>
      rw [dropWhile_nil, List.all_reverse] at hd
      exact hd
    | cons a r =>
      have h1 := dropWhile_head hd
      rw [hd, List.all_cons, h1] at h
      cases h
  · intro h
    have : d.reverse.dropWhile Dw.isDig = [] := by rw [dropWhile_nil, List.all_reverse]; exact h
    rw [this]
    rfl
theorem strip_is (s : List UInt8) : Lib.trimPrefix s [45] = Dw.stripM s := by
  unfold Lib.trimPrefix Dw.stripM
  cases s with
  | nil => rfl
  | cons b r =>
    by_cases hb : b = 45
    · subst hb
      rfl
    · have h45 : ((45 : UInt8) == b) = false := by simpa using fun h => hb h.symm
      have : Lib.hasPrefix (b :: r) [45] = false := by
        show ((45 : UInt8) == b && List.isPrefixOf [] r) = false
        rw [h45]
        rfl
      rw [this]
      show b :: r = if b = 45 then r else b :: r
      rw [if_neg hb]
theorem number_any (s : List UInt8) (hs : s.length ≤ 1000000) (w : World) :
    Calls Tryz.prog 11 #[.string ⟨s.toArray⟩] w fun e w' => e = .returned (.tuple #[.int .i64 (Dw.numV s), .bool (Dw.numOk s)]) ∧ Below w.heap.size w w' := by
  have hB := Below.refl w.heap.size w
  obtain ⟨d, hd⟩ : ∃ d, Dw.stripM s = d := ⟨_, rfl⟩
  have hdl : d.length ≤ 1000000 := by
    rw [← hd]
    unfold Dw.stripM
    split
    · simp
    · split
      · simp at hs; omega
      · exact hs
  have HO := Lib.hid (show Dw.numOk s = (!d.isEmpty && decide (d.length ≤ 9) && d.all Dw.isDig) by unfold Dw.numOk; rw [hd])
  have HP := Lib.hid (show ∀ w, Calls Tryz.prog 27 #[.string ⟨s.toArray⟩, .string ⟨#[45]⟩] w fun e w' => e = .returned (.string ⟨d.toArray⟩) ∧ w' = w from fun w => by
    have h := Tryz.strings_TrimPrefix ⟨s.toArray⟩ ⟨#[45]⟩ w
    rw [show Lib.trimPrefix (⟨s.toArray⟩ : ByteArray).data.toList (⟨#[45]⟩ : ByteArray).data.toList = d from (strip_is s).trans hd] at h
    exact h)
  have hbad : Dw.numOk s = false → Dw.numV s = 0 := fun h => by unfold Dw.numV; rw [h]; rfl
  have HBAD := Lib.hid hbad
  have hs0 : (ByteArray.size ⟨d.toArray⟩ : Int) = (d.length : Int) := by simp [ByteArray.size]
  clear hbad
  by_cases h0 : d = []
  · have HZ := Lib.hid (show Dw.numOk s = false by rw [HO.out, h0]; rfl)
    have qE : d.isEmpty = true := by simp [h0]
    clear h0
    go_enter Tryz.func11, Tryz.ntmps11
    go_wp2_with fail
    refine (HP.out _).mono ?_
    rintro en w1 ⟨rfl, rfl⟩
    go_wp2_with fail
    go_ret2
    exact ⟨by rw [HZ.out, HBAD.out HZ.out]; rfl, hB⟩
  have qE : d.isEmpty = false := by simp [h0]
  by_cases h9 : 9 < d.length
  · have HZ := Lib.hid (show Dw.numOk s = false by rw [HO.out, decide_eq_false (by omega)]; simp)
    have g9 : (9 : Int) < (d.length : Int) := by omega
    clear h9 h0
    go_enter Tryz.func11, Tryz.ntmps11
    go_wp2_with fail
    refine (HP.out _).mono ?_
    rintro en w1 ⟨rfl, rfl⟩
    go_wp2_with fail
    go_ret2
    exact ⟨by rw [HZ.out, HBAD.out HZ.out]; rfl, hB⟩
  have g9 : decide ((9 : Int) < (d.length : Int)) = false := decide_eq_false (by omega)
  have HT := Lib.hid (show ∀ w, Calls Tryz.prog 28 #[.string ⟨d.toArray⟩, .string ⟨#[48, 49, 50, 51, 52, 53, 54, 55, 56, 57]⟩] w fun e w' => e = .returned (.string ⟨(Lib.trimS d digs).toArray⟩) ∧ Below w.heap.size w w' from fun w =>
    Any.strings_Trim_laid Tryz.lays160 (by kernel_rfl) ⟨d.toArray⟩ ⟨#[48, 49, 50, 51, 52, 53, 54, 55, 56, 57]⟩ w (by show d.toArray.size ≤ _; simp; omega) (by decide) (ascii_of_all (by decide)))
  by_cases ha : d.all Dw.isDig = true
  · have hz : Dw.numOk s = true := by
      rw [HO.out, ha, decide_eq_true (by omega)]
      cases d with
      | nil => exact absurd rfl h0
      | cons _ _ => rfl
    obtain ⟨n, hn, h1, h2, h10⟩ := Dw.num_some hz
    have hv : Dw.numV s = n := by unfold Dw.numV; rw [if_pos hz, hn]; rfl
    have HA := Lib.hid (fun w => Tryz.strconv_Atoi ⟨s.toArray⟩ n (by show s.toArray.size ≤ 18; simp; omega) hn w)
    have qT : (Lib.trimS d digs).isEmpty = true := by simp [(trim_digs d).2 ha]
    have HZ := Lib.hid hz; have HV := Lib.hid hv
    generalize Lib.trimS d digs = T at *
    clear h9 ha hz hn h1 h2 h10 hv h0
    go_enter Tryz.func11, Tryz.ntmps11
    go_wp2_with fail
    refine (HP.out _).mono ?_
    rintro en w1 ⟨rfl, rfl⟩
    go_wp2_with fail
    refine (HT.out _).mono ?_
    rintro en w2 ⟨rfl, hb⟩
    replace hB := tr hB hb
    clear hb
    go_wp2_with fail
    refine (HA.out _).mono ?_
    rintro en w3 ⟨rfl, t, rfl⟩
    replace hB := tr hB (Lib.bytesWorld_below w2 5 t)
    obtain ⟨W3, hW3⟩ : ∃ W, Lib.bytesWorld w2 5 t = W := ⟨_, rfl⟩
    rw [hW3] at hB ⊢
    clear hW3
    go_wp2_with fail
    refine wp_pure [0, 1, 2, 3] 4 (by kernel_rfl) (by kernel_rfl) rfl ?_
    (apply rat; (focus (intro w' hk; (iterate 4 (refine' rv ?_ rfl rfl (by go_simp; first | done | with_reducible rfl | exact rfl); try simp only [Act.put, List.setIfInBounds_toArray, List.set_cons_zero, List.set_cons_succ])); (exact rn))))
    intro w9 hk9
    simp only [List.drop_succ_cons, List.drop_zero]
    have HB9 := Lib.hid (hB.trans (hk9.whole.mono hB.size))
    clear hk9
    go_wp2_with fail
    go_ret2
    exact ⟨by rw [HZ.out, HV.out]; rfl, HB9.out⟩
  · have HZ := Lib.hid (show Dw.numOk s = false by rw [HO.out]; simp [ha])
    have qT : (Lib.trimS d digs).isEmpty = false := by
      cases hq : Lib.trimS d digs with
      | nil => exact absurd ((trim_digs d).1 hq) ha
      | cons _ _ => rfl
    generalize Lib.trimS d digs = T at *
    clear h9 ha h0
    go_enter Tryz.func11, Tryz.ntmps11
    go_wp2_with fail
    refine (HP.out _).mono ?_
    rintro en w1 ⟨rfl, rfl⟩
    go_wp2_with fail
    refine (HT.out _).mono ?_
    rintro en w2 ⟨rfl, hb⟩
    replace hB := tr hB hb
    clear hb
    go_wp2_with fail
    go_ret2
    exact ⟨by rw [HZ.out, HBAD.out HZ.out]; rfl, hB⟩
theorem grown_below (w : World) (k : Nat) (os : Array Obj) : Below w.heap.size w (Go.Sort.grow (w.drewN k) os) :=
  ⟨rfl, rfl, rfl, by rw [show (Go.Sort.grow (w.drewN k) os).heap = w.heap ++ os from rfl, Array.size_append]; omega, fun i hi => by rw [show (Go.Sort.grow (w.drewN k) os).heap = w.heap ++ os from rfl, Array.getElem?_append_left hi]⟩
theorem itoa_any (n : Int) (h0 : -9223372036854775808 ≤ n) (h1 : n ≤ 9223372036854775807) (w : World) (hn : ConAt w) :
    Calls Tryz.prog 69 #[.int .i64 n] w fun e w' => e = .returned (.string ⟨(Dw.itoaS n).toArray⟩) ∧ Below w.heap.size w w' := by
  refine (Tryz.strconv_Itoa n h0 h1 w hn.pow).mono ?_
  rintro e w' ⟨rfl, k, os, rfl⟩
  refine ⟨by rw [Dw.itoaS_eq h0 h1], ?_⟩
  exact grown_below w k os
abbrev IntsAt (w : World) (v : Value) (l : List Int) : Prop := SlAt w v l.length (l.map fun n => Value.int .i64 n)
theorem Dw.said_snoc (word : List UInt8) (l : List Int) (n : Int) : Dw.saidS word (l ++ [n]) = Dw.saidS word l ++ (32 :: Dw.itoaS n) := by unfold Dw.saidS; rw [List.foldl_append]; rfl
theorem digF_len : ∀ (f u : Nat), (Dw.digF f u).length ≤ f
  | 0, _ => Nat.le_refl _
  | f + 1, u => by
    unfold Dw.digF
    split
    · simp
    · have := digF_len f (u / 10)
      simp
      omega
theorem itoaS_len (n : Int) : (Dw.itoaS n).length ≤ 20 := by
  unfold Dw.itoaS
  split
  · have := digF_len 19 n.natAbs
    simp
    omega
  · have := digF_len 19 n.toNat
    omega
theorem said_len : ∀ (l : List Int) (w : List UInt8), (Dw.saidS w l).length ≤ w.length + 21 * l.length
  | [], _ => Nat.le_refl _
  | n :: l, w => by
    have h := said_len l (w ++ (32 :: Dw.itoaS n))
    have h2 := itoaS_len n
    show (Dw.saidS (w ++ (32 :: Dw.itoaS n)) l).length ≤ _
    simp at h ⊢
    omega
theorem csaid_any (word : List UInt8) (l : List Int) (hw : word.length ≤ 1000000) (hl : l.length ≤ 1000) (hr : ∀ n ∈ l, -9223372036854775808 ≤ n ∧ n ≤ 9223372036854775807) (v : Value) (w : World) (hv : IntsAt w v l) (hn : ConAt w) :
    Calls Tryz.prog 30 #[.string ⟨word.toArray⟩, v] w fun e w' => e = .returned (.string ⟨(Dw.saidS word l).toArray⟩) ∧ Below w.heap.size w w' := by
  have hB := Below.refl w.heap.size w
  have HV := Lib.hid hv
  obtain ⟨ao, cap, rfl, -, hnil, -⟩ := id hv
  have hll : (0 : Int) ≤ (l.length : Int) := by omega
  clear hv
  go_enter Tryz.func30, Tryz.ntmps30
  go_wp2_with fail
  go_loopw [0, 9] (fun s i wr => ∃ k : Nat, k ≤ l.length ∧ i = .int .i64 k ∧ s = .string ⟨(Dw.saidS word (l.take k)).toArray⟩ ∧ Below w.heap.size w wr) (fun _ i _ => l.length - (intOf i).toNat)
  case atStart => exact ⟨0, Nat.zero_le _, rfl, rfl, hB⟩
  case round =>
    clear hB
    obtain ⟨k, hk, rfl, rfl, hB⟩ := hrel
    by_cases hlt : k < l.length
    · have hlt' : (k : Int) < (l.length : Int) := by omega
      obtain ⟨n, hne⟩ : ∃ n, l[k]? = some n := ⟨l[k], List.getElem?_eq_getElem hlt⟩
      obtain ⟨h0, h1⟩ := hr n (List.mem_of_getElem? hne)
      obtain ⟨ao', cap', he, -, -, hc⟩ := HV.out.next hB
      injection he with he1 he2 he3
      subst he1
      obtain ⟨b, hb⟩ : ∃ b, ao = some b := by
        cases ao with
        | none => exact absurd (hnil rfl) (by omega)
        | some b => exact ⟨b, rfl⟩
      subst hb
      have hcell := hc b rfl k (.int .i64 n) (by rw [List.getElem?_map, hne]; rfl)
      obtain ⟨bb, off, spot⟩ := b
      have hs0 : spot = none := by
        obtain ⟨m, hm⟩ : ∃ m, l[0]? = some m := ⟨l[0]'(by omega), List.getElem?_eq_getElem (by omega)⟩
        have h2 := World.cell?_spot (hc _ rfl 0 (.int .i64 m) (by rw [List.getElem?_map, hm]; rfl))
        simpa [Addr.add] using h2
      subst hs0
      rw [Addr.add_lit] at hcell
      have HS := Lib.hid (show Dw.saidS word (l.take (k + 1)) = Dw.saidS word (l.take k) ++ (32 :: Dw.itoaS n) by rw [Dw.take_snoc hne]; exact Dw.said_snoc _ _ _)
      have HI := Lib.hid (fun w h => itoa_any n h0 h1 w h)
      have e1 : ∀ (x y : List UInt8), (⟨x.toArray⟩ : ByteArray) ++ ⟨y.toArray⟩ = ⟨(x ++ y).toArray⟩ := bs_append
      have e2 : ∀ (y : List UInt8), (⟨#[32]⟩ : ByteArray) ++ ⟨y.toArray⟩ = ⟨(32 :: y).toArray⟩ := fun y => bs_append [32] y
      have h20 := itoaS_len n
      have hsl := said_len (l.take k) word
      have hkl : (l.take k).length ≤ 1000 := by rw [List.length_take]; omega
      have gI : ¬ 9223372036854775807 < 1 + (Dw.itoaS n).length := by omega
      have gS : ¬ 9223372036854775807 < (Dw.saidS word (l.take k)).length + ((Dw.itoaS n).length + 1) := by omega
      clear he2 he3 hc hne h0 h1 h20 hsl hkl
      go_wp2_with fail
      refine (HI.out _ (hn.next hB)).mono ?_
      rintro en w2 ⟨rfl, hb⟩
      replace hB := tr hB hb
      clear hb hcell
      go_wp2_with fail
      go_roundw
      case rel => exact ⟨k + 1, hlt, by go_num, by rw [HS.out], hB⟩
      case measure => first | done | (simp [intOf]; done) | (simp [intOf]; omega)
    · have hge : ¬ (k : Int) < (l.length : Int) := by omega
      obtain rfl : k = l.length := by omega
      rw [List.take_length]
      go_wp2_with fail
      go_ret
      exact ⟨rfl, hB⟩
def strCells (l : List (List UInt8)) : List Value := l.map fun s => .string ⟨s.toArray⟩
theorem strCells_snoc (l : List (List UInt8)) (s : List UInt8) : strCells (l ++ [s]) = strCells l ++ [.string ⟨s.toArray⟩] := by unfold strCells; simp
theorem infoStr : (Tryz.prog.info? 9).map (fun i => (i.zero, i.size, i.bytes)) = some (some (.string ⟨#[]⟩), 1, 16) := by kernel_rfl
theorem ints_block {w : World} {b : Nat} {ns : List Int} {t : TypeId} {fr : Nat × Nat} (h : w.heap[b]? = some (.cells (ns.map fun n => Value.int .i64 n).toArray t fr)) : IntsAt w (.slice (some ⟨b, 0, none⟩) ns.length ns.length) ns := by
  refine ⟨_, _, rfl, Nat.le_refl _, (fun h => by cases h), fun a ha j u hj => ?_⟩
  cases ha
  rw [addr0, cell_of_row _ _ j _ _ _ h]
  simpa using hj
theorem ints_new (W : World) (ns : List Int) (t : TypeId) {b : Nat} (hb : b = W.heap.size) : IntsAt (W.alloc (.cells (ns.map fun n => Value.int .i64 n).toArray t)) (.slice (some ⟨b, 0, none⟩) ns.length ns.length) ns := by
  subst hb
  exact ints_block (han _ _)
structure Pushed (w V : World) (g : Nat) (s : Dw.St) (l : List (List UInt8)) (v : Value) : Prop where
  box : V.heap[g]? = some (.cells (stC s) 28)
  own : V.ownsRow (g + 1) 9 1 v l.length (strCells l)
  bel : Below w.heap.size w V
theorem pushed {w W W' : World} {g : Nat} {s : Dw.St} {l : List (List UInt8)} {v v' : Value} {x : List UInt8} (hg : w.heap.size ≤ g) (h : Pushed w W g s l v) (ho : W'.ownsRow (g + 1) 9 1 v' (l.length + 1) (strCells l ++ #[Value.string ⟨x.toArray⟩].toList)) (hk : KeepBut (fun j => v.ownBlock = some j) (W.alloc (.cells #[.string ⟨x.toArray⟩] 9)) W') : Pushed w W' g s (l ++ [x]) v' := by
  have hb := (Below.refl W.heap.size W).alloc (Nat.le_refl _) (.cells #[.string ⟨x.toArray⟩] 9)
  have hq := own_next h.own hb
  refine ⟨?_, ?_, ?_⟩
  · have b := kp hb h.box
    exact (hk.block g (block_lt b) (fun e => by have := (own_blk hq e).1; omega)).trans b
  · rw [List.length_append, strCells_snoc]
    exact ho
  · have hs := h.bel.size
    exact (h.bel.alloc h.bel.size _).trans (hk.below (by simp; omega) (fun j e => by have := (own_blk hq e).1; omega))
theorem pushed_next {w W W' : World} {g : Nat} {s : Dw.St} {l : List (List UInt8)} {v : Value} (h : Pushed w W g s l v) (hb : Below W.heap.size W W') : Pushed w W' g s l v := ⟨kp hb h.box, own_next h.own hb, tr h.bel hb⟩
theorem Dw.legal_small {s : Dw.St} (h : Dw.legal s = true) : ∀ n ∈ [s.mo, s.la, s.lo, s.iso], -9223372036854775808 ≤ n ∧ n ≤ 9223372036854775807 := by
  obtain ⟨⟨h1, h2, h3, h4⟩, ⟨h5, h6, h7, h8⟩, _⟩ := (Dw.legal_iff s).1 h
  intro n hn
  simp only [List.mem_cons, List.not_mem_nil, or_false] at hn
  rcases hn with rfl | rfl | rfl | rfl <;> omega
theorem join_any {w : World} {B n : Nat} (v : Value) (l : List (List UInt8)) (h : w.ownsRow B 9 1 v n (strCells l)) (hn : n = l.length) (h0 : 0 < l.length ∧ l.length ≤ 10) (hlen : (Lib.join l [32]).length ≤ 140737488355328) :
    Calls Tryz.prog 31 #[v, .string ⟨#[32]⟩] w fun e w' => e = .returned (.string ⟨(Lib.join l [32]).toArray⟩) ∧ Below w.heap.size w w' := by
  subst hn
  obtain ⟨ao, cap, rfl, hcap, -, hc⟩ := slAt_own h
  obtain ⟨hl, ⟨h1, hn⟩ | ⟨g, _, _, h1, _, hg, _⟩⟩ := h
  · omega
  · injection h1 with h2 h3 h4
    subst h2
    have hx : (l.map fun s => (⟨s.toArray⟩ : ByteArray)).map (·.data.toList) = l := by
      rw [List.map_map]
      exact (List.map_congr_left (fun _ _ => rfl)).trans (List.map_id l)
    have hj := Tryz.strings_Join g 0 cap (l.map fun s => (⟨s.toArray⟩ : ByteArray)) ⟨#[32]⟩ w (fun j x hj => by
      rw [List.getElem?_map] at hj
      cases hs : l[j]? with
      | none => rw [hs] at hj; cases hj
      | some s =>
        rw [hs] at hj
        cases hj
        have h5 := hc _ rfl j (.string ⟨s.toArray⟩) (by unfold strCells; rw [List.getElem?_map, hs]; rfl)
        rw [addr0] at h5
        rw [Nat.zero_add]
        exact h5) (block_lt hg) (by rw [List.length_map]; omega) (by rw [List.length_map]; exact hcap) (by rw [hx]; exact hlen)
    rw [hx, List.length_map] at hj
    exact hj
theorem join_small (l : List (List UInt8)) (hl : l.length ≤ 10) (h : ∀ x ∈ l, x.length ≤ 100) : (Lib.join l [32]).length ≤ 140737488355328 := by
  have tail : ∀ r : List (List UInt8), (∀ x ∈ r, x.length ≤ 100) → (Lib.joinTail [32] r).length ≤ 101 * r.length := by
    intro r
    induction r with
    | nil => intro _; simp [Lib.joinTail]
    | cons a r ih =>
      intro h
      have h1 := ih (fun x hx => h x (List.mem_cons_of_mem _ hx))
      have h2 := h a (List.mem_cons_self ..)
      have e : Lib.joinTail [32] (a :: r) = ([32] ++ a) ++ Lib.joinTail [32] r := rfl
      rw [e, List.length_append, List.length_append, List.length_cons]
      simp
      omega
  cases l with
  | nil => simp [Lib.join_nil]
  | cons a r =>
    rw [Lib.join_cons, List.length_append]
    have h1 := tail r (fun x hx => h x (List.mem_cons_of_mem _ hx))
    have h2 := h a (List.mem_cons_self ..)
    simp at hl
    omega
theorem text_core (mo la lo iso : Int) (ar ho : Bool) (S1 S2 S3 : List UInt8) (L1 : S1.length ≤ 100) (L2 : S2.length ≤ 100) (L3 : S3.length ≤ 100) (w : World) (hn : ConAt w)
    (H1 : Hid (∀ v w, IntsAt w v [mo] → ConAt w → Calls Tryz.prog 30 #[.string ⟨#[109, 111, 100, 101]⟩, v] w fun e w' => e = .returned (.string ⟨S1.toArray⟩) ∧ Below w.heap.size w w'))
    (H2 : Hid (∀ v w, IntsAt w v [la, lo] → ConAt w → Calls Tryz.prog 30 #[.string ⟨#[104, 111, 109, 101]⟩, v] w fun e w' => e = .returned (.string ⟨S2.toArray⟩) ∧ Below w.heap.size w w'))
    (H3 : Hid (∀ v w, IntsAt w v [iso] → ConAt w → Calls Tryz.prog 30 #[.string ⟨#[105, 115, 111]⟩, v] w fun e w' => e = .returned (.string ⟨S3.toArray⟩) ∧ Below w.heap.size w w')) :
    Calls Tryz.prog 13 #[stV ⟨mo, ar, ho, la, lo, iso⟩] w fun e w' => e = .returned (.string ⟨(Lib.join ([S1] ++ (if ar then [[97, 114, 109, 101, 100]] else []) ++ (if ho then [S2] else []) ++ [S3]) [32]).toArray⟩) ∧ Below w.heap.size w w' := by
  obtain ⟨V, hV⟩ : ∃ V, w.alloc (.cells (stC ⟨mo, ar, ho, la, lo, iso⟩) 28) = V := ⟨_, rfl⟩
  have b0 : V.heap[w.heap.size]? = some (.cells (stC ⟨mo, ar, ho, la, lo, iso⟩) 28) := by rw [← hV]; exact han _ _
  have hB : Below w.heap.size w V := by rw [← hV]; exact (Below.refl _ w).alloc (Nat.le_refl _) _
  have c0 : V.cell? ⟨w.heap.size, 0, none⟩ = some (.int .i64 mo) := by rw [cell_of_row _ _ 0 _ _ _ b0]; rfl
  go_enter Tryz.func13, Tryz.ntmps13
  go_wp2_with fail
  have ib := (Below.refl V.heap.size V).alloc (Nat.le_refl _) (.cells #[.int .i64 mo] 3)
  refine (H1.out _ _ (ints_block (ns := [mo]) (han V (.cells #[.int .i64 mo] 3))) (hn.next (tr hB ib))).mono ?_
  rintro en w1 ⟨rfl, hb⟩
  have b1 := kp hb (kp ib b0)
  replace hB := tr (tr hB ib) hb
  clear hb b0 ib c0
  have z1 : w.heap.size + 1 ≤ w1.heap.size := block_lt b1
  have bO := han w1 (.cells #[.string ⟨S1.toArray⟩] 9)
  have hbV := (Below.refl w1.heap.size w1).alloc (Nat.le_refl _) (.cells #[.string ⟨S1.toArray⟩] 9)
  have P1 : Pushed w (w1.alloc (.cells #[.string ⟨S1.toArray⟩] 9)) w.heap.size ⟨mo, ar, ho, la, lo, iso⟩ [S1] (.slice (some ⟨w1.heap.size, 0, none⟩) 1 1) :=
    ⟨kp hbV b1, ⟨rfl, .inr ⟨_, 1, _, rfl, z1, bO, Nat.le_refl _, by decide, rfl, rfl⟩⟩, tr hB hbV⟩
  clear b1 hB z1 bO hbV
  have hs1 : (w1.alloc (.cells #[.string ⟨S1.toArray⟩] 9)).heap.size = w1.heap.size + 1 := Array.size_push _
  try clear hV
  cases ar
  · cases ho
    · have c1 : (w1.alloc (.cells #[.string ⟨(S1).toArray⟩] 9)).cell? ⟨w.heap.size, 1, none⟩ = some (.bool false) := (by rw [cell_of_row _ _ 1 _ _ _ P1.box]; rfl)
      have c2 : (w1.alloc (.cells #[.string ⟨(S1).toArray⟩] 9)).cell? ⟨w.heap.size, 2, none⟩ = some (.bool false) := (by rw [cell_of_row _ _ 2 _ _ _ P1.box]; rfl)
      have c3 : (w1.alloc (.cells #[.string ⟨(S1).toArray⟩] 9)).cell? ⟨w.heap.size, 3, none⟩ = some (.int .i64 la) := (by rw [cell_of_row _ _ 3 _ _ _ P1.box]; rfl)
      have c4 : (w1.alloc (.cells #[.string ⟨(S1).toArray⟩] 9)).cell? ⟨w.heap.size, 4, none⟩ = some (.int .i64 lo) := (by rw [cell_of_row _ _ 4 _ _ _ P1.box]; rfl)
      have c5 : (w1.alloc (.cells #[.string ⟨(S1).toArray⟩] 9)).cell? ⟨w.heap.size, 5, none⟩ = some (.int .i64 iso) := (by rw [cell_of_row _ _ 5 _ _ _ P1.box]; rfl)
      go_wp2_with fail
      have ib2 := (Below.refl (w1.alloc (.cells #[.string ⟨(S1).toArray⟩] 9)).heap.size (w1.alloc (.cells #[.string ⟨(S1).toArray⟩] 9))).alloc (Nat.le_refl _) (.cells #[.int .i64 iso] 3)
      refine (H3.out _ _ (ints_new (w1.alloc (.cells #[.string ⟨(S1).toArray⟩] 9)) [iso] 3 (by first | rfl | exact hs1.symm)) (hn.next (tr P1.bel ib2))).mono ?_
      rintro en x2 ⟨rfl, hb2⟩
      have Q2 := pushed_next (pushed_next P1 ib2) hb2
      clear hb2 ib2
      have hq3 := own_next Q2.own ((Below.refl (x2).heap.size (x2)).alloc (Nat.le_refl _) (.cells #[.string ⟨(S3).toArray⟩] 9))
      have zq3 : w.heap.size + 1 ≤ ((x2).alloc (.cells #[.string ⟨(S3).toArray⟩] 9)).heap.size := by have := block_lt Q2.box; simp at this ⊢; omega
      have bx3 : ((x2).alloc (.cells #[.string ⟨(S3).toArray⟩] 9)).heap[x2.heap.size]? = some (.cells #[.string ⟨(S3).toArray⟩] 9) := (by have h := han (x2) (.cells #[.string ⟨(S3).toArray⟩] 9); (try rw [hs1] at h); exact h)
      go_wp2_with (at_builtin; refine append_own22 (by rfl) (by rfl) Tryz.underlying23 infoStr rfl (by decide) (by decide) hq3 (by simp) zq3 rfl bx3 rfl rfl (by simp [Value.oneCell']) ?_; clear c1 c2 c3 c4 c5; intro v3 y3 how3 hk3; have P3 := pushed (x := S3) (Nat.le_refl _) Q2 how3 hk3; have c1 : (y3).cell? ⟨w.heap.size, 1, none⟩ = some (.bool false) := (by rw [cell_of_row _ _ 1 _ _ _ P3.box]; rfl); have c2 : (y3).cell? ⟨w.heap.size, 2, none⟩ = some (.bool false) := (by rw [cell_of_row _ _ 2 _ _ _ P3.box]; rfl); have c3 : (y3).cell? ⟨w.heap.size, 3, none⟩ = some (.int .i64 la) := (by rw [cell_of_row _ _ 3 _ _ _ P3.box]; rfl); have c4 : (y3).cell? ⟨w.heap.size, 4, none⟩ = some (.int .i64 lo) := (by rw [cell_of_row _ _ 4 _ _ _ P3.box]; rfl); have c5 : (y3).cell? ⟨w.heap.size, 5, none⟩ = some (.int .i64 iso) := (by rw [cell_of_row _ _ 5 _ _ _ P3.box]; rfl))
      clear bx3 hq3 zq3 how3 hk3
      refine (join_any _ _ P3.own (by simp) (by simp) (join_small _ (by simp) (by simp only [List.forall_mem_append, List.forall_mem_singleton]; repeat' (first | exact L1 | exact L2 | exact L3 | decide | constructor)))).mono ?_
      rintro en w9 ⟨rfl, hb9⟩
      have HB9 := Lib.hid (tr P3.bel hb9)
      clear hb9 P3
      go_wp2_with fail
      go_ret
      exact ⟨rfl, HB9.out⟩
    · have c1 : (w1.alloc (.cells #[.string ⟨(S1).toArray⟩] 9)).cell? ⟨w.heap.size, 1, none⟩ = some (.bool false) := (by rw [cell_of_row _ _ 1 _ _ _ P1.box]; rfl)
      have c2 : (w1.alloc (.cells #[.string ⟨(S1).toArray⟩] 9)).cell? ⟨w.heap.size, 2, none⟩ = some (.bool true) := (by rw [cell_of_row _ _ 2 _ _ _ P1.box]; rfl)
      have c3 : (w1.alloc (.cells #[.string ⟨(S1).toArray⟩] 9)).cell? ⟨w.heap.size, 3, none⟩ = some (.int .i64 la) := (by rw [cell_of_row _ _ 3 _ _ _ P1.box]; rfl)
      have c4 : (w1.alloc (.cells #[.string ⟨(S1).toArray⟩] 9)).cell? ⟨w.heap.size, 4, none⟩ = some (.int .i64 lo) := (by rw [cell_of_row _ _ 4 _ _ _ P1.box]; rfl)
      have c5 : (w1.alloc (.cells #[.string ⟨(S1).toArray⟩] 9)).cell? ⟨w.heap.size, 5, none⟩ = some (.int .i64 iso) := (by rw [cell_of_row _ _ 5 _ _ _ P1.box]; rfl)
      go_wp2_with fail
      have ib2 := (Below.refl (w1.alloc (.cells #[.string ⟨(S1).toArray⟩] 9)).heap.size (w1.alloc (.cells #[.string ⟨(S1).toArray⟩] 9))).alloc (Nat.le_refl _) (.cells #[.int .i64 la, .int .i64 lo] 3)
      refine (H2.out _ _ (ints_new (w1.alloc (.cells #[.string ⟨(S1).toArray⟩] 9)) [la, lo] 3 (by first | rfl | exact hs1.symm)) (hn.next (tr P1.bel ib2))).mono ?_
      rintro en x2 ⟨rfl, hb2⟩
      have Q2 := pushed_next (pushed_next P1 ib2) hb2
      clear hb2 ib2
      have hq3 := own_next Q2.own ((Below.refl (x2).heap.size (x2)).alloc (Nat.le_refl _) (.cells #[.string ⟨(S2).toArray⟩] 9))
      have zq3 : w.heap.size + 1 ≤ ((x2).alloc (.cells #[.string ⟨(S2).toArray⟩] 9)).heap.size := by have := block_lt Q2.box; simp at this ⊢; omega
      have bx3 : ((x2).alloc (.cells #[.string ⟨(S2).toArray⟩] 9)).heap[x2.heap.size]? = some (.cells #[.string ⟨(S2).toArray⟩] 9) := (by have h := han (x2) (.cells #[.string ⟨(S2).toArray⟩] 9); (try rw [hs1] at h); exact h)
      go_wp2_with (at_builtin; refine append_own22 (by rfl) (by rfl) Tryz.underlying23 infoStr rfl (by decide) (by decide) hq3 (by simp) zq3 rfl bx3 rfl rfl (by simp [Value.oneCell']) ?_; clear c1 c2 c3 c4 c5; intro v3 y3 how3 hk3; have P3 := pushed (x := S2) (Nat.le_refl _) Q2 how3 hk3; have c1 : (y3).cell? ⟨w.heap.size, 1, none⟩ = some (.bool false) := (by rw [cell_of_row _ _ 1 _ _ _ P3.box]; rfl); have c2 : (y3).cell? ⟨w.heap.size, 2, none⟩ = some (.bool true) := (by rw [cell_of_row _ _ 2 _ _ _ P3.box]; rfl); have c3 : (y3).cell? ⟨w.heap.size, 3, none⟩ = some (.int .i64 la) := (by rw [cell_of_row _ _ 3 _ _ _ P3.box]; rfl); have c4 : (y3).cell? ⟨w.heap.size, 4, none⟩ = some (.int .i64 lo) := (by rw [cell_of_row _ _ 4 _ _ _ P3.box]; rfl); have c5 : (y3).cell? ⟨w.heap.size, 5, none⟩ = some (.int .i64 iso) := (by rw [cell_of_row _ _ 5 _ _ _ P3.box]; rfl))
      clear bx3 hq3 zq3 how3 hk3
      have ib4 := (Below.refl (y3).heap.size (y3)).alloc (Nat.le_refl _) (.cells #[.int .i64 iso] 3)
      refine (H3.out _ _ (ints_new (y3) [iso] 3 (by first | rfl | exact hs1.symm)) (hn.next (tr P3.bel ib4))).mono ?_
      rintro en x4 ⟨rfl, hb4⟩
      have Q4 := pushed_next (pushed_next P3 ib4) hb4
      clear hb4 ib4
      have hq5 := own_next Q4.own ((Below.refl (x4).heap.size (x4)).alloc (Nat.le_refl _) (.cells #[.string ⟨(S3).toArray⟩] 9))
      have zq5 : w.heap.size + 1 ≤ ((x4).alloc (.cells #[.string ⟨(S3).toArray⟩] 9)).heap.size := by have := block_lt Q4.box; simp at this ⊢; omega
      have bx5 : ((x4).alloc (.cells #[.string ⟨(S3).toArray⟩] 9)).heap[x4.heap.size]? = some (.cells #[.string ⟨(S3).toArray⟩] 9) := (by have h := han (x4) (.cells #[.string ⟨(S3).toArray⟩] 9); (try rw [hs1] at h); exact h)
      go_wp2_with (at_builtin; refine append_own22 (by rfl) (by rfl) Tryz.underlying23 infoStr rfl (by decide) (by decide) hq5 (by simp) zq5 rfl bx5 rfl rfl (by simp [Value.oneCell']) ?_; clear c1 c2 c3 c4 c5; intro v5 y5 how5 hk5; have P5 := pushed (x := S3) (Nat.le_refl _) Q4 how5 hk5; have c1 : (y5).cell? ⟨w.heap.size, 1, none⟩ = some (.bool false) := (by rw [cell_of_row _ _ 1 _ _ _ P5.box]; rfl); have c2 : (y5).cell? ⟨w.heap.size, 2, none⟩ = some (.bool true) := (by rw [cell_of_row _ _ 2 _ _ _ P5.box]; rfl); have c3 : (y5).cell? ⟨w.heap.size, 3, none⟩ = some (.int .i64 la) := (by rw [cell_of_row _ _ 3 _ _ _ P5.box]; rfl); have c4 : (y5).cell? ⟨w.heap.size, 4, none⟩ = some (.int .i64 lo) := (by rw [cell_of_row _ _ 4 _ _ _ P5.box]; rfl); have c5 : (y5).cell? ⟨w.heap.size, 5, none⟩ = some (.int .i64 iso) := (by rw [cell_of_row _ _ 5 _ _ _ P5.box]; rfl))
      clear bx5 hq5 zq5 how5 hk5
      refine (join_any _ _ P5.own (by simp) (by simp) (join_small _ (by simp) (by simp only [List.forall_mem_append, List.forall_mem_singleton]; repeat' (first | exact L1 | exact L2 | exact L3 | decide | constructor)))).mono ?_
      rintro en w9 ⟨rfl, hb9⟩
      have HB9 := Lib.hid (tr P5.bel hb9)
      clear hb9 P5
      go_wp2_with fail
      go_ret
      exact ⟨rfl, HB9.out⟩
  · cases ho
    · have c1 : (w1.alloc (.cells #[.string ⟨(S1).toArray⟩] 9)).cell? ⟨w.heap.size, 1, none⟩ = some (.bool true) := (by rw [cell_of_row _ _ 1 _ _ _ P1.box]; rfl)
      have c2 : (w1.alloc (.cells #[.string ⟨(S1).toArray⟩] 9)).cell? ⟨w.heap.size, 2, none⟩ = some (.bool false) := (by rw [cell_of_row _ _ 2 _ _ _ P1.box]; rfl)
      have c3 : (w1.alloc (.cells #[.string ⟨(S1).toArray⟩] 9)).cell? ⟨w.heap.size, 3, none⟩ = some (.int .i64 la) := (by rw [cell_of_row _ _ 3 _ _ _ P1.box]; rfl)
      have c4 : (w1.alloc (.cells #[.string ⟨(S1).toArray⟩] 9)).cell? ⟨w.heap.size, 4, none⟩ = some (.int .i64 lo) := (by rw [cell_of_row _ _ 4 _ _ _ P1.box]; rfl)
      have c5 : (w1.alloc (.cells #[.string ⟨(S1).toArray⟩] 9)).cell? ⟨w.heap.size, 5, none⟩ = some (.int .i64 iso) := (by rw [cell_of_row _ _ 5 _ _ _ P1.box]; rfl)
      have hq2 := own_next P1.own ((Below.refl (w1.alloc (.cells #[.string ⟨(S1).toArray⟩] 9)).heap.size (w1.alloc (.cells #[.string ⟨(S1).toArray⟩] 9))).alloc (Nat.le_refl _) (.cells #[.string ⟨([97, 114, 109, 101, 100]).toArray⟩] 9))
      have zq2 : w.heap.size + 1 ≤ ((w1.alloc (.cells #[.string ⟨(S1).toArray⟩] 9)).alloc (.cells #[.string ⟨([97, 114, 109, 101, 100]).toArray⟩] 9)).heap.size := by have := block_lt P1.box; simp at this ⊢; omega
      have bx2 : ((w1.alloc (.cells #[.string ⟨(S1).toArray⟩] 9)).alloc (.cells #[.string ⟨([97, 114, 109, 101, 100]).toArray⟩] 9)).heap[w1.heap.size + 1]? = some (.cells #[.string ⟨([97, 114, 109, 101, 100]).toArray⟩] 9) := (by have h := han (w1.alloc (.cells #[.string ⟨(S1).toArray⟩] 9)) (.cells #[.string ⟨([97, 114, 109, 101, 100]).toArray⟩] 9); (try rw [hs1] at h); exact h)
      go_wp2_with (at_builtin; refine append_own22 (by rfl) (by rfl) Tryz.underlying23 infoStr rfl (by decide) (by decide) hq2 (by simp) zq2 rfl bx2 rfl rfl (by simp [Value.oneCell']) ?_; clear c1 c2 c3 c4 c5; intro v2 y2 how2 hk2; have P2 := pushed (x := [97, 114, 109, 101, 100]) (Nat.le_refl _) P1 how2 hk2; have c1 : (y2).cell? ⟨w.heap.size, 1, none⟩ = some (.bool true) := (by rw [cell_of_row _ _ 1 _ _ _ P2.box]; rfl); have c2 : (y2).cell? ⟨w.heap.size, 2, none⟩ = some (.bool false) := (by rw [cell_of_row _ _ 2 _ _ _ P2.box]; rfl); have c3 : (y2).cell? ⟨w.heap.size, 3, none⟩ = some (.int .i64 la) := (by rw [cell_of_row _ _ 3 _ _ _ P2.box]; rfl); have c4 : (y2).cell? ⟨w.heap.size, 4, none⟩ = some (.int .i64 lo) := (by rw [cell_of_row _ _ 4 _ _ _ P2.box]; rfl); have c5 : (y2).cell? ⟨w.heap.size, 5, none⟩ = some (.int .i64 iso) := (by rw [cell_of_row _ _ 5 _ _ _ P2.box]; rfl))
      clear bx2 hq2 zq2 how2 hk2
      have ib3 := (Below.refl (y2).heap.size (y2)).alloc (Nat.le_refl _) (.cells #[.int .i64 iso] 3)
      refine (H3.out _ _ (ints_new (y2) [iso] 3 (by first | rfl | exact hs1.symm)) (hn.next (tr P2.bel ib3))).mono ?_
      rintro en x3 ⟨rfl, hb3⟩
      have Q3 := pushed_next (pushed_next P2 ib3) hb3
      clear hb3 ib3
      have hq4 := own_next Q3.own ((Below.refl (x3).heap.size (x3)).alloc (Nat.le_refl _) (.cells #[.string ⟨(S3).toArray⟩] 9))
      have zq4 : w.heap.size + 1 ≤ ((x3).alloc (.cells #[.string ⟨(S3).toArray⟩] 9)).heap.size := by have := block_lt Q3.box; simp at this ⊢; omega
      have bx4 : ((x3).alloc (.cells #[.string ⟨(S3).toArray⟩] 9)).heap[x3.heap.size]? = some (.cells #[.string ⟨(S3).toArray⟩] 9) := (by have h := han (x3) (.cells #[.string ⟨(S3).toArray⟩] 9); (try rw [hs1] at h); exact h)
      go_wp2_with (at_builtin; refine append_own22 (by rfl) (by rfl) Tryz.underlying23 infoStr rfl (by decide) (by decide) hq4 (by simp) zq4 rfl bx4 rfl rfl (by simp [Value.oneCell']) ?_; clear c1 c2 c3 c4 c5; intro v4 y4 how4 hk4; have P4 := pushed (x := S3) (Nat.le_refl _) Q3 how4 hk4; have c1 : (y4).cell? ⟨w.heap.size, 1, none⟩ = some (.bool true) := (by rw [cell_of_row _ _ 1 _ _ _ P4.box]; rfl); have c2 : (y4).cell? ⟨w.heap.size, 2, none⟩ = some (.bool false) := (by rw [cell_of_row _ _ 2 _ _ _ P4.box]; rfl); have c3 : (y4).cell? ⟨w.heap.size, 3, none⟩ = some (.int .i64 la) := (by rw [cell_of_row _ _ 3 _ _ _ P4.box]; rfl); have c4 : (y4).cell? ⟨w.heap.size, 4, none⟩ = some (.int .i64 lo) := (by rw [cell_of_row _ _ 4 _ _ _ P4.box]; rfl); have c5 : (y4).cell? ⟨w.heap.size, 5, none⟩ = some (.int .i64 iso) := (by rw [cell_of_row _ _ 5 _ _ _ P4.box]; rfl))
      clear bx4 hq4 zq4 how4 hk4
      refine (join_any _ _ P4.own (by simp) (by simp) (join_small _ (by simp) (by simp only [List.forall_mem_append, List.forall_mem_singleton]; repeat' (first | exact L1 | exact L2 | exact L3 | decide | constructor)))).mono ?_
      rintro en w9 ⟨rfl, hb9⟩
      have HB9 := Lib.hid (tr P4.bel hb9)
      clear hb9 P4
      go_wp2_with fail
      go_ret
      exact ⟨rfl, HB9.out⟩
    · have c1 : (w1.alloc (.cells #[.string ⟨(S1).toArray⟩] 9)).cell? ⟨w.heap.size, 1, none⟩ = some (.bool true) := (by rw [cell_of_row _ _ 1 _ _ _ P1.box]; rfl)
      have c2 : (w1.alloc (.cells #[.string ⟨(S1).toArray⟩] 9)).cell? ⟨w.heap.size, 2, none⟩ = some (.bool true) := (by rw [cell_of_row _ _ 2 _ _ _ P1.box]; rfl)
      have c3 : (w1.alloc (.cells #[.string ⟨(S1).toArray⟩] 9)).cell? ⟨w.heap.size, 3, none⟩ = some (.int .i64 la) := (by rw [cell_of_row _ _ 3 _ _ _ P1.box]; rfl)
      have c4 : (w1.alloc (.cells #[.string ⟨(S1).toArray⟩] 9)).cell? ⟨w.heap.size, 4, none⟩ = some (.int .i64 lo) := (by rw [cell_of_row _ _ 4 _ _ _ P1.box]; rfl)
      have c5 : (w1.alloc (.cells #[.string ⟨(S1).toArray⟩] 9)).cell? ⟨w.heap.size, 5, none⟩ = some (.int .i64 iso) := (by rw [cell_of_row _ _ 5 _ _ _ P1.box]; rfl)
      have hq2 := own_next P1.own ((Below.refl (w1.alloc (.cells #[.string ⟨(S1).toArray⟩] 9)).heap.size (w1.alloc (.cells #[.string ⟨(S1).toArray⟩] 9))).alloc (Nat.le_refl _) (.cells #[.string ⟨([97, 114, 109, 101, 100]).toArray⟩] 9))
      have zq2 : w.heap.size + 1 ≤ ((w1.alloc (.cells #[.string ⟨(S1).toArray⟩] 9)).alloc (.cells #[.string ⟨([97, 114, 109, 101, 100]).toArray⟩] 9)).heap.size := by have := block_lt P1.box; simp at this ⊢; omega
      have bx2 : ((w1.alloc (.cells #[.string ⟨(S1).toArray⟩] 9)).alloc (.cells #[.string ⟨([97, 114, 109, 101, 100]).toArray⟩] 9)).heap[w1.heap.size + 1]? = some (.cells #[.string ⟨([97, 114, 109, 101, 100]).toArray⟩] 9) := (by have h := han (w1.alloc (.cells #[.string ⟨(S1).toArray⟩] 9)) (.cells #[.string ⟨([97, 114, 109, 101, 100]).toArray⟩] 9); (try rw [hs1] at h); exact h)
      go_wp2_with (at_builtin; refine append_own22 (by rfl) (by rfl) Tryz.underlying23 infoStr rfl (by decide) (by decide) hq2 (by simp) zq2 rfl bx2 rfl rfl (by simp [Value.oneCell']) ?_; clear c1 c2 c3 c4 c5; intro v2 y2 how2 hk2; have P2 := pushed (x := [97, 114, 109, 101, 100]) (Nat.le_refl _) P1 how2 hk2; have c1 : (y2).cell? ⟨w.heap.size, 1, none⟩ = some (.bool true) := (by rw [cell_of_row _ _ 1 _ _ _ P2.box]; rfl); have c2 : (y2).cell? ⟨w.heap.size, 2, none⟩ = some (.bool true) := (by rw [cell_of_row _ _ 2 _ _ _ P2.box]; rfl); have c3 : (y2).cell? ⟨w.heap.size, 3, none⟩ = some (.int .i64 la) := (by rw [cell_of_row _ _ 3 _ _ _ P2.box]; rfl); have c4 : (y2).cell? ⟨w.heap.size, 4, none⟩ = some (.int .i64 lo) := (by rw [cell_of_row _ _ 4 _ _ _ P2.box]; rfl); have c5 : (y2).cell? ⟨w.heap.size, 5, none⟩ = some (.int .i64 iso) := (by rw [cell_of_row _ _ 5 _ _ _ P2.box]; rfl))
      clear bx2 hq2 zq2 how2 hk2
      have ib3 := (Below.refl (y2).heap.size (y2)).alloc (Nat.le_refl _) (.cells #[.int .i64 la, .int .i64 lo] 3)
      refine (H2.out _ _ (ints_new (y2) [la, lo] 3 (by first | rfl | exact hs1.symm)) (hn.next (tr P2.bel ib3))).mono ?_
      rintro en x3 ⟨rfl, hb3⟩
      have Q3 := pushed_next (pushed_next P2 ib3) hb3
      clear hb3 ib3
      have hq4 := own_next Q3.own ((Below.refl (x3).heap.size (x3)).alloc (Nat.le_refl _) (.cells #[.string ⟨(S2).toArray⟩] 9))
      have zq4 : w.heap.size + 1 ≤ ((x3).alloc (.cells #[.string ⟨(S2).toArray⟩] 9)).heap.size := by have := block_lt Q3.box; simp at this ⊢; omega
      have bx4 : ((x3).alloc (.cells #[.string ⟨(S2).toArray⟩] 9)).heap[x3.heap.size]? = some (.cells #[.string ⟨(S2).toArray⟩] 9) := (by have h := han (x3) (.cells #[.string ⟨(S2).toArray⟩] 9); (try rw [hs1] at h); exact h)
      go_wp2_with (at_builtin; refine append_own22 (by rfl) (by rfl) Tryz.underlying23 infoStr rfl (by decide) (by decide) hq4 (by simp) zq4 rfl bx4 rfl rfl (by simp [Value.oneCell']) ?_; clear c1 c2 c3 c4 c5; intro v4 y4 how4 hk4; have P4 := pushed (x := S2) (Nat.le_refl _) Q3 how4 hk4; have c1 : (y4).cell? ⟨w.heap.size, 1, none⟩ = some (.bool true) := (by rw [cell_of_row _ _ 1 _ _ _ P4.box]; rfl); have c2 : (y4).cell? ⟨w.heap.size, 2, none⟩ = some (.bool true) := (by rw [cell_of_row _ _ 2 _ _ _ P4.box]; rfl); have c3 : (y4).cell? ⟨w.heap.size, 3, none⟩ = some (.int .i64 la) := (by rw [cell_of_row _ _ 3 _ _ _ P4.box]; rfl); have c4 : (y4).cell? ⟨w.heap.size, 4, none⟩ = some (.int .i64 lo) := (by rw [cell_of_row _ _ 4 _ _ _ P4.box]; rfl); have c5 : (y4).cell? ⟨w.heap.size, 5, none⟩ = some (.int .i64 iso) := (by rw [cell_of_row _ _ 5 _ _ _ P4.box]; rfl))
      clear bx4 hq4 zq4 how4 hk4
      have ib5 := (Below.refl (y4).heap.size (y4)).alloc (Nat.le_refl _) (.cells #[.int .i64 iso] 3)
      refine (H3.out _ _ (ints_new (y4) [iso] 3 (by first | rfl | exact hs1.symm)) (hn.next (tr P4.bel ib5))).mono ?_
      rintro en x5 ⟨rfl, hb5⟩
      have Q5 := pushed_next (pushed_next P4 ib5) hb5
      clear hb5 ib5
      have hq6 := own_next Q5.own ((Below.refl (x5).heap.size (x5)).alloc (Nat.le_refl _) (.cells #[.string ⟨(S3).toArray⟩] 9))
      have zq6 : w.heap.size + 1 ≤ ((x5).alloc (.cells #[.string ⟨(S3).toArray⟩] 9)).heap.size := by have := block_lt Q5.box; simp at this ⊢; omega
      have bx6 : ((x5).alloc (.cells #[.string ⟨(S3).toArray⟩] 9)).heap[x5.heap.size]? = some (.cells #[.string ⟨(S3).toArray⟩] 9) := (by have h := han (x5) (.cells #[.string ⟨(S3).toArray⟩] 9); (try rw [hs1] at h); exact h)
      go_wp2_with (at_builtin; refine append_own22 (by rfl) (by rfl) Tryz.underlying23 infoStr rfl (by decide) (by decide) hq6 (by simp) zq6 rfl bx6 rfl rfl (by simp [Value.oneCell']) ?_; clear c1 c2 c3 c4 c5; intro v6 y6 how6 hk6; have P6 := pushed (x := S3) (Nat.le_refl _) Q5 how6 hk6; have c1 : (y6).cell? ⟨w.heap.size, 1, none⟩ = some (.bool true) := (by rw [cell_of_row _ _ 1 _ _ _ P6.box]; rfl); have c2 : (y6).cell? ⟨w.heap.size, 2, none⟩ = some (.bool true) := (by rw [cell_of_row _ _ 2 _ _ _ P6.box]; rfl); have c3 : (y6).cell? ⟨w.heap.size, 3, none⟩ = some (.int .i64 la) := (by rw [cell_of_row _ _ 3 _ _ _ P6.box]; rfl); have c4 : (y6).cell? ⟨w.heap.size, 4, none⟩ = some (.int .i64 lo) := (by rw [cell_of_row _ _ 4 _ _ _ P6.box]; rfl); have c5 : (y6).cell? ⟨w.heap.size, 5, none⟩ = some (.int .i64 iso) := (by rw [cell_of_row _ _ 5 _ _ _ P6.box]; rfl))
      clear bx6 hq6 zq6 how6 hk6
      refine (join_any _ _ P6.own (by simp) (by simp) (join_small _ (by simp) (by simp only [List.forall_mem_append, List.forall_mem_singleton]; repeat' (first | exact L1 | exact L2 | exact L3 | decide | constructor)))).mono ?_
      rintro en w9 ⟨rfl, hb9⟩
      have HB9 := Lib.hid (tr P6.bel hb9)
      clear hb9 P6
      go_wp2_with fail
      go_ret
      exact ⟨rfl, HB9.out⟩
theorem said_small (a b c d : UInt8) (l : List Int) (hl : l.length ≤ 2) : (Dw.saidS [a, b, c, d] l).length ≤ 100 := Nat.le_trans (said_len _ _) (by simp; omega)
theorem text_any (s : Dw.St) (hl : Dw.legal s = true) (w : World) (hn : ConAt w) :
    Calls Tryz.prog 13 #[stV s] w fun e w' => e = .returned (.string ⟨(Dw.textS s).toArray⟩) ∧ Below w.heap.size w w' := by
  have hr := Dw.legal_small hl
  obtain ⟨mo, ar, ho, la, lo, iso⟩ := s
  dsimp only at hr
  exact text_core mo la lo iso ar ho _ _ _ (said_small _ _ _ _ _ (by simp)) (said_small _ _ _ _ _ (by simp)) (Nat.le_trans (said_len _ _) (by simp)) w hn
    (Lib.hid fun v w h hn => csaid_any [109, 111, 100, 101] [mo] (by simp) (by simp) (fun n hn => hr n (by simp at hn ⊢; omega)) v w h hn)
    (Lib.hid fun v w h hn => csaid_any [104, 111, 109, 101] [la, lo] (by simp) (by simp) (fun n hn => hr n (by simp at hn ⊢; omega)) v w h hn)
    (Lib.hid fun v w h hn => csaid_any [105, 115, 111] [iso] (by simp) (by simp) (fun n hn => hr n (by simp at hn ⊢; omega)) v w h hn)
end Go.Proofs.YtjibbchfndhhpaaGreatDoor
