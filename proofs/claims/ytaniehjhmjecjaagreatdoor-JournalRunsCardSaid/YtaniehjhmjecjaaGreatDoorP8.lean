/- What the statement's proof stands on, part 8: RegionIn, Layout, Bank, Slot, State, States. -/
import Derived.Test.YtaniehjhmjecjaaGreatDoorP7
import Derived.Test.YtaniehjhmjecjaaGreatDoorP6
import Derived.OrdersIn
import Derived.TacticsIn
import Derived.Test.YtaniehjhmjecjaaGreatDoorP3
import Derived.Test.YtaniehjhmjecjaaGreatDoorP1

/- Regions that draw their order, in a fence that lets all (an iterator's body, a round's body). -/
namespace Go.Proofs.YtaniehjhmjecjaaGreatDoor
open Go.RowKit

/-- A fence that bars nothing. -/
structure Open (F : Fence) : Prop where
  fn : ∀ f, F.fn f
  depth : F.depth = none
  calls : ∀ {n : Nat} {P : Program} {f : FuncId} {args : Array Value} {w : World} {R : Ending → World → Prop}, Calls P f args w R → CallsIn F n P f args w R
theorem open_wide : Open Fence.wide := ⟨fun _ => trivial, rfl, fun h => callsIn_wide.2 h⟩
theorem open_round (l : Nat) : Open (Fence.wide.inRound l) := ⟨fun _ => trivial, rfl, fun h => CallsIn.inRound l (callsIn_wide.2 h)⟩

section
variable {F : Fence} {n : Nat} {P : Program} {ops : Array Oper} {Q : Exit → Act → World → Prop}

def noDefer (ops : Array Oper) : Bool := ops.toList.all fun o => match o.op with | .defer _ => false | _ => true
theorem noDefer_spec (h : noDefer ops = true) {i : Nat} {o : Oper} (ho : ops[i]? = some o) : ∀ c, o.op ≠ .defer c := by
  intro c e
  have hm : o ∈ ops.toList := by simpa using Array.mem_of_getElem? ho
  have := (List.all_eq_true.1 h) o hm
  simp [e] at this

theorem Yl.wpIn (hF : Open F) {o : Oper} (hd : ∀ c, o.op ≠ .defer c) {a : Act} {v : Value} {w' : World} (h : Yl P w' ((execOp a.eval o).run P w') v) {K : Act → World → Prop} (hK : ∀ w'', Keep w' w'' → K (a.put o.dst v) w'') : Oper.wpIn F n P o a w' K Q := by
  refine ⟨fun f _ => hF.fn f, ?_⟩
  rw [Oper.semAt_eq _ _ _ hd]
  rcases h with ⟨w'', hr, hk⟩ | ⟨f, args, w1, hr, hc⟩
  · rw [hr]; exact hK _ hk
  · rw [hr]
    refine ⟨(fun h => by rw [hF.depth] at h; cases h), ?_⟩
    refine (hF.calls hc).mono ?_
    rintro e w'' ⟨rfl, hk⟩
    exact hK _ hk
theorem YlSome.wpIn (hF : Open F) {o : Oper} (hd : ∀ c, o.op ≠ .defer c) {a : Act} {R : Value → World → Prop} {w' : World} (h : YlSome P w' ((execOp a.eval o).run P w') R) {K : Act → World → Prop} (hK : ∀ v w'', Keep w' w'' → R v w'' → K (a.put o.dst v) w'') : Oper.wpIn F n P o a w' K Q := by
  refine ⟨fun f _ => hF.fn f, ?_⟩
  rw [Oper.semAt_eq _ _ _ hd]
  rcases h with ⟨v, w'', hr, hk, hR⟩ | ⟨f, args, w1, hr, hc⟩
  · rw [hr]; exact hK _ _ hk hR
  · rw [hr]
    refine ⟨(fun h => by rw [hF.depth] at h; cases h), ?_⟩
    refine (hF.calls hc).mono ?_
    rintro e w'' ⟨v, rfl, hk, hR⟩
    exact hK _ _ hk hR

theorem tailIn_sound (hF : Open F) {R : Exit → Act → World → Prop} : ∀ {ts : List Nat} {listed : Array Bool} {a : Act} {w : World}, tailOk ops listed ts = true → (∃ l, ts.map (fun t => ops[t]?) = l.map some ∧ wpListIn F n P ops R l a w) → wpAnyIn F n P .any ops R ts.length listed a w
  | [], listed, a, w, h, hex => by
    obtain ⟨l, hl, hh⟩ := hex
    have : l = [] := by simpa using hl.symm
    subst this
    exact ⟨by simpa [tailOk] using h, hh⟩
  | t :: ts, listed, a, w, h, hex => by
    obtain ⟨l, hl, hh⟩ := hex
    simp only [tailOk, Bool.and_eq_true, beq_iff_eq] at h
    cases l with
    | nil => simp at hl
    | cons o l =>
      simp only [List.map_cons, List.cons.injEq] at hl
      refine ⟨fun e => (by rw [h.1] at e; cases e), fun i hi => ?_⟩
      rw [h.1] at hi
      obtain rfl : i = t := by simpa using hi
      have next : ∀ a w, wpListIn F n P ops R l a w → wpAnyIn F n P .any ops R ts.length (listed.setIfInBounds i true) a w := fun a w hw => tailIn_sound hF h.2 ⟨l, hl.2, hw⟩
      unfold wpOpIn
      simp only [hl.1]
      unfold wpListIn at hh
      split
      · rename_i hw
        rw [if_pos hw] at hh
        exact Oper.wpIn_mono next hh
      · rename_i hw
        rw [if_neg hw] at hh
        exact ⟨hh.1, next _ _ hh.2⟩

theorem pureIn_sound (hF : Open F) (hnd : noDefer ops = true) {R : Exit → Act → World → Prop} {T : Array Nat} {ks ls ts : List Nat} (ok : RegionOk ops T ks ls ts) {w : World} {G : World → Prop} (hG : ∀ A B, G A → Keep A B → G B) (fuel : Nat) :
    ∀ (m : Nat) (rest : List Nat) (listed : Array Bool) (a : Act) (w1 : World), rest.length = m → Keep w w1 → G w1 → Todo ops T (ks ++ ls) rest listed → pairsOk ops T rest = true →
      PureList P ops w (fun a' => ∀ w', Keep w w' → G w' → wpAnyIn F n P .any ops R fuel (allListed ops (ks ++ ls)) a' w') rest a → wpAnyIn F n P .any ops R (m + fuel) listed a w1 := by
  intro m
  induction m with
  | zero =>
    intro rest listed a w1 hm hk hf ht _ h
    have : rest = [] := List.eq_nil_of_length_eq_zero hm
    subst this
    rw [ht.done, Nat.zero_add]
    exact h w1 hk hf
  | succ m ih =>
    intro rest listed a w1 hm hk hf ht hp h
    have hne : rest ≠ [] := by intro e; subst e; simp at hm
    obtain ⟨hr, hall⟩ := ht.ready ok hne
    rw [show m + 1 + fuel = (m + fuel) + 1 from by omega]
    refine ⟨fun e => absurd e hr, fun i hi => ?_⟩
    have hir := hall i hi
    obtain ⟨l1, l2, rfl⟩ := List.append_of_mem hir
    have hnx := ht.next hi hir
    rw [erase_mid ht.nodup] at hnx
    have hp' : pairsOk ops T (l1 ++ l2) = true := by have := pairsOk_erase (i := i) hp; rwa [erase_mid ht.nodup] at this
    obtain ⟨h0, hlt, hdeps⟩ := mem_ready'.1 hi
    have hap : ∀ k ∈ l1, apartAt ops i k = true := fun k hk' => (pairsOk_spec hp k hk').resolve_right fun hb => by
      have := behind_listed ok.table ok.lt ht.closed i k hlt hdeps hb
      have hkl := (ok.inside k (ht.sub k (by simp [hk']))).1
      rw [getD_any (by rw [ht.size]; exact hkl) false true, ht.iff k hkl] at this
      simp [hk'] at this
    obtain ⟨o, v, ho, hg, hrest⟩ := PureList.first ok.sel hap h
    have hlen : (l1 ++ l2).length = m := by simp at hm ⊢; omega
    unfold wpOpIn
    simp only [ho]
    rcases hg with ⟨hw, hs⟩ | ⟨hw, rfl⟩
    · rw [if_pos hw]
      exact (hs w1 hk).wpIn hF (noDefer_spec hnd ho) fun w'' hk'' => ih _ _ _ _ hlen (hk.trans hk'') (hG _ _ hf hk'') hnx hp' hrest
    · rw [if_neg (by simp [hw])]
      exact ⟨fun f _ => hF.fn f, ih _ _ _ _ hlen hk hf hnx hp' hrest⟩

theorem letterIn_sound (hF : Open F) (hnd : noDefer ops = true) {R : Exit → Act → World → Prop} {T : Array Nat} {ks ts : List Nat} {l : Nat} (ok : RegionOk ops T ks [l] ts) {w : World} {G : Value → World → Prop} (hG : ∀ v A B, G v A → Keep A B → G v B) (fuel : Nat) {ol : Oper} (hol : ops[l]? = some ol) :
    ∀ (m : Nat) (rest : List Nat) (listed : Array Bool) (a : Act) (w1 : World), rest.length = m → Keep w w1 → Todo ops T (ks ++ [l]) (rest ++ [l]) listed → (∀ k ∈ rest, k ∈ ks) → pairsOk ops T rest = true →
      PureList P ops w (fun a' => Region.wanted ol (yielded ops a'.tmps) = true ∧ SureSome P w (execOp a'.eval ol) G ∧ ∀ v w', Keep w w' → G v w' → wpAnyIn F n P .any ops R fuel (allListed ops (ks ++ [l])) (a'.put ol.dst v) w') rest a →
      wpAnyIn F n P .any ops R (m + 1 + fuel) listed a w1 := by
  intro m
  induction m using Nat.strongRecOn with
  | _ m ih =>
    intro rest listed a w1 hm hk ht hsub hp h
    obtain ⟨hr, hall⟩ := ht.ready ok (by simp)
    rw [show m + 1 + fuel = (m + fuel) + 1 from by omega]
    refine ⟨fun e => absurd e hr, fun i hi => ?_⟩
    have hir := hall i hi
    have hnx := ht.next hi hir
    obtain ⟨h0, hlt, hdeps⟩ := mem_ready'.1 hi
    have hndp := ht.nodup
    have notBehind : ∀ k, k ∈ rest ++ [l] → behind T i k = false := fun k hk' => by
      cases hb : behind T i k
      · rfl
      · have := behind_listed ok.table ok.lt ht.closed i k hlt hdeps hb
        have hkl := (ok.inside k (ht.sub k hk')).1
        rw [getD_any (by rw [ht.size]; exact hkl) false true, ht.iff k hkl] at this
        have hc : (rest ++ [l]).contains k = true := by simpa using hk'
        rw [hc] at this; simp at this
    have hlr : l ∉ rest := fun hl => by
      have := (List.nodup_append.1 hndp).2.2 l hl l (by simp); exact this rfl
    by_cases hil : i = l
    · subst hil
      have hap : ∀ k ∈ rest, apartAt ops i k = true := fun k hk' => (ok.letter i (by simp) k (hsub k hk')).resolve_right fun hb => by rw [notBehind k (by simp [hk'])] at hb; cases hb
      rw [List.erase_append_right _ hlr] at hnx
      simp at hnx
      obtain ⟨a', ⟨hw, hs, _⟩, he, hw'⟩ := PureList.seen ok.sel hol hap h
      unfold wpOpIn
      simp only [hol]
      rw [if_pos (by rw [← hw']; exact hw)]
      rw [he] at hs
      refine (hs w1 hk).wpIn hF (noDefer_spec hnd hol) fun v w'' hk'' hG'' => ?_
      refine pureIn_sound hF hnd ok (G := G v) (hG v) fuel m rest _ _ _ hm (hk.trans hk'') hG'' hnx hp ?_
      refine PureList.mono ?_ (PureList.putIn ok.sel hol v hap h)
      rintro a'' ⟨a', ⟨_, _, hN⟩, rfl⟩ w' hkw' hGw'
      exact hN v w' hkw' hGw'
    · have hir' : i ∈ rest := by simpa [hil] using hir
      obtain ⟨l1, l2, rfl⟩ := List.append_of_mem hir'
      have hnd1 := (List.nodup_append.1 hndp).1
      rw [List.erase_append_left _ hir', erase_mid hnd1] at hnx
      have hp' : pairsOk ops T (l1 ++ l2) = true := by have := pairsOk_erase (i := i) hp; rwa [erase_mid hnd1] at this
      have hap : ∀ k ∈ l1, apartAt ops i k = true := fun k hk' => (pairsOk_spec hp k hk').resolve_right fun hb => by rw [notBehind k (by simp [hk'])] at hb; cases hb
      obtain ⟨o, v, ho, hg, hrest⟩ := PureList.first ok.sel hap h
      have hlen : (l1 ++ l2).length + 1 = m := by simp at hm ⊢; omega
      have hsub' : ∀ k ∈ l1 ++ l2, k ∈ ks := fun k hk' => hsub k (by simp at hk' ⊢; exact hk'.imp id .inr)
      rw [show m + fuel = (l1 ++ l2).length + 1 + fuel from by omega]
      unfold wpOpIn
      simp only [ho]
      rcases hg with ⟨hw, hs⟩ | ⟨hw, rfl⟩
      · rw [if_pos hw]
        exact (hs w1 hk).wpIn hF (noDefer_spec hnd ho) fun w'' hk'' => ih _ (by omega) _ _ _ _ rfl (hk.trans hk'') hnx hsub' hp' hrest
      · rw [if_neg (by simp [hw])]
        exact ⟨fun f _ => hF.fn f, ih _ (by omega) _ _ _ _ rfl hk hnx hsub' hp' hrest⟩

theorem wpIn_pure (hF : Open F) {R : Exit → Act → World → Prop} {id : Nat} {a : Act} {w : World} (ks : List Nat) (k : Nat) (hm : P.follows .mixedOrders = true) (hnd : noDefer ops = true) (hok : regionOk ops (Region.before ops) ks [] (List.range' k (ops.size - k)) = true) (hsz : ops.size = ks.length + (ops.size - k))
    (h : PureList P ops w (fun a' => ∀ w', Keep w w' → wpListIn F n P ops R (ops.toList.drop k) a' w') ks a) : (Code.region id ops true).wpIn F n P R a w := by
  have ok := regionOk_spec hok
  refine wpIn_region_any hm ?_
  have st := Todo.start ok
  rw [List.append_nil] at st
  have e := pureIn_sound (n := n) (R := R) hF hnd (w := w) (ks := ks) (ls := []) ok (G := fun _ => True) (fun _ _ _ _ => trivial) (List.range' k (ops.size - k)).length ks.length ks (Array.replicate ops.size false) a w.drew rfl ⟨rfl, rfl, rfl, Nat.le_refl _, fun _ _ _ => rfl⟩ trivial (by rw [List.append_nil]; exact st) ok.pairs
    (PureList.mono (fun a' hN w' hk _ => by rw [List.append_nil]; have := ok.tail; rw [List.append_nil] at this; exact tailIn_sound hF this ⟨_, range_drop k, hN w' hk⟩) h)
  rw [List.length_range', ← hsz] at e
  exact e
theorem wpIn_letter (hF : Open F) {R : Exit → Act → World → Prop} {id : Nat} {a : Act} {w : World} (ks : List Nat) (l k : Nat) (d : Option Tmp) (G : Value → World → Prop) {ol : Oper} (hol : ops[l]? = some ol) (hd : ol.dst = d) (hm : P.follows .mixedOrders = true) (hnd : noDefer ops = true) (hok : regionOk ops (Region.before ops) ks [l] (List.range' k (ops.size - k)) = true) (hsz : ops.size = ks.length + 1 + (ops.size - k))
    (hG : ∀ v A B, G v A → Keep A B → G v B)
    (h : PureList P ops w (fun a' => Region.wanted ol (yielded ops a'.tmps) = true ∧ SureSome P w (execOp a'.eval ol) G ∧ ∀ v w', Keep w w' → G v w' → wpListIn F n P ops R (ops.toList.drop k) (a'.put d v) w') ks a) : (Code.region id ops true).wpIn F n P R a w := by
  subst hd
  have ok := regionOk_spec hok
  refine wpIn_region_any hm ?_
  have st := Todo.start ok
  have e := letterIn_sound (n := n) (R := R) hF hnd (w := w) ok hG (List.range' k (ops.size - k)).length hol ks.length ks (Array.replicate ops.size false) a w.drew rfl ⟨rfl, rfl, rfl, Nat.le_refl _, fun _ _ _ => rfl⟩ st (fun _ h => h) ok.pairs
    (PureList.mono (fun a' ⟨hw, hs, hN⟩ => ⟨hw, hs, fun v w' hk hf => tailIn_sound hF ok.tail ⟨_, range_drop k, hN v w' hk hf⟩⟩) h)
  rw [List.length_range', ← hsz] at e
  exact e
theorem wp_letterD {R : Exit → Act → World → Prop} {id : Nat} {a : Act} {w : World} (ks : List Nat) (l k : Nat) (d : Option Tmp) (G : Value → World → Prop) {ol : Oper} (hol : ops[l]? = some ol) (hd : ol.dst = d) (hm : P.follows .mixedOrders = true) (hok : regionOk ops (Region.before ops) ks [l] (List.range' k (ops.size - k)) = true) (hsz : ops.size = ks.length + 1 + (ops.size - k))
    (hG : ∀ v A B, G v A → Keep A B → G v B)
    (h : PureList P ops w (fun a' => Region.wanted ol (yielded ops a'.tmps) = true ∧ SureSome P w (execOp a'.eval ol) G ∧ ∀ v w', Keep w w' → G v w' → wpList P ops R (ops.toList.drop k) (a'.put d v) w') ks a) : (Code.region id ops true).wp P R a w := by
  subst hd
  exact wp_letter ks l k G hol hm hok hsz hG h
end
end Go.Proofs.YtaniehjhmjecjaaGreatDoor

/- Layer 5: the walks of layout, and of its reference. -/
namespace Go.Proofs.YtaniehjhmjecjaaGreatDoor
open Go.RowKit Go.Shelf
attribute [local go_sem] Oper.semAt_some

namespace Dw
def size (n : Int) : Int := if 1 ≤ n ∧ n ≤ 12 then 24 * n + 24 else 0
def slots (m : Nat) : Nat := if m % 24 = 0 ∧ 48 ≤ m ∧ m ≤ 312 then m / 24 - 1 else 0
def at_ (n : Int) : Int := if 0 ≤ n ∧ n ≤ 12 then 24 * n else -1
def mark (n : Int) : Int := if 0 ≤ n ∧ n ≤ 12 then 24 * n + 22 else -1
theorem slots_pos {m : Nat} (h : 0 < slots m) : m = 24 * slots m + 24 ∧ slots m ≤ 12 := by
  unfold slots at *; split at h
  · rename_i h1; rw [if_pos h1]; omega
  · omega
theorem slots_le (m : Nat) : slots m ≤ 12 := by unfold slots; split <;> omega
theorem slots_of {k : Nat} (h1 : 1 ≤ k) (h2 : k ≤ 12) : slots (24 * k + 24) = k := by unfold slots; rw [if_pos (by omega)]; omega
theorem slots_size (m k : Nat) (hk : 1 ≤ k) (hk2 : k ≤ 12) : size k = m ↔ slots m = k := by
  unfold size slots; rw [if_pos (by omega)]
  constructor
  · intro h; rw [if_pos (by omega)]; omega
  · intro h; split at h <;> omega
end Dw

theorem between_any (n a b : Int) (w : World) :
    Calls Tryz.prog 114 #[.int .i64 n, .int .i64 a, .int .i64 b] w fun e w' => e = .returned (.bool (decide (a ≤ n ∧ n ≤ b))) ∧ Below w.heap.size w w' := by
  go_enter Tryz.func114, Tryz.ntmps114
  go_wp2
  all_goals
    go_ret
    refine ⟨ret_bool ?_, Below.refl _ _⟩
    symm
    simp
    try omega

theorem lsize_any (n : Int) (w : World) :
    Calls Tryz.prog 83 #[.int .i64 n] w fun e w' => e = .returned (.int .i64 (Dw.size n)) ∧ Below w.heap.size w w' := by
  by_cases h : 1 ≤ n ∧ n ≤ 12
  · have hs := Lib.hid (show Dw.size n = (n + 1) * 24 from by unfold Dw.size; rw [if_pos h]; omega)
    go_enter Tryz.func83, Tryz.ntmps83
    go_wp2_with fail
    refine (between_any _ _ _ _).mono ?_
    rintro e w1 ⟨rfl, hb1⟩
    rw [decide_eq_true h]
    go_wp2_with fail
    go_ret
    exact ⟨by rw [hs.out]; rfl, hb1⟩
  · have hs := Lib.hid (show Dw.size n = 0 from by unfold Dw.size; rw [if_neg h])
    go_enter Tryz.func83, Tryz.ntmps83
    go_wp2_with fail
    refine (between_any _ _ _ _).mono ?_
    rintro e w1 ⟨rfl, hb1⟩
    rw [decide_eq_false h]
    go_wp2_with fail
    go_ret
    exact ⟨by rw [hs.out]; rfl, hb1⟩

theorem at_any (n : Int) (w : World) :
    Calls Tryz.prog 88 #[.int .i64 n] w fun e w' => e = .returned (.int .i64 (Dw.at_ n)) ∧ Below w.heap.size w w' := by
  by_cases h : 0 ≤ n ∧ n ≤ 12
  · have hs := Lib.hid (show Dw.at_ n = n * 24 from by unfold Dw.at_; rw [if_pos h]; omega)
    go_enter Tryz.func88, Tryz.ntmps88
    go_wp2_with fail
    refine (between_any _ _ _ _).mono ?_
    rintro e w1 ⟨rfl, hb1⟩
    rw [decide_eq_true h]
    go_wp2_with fail
    go_ret
    exact ⟨by rw [hs.out]; rfl, hb1⟩
  · have hs := Lib.hid (show Dw.at_ n = -1 from by unfold Dw.at_; rw [if_neg h])
    go_enter Tryz.func88, Tryz.ntmps88
    go_wp2_with fail
    refine (between_any _ _ _ _).mono ?_
    rintro e w1 ⟨rfl, hb1⟩
    rw [decide_eq_false h]
    go_wp2_with fail
    go_ret
    exact ⟨by rw [hs.out]; rfl, hb1⟩

theorem slots_any (m : Nat) (hm : m ≤ 1000000) (w : World) :
    Calls Tryz.prog 54 #[.int .i64 m] w fun e w' => e = .returned (.int .i64 (Dw.slots m)) ∧ Below w.heap.size w w' := by
  by_cases h0 : m % 24 = 0
  · by_cases h1 : 48 ≤ m ∧ m ≤ 312
    · have hs := Lib.hid (show ((Dw.slots m : Nat) : Int) = (m : Int) / 24 - 1 from by unfold Dw.slots; rw [if_pos ⟨h0, h1⟩]; omega)
      have hz := Lib.hid (show Dw.size ((m : Int) / 24 - 1) = m from by unfold Dw.size; rw [if_pos (by omega)]; omega)
      have hne : ¬ ((m : Int) = 0) := by omega
      have h0' : (m : Int) % 24 = 0 := by omega
      go_enter Tryz.func54, Tryz.ntmps54
      go_wp2_with fail
      refine (lsize_any _ _).mono ?_
      rintro e w1 ⟨rfl, hb1⟩
      rw [hz.out]
      go_wp2_with fail
      go_ret
      exact ⟨by rw [hs.out]; rfl, hb1⟩
    · have hs := Lib.hid (show ((Dw.slots m : Nat) : Int) = 0 from by unfold Dw.slots; rw [if_neg (by omega)]; rfl)
      have hz := Lib.hid (show Dw.size ((m : Int) / 24 - 1) = 0 from by unfold Dw.size; rw [if_neg (by omega)])
      have h0' : (m : Int) % 24 = 0 := by omega
      go_enter Tryz.func54, Tryz.ntmps54
      go_wp2_with fail
      refine (lsize_any _ _).mono ?_
      rintro e w1 ⟨rfl, hb1⟩
      rw [hz.out]
      go_wp2_with fail
      go_ret
      exact ⟨by rw [hs.out]; rfl, hb1⟩
  · have hs := Lib.hid (show ((Dw.slots m : Nat) : Int) = 0 from by unfold Dw.slots; rw [if_neg (by omega)]; rfl)
    have h0' : ¬ ((m : Int) % 24 = 0) := by omega
    go_enter Tryz.func54, Tryz.ntmps54
    go_wp2_with fail
    go_ret
    exact ⟨by rw [hs.out]; rfl, Below.refl _ _⟩

theorem lmark_any (n : Int) (w : World) :
    Calls Tryz.prog 90 #[.int .i64 n] w fun e w' => e = .returned (.int .i64 (Dw.mark n)) ∧ Below w.heap.size w w' := by
  by_cases h : 0 ≤ n ∧ n ≤ 12
  · have hs := Lib.hid (show Dw.mark n = 24 * n + 24 - 2 from by unfold Dw.mark; rw [if_pos h]; omega)
    have ha := Lib.hid (show Dw.at_ n = 24 * n from by unfold Dw.at_; rw [if_pos h])
    have hp : ¬ (24 * n < 0) := by omega
    go_enter Tryz.func90, Tryz.ntmps90
    go_wp2_with fail
    refine (at_any _ _).mono ?_
    rintro e w1 ⟨rfl, hb1⟩
    rw [ha.out]
    go_wp2_with fail
    go_ret
    exact ⟨by rw [hs.out]; rfl, hb1⟩
  · have hs := Lib.hid (show Dw.mark n = -1 from by unfold Dw.mark; rw [if_neg h])
    have ha := Lib.hid (show Dw.at_ n = -1 from by unfold Dw.at_; rw [if_neg h])
    go_enter Tryz.func90, Tryz.ntmps90
    go_wp2_with fail
    refine (at_any _ _).mono ?_
    rintro e w1 ⟨rfl, hb1⟩
    rw [ha.out]
    go_wp2_with fail
    go_ret
    exact ⟨by rw [hs.out]; rfl, hb1⟩

theorem rsize_any (n : Int) (w : World) :
    Calls Tryz.prog 29 #[.int .i64 n] w fun e w' => e = .returned (.int .i64 (Dw.size n)) ∧ Below w.heap.size w w' := by
  by_cases h : 1 ≤ n ∧ n ≤ 12
  · have hs := Lib.hid (show Dw.size n = 24 * n + 24 from by unfold Dw.size; rw [if_pos h])
    have h1 : ¬ (n < 1) := by omega
    have h2 : ¬ (12 < n) := by omega
    go_enter Tryz.func29, Tryz.ntmps29
    go_wp2_with fail
    go_ret
    exact ⟨by rw [hs.out]; rfl, Below.refl _ _⟩
  · have hs := Lib.hid (show Dw.size n = 0 from by unfold Dw.size; rw [if_neg h])
    by_cases h1 : n < 1
    · go_enter Tryz.func29, Tryz.ntmps29
      go_wp2_with fail
      go_ret
      exact ⟨by rw [hs.out]; rfl, Below.refl _ _⟩
    · have h2 : 12 < n := by omega
      go_enter Tryz.func29, Tryz.ntmps29
      go_wp2_with fail
      go_ret
      exact ⟨by rw [hs.out]; rfl, Below.refl _ _⟩

set_option maxHeartbeats 400000 in
theorem rslots_any (m : Nat) (w : World) :
    Calls Tryz.prog 63 #[.int .i64 m] w fun e w' => e = .returned (.int .i64 (Dw.slots m)) ∧ Below w.heap.size w w' := by
  go_enter Tryz.func63, Tryz.ntmps63
  go_wp2_with fail
  go_loopw [3] (fun i wr => ∃ k : Nat, 1 ≤ k ∧ k ≤ 13 ∧ i = .int .i64 k ∧ (Dw.slots m = 0 ∨ k ≤ Dw.slots m) ∧ Below w.heap.size w wr) (fun i _ => 13 - (intOf i).toNat)
  case atStart => exact ⟨1, Nat.le_refl _, by omega, rfl, by omega, Below.refl _ _⟩
  case round =>
    obtain ⟨k, hk1, hk, rfl, hno, hB⟩ := hrel
    by_cases hlt : k < 13
    · by_cases heq : Dw.slots m = k
      · have hz := Lib.hid ((Dw.slots_size m k hk1 (by omega)).2 heq)
        have hle : (k : Int) ≤ 12 := by omega
        go_wp2_with fail
        refine (rsize_any _ _).mono ?_
        rintro e w1 ⟨rfl, hb1⟩
        rw [hz.out]
        go_wp2_with fail
        go_ret
        exact ⟨by rw [heq]; rfl, hB.trans (hb1.mono hB.size)⟩
      · have hz : ¬ (Dw.size k = m) := fun e => heq ((Dw.slots_size m k hk1 (by omega)).1 e)
        have hle : (k : Int) ≤ 12 := by omega
        go_wp2_with fail
        refine (rsize_any _ _).mono ?_
        rintro e w1 ⟨rfl, hb1⟩
        go_wp2_with fail
        go_roundw
        case rel => exact ⟨k + 1, by omega, by omega, by go_num, by omega, hB.trans (hb1.mono hB.size)⟩
        case measure => simp [intOf]; omega
    · obtain rfl : k = 13 := by omega
      have h0 : Dw.slots m = 0 := by have := Dw.slots_le m; omega
      go_wp2_with fail
      go_ret
      exact ⟨by rw [h0]; rfl, hB⟩
end Go.Proofs.YtaniehjhmjecjaaGreatDoor

/- Layer 8: bank.places and what is told of it. -/
namespace Go.Proofs.YtaniehjhmjecjaaGreatDoor
open Go.RowKit Go.Shelf
attribute [local go_sem] Oper.semAt_some

namespace Dw
def place (s : List UInt8) (i : Nat) : List UInt8 := (s.drop (24 * i)).take 24
def places (s : List UInt8) : List (Nat × List UInt8) := if slots s.length = 0 then [] else (List.range (slots s.length + 1)).map fun i => (i, place s i)
def slot (s : List UInt8) (i : Nat) : List UInt8 := if 0 < slots s.length ∧ i ≤ slots s.length then place s i else []
theorem places_length (s : List UInt8) (h : 0 < slots s.length) : (places s).length = slots s.length + 1 := by unfold places; rw [if_neg (by omega)]; simp
theorem places_split (s : List UInt8) (k : Nat) (h : 0 < slots s.length) (hk : k ≤ slots s.length) : places s = (places s).take k ++ (k, place s k) :: (places s).drop (k + 1) := by
  have hl := places_length s h
  have hk' : k < (places s).length := by omega
  have e : (places s)[k] = (k, place s k) := by unfold places; simp [show ¬ slots s.length = 0 from by omega]
  rw [← e]
  simp
theorem places_snoc (s : List UInt8) (k : Nat) (h : 0 < slots s.length) (hk : k ≤ slots s.length) : (places s).take (k + 1) = (places s).take k ++ [(k, place s k)] := by
  have hl := places_length s h
  have hk' : k < (places s).length := by omega
  have e : (places s)[k] = (k, place s k) := by unfold places; simp [show ¬ slots s.length = 0 from by omega]
  rw [← e, List.take_succ_eq_append_getElem hk']
end Dw
abbrev placeV (x : Nat × List UInt8) : Array Value := #[.int .i64 x.1, .string ⟨x.2.toArray⟩]

theorem yieldAt_any {n m : Nat} {P : Program} {l : Nat} {args : Array Value} {W : World} {R : Ending → World → Prop} (h : YieldAt Fence.wide n P l args W R) : YieldAt Fence.wide m P l args W R := by
  obtain ⟨fn, tmps, assign, body, hy, hR⟩ := h
  exact ⟨fn, tmps, assign, body, hy, hR.1, fun c cs _ => hR.2 c cs (room_wide _)⟩
theorem callsIn_any {n m : Nat} {P : Program} {f : FuncId} {args : Array Value} {w : World} {R : Ending → World → Prop} (h : CallsIn Fence.wide n P f args w R) : CallsIn Fence.wide m P f args w R :=
  callsIn_wide.2 (callsIn_wide.1 h)

set_option maxRecDepth 100000 in
set_option maxHeartbeats 2000000 in
theorem places_tellsG (Bs : Nat) (s : List UInt8) (hs : s.length ≤ 400) (X : Nat → Prop) (w : World) (hX : ¬ X Bs) (hc : w.cell? ⟨Bs, 0, none⟩ = some (.string ⟨s.toArray⟩)) :
    TellsG Tryz.prog 117 #[.pointer (some ⟨Bs, 0, none⟩)] placeV (Dw.places s) X (fun _ _ => False) w := fun n l J Jx W hW _ _ hJ _ hY h0 => by
  have hc0 := (hW.cell (p := ⟨Bs, 0, none⟩) (lt_of_cell hc) id).trans hc
  have hBlt := lt_of_cell hc0
  clear hc hW
  refine callsIn_any (n := n + 1) ?_
  refine callsIn_of_wp Tryz.func117 rfl trivial ?_ rfl
  simp only [Tryz.ntmps117, List.size_toArray, List.length_cons, List.length_nil, Nat.reduceAdd, Nat.reduceSub, Array.replicate_succ, Array.replicate_zero, List.push_toArray, List.append_toArray, List.nil_append, List.cons_append]
  gi_wp2
  refine ⟨trivial, ?_⟩
  refine (callsIn_wide.2 (slots_any s.length (by omega) _)).mono ?_
  rintro e w1 ⟨rfl, hb1⟩
  have hc1 := (hb1.cell (p := ⟨Bs, 0, none⟩) hBlt).trans hc0
  have h1 := hJ _ _ _ h0 (KeepBut.of_below' hb1)
  have hsz := hb1.size
  have hle := Dw.slots_le s.length
  clear hb1 hc0 h0
  by_cases hz : Dw.slots s.length = 0
  · have Hp := Lib.hid (show Dw.places s = [] from by unfold Dw.places; rw [if_pos hz])
    gi_wp2
    gi_loopw [4] (fun i wr => i = .int .i64 0 ∧ J [] wr) (fun _ _ => 0)
    case atStart => exact ⟨rfl, h1⟩
    case round =>
      obtain ⟨rfl, hJs⟩ := hrel
      gi_wp2
      go_end0
      exact ⟨⟨_, rfl⟩, .inl (by rw [Hp.out]; exact hJs)⟩
  · have hpos : 0 < Dw.slots s.length := by omega
    have hsp := Dw.slots_pos hpos
    have hpl := Dw.places_length s hpos
    have Hsplit := Lib.hid (Dw.places_split s)
    have Hsnoc := Lib.hid (Dw.places_snoc s)
    have Hplace := Lib.hid (show ∀ k, (⟨(s.drop (24 * k)).toArray⟩ : ByteArray).extract 0 24 = ⟨(Dw.place s k).toArray⟩ from fun k => by rw [bs_extract]; rfl)
    generalize hn : Dw.slots s.length = m at *
    clear hn
    have Hl := Lib.hid hpl
    obtain ⟨hsl, hm12⟩ := hsp
    have Hsl := Lib.hid hsl
    clear hpl hz hsl
    gi_wp2
    gi_loopw [4] (fun i wr => ∃ k : Nat, k ≤ m + 1 ∧ i = .int .i64 k ∧ J ((Dw.places s).take k) wr ∧ KeepBut X w1 wr) (fun i _ => m + 1 - (intOf i).toNat)
    case atStart => exact ⟨0, Nat.zero_le _, rfl, h1, KeepBut.refl _ _⟩
    case round =>
      obtain ⟨k, hk, rfl, hJs, hkx⟩ := hrel
      have hcx := (hkx.cell (p := ⟨Bs, 0, none⟩) (lt_of_cell hc1) hX).trans hc1
      by_cases hlt : k ≤ m
      · gi_wp2
        have hsl := Hsl.out
        have b1 : (0 : Int) ≤ 24 * (k : Int) := by omega
        have b2 : 24 * (k : Int) ≤ (s.length : Int) := by omega
        have b3 : (24 * (k : Int)).toNat = 24 * k := by omega
        have b4 : 24 ≤ s.length - 24 * k := by omega
        have b7 : (24 : Int) ≤ ((s.length - 24 * k : Nat) : Int) := by omega
        have b5 : (s.drop (24 * k)).length = s.length - 24 * k := by simp
        have b6 : Dw.at_ (k : Int) = 24 * (k : Int) := by unfold Dw.at_; rw [if_pos (by omega)]
        have e1 : (⟨s.toArray⟩ : ByteArray).extract (24 * k) s.length = ⟨(s.drop (24 * k)).toArray⟩ := by rw [bs_extract, List.take_length]
        have e2 := Hplace.out k
        clear hsl
        refine wpIn_pure open_wide (List.range 7) 7 (by kernel_rfl) (by kernel_rfl) (by kernel_rfl) rfl ?_
        rw [show List.range 7 = [0, 1, 2, 3, 4, 5, 6] from rfl]
        repeat' (first | (refine pl_nil ?_) | (refine pl_value (v := ?_) rfl rfl ?_ ?_; rotate_left 1; (focus (intro w' hk; have c1 := look hk hcx; go_simp; (first | done | with_reducible rfl | exact rfl))); (try simp only [Act.put, List.setIfInBounds_toArray, List.set_cons_zero, List.set_cons_succ])) | (refine pl_call (v := ?_) (f := ?_) (args := ?_) rfl rfl ?_ ?_ ?_; rotate_left 3; (focus (intro w' hk; have c1 := look hk hcx; go_simp; (first | done | (constructor <;> with_reducible rfl) | with_reducible rfl))); (focus (intro w' hk; exact at_any (k : Int) w')); (try simp only [Act.put, List.setIfInBounds_toArray, List.set_cons_zero, List.set_cons_succ])) | (refine pl_skip rfl rfl ?_; (try simp only [Act.put, List.setIfInBounds_toArray, List.set_cons_zero, List.set_cons_succ])))
        intro w2 hk2
        simp only [List.drop_succ_cons, List.drop_zero]
        have hJ2 := hJ _ _ _ hJs hk2
        have hkx2 := hkx.trans (hk2.mono (fun _ _ h => h.elim))
        have Hs1 := Lib.hid (Hsnoc.out k hpos hlt)
        have Hs2 := Lib.hid (Hsplit.out k hpos hlt)
        obtain ⟨fn, tmps, assign, body, hy, hR⟩ := hY _ (k, Dw.place s k) _ w2 Hs2.out hJ2
        clear hJs hkx hcx hk2 e1 e2 b1 b2 b3 b4 b5 b6 b7
        gi_wp2
        refine hR.mono ?_
        rintro e W3 (⟨rfl, hJ3, hk3⟩ | ⟨rfl, hJx3, _⟩)
        · gi_wp2
          go_roundw
          case rel => exact ⟨k + 1, by omega, by go_num, by rw [Hs1.out]; exact hJ3, hkx2.trans hk3⟩
          case measure => simp [intOf]; omega
        · gi_wp2
          refine bodyPost_ret (results_none rfl _ _ _) rfl ?_
          exact ⟨⟨_, rfl⟩, .inr ⟨_, ⟨_, by rw [List.append_assoc]; exact Hs2.out.symm⟩, hJx3⟩⟩
      · obtain rfl : k = m + 1 := by omega
        gi_wp2
        go_end0
        exact ⟨⟨_, rfl⟩, .inl (by rw [← Hl.out, List.take_length] at hJs; exact hJs)⟩
theorem places_tells (Bs : Nat) (s : List UInt8) (hs : s.length ≤ 400) (X Y : Nat → Prop) (w : World) (hX : ¬ X Bs) (hc : w.cell? ⟨Bs, 0, none⟩ = some (.string ⟨s.toArray⟩)) :
    Tells Tryz.prog 117 #[.pointer (some ⟨Bs, 0, none⟩)] placeV (Dw.places s) X Y w :=
  ((places_tellsG Bs s hs X w hX hc).mono (fun _ _ h => h.elim)).tells
end Go.Proofs.YtaniehjhmjecjaaGreatDoor

/- Layer 8: bank.nth, Slot. -/
namespace Go.Proofs.YtaniehjhmjecjaaGreatDoor
open Go.RowKit Go.Shelf
attribute [local go_sem] Oper.semAt_some

theorem places_any (s : ByteArray) (w : World) :
    Calls Tryz.prog 85 #[.string s] w fun e w' => e = .returned (.func (.func 117) #[] #[.pointer (some ⟨w.heap.size, 0, none⟩)]) ∧ w' = w.alloc (.cells #[.string s] 9) := by
  go_enter Tryz.func85, Tryz.ntmps85
  go_wp2
  go_ret
  exact ⟨rfl, rfl⟩

namespace Dw
theorem slot_none (s : List UInt8) (i : Nat) (h : ∀ x ∈ places s, x.1 ≠ i) : slot s i = [] := by
  unfold slot
  rw [if_neg]
  rintro ⟨h1, h2⟩
  refine h (i, place s i) ?_ rfl
  unfold places
  rw [if_neg (by omega), List.mem_map]
  exact ⟨i, List.mem_range.2 (by omega), rfl⟩
theorem slot_some (s : List UInt8) (i : Nat) (p : List UInt8) (h : (i, p) ∈ places s) : slot s i = p := by
  unfold places at h
  split at h
  · cases h
  · rw [List.mem_map] at h
    obtain ⟨j, hj, e⟩ := h
    rw [List.mem_range] at hj
    cases e
    unfold slot
    rw [if_pos (by omega)]
theorem mem_prefix {α : Type} {pre xs : List α} {x : α} (h : pre ++ [x] <+: xs) : x ∈ xs := h.subset (by simp)
end Dw

set_option maxRecDepth 100000 in
set_option maxHeartbeats 2000000 in
theorem nth_any (Bs : Nat) (s : List UInt8) (hs : s.length ≤ 400) (i : Nat) (w : World) (hc : w.cell? ⟨Bs, 0, none⟩ = some (.string ⟨s.toArray⟩)) :
    Calls Tryz.prog 122 #[.func (.func 117) #[] #[.pointer (some ⟨Bs, 0, none⟩)], .int .i64 i] w fun e w' => e = .returned (.string ⟨(Dw.slot s i).toArray⟩) ∧ Below w.heap.size w w' := by
  have hB := lt_of_cell hc
  refine (callsIn_wide (n := 9)).1 (callsIn_of_wp_marks Tryz.func122 rfl trivial (wpIn_wide.2 ?_) rfl)
  simp only [Tryz.ntmps122, List.size_toArray, List.length_cons, List.length_nil, Nat.reduceAdd, Nat.reduceSub, Array.replicate_succ, Array.replicate_zero, List.push_toArray, List.append_toArray, List.nil_append, List.cons_append]
  go_wp2_with fail
  obtain ⟨V, hV⟩ : ∃ V, (w.alloc (.cells #[.int .i64 i] 3)).alloc (.cells #[.string ⟨#[]⟩] 9) = V := ⟨_, rfl⟩
  have kV : Keep w V := by rw [← hV]; exact ((KeepBut.refl _ w).alloc _).alloc _
  have vz : V.heap.size = w.heap.size + 2 := by rw [← hV]; simp
  have hB0 : V.heap[w.heap.size]? = some (.cells #[.int .i64 i] 3 (0, 0)) := by rw [← hV]; exact heap_alloc2_old _ _ _
  have hB1 : V.heap[w.heap.size + 1]? = some (.cells #[.string ⟨#[]⟩] 9 (0, 0)) := by rw [← hV]; exact heap_alloc2_new _ _ _
  rw [hV]
  have T := places_tells Bs s hs (fun k => k = w.heap.size + 1) (fun _ => False) V (by have : Bs < w.heap.size := hB; omega) ((kV.cell hB id).trans hc)
  clear hV
  refine wpIn_wide.1 (wp_tells (n := 7) (gf := 117) (lb := #[.pointer (some ⟨Bs, 0, none⟩)]) rfl (enters_of Tryz.func117 (by kernel_rfl) rfl) T
    (by omega) (fun _ h => h.elim) (fun _ => rfl)
    (fun pre U => (∀ x ∈ pre, x.1 ≠ i) ∧ U.heap[w.heap.size]? = some (.cells #[.int .i64 i] 3 (0, 0)) ∧ U.heap[w.heap.size + 1]? = some (.cells #[.string ⟨#[]⟩] 9 (0, 0)) ∧ Below w.heap.size w U)
    (fun c pre U => c = Code.ret ∧ (∃ pre' x, pre = pre' ++ [x] ∧ x.1 = i ∧ U.heap[w.heap.size + 1]? = some (.cells #[.string ⟨x.2.toArray⟩] 9 (0, 0))) ∧ Below w.heap.size w U)
    ?hI ?hIx ⟨fun _ h => (List.not_mem_nil h).elim, hB0, hB1, kV.whole⟩
    (fun x => { tmps := #[.func (.func 117) #[] #[.pointer (some ⟨Bs, 0, none⟩)], .int .i64 i, undef, .pointer (some ⟨w.heap.size, 0, none⟩), .pointer (some ⟨w.heap.size + 1, 0, none⟩), .int .i64 x.1, .string ⟨x.2.toArray⟩, .func (.func 117) #[] #[.pointer (some ⟨Bs, 0, none⟩)], .int .i64 x.1, .string ⟨x.2.toArray⟩, undef, undef, undef, undef, undef], defers := [] })
    (fun pre x U => (∀ x ∈ pre, x.1 ≠ i) ∧ U.heap[w.heap.size]? = some (.cells #[.int .i64 i] 3 (0, 0)) ∧ U.heap[w.heap.size + 1]? = some (.cells #[.string ⟨#[]⟩] 9 (0, 0)) ∧ Below w.heap.size w U)
    ?hIA ?assign ?body ?done ?stop)
  case hI =>
    rintro pre A B ⟨h1, h2, h3, h4⟩ k
    have k' : KeepBut (fun k => w.heap.size + 2 ≤ k) A B := k.mono (fun _ _ h => h.elim (fun h => h.elim) (fun h => by omega))
    exact ⟨h1, (k'.block _ (block_lt h2) (by simp)).trans h2, (k'.block _ (block_lt h3) (by simp)).trans h3, h4.trans (k'.below (by have := h4.size; omega) (by omega))⟩
  case hIx =>
    rintro c pre A B ⟨h1, ⟨p', x, e1, e2, h3⟩, h4⟩ k
    have k' : KeepBut (fun k => w.heap.size + 2 ≤ k) A B := k.mono (fun _ _ h => h.elim (fun h => h.elim) (fun h => by omega))
    exact ⟨h1, ⟨p', x, e1, e2, (k'.block _ (block_lt h3) (by simp)).trans h3⟩, h4.trans (k'.below (by have := h4.size; omega) (by omega))⟩
  case hIA =>
    rintro pre x A B ⟨h1, h2, h3, h4⟩ k
    have k' : KeepBut (fun k => w.heap.size + 2 ≤ k) A B := k.mono (fun _ _ h => by omega)
    exact ⟨h1, (k'.block _ (block_lt h2) (by simp)).trans h2, (k'.block _ (block_lt h3) (by simp)).trans h3, h4.trans (k'.below (by have := h4.size; omega) (by omega))⟩
  case assign =>
    rintro l pre x suf U _ _ hI K hK
    gi_wp2
    exact hK _ (KeepBut.refl _ _) hI
  case body =>
    rintro l pre x suf U _ _ ⟨h1, h2, h3, h4⟩
    have c0 := cells1 h2
    have c1 := cells1 h3
    have f1 := frozen0 h3 0
    by_cases hx : x.1 = i
    · have hx' : (x.1 : Int) = (i : Int) := by omega
      have H2 := Lib.hid h2; have H3 := Lib.hid h3; have H1 := Lib.hid h1; have Hx := Lib.hid hx
      clear h1 h2 h3 hx
      gi_wp2
      refine ⟨(KeepBut.refl (fun k => k = w.heap.size + 1) _).setCell (p := ⟨w.heap.size + 1, 0, none⟩) rfl _, rfl, ⟨pre, x, rfl, Hx.out, ?_⟩, h4.setCell (p := ⟨w.heap.size + 1, 0, none⟩) (by simp) _⟩
      rw [heap_setCell_same U (w.heap.size + 1) 0 _ 9 (.string ⟨x.2.toArray⟩) H3.out]; rfl
    · have hx' : ¬ (x.1 : Int) = (i : Int) := by omega
      have H2 := Lib.hid h2; have H3 := Lib.hid h3; have H1 := Lib.hid h1
      clear h1 h2 h3
      gi_wp2
      refine ⟨KeepBut.refl _ _, fun y hy => ?_, H2.out, H3.out, h4⟩
      rcases List.mem_append.1 hy with hy | hy
      · exact H1.out y hy
      · rw [List.mem_singleton] at hy; subst hy; exact hx
  case done =>
    rintro D U hD ⟨h1, h2, h3, h4⟩ hK
    have c1 := cells1 h3
    have f1 := frozen0 h3 0
    have H3 := Lib.hid h3
    clear h2 h3
    go_wp2
    have hZ := heap_setCell_same U (w.heap.size + 1) 0 _ 9 (.string ⟨#[]⟩) H3.out
    have hbZ := h4.setCell (p := ⟨w.heap.size + 1, 0, none⟩) (by simp) (.string ⟨#[]⟩)
    have hKZ : (U.setCell ⟨w.heap.size + 1, 0, none⟩ (.string ⟨#[]⟩)).heap[D]? = some (.deferred (some [])) := by
      rw [heap_setCell_other _ _ _ _ (by simp; omega)]; exact hK
    generalize U.setCell _ _ = Z at *
    have d0 := cells1 ((World.putObj_heap_other (w := Z) (r := D) (k := w.heap.size + 1) (o := .deferred none) (by omega)).trans hZ)
    refine ⟨by simp, .inl ⟨_, _, rfl, run_takeDeferred hKZ, .string ⟨#[]⟩, by simp [results, Tryz.results122, go_sem, d0], ?_, ?_⟩⟩
    · rw [Dw.slot_none s i h1]
    · exact hbZ.trans ((KeepBut.putObj (X := fun k => k = D) (w := Z) (.deferred none) rfl).below (by have := hbZ.size; omega) (by omega))
  case stop =>
    rintro D c pre U hD hpre ⟨rfl, ⟨p', x, rfl, hx, h3⟩, h4⟩ hK
    obtain ⟨x1, x2⟩ := x
    have hs := Dw.slot_some s x1 x2 (Dw.mem_prefix hpre)
    have hx : x1 = i := hx
    subst hx
    have d0 := cells1 ((World.putObj_heap_other (w := U) (r := D) (k := w.heap.size + 1) (o := .deferred none) (by omega)).trans h3)
    have H3 := Lib.hid h3
    have Hs := Lib.hid hs
    clear h3 hs hpre
    gi_wp2
    refine ⟨by simp, .inl ⟨_, _, rfl, run_takeDeferred hK, .string ⟨x2.toArray⟩, by simp [results, Tryz.results122, go_sem, d0], ?_, ?_⟩⟩
    · rw [Hs.out]
    · exact h4.trans ((KeepBut.putObj (X := fun k => k = D) (w := U) (.deferred none) rfl).below (by have := h4.size; omega) (by omega))

theorem slot_any (s : List UInt8) (hs : s.length ≤ 400) (I : Int) (i : Nat) (hI : I = (i : Int)) (w : World) :
    Calls Tryz.prog 93 #[.string ⟨s.toArray⟩, .int .i64 I] w fun e w' => e = .returned (.string ⟨(Dw.slot s i).toArray⟩) ∧ Below w.heap.size w w' := by
  subst hI
  go_enter Tryz.func93, Tryz.ntmps93
  go_wp2_with fail
  refine (places_any _ _).mono ?_
  rintro e w1 ⟨rfl, rfl⟩
  go_wp2_with fail
  refine (nth_any w.heap.size s hs i _ (by simp [go_sem])).mono ?_
  rintro e w2 ⟨rfl, hb2⟩
  go_wp2_with fail
  go_ret
  exact ⟨rfl, ((Below.refl w.heap.size w).alloc (Nat.le_refl _) _).trans (hb2.mono (by simp))⟩
end Go.Proofs.YtaniehjhmjecjaaGreatDoor

/- Layer 8: bank.State, Record, Generation. -/
namespace Go.Proofs.YtaniehjhmjecjaaGreatDoor
open Go.RowKit Go.Shelf
attribute [local go_sem] Oper.semAt_some

namespace Dw
def stateOf (i : Nat) (p : List UInt8) : Nat := if decodeE p = 5 then 0 else if decodeE p = 0 ∧ ((decodeR p).kind = 1 ↔ i = 0) then 2 else 1
def state (s : List UInt8) (i : Nat) : Nat := stateOf i (slot s i)
def genE (s : List UInt8) : Int := if state s 0 = 2 then 0 else 10
def genN (s : List UInt8) : Nat := if state s 0 = 2 then (decodeR (slot s 0)).seq else 0
end Dw

theorem stateOf_cases (i : Nat) (p : List UInt8) : (Dw.decodeE p = 5 ∧ Dw.stateOf i p = 0) ∨ (Dw.decodeE p ≠ 5 ∧ Dw.decodeE p ≠ 0 ∧ Dw.stateOf i p = 1) ∨
    (Dw.decodeE p = 0 ∧ i = 0 ∧ (Dw.decodeR p).kind = 1 ∧ Dw.stateOf i p = 2) ∨ (Dw.decodeE p = 0 ∧ i = 0 ∧ (Dw.decodeR p).kind ≠ 1 ∧ Dw.stateOf i p = 1) ∨
    (Dw.decodeE p = 0 ∧ i ≠ 0 ∧ (Dw.decodeR p).kind = 1 ∧ Dw.stateOf i p = 1) ∨ (Dw.decodeE p = 0 ∧ i ≠ 0 ∧ (Dw.decodeR p).kind ≠ 1 ∧ Dw.stateOf i p = 2) := by
  unfold Dw.stateOf
  by_cases h5 : Dw.decodeE p = 5
  · exact .inl ⟨h5, by rw [if_pos h5]⟩
  · by_cases h0 : Dw.decodeE p = 0
    · by_cases hi : i = 0 <;> by_cases hk : (Dw.decodeR p).kind = 1 <;> simp [h0, hi, hk]
    · exact .inr (.inl ⟨h5, h0, by rw [if_neg h5, if_neg (fun h => h0 h.1)]⟩)

set_option maxHeartbeats 1000000 in
theorem stateOf_any (I : Int) (i : Nat) (hI : I = (i : Int)) (p : List UInt8) (w : World) :
    Calls Tryz.prog 86 #[.int .i64 I, .string ⟨p.toArray⟩] w fun e w' => e = .returned (.int .i64 ((Dw.stateOf i p : Nat) : Int)) ∧ Below w.heap.size w w' := by
  subst hI
  have hcs := stateOf_cases i p
  go_enter Tryz.func86, Tryz.ntmps86
  go_wp2_with fail
  refine (decode_any p _).mono ?_
  rintro e w1 ⟨rfl, hb1⟩
  generalize Dw.decodeE p = er at *
  generalize Dw.decodeR p = r at *
  obtain ⟨k, q, d⟩ := r
  have hB := hb1.alloc hb1.size (.cells #[.int .i64 k, .int .u64 q, .int .u64 d] 119)
  rcases hcs with ⟨rfl, hst⟩ | ⟨h5, h0, hst⟩ | ⟨rfl, rfl, hk, hst⟩ | ⟨rfl, rfl, hk, hst⟩ | ⟨rfl, hi, hk, hst⟩ | ⟨rfl, hi, hk, hst⟩ <;> (have Hst := Lib.hid hst; clear hst)
  · go_wp2_with fail
    go_ret
    exact ⟨by rw [Hst.out]; rfl, hB⟩
  · have b5 : (er == 5) = false := by simpa using h5
    have b0 : (er != 0) = true := by simpa using h0
    go_wp2_with fail
    go_ret
    exact ⟨by rw [Hst.out]; rfl, hB⟩
  · change k = 1 at hk
    subst hk
    go_wp2_with fail
    go_ret
    exact ⟨by rw [Hst.out]; rfl, hB⟩
  · change k ≠ 1 at hk
    have bk : ((k : Int) != 1) = true := by rw [bne_iff_ne]; omega
    go_wp2_with fail
    go_ret
    exact ⟨by rw [Hst.out]; rfl, hB⟩
  · change k = 1 at hk
    subst hk
    have bi : ((i : Int) == 0) = false := by rw [beq_eq_false_iff_ne]; omega
    have bi2 : ((i : Int) != 0) = true := by rw [bne_iff_ne]; omega
    go_wp2_with fail
    go_ret
    exact ⟨by rw [Hst.out]; rfl, hB⟩
  · change k ≠ 1 at hk
    have bi : ((i : Int) == 0) = false := by rw [beq_eq_false_iff_ne]; omega
    have bi2 : ((i : Int) != 0) = true := by rw [bne_iff_ne]; omega
    have bk : ((k : Int) == 1) = false := by rw [beq_eq_false_iff_ne]; omega
    go_wp2_with fail
    go_ret
    exact ⟨by rw [Hst.out]; rfl, hB⟩

theorem state_any (s : List UInt8) (hs : s.length ≤ 400) (I : Int) (i : Nat) (hI : I = (i : Int)) (w : World) :
    Calls Tryz.prog 59 #[.string ⟨s.toArray⟩, .int .i64 I] w fun e w' => e = .returned (.int .i64 ((Dw.state s i : Nat) : Int)) ∧ Below w.heap.size w w' := by
  subst hI
  go_enter Tryz.func59, Tryz.ntmps59
  go_wp2_with fail
  refine (slot_any s hs _ i rfl _).mono ?_
  rintro e w1 ⟨rfl, hb1⟩
  go_wp2_with fail
  refine (stateOf_any _ i rfl _ _).mono ?_
  rintro e w2 ⟨rfl, hb2⟩
  go_wp2_with fail
  go_ret
  exact ⟨rfl, hb1.trans (hb2.mono hb1.size)⟩

theorem brecord_any (s : List UInt8) (hs : s.length ≤ 400) (I : Int) (i : Nat) (hI : I = (i : Int)) (w : World) :
    Calls Tryz.prog 131 #[.string ⟨s.toArray⟩, .int .i64 I] w fun e w' => e = .returned (.tuple #[recV (Dw.decodeR (Dw.slot s i)), .int .i64 (Dw.decodeE (Dw.slot s i))]) ∧ Below w.heap.size w w' := by
  subst hI
  have hB0 := (Below.refl w.heap.size w).alloc (Nat.le_refl _) (.cells #[.int .i64 0, .int .u64 0, .int .u64 0] 119)
  have hC0 := heap_alloc_new w (.cells #[.int .i64 0, .int .u64 0, .int .u64 0] 119)
  go_enter Tryz.func131, Tryz.ntmps131
  go_wp2_with fail
  refine (slot_any s hs _ i rfl _).mono ?_
  rintro e w1 ⟨rfl, hb1⟩
  have hC1 := (hb1.block w.heap.size (by simp)).trans hC0
  have hB1 := hB0.trans (hb1.mono hB0.size)
  clear hB0 hC0 hb1
  go_wp2_with fail
  refine (decode_any _ _).mono ?_
  rintro e w2 ⟨rfl, hb2⟩
  have hC2 := (hb2.block w.heap.size (block_lt hC1)).trans hC1
  have hB2 := hB1.trans (hb2.mono hB1.size)
  clear hB1 hC1 hb2
  generalize hr : Dw.decodeR (Dw.slot s i) = r at *
  have Hr := Lib.hid hr; clear hr
  obtain ⟨k, q, d⟩ := r
  go_wp2_with (first | (refine wpList_load_block rfl 119 _ rfl rfl hC2 Tryz.underlying119 rfl (by kernel_rfl) ?_) | (refine wpList_store_block rfl 119 _ _ rfl rfl rfl hC2 (by kernel_rfl) rfl (by simp [Value.oneCell']) ?_))
  refine bodyPost_ret (results_cell_tmp rfl _ _ _ _ _ _ _ (by rfl) (setRow_heap _ _ _ _ _ _ hC2) Tryz.underlying119 rfl (by kernel_rfl)) rfl ⟨?_, below_setRow hB2 (Nat.le_refl _) _⟩
  rw [Hr.out]; rfl

set_option maxHeartbeats 1000000 in
theorem gen_any (s : List UInt8) (hs : s.length ≤ 400) (w : World) :
    Calls Tryz.prog 115 #[.string ⟨s.toArray⟩] w fun e w' => e = .returned (.tuple #[.int .u64 ((Dw.genN s : Nat) : Int), .int .i64 (Dw.genE s)]) ∧ Below w.heap.size w w' := by
  by_cases h2 : Dw.state s 0 = 2
  · have HN := Lib.hid (show Dw.genN s = (Dw.decodeR (Dw.slot s 0)).seq from by unfold Dw.genN; rw [if_pos h2])
    have HE := Lib.hid (show Dw.genE s = 0 from by unfold Dw.genE; rw [if_pos h2])
    have HD := Lib.hid (show Dw.decodeE (Dw.slot s 0) = 0 from by
      have := stateOf_cases 0 (Dw.slot s 0)
      change Dw.stateOf 0 (Dw.slot s 0) = 2 at h2
      omega)
    have H2 := Lib.hid h2; clear h2
    go_enter Tryz.func115, Tryz.ntmps115
    go_wp2_with fail
    refine (state_any s hs _ 0 rfl _).mono ?_
    rintro e w1 ⟨rfl, hb1⟩
    rw [H2.out]
    go_wp2_with fail
    refine (brecord_any s hs _ 0 rfl _).mono ?_
    rintro e w2 ⟨rfl, hb2⟩
    rw [HD.out]
    generalize hr : Dw.decodeR (Dw.slot s 0) = r at *
    have Hr := Lib.hid hr; clear hr
    obtain ⟨k, q, d⟩ := r
    go_wp2_with fail
    go_ret2
    refine ⟨?_, (hb1.trans (hb2.mono hb1.size)).alloc (Nat.le_trans hb1.size hb2.size) _⟩
    rw [HN.out, HE.out]; rfl
  · have HN := Lib.hid (show Dw.genN s = 0 from by unfold Dw.genN; rw [if_neg h2])
    have HE := Lib.hid (show Dw.genE s = 10 from by unfold Dw.genE; rw [if_neg h2])
    go_enter Tryz.func115, Tryz.ntmps115
    go_wp2_with fail
    refine (state_any s hs _ 0 rfl _).mono ?_
    rintro e w1 ⟨rfl, hb1⟩
    generalize Dw.state s 0 = st at *
    have b2 : ((st : Int) != 2) = true := by rw [bne_iff_ne]; omega
    go_wp2_with fail
    go_ret2
    exact ⟨by rw [HN.out, HE.out]; rfl, hb1⟩
end Go.Proofs.YtaniehjhmjecjaaGreatDoor

/- Layer 8: bank.States. -/
namespace Go.Proofs.YtaniehjhmjecjaaGreatDoor
open Go.RowKit Go.Shelf
attribute [local go_sem] Oper.semAt_some

namespace Dw
def states (s : List UInt8) : List Nat := (List.range (slots s.length)).map fun i => state s (i + 1)
def sts (l : List (Nat × List UInt8)) : List Nat := (l.filter fun x => decide (0 < x.1)).map fun x => stateOf x.1 x.2
theorem sts_snoc (l : List (Nat × List UInt8)) (x : Nat × List UInt8) : sts (l ++ [x]) = if 0 < x.1 then sts l ++ [stateOf x.1 x.2] else sts l := by
  unfold sts
  rw [List.filter_append, List.map_append]
  by_cases h : 0 < x.1 <;> simp [h]
theorem sts_places (s : List UInt8) : sts (places s) = states s := by
  unfold places states
  by_cases h : slots s.length = 0
  · rw [if_pos h, h]; rfl
  · rw [if_neg h, List.range_succ_eq_map]
    unfold sts
    simp only [List.map_cons, List.map_map, List.filter_cons]
    rw [if_neg (by simp), List.filter_eq_self.2 (by simp), List.map_map]
    apply List.map_congr_left
    intro i hi
    rw [List.mem_range] at hi
    simp only [Function.comp_apply]
    unfold state slot
    rw [if_pos (by omega)]
theorem sts_length (l : List (Nat × List UInt8)) : (sts l).length ≤ l.length := by unfold sts; rw [List.length_map]; exact List.length_filter_le _ _
theorem states_length (s : List UInt8) : (states s).length = slots s.length := by simp [states]
theorem places_len (s : List UInt8) : (places s).length ≤ 13 := by
  unfold places
  have := slots_le s.length
  split <;> simp; omega
end Dw
abbrev natCells (l : List Nat) : List Value := l.map fun n : Nat => Value.int .i64 (n : Int)
/-- A slice that holds numbers. -/
def NatsAt (B : Nat) (w : World) (v : Value) (l : List Nat) : Prop :=
  (v = .slice none 0 0 ∧ l = []) ∨ ∃ g cap, v = .slice (some ⟨g, 0, none⟩) l.length cap ∧ l.length ≤ cap ∧ B ≤ g ∧ g < w.heap.size ∧ ∀ j (h : j < l.length), w.cell? ⟨g, j, none⟩ = some (.int .i64 (l[j] : Nat))
theorem infoI : (Tryz.prog.info? 3).map (fun i => (i.zero, i.size, i.bytes)) = some (some (.int .i64 0), 1, 8) := by kernel_rfl
/-- A letter that is a slice of a new block. -/
def NewRow (w : World) (c : Array Value) (ty : TypeId) (v : Value) (w' : World) : Prop :=
  ∃ b, v = .slice (some ⟨b, 0, none⟩) c.size c.size ∧ w.heap.size ≤ b ∧ w'.heap[b]? = some (.cells c ty (0, 0))
theorem NewRow.keep {w : World} {c : Array Value} {ty : TypeId} {v : Value} {A B : World} (h : NewRow w c ty v A) (hk : Keep A B) : NewRow w c ty v B := by
  obtain ⟨b, e, hb, hc⟩ := h
  exact ⟨b, e, hb, (hk.block b (block_lt hc) id).trans hc⟩
theorem sure_row {P : Program} {w : World} {s : Sem Next} {c : Array Value} {ty : TypeId} (h : ∀ w', Keep w w' → s.run P w' = .ok (.value (.slice (some ⟨w'.heap.size, 0, none⟩) c.size c.size)) (w'.alloc (.cells c ty))) : SureSome P w s (NewRow w c ty) :=
  fun w' hk => .inl ⟨_, _, h w' hk, (KeepBut.refl _ _).alloc _, w'.heap.size, rfl, hk.size, World.alloc_heap_new _ _⟩

theorem news_of_block {w : World} {b : Nat} {c : Array Value} {t : TypeId} {fr : Nat × Nat} (h : w.heap[b]? = some (.cells c t fr)) : ∀ j u, c.toList[j]? = some u → w.cell? ((⟨b, 0, none⟩ : Addr).add j) = some u := by
  intro j u hu
  rw [addr_add, cell_of_row _ _ j _ _ _ h]
  simpa using hu
theorem slice_of_own {w : World} {base : Nat} {e : TypeId} {size n : Nat} {v : Value} {xs : List Value} (h : w.ownsRow base e size v n xs) : ∃ a m c, v = .slice a m c := by
  rcases h.2 with ⟨h1, _⟩ | ⟨g, cap, cur, h1, _⟩
  · exact ⟨_, _, _, h1⟩
  · exact ⟨_, _, _, h1⟩

set_option maxRecDepth 100000 in
set_option maxHeartbeats 2000000 in
theorem states_any (s : List UInt8) (hs : s.length ≤ 400) (w : World) :
    Calls Tryz.prog 56 #[.string ⟨s.toArray⟩] w fun e w' => (∃ v, e = .returned v ∧ NatsAt w.heap.size w' v (Dw.states s)) ∧ Below w.heap.size w w' := by
  obtain ⟨i0, hi, hz0, hz1, hz2⟩ := info_parts infoI
  refine (callsIn_wide (n := 9)).1 (callsIn_of_wp_marks Tryz.func56 rfl trivial (wpIn_wide.2 ?_) rfl)
  simp only [Tryz.ntmps56, List.size_toArray, List.length_cons, List.length_nil, Nat.reduceAdd, Nat.reduceSub, Array.replicate_succ, Array.replicate_zero, List.push_toArray, List.append_toArray, List.nil_append, List.cons_append]
  go_wp2_with fail
  refine (places_any _ _).mono ?_
  rintro e w1 ⟨rfl, rfl⟩
  go_wp2_with fail
  obtain ⟨V, hV⟩ : ∃ V, (w.alloc (.cells #[.slice none 0 0] 113)).alloc (.cells #[.string ⟨s.toArray⟩] 9) = V := ⟨_, rfl⟩
  have kV : Keep w V := by rw [← hV]; exact ((KeepBut.refl _ w).alloc _).alloc _
  have vz : V.heap.size = w.heap.size + 2 := by rw [← hV]; simp
  have hB0 : V.heap[w.heap.size]? = some (.cells #[.slice none 0 0] 113 (0, 0)) := by rw [← hV]; exact heap_alloc2_old _ _ _
  have hB1 : V.heap[w.heap.size + 1]? = some (.cells #[.string ⟨s.toArray⟩] 9 (0, 0)) := by rw [← hV]; exact heap_alloc2_new _ _ _
  rw [hV]
  have T := places_tellsG (w.heap.size + 1) s hs (fun k => k = w.heap.size ∨ w.heap.size + 4 ≤ k) V (by omega) (cells1 hB1)
  clear hV hB1
  refine wpIn_wide.1 (wp_tellsG (n := 7) (gf := 117) (lb := #[.pointer (some ⟨w.heap.size + 1, 0, none⟩)]) rfl (enters_of Tryz.func117 (by kernel_rfl) rfl) T
    (fun _ => False) (fun _ _ _ h => h) (fun _ h => h.elim) (by omega) (fun _ => rfl)
    (fun pre U => ∃ v, U.heap[w.heap.size]? = some (.cells #[v] 113 (0, 0)) ∧ U.ownsRow (w.heap.size + 4) 3 1 v (Dw.sts pre).length (natCells (Dw.sts pre)) ∧ Below w.heap.size w U)
    (fun _ _ _ => False)
    ?hI (fun _ _ _ _ h _ => h) ⟨_, hB0, World.ownsRow_nil _ _ _ _, kV.whole⟩
    (fun x => { tmps := #[.string ⟨s.toArray⟩, undef, .pointer (some ⟨w.heap.size, 0, none⟩), .int .i64 x.1, .string ⟨x.2.toArray⟩, .string ⟨s.toArray⟩, .func (.func 117) #[] #[.pointer (some ⟨w.heap.size + 1, 0, none⟩)], .int .i64 x.1, .string ⟨x.2.toArray⟩, undef, undef, undef, undef, undef, undef, undef, undef, undef], defers := [] })
    (fun pre x U => ∃ v, U.heap[w.heap.size]? = some (.cells #[v] 113 (0, 0)) ∧ U.ownsRow (w.heap.size + 4) 3 1 v (Dw.sts pre).length (natCells (Dw.sts pre)) ∧ Below w.heap.size w U)
    ?hIA ?assign ?body ?done ?stop)
  case hI =>
    rintro pre A B ⟨v, h1, h2, h3⟩ k
    have k' : KeepBut (fun k => k = V.heap.size ∨ k = V.heap.size + 1) A B := k.mono (fun _ _ h => h.elim (fun h => h.elim) id)
    refine ⟨v, (k'.block _ (block_lt h1) (by omega)).trans h1, ?_, h3.trans (k'.below (by have := h3.size; omega) (by omega))⟩
    exact ownsRow_keep h2 k' (fun g hg => by omega)
  case hIA =>
    rintro pre x A B ⟨v, h1, h2, h3⟩ k
    refine ⟨v, (k.block _ (block_lt h1) (by omega)).trans h1, ?_, h3.trans (k.below (by have := h3.size; omega) (by omega))⟩
    exact ownsRow_keep h2 k (fun g hg => by omega)
  case assign =>
    rintro l pre x suf U _ _ hI K hK
    gi_wp2
    exact hK _ (KeepBut.refl _ _) hI
  case body =>
    rintro l pre x suf U hsuf hU ⟨v, h1, h2, h3⟩
    obtain ⟨x1, x2⟩ := x
    obtain ⟨sa, sn, sc, rfl⟩ := slice_of_own h2
    have c1 := cells1 h1
    have f1 := frozen0 h1 0
    have Hsn := Lib.hid (Dw.sts_snoc pre (x1, x2))
    have hlen : (Dw.sts pre).length ≤ 12 := by
      have e1 := Dw.sts_length pre
      have e2 := Dw.places_len s
      rw [hsuf] at e2
      simp at e2
      omega
    have hlt1 := block_lt h1
    have HU := h3.size
    have H1 := Lib.hid h1; have H2 := Lib.hid h2; have H3 := Lib.hid h3
    clear h1 h2 h3 hsuf
    by_cases hx : 0 < x1
    · have hx' : (0 : Int) < (x1 : Int) := by omega
      gi_wp2
      refine wpIn_letter (open_round l) [0, 1, 2, 3] 4 5 (some 15) (NewRow U #[.int .i64 ((Dw.stateOf x1 x2 : Nat) : Int)] 3) rfl rfl (by kernel_rfl) (by kernel_rfl) (by kernel_rfl) rfl (fun v A B h hk => h.keep hk) ?_
      repeat' (first | (refine pl_nil ?_) | (refine pl_value (v := ?_) rfl rfl ?_ ?_; rotate_left 1; (focus (intro w' hk; have k1 := look hk c1; go_simp; (first | done | with_reducible rfl | exact rfl))); (try simp only [Act.put, List.setIfInBounds_toArray, List.set_cons_zero, List.set_cons_succ])) | (refine pl_call (v := ?_) (f := ?_) (args := ?_) rfl rfl ?_ ?_ ?_; rotate_left 3; (focus (intro w' hk; have k1 := look hk c1; go_simp; (first | done | (constructor <;> with_reducible rfl) | with_reducible rfl))); (focus (intro w' hk; exact stateOf_any _ x1 rfl x2 w')); (try simp only [Act.put, List.setIfInBounds_toArray, List.set_cons_zero, List.set_cons_succ])) | (refine pl_skip rfl rfl ?_; (try simp only [Act.put, List.setIfInBounds_toArray, List.set_cons_zero, List.set_cons_succ])))
      refine ⟨rfl, sure_row (fun w' _ => by go_simp), ?_⟩
      rintro v2 W2 hk2 ⟨b, rfl, hb, hbc⟩
      simp only [List.drop_succ_cons, List.drop_zero, List.setIfInBounds_toArray, List.set_cons_zero, List.set_cons_succ, List.size_toArray, List.length_cons, List.length_nil, Nat.zero_add]
      have hbs : U.heap.size ≤ b := hb
      have h1' := (hk2.block _ hlt1 id).trans H1.out
      have h2' := ownsRow_keep H2.out hk2 (fun _ _ h => h.elim)
      have hW2 := hk2.size
      have c1' := cells1 h1'
      have f1' := frozen0 h1' 0
      have H1' := Lib.hid h1'
      have hL : (Dw.sts pre).length + 1 ≤ maxLen := by unfold maxLen; omega
      have hL2 : ((Dw.sts pre).length + 1) * 8 ≤ 140737488355328 := by omega
      clear h1'
      refine wpListIn_append_own _ (by rfl) _ _ 113 (by rfl) (w.heap.size + 4) 3 i0 (.int .i64 0) 1 8 Tryz.underlying113 hi hz0 hz1 hz2 rfl (by decide) _ _ _ (by rfl) h2' ⟨b, 0, none⟩ 1 1 [.int .i64 ((Dw.stateOf x1 x2 : Nat) : Int)] (by rfl) rfl (news_of_block hbc) (by simp [Value.oneCell']) hL hL2 (by omega) ?_
      intro v3 W3 hown3 hgrow3 _
      have h13 := (hgrow3.block w.heap.size (by omega) (fun e => by have := h2'.lt _ e.symm; omega)).trans H1'.out
      have c13 := cells1 h13
      have f13 := frozen0 h13 0
      have H13 := Lib.hid h13
      clear h13 c1' f1' c1 f1
      obtain ⟨ta, tn, tc, rfl⟩ := slice_of_own hown3
      gi_wp2
      have hk3 : KeepBut (fun k => k = w.heap.size ∨ w.heap.size + 4 ≤ k) U W3 := (hk2.mono (fun _ _ h => h.elim)).grown hgrow3 (fun k e => .inr (by have := h2'.lt k e; omega))
      refine ⟨hk3.setCell (p := ⟨w.heap.size, 0, none⟩) (.inl rfl) _, .slice ta tn tc, ?_, ?_, ?_⟩
      · rw [heap_setCell_same W3 w.heap.size 0 _ 113 (.slice ta tn tc) H13.out]; rfl
      · rw [Hsn.out, if_pos hx, List.length_append, List.length_singleton]
        have e := ownsRow_keep hown3 ((KeepBut.refl (fun k => k = w.heap.size) W3).setCell (p := ⟨w.heap.size, 0, none⟩) rfl (.slice ta tn tc)) (fun g hg => by omega)
        simpa [natCells] using e
      · exact (H3.out.trans (hk3.below (by omega) (by omega))).setCell (p := ⟨w.heap.size, 0, none⟩) (Nat.le_refl _) _
    · obtain rfl : x1 = 0 := by omega
      gi_wp2
      refine ⟨KeepBut.refl _ _, _, H1.out, ?_, H3.out⟩
      rw [Hsn.out, if_neg (by simp)]
      exact H2.out
  case done =>
    rintro D U hD ⟨v, h1, h2, h3⟩ hK
    obtain ⟨sa, sn, sc, rfl⟩ := slice_of_own h2
    have c1 := cells1 h1
    have f1 := frozen0 h1 0
    have H1 := Lib.hid h1; have H2 := Lib.hid h2
    clear h1 h2
    go_wp2
    have hZ := heap_setCell_same U w.heap.size 0 _ 113 (.slice sa sn sc) H1.out
    have hbZ := h3.setCell (p := ⟨w.heap.size, 0, none⟩) (Nat.le_refl _) (.slice sa sn sc)
    have hoZ := ownsRow_keep H2.out ((KeepBut.refl (fun k => k = w.heap.size) U).setCell (p := ⟨w.heap.size, 0, none⟩) rfl (.slice sa sn sc)) (fun g hg => by omega)
    have hKZ : (U.setCell ⟨w.heap.size, 0, none⟩ (.slice sa sn sc)).heap[D]? = some (.deferred (some [])) := by
      rw [heap_setCell_other _ _ _ _ (by simp; omega)]; exact hK
    generalize U.setCell _ _ = Z at *
    have d0 := cells1 ((World.putObj_heap_other (w := Z) (r := D) (k := w.heap.size) (o := .deferred none) (by omega)).trans hZ)
    refine ⟨by simp, .inl ⟨_, _, rfl, run_takeDeferred hKZ, .slice sa sn sc, by simp [results, Tryz.results56, go_sem, d0], ⟨_, rfl, ?_⟩, ?_⟩⟩
    · rw [← Dw.sts_places]
      rcases hoZ.2 with ⟨e1, e2⟩ | ⟨g, cap, cur, e1, e2, e3, e4, e5, e6, e7⟩
      · exact .inl ⟨e1, List.eq_nil_of_length_eq_zero e2⟩
      · have hgD : g ≠ D := fun e => by subst e; rw [e3] at hKZ; cases hKZ
        have e3' := (World.putObj_heap_other (w := Z) (r := D) (k := g) (o := .deferred none) hgD).trans e3
        refine .inr ⟨g, cap, e1, e4, by omega, block_lt e3', fun j hj => ?_⟩
        rw [cell_of_row _ _ j _ _ _ e3']
        have := congrArg (fun l : List Value => l[j]?) e7
        simp only [Nat.mul_one] at this
        rw [List.getElem?_take_of_lt hj] at this
        rw [Array.getElem?_toList] at this
        rw [this]
        simp [natCells, hj]
    · exact hbZ.trans ((KeepBut.putObj (X := fun k => k = D) (w := Z) (.deferred none) rfl).below (by have := hbZ.size; omega) (by omega))
  case stop => exact fun _ _ _ _ _ _ h _ => h.elim
end Go.Proofs.YtaniehjhmjecjaaGreatDoor
