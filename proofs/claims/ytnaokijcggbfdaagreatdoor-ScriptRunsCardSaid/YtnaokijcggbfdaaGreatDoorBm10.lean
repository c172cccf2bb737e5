/- What the statement's proof stands on, part 10: Layout, LettersM, LettersF. -/
import Derived.Test.YtnaokijcggbfdaaGreatDoorBm4
import Derived.Test.YtnaokijcggbfdaaGreatDoorBm2
set_option linter.unusedSimpArgs false
set_option linter.unusedVariables false
set_option maxRecDepth 100000
set_option maxHeartbeats 4000000
namespace Go.Proofs.YtnaokijcggbfdaaGreatDoor
open Go.RowKit Go.Shelf
attribute [local go_sem] Oper.semAt_some
namespace Dw
def size (n:Int):Int:=if 1≤n∧n≤12 then 24*n+24 else 0
def slots (m:Nat):Nat:=if m%24=0∧48≤m∧m≤312 then m/24-1 else 0
def at_ (n:Int):Int:=if 0≤n∧n≤12 then 24*n else-1
def mark (n:Int):Int:=if 0≤n∧n≤12 then 24*n+22 else-1
theorem slots_pos {m:Nat} (h:0<slots m):m=24*slots m+24∧slots m≤12:=by
 unfold slots at*;split at h
 ·rename_i h1;rw [if_pos h1];omega
 ·omega
theorem slots_le (m:Nat):slots m≤12:=by unfold slots;split<;>omega
theorem slots_of {k:Nat} (h1:1≤k) (h2:k≤12):slots (24*k+24)=k:=by unfold slots;rw [if_pos (by omega)];omega
theorem slots_size (m k:Nat) (hk:1≤k) (hk2:k≤12):size k=m↔slots m=k:=by
 unfold size slots;rw [if_pos (by omega)]
 constructor
 ·intro h;rw [if_pos (by omega)];omega
 ·intro h;split at h<;>omega
end Dw
theorem between_any (n a b:Int) (w:World):
  Calls Tryz.prog 89 #[.int .i64 n, .int .i64 a, .int .i64 b] w fun e w'=>e= .returned (.bool (decide (a≤n∧n≤b)))∧Below w.heap.size w w':=by
 go_enter Tryz.func89,Tryz.ntmps89
 go_wp2
 all_goals
  go_ret
  refine ⟨ret_bool ?_,Below.refl _ _⟩
  symm
  simp
  try omega
theorem lsize_any (n:Int) (w:World):
  Calls Tryz.prog 57 #[.int .i64 n] w fun e w'=>e= .returned (.int .i64 (Dw.size n))∧Below w.heap.size w w':=by
 by_cases h:1≤n∧n≤12
 ·have hs:=Lib.hid (show Dw.size n=(n+1)*24 from by unfold Dw.size;rw [if_pos h];omega)
  go_enter Tryz.func57,Tryz.ntmps57
  go_wp2_with fail
  refine cb (between_any _ _ _ _) fun w1 hb1=>?_
  rw [decide_eq_true h]
  go_wp2_with fail
  go_ret
  exact ⟨by rw [hs.out];rfl,hb1⟩
 ·have hs:=Lib.hid (show Dw.size n=0 from by unfold Dw.size;rw [if_neg h])
  go_enter Tryz.func57,Tryz.ntmps57
  go_wp2_with fail
  refine cb (between_any _ _ _ _) fun w1 hb1=>?_
  rw [decide_eq_false h]
  go_wp2_with fail
  go_ret
  exact ⟨by rw [hs.out];rfl,hb1⟩
theorem at_any (n:Int) (w:World):
  Calls Tryz.prog 194 #[.int .i64 n] w fun e w'=>e= .returned (.int .i64 (Dw.at_ n))∧Below w.heap.size w w':=by
 by_cases h:0≤n∧n≤12
 ·have hs:=Lib.hid (show Dw.at_ n=n*24 from by unfold Dw.at_;rw [if_pos h];omega)
  go_enter Tryz.func194,Tryz.ntmps194
  go_wp2_with fail
  refine cb (between_any _ _ _ _) fun w1 hb1=>?_
  rw [decide_eq_true h]
  go_wp2_with fail
  go_ret
  exact ⟨by rw [hs.out];rfl,hb1⟩
 ·have hs:=Lib.hid (show Dw.at_ n= -1 from by unfold Dw.at_;rw [if_neg h])
  go_enter Tryz.func194,Tryz.ntmps194
  go_wp2_with fail
  refine cb (between_any _ _ _ _) fun w1 hb1=>?_
  rw [decide_eq_false h]
  go_wp2_with fail
  go_ret
  exact ⟨by rw [hs.out];rfl,hb1⟩
theorem slots_any (m:Nat) (hm:m≤1000000) (w:World):
  Calls Tryz.prog 169 #[.int .i64 m] w fun e w'=>e= .returned (.int .i64 (Dw.slots m))∧Below w.heap.size w w':=by
 by_cases h0:m%24=0
 ·by_cases h1:48≤m∧m≤312
  ·have hs:=Lib.hid (show ((Dw.slots m:Nat):Int)=(m:Int)/24-1 from by unfold Dw.slots;rw [if_pos ⟨h0,h1⟩];omega)
   have hz:=Lib.hid (show Dw.size ((m:Int)/24-1)=m from by unfold Dw.size;rw [if_pos (by omega)];omega)
   have hne:¬((m:Int)=0):=by omega
   have h0':(m:Int)%24=0:=by omega
   go_enter Tryz.func169,Tryz.ntmps169
   go_wp2_with fail
   refine cb (lsize_any _ _) fun w1 hb1=>?_
   rw [hz.out]
   go_wp2_with fail
   go_ret
   exact ⟨by rw [hs.out];rfl,hb1⟩
  ·have hs:=Lib.hid (show ((Dw.slots m:Nat):Int)=0 from by unfold Dw.slots;rw [if_neg (by omega)];rfl)
   have hz:=Lib.hid (show Dw.size ((m:Int)/24-1)=0 from by unfold Dw.size;rw [if_neg (by omega)])
   have h0':(m:Int)%24=0:=by omega
   go_enter Tryz.func169,Tryz.ntmps169
   go_wp2_with fail
   refine cb (lsize_any _ _) fun w1 hb1=>?_
   rw [hz.out]
   go_wp2_with fail
   go_ret
   exact ⟨by rw [hs.out];rfl,hb1⟩
 ·have hs:=Lib.hid (show ((Dw.slots m:Nat):Int)=0 from by unfold Dw.slots;rw [if_neg (by omega)];rfl)
  have h0':¬((m:Int)%24=0):=by omega
  go_enter Tryz.func169,Tryz.ntmps169
  go_wp2_with fail
  go_ret
  exact ⟨by rw [hs.out];rfl,Below.refl _ _⟩
theorem lmark_any (n:Int) (w:World):
  Calls Tryz.prog 196 #[.int .i64 n] w fun e w'=>e= .returned (.int .i64 (Dw.mark n))∧Below w.heap.size w w':=by
 by_cases h:0≤n∧n≤12
 ·have hs:=Lib.hid (show Dw.mark n=24*n+24-2 from by unfold Dw.mark;rw [if_pos h];omega)
  have ha:=Lib.hid (show Dw.at_ n=24*n from by unfold Dw.at_;rw [if_pos h])
  have hp:¬(24*n<0):=by omega
  go_enter Tryz.func196,Tryz.ntmps196
  go_wp2_with fail
  refine cb (at_any _ _) fun w1 hb1=>?_
  rw [ha.out]
  go_wp2_with fail
  go_ret
  exact ⟨by rw [hs.out];rfl,hb1⟩
 ·have hs:=Lib.hid (show Dw.mark n= -1 from by unfold Dw.mark;rw [if_neg h])
  have ha:=Lib.hid (show Dw.at_ n= -1 from by unfold Dw.at_;rw [if_neg h])
  go_enter Tryz.func196,Tryz.ntmps196
  go_wp2_with fail
  refine cb (at_any _ _) fun w1 hb1=>?_
  rw [ha.out]
  go_wp2_with fail
  go_ret
  exact ⟨by rw [hs.out];rfl,hb1⟩
theorem rsize_any (n:Int) (w:World):
  Calls Tryz.prog 60 #[.int .i64 n] w fun e w'=>e= .returned (.int .i64 (Dw.size n))∧Below w.heap.size w w':=by
 by_cases h:1≤n∧n≤12
 ·have hs:=Lib.hid (show Dw.size n=24*n+24 from by unfold Dw.size;rw [if_pos h])
  have h1:¬(n<1):=by omega
  have h2:¬(12<n):=by omega
  go_enter Tryz.func60,Tryz.ntmps60
  go_wp2_with fail
  go_ret
  exact ⟨by rw [hs.out];rfl,Below.refl _ _⟩
 ·have hs:=Lib.hid (show Dw.size n=0 from by unfold Dw.size;rw [if_neg h])
  by_cases h1:n<1
  ·go_enter Tryz.func60,Tryz.ntmps60
   go_wp2_with fail
   go_ret
   exact ⟨by rw [hs.out];rfl,Below.refl _ _⟩
  ·have h2:12<n:=by omega
   go_enter Tryz.func60,Tryz.ntmps60
   go_wp2_with fail
   go_ret
   exact ⟨by rw [hs.out];rfl,Below.refl _ _⟩
theorem rslots_any (m:Nat) (w:World):
  Calls Tryz.prog 162 #[.int .i64 m] w fun e w'=>e= .returned (.int .i64 (Dw.slots m))∧Below w.heap.size w w':=by
 go_enter Tryz.func162,Tryz.ntmps162
 go_wp2_with fail
 go_loopw [3] (fun i wr=>∃k:Nat,1≤k∧k≤13∧i= .int .i64 k∧(Dw.slots m=0∨k≤Dw.slots m)∧Below w.heap.size w wr) (fun i _=>13-(intOf i).toNat)
 case atStart=>exact ⟨1,Nat.le_refl _,by omega,rfl,by omega,Below.refl _ _⟩
 case round=>
  obtain ⟨k,hk1,hk,rfl,hno,hB⟩:=hrel
  by_cases hlt:k<13
  ·by_cases heq:Dw.slots m=k
   ·have hz:=Lib.hid ((Dw.slots_size m k hk1 (by omega)).2 heq)
    have hle:(k:Int)≤12:=by omega
    go_wp2_with fail
    refine cb (rsize_any _ _) fun w1 hb1=>?_
    rw [hz.out]
    go_wp2_with fail
    go_ret
    exact ⟨by rw [heq];rfl,hB.trans (hb1.mono hB.size)⟩
   ·have hz:¬(Dw.size k=m):=fun e=>heq ((Dw.slots_size m k hk1 (by omega)).1 e)
    have hle:(k:Int)≤12:=by omega
    go_wp2_with fail
    refine cb (rsize_any _ _) fun w1 hb1=>?_
    go_wp2_with fail
    go_roundw
    case rel=>exact ⟨k+1,by omega,by omega,by go_num,by omega,hB.trans (hb1.mono hB.size)⟩
    case measure=>simp [intOf];omega
  ·obtain rfl:k=13:=by omega
   have h0:Dw.slots m=0:=by have:=Dw.slots_le m;omega
   go_wp2_with fail
   go_ret
   exact ⟨by rw [h0];rfl,hB⟩
end Go.Proofs.YtnaokijcggbfdaaGreatDoor
namespace Go.Proofs.YtnaokijcggbfdaaGreatDoor
open Go.RowKit
section
variable {P:Program} {ops:Array Oper} {R:Exit→Act→World→Prop}
def LM (P:Program) (ops:Array Oper) (R:Exit→Act→World→Prop) (tops:List Oper) (om:Oper) (lo:Nat) (Z:Obj):List Nat→Act→World→Prop
 | [],a,w=>∀b w',Keep w w'→lo≤b→w'.heap[b]?=some Z→wpList P ops R tops (a.put om.dst (.pointer (some ⟨b,0,none⟩))) w'
 |l::ls,a,w=>∃ol,ops[l]?=some ol∧Region.wanted ol (yielded ops a.tmps)=true∧∀w',Keep w w'→YlSome P w' ((execOp a.eval ol).run P w') (fun v w''=>LM P ops R tops om lo Z ls (a.put ol.dst v) w'')
theorem LM.keep {tops:List Oper} {om:Oper} {lo:Nat} {Z:Obj}:∀ {ls:List Nat} {a:Act} {w w':World},LM P ops R tops om lo Z ls a w→Keep w w'→LM P ops R tops om lo Z ls a w'
 | [],_,_,_,h,k=>fun b w'' k'=>h b w'' (k.trans k')
 |_::_,_,_,_,⟨ol,h1,h2,h3⟩,k=>⟨ol,h1,h2,fun w'' k'=>h3 w'' (k.trans k')⟩
theorem keep_block {w w':World} (hk:Keep w w') {b:Nat} {x:Obj} (h:w.heap[b]?=some x):w'.heap[b]?=some x:=(hk.block b (block_lt h) id).trans h
theorem keep_alloc (w:World) (x:Obj):Keep w (w.alloc x):=⟨rfl,rfl,rfl,by simp,fun k hk _=>heap_alloc_old w x k hk⟩
theorem lettersm_sound {T:Array Nat} {ks ls ts:List Nat} {m:Nat} (ok:RegionOk ops T ks (ls++ [m]) ts) {tops:List Oper} (ht:ts.map (fun t=>ops[t]?)=tops.map some) {w:World} {om:Oper} (hom:ops[m]?=some om) {Z:Obj}
  (hM:∀(a:Act) (w':World),Region.wanted om (yielded ops a.tmps)=true∧(execOp a.eval om).run P w'= .ok (.value (.pointer (some ⟨w'.heap.size,0,none⟩))) (w'.alloc Z)):
  ∀(n:Nat) (rest lrest ms:List Nat) (listed:Array Bool) (a a' a2:Act) (w1:World),rest.length+lrest.length+ms.length=n→Keep w w1→Todo ops T (ks++(ls++ [m])) (rest++(lrest++ms)) listed→(∀k∈rest,k∈ks)→(∀l∈lrest,l∈ls)→lettersOk T lrest=true→lrest.all (apartAt ops m)=true→pairsOk ops T rest=true→
   PureList P ops w (fun b=>b=a2) rest a→(ms= [m]∧a2=a'∨ms= []∧∃b,w.heap.size≤b∧w1.heap[b]?=some Z∧a2=a'.put om.dst (.pointer (some ⟨b,0,none⟩)))→LM P ops R tops om w.heap.size Z lrest a' w1→wpAny P .any ops R (n+ts.length) listed a w1:=by
 intro n
 induction n with
 |zero=>
  intro rest lrest ms listed a a' a2 w1 hm hk htd _ _ _ _ _ hp hs hL
  have h1:rest= []:=List.eq_nil_of_length_eq_zero (by omega)
  have h2:lrest= []:=List.eq_nil_of_length_eq_zero (by omega)
  have h3:ms= []:=List.eq_nil_of_length_eq_zero (by omega)
  subst h1;subst h2;subst h3
  obtain rfl:a=a2:=hp
  rcases hs with ⟨h,_⟩|⟨_,b,hlo,hb,rfl⟩
  ·cases h
  rw [htd.done,Nat.zero_add]
  exact tail_sound ok.tail ⟨tops,ht,hL b w1 (KeepBut.refl _ _) hlo hb⟩
 |succ n ih=>
  intro rest lrest ms listed a a' a2 w1 hm hk htd hsub hlsub hlo hma hp h hs hL
  obtain ⟨hr,hall⟩:=htd.ready ok (by intro e;obtain ⟨e1,e2⟩:=List.append_eq_nil_iff.1 e;obtain ⟨e2,e3⟩:=List.append_eq_nil_iff.1 e2;rw [e1,e2,e3] at hm;simp at hm)
  rw [show n+1+ts.length=(n+ts.length)+1 from by omega]
  refine ⟨fun e=>absurd e hr,fun i hi=>?_⟩
  have hir:=hall i hi
  have hnx:=htd.next hi hir
  obtain ⟨h0,hlt,hdeps⟩:=mem_ready'.1 hi
  have hnd:=htd.nodup
  have notBehind:∀k,k∈rest++(lrest++ms)→behind T i k=false:=fun k hk'=>by
   cases hb:behind T i k
   ·rfl
   ·have:=behind_listed ok.table ok.lt htd.closed i k hlt hdeps hb
    have hkl:=(ok.inside k (htd.sub k hk')).1
    rw [getD_any (by rw [htd.size];exact hkl) false true,htd.iff k hkl] at this
    have hc:(rest++(lrest++ms)).contains k=true:=List.contains_iff_mem.2 hk'
    rw [hc] at this;simp at this
  have seq:∀ {ol:Oper},ops[i]?=some ol→apartAt ops m i=true→execOp a2.eval ol=execOp a'.eval ol∧Region.wanted ol (yielded ops a2.tmps)=Region.wanted ol (yielded ops a'.tmps):=fun {ol} hol hap=>by
   rcases hs with ⟨_,rfl⟩|⟨_,b,_,_,rfl⟩
   ·exact ⟨rfl,rfl⟩
   ·obtain ⟨h1,h2,h3⟩:=Oper.apart_spec (apartAt_spec hom hol hap)
    exact ⟨execOp_put ol (fun cs b=>Region.noSelect_spec ok.sel i ol cs b hol) a' om.dst _ h1,wanted_put ol a' om.dst _ h1⟩
  by_cases hir':i∈rest
  ·obtain ⟨l1,l2,rfl⟩:=List.append_of_mem hir'
   have hnd1:=(List.nodup_append.1 hnd).1
   rw [List.erase_append_left _ hir',erase_mid hnd1] at hnx
   have hp':pairsOk ops T (l1++l2)=true:=by have:=pairsOk_erase (i:=i) hp;rwa [erase_mid hnd1] at this
   have hap:∀k∈l1,apartAt ops i k=true:=fun k hk'=>(pairsOk_spec hp k hk').resolve_right fun hb=>by rw [notBehind k (by simp [hk'])] at hb;cases hb
   obtain ⟨o,v,ho,hg,hrest⟩:=PureList.first ok.sel hap h
   have hlen:(l1++l2).length+lrest.length+ms.length=n:=by simp at hm ⊢;omega
   have hsub':∀k∈l1++l2,k∈ks:=fun k hk'=>hsub k (by simp at hk' ⊢;exact hk'.imp id .inr)
   unfold wpOp
   simp only [ho]
   rcases hg with ⟨hw,hs'⟩|⟨hw,rfl⟩
   ·rw [if_pos hw]
    exact .inl ((hs' w1 hk).wp fun w'' hk''=>ih _ _ _ _ _ _ _ _ hlen (hk.trans hk'') hnx hsub' hlsub hlo hma hp' hrest (hs.imp_right fun ⟨e,b,h1,h2,h3⟩=>⟨e,b,h1,keep_block hk'' h2,h3⟩) (hL.keep hk''))
   ·rw [if_neg (by simp [hw])]
    exact ih _ _ _ _ _ _ _ _ hlen hk hnx hsub' hlsub hlo hma hp' hrest hs hL
  ·have hil:i∈lrest++ms:=(List.mem_append.1 hir).resolve_left hir'
   by_cases hil':i∈lrest
   ·cases lrest with
    |nil=>cases hil'
    |cons l lr=>
     simp only [lettersOk,Bool.and_eq_true,List.all_eq_true] at hlo
     have hil:i=l:=by
      rcases List.mem_cons.1 hil' with e|e
      ·exact e
      ·have:=hlo.1 i e
       rw [notBehind l (by simp)] at this;cases this
     subst hil
     simp only [List.all_cons,Bool.and_eq_true] at hma
     have hap:∀k∈rest,apartAt ops i k=true:=fun k hk'=>(ok.letter i (List.mem_append_left _ (hlsub i (by simp))) k (hsub k hk')).resolve_right fun hb=>by rw [notBehind k (by simp [hk'])] at hb;cases hb
     rw [List.erase_append_right _ hir'] at hnx
     simp at hnx
     obtain ⟨ol,hol,hw,hs'⟩:=hL
     obtain ⟨a'',rfl,he,hw'⟩:=PureList.seen ok.sel hol hap h
     obtain ⟨q1,q2⟩:=seq hol hma.1
     unfold wpOp
     simp only [hol]
     rw [if_pos (by rw [←hw',q2];exact hw)]
     rw [←q1,he] at hs'
     refine .inl ((hs' w1 (KeepBut.refl _ _)).wp fun v w'' hk'' hL''=>?_)
     refine ih rest lr ms _ _ _ (a''.put ol.dst v) w'' (by simp at hm;omega) (hk.trans hk'') hnx hsub (fun l hl=>hlsub l (by simp [hl])) hlo.2 hma.2 hp ?_ ?_ hL''
     ·refine PureList.mono ?_ (PureList.putIn ok.sel hol v hap h)
      rintro b ⟨b',rfl,rfl⟩
      rfl
     ·refine hs.imp (fun ⟨e,h⟩=>⟨e,by rw [h]⟩) fun ⟨e,b,h1,h2,h3⟩=>⟨e,b,h1,keep_block hk'' h2,?_⟩
      rw [h3]
      obtain ⟨-,g2,-⟩:=Oper.apart_spec (apartAt_spec hom hol hma.1)
      exact Act.put_comm a' _ v g2
   ·have him:i∈ms:=(List.mem_append.1 hil).resolve_left hil'
    rcases hs with ⟨rfl,rfl⟩|⟨rfl,_⟩
    ·obtain rfl:i=m:=by simpa using him
     have hap:∀k∈rest,apartAt ops i k=true:=fun k hk'=>(ok.letter i (by simp) k (hsub k hk')).resolve_right fun hb=>by rw [notBehind k (by simp [hk'])] at hb;cases hb
     rw [List.erase_append_right _ hir',List.erase_append_right _ hil'] at hnx
     simp only [List.erase_cons_head] at hnx
     obtain ⟨hw,hrun⟩:=hM a w1
     unfold wpOp
     simp only [hom]
     rw [if_pos hw]
     have hY:YlSome P w1 ((execOp a.eval om).run P w1) (fun v w''=>v= .pointer (some ⟨w1.heap.size,0,none⟩)∧w''=w1.alloc Z):= .inl ⟨_,_,hrun,keep_alloc w1 Z,rfl,rfl⟩
     refine .inl (hY.wp fun v w'' hk'' hv=>?_)
     obtain ⟨rfl,rfl⟩:=hv
     refine ih rest lrest [] _ _ _ (a2.put om.dst (.pointer (some ⟨w1.heap.size,0,none⟩))) _ (by simp at hm ⊢;omega) (hk.trans hk'') hnx hsub hlsub hlo hma hp ?_ (.inr ⟨rfl,w1.heap.size,hk.size,han w1 Z,rfl⟩) (hL.keep hk'')
     refine PureList.mono ?_ (PureList.putIn ok.sel hom _ hap h)
     rintro b ⟨b',rfl,rfl⟩
     rfl
    ·cases him
theorem wp_lettersm {id:Nat} {a:Act} {w:World} (ks ls:List Nat) (m k:Nat) {om:Oper} (hom:ops[m]?=some om) (Z:Obj) (hm:P.follows .mixedOrders=true) (hok:regionOk ops (Region.before ops) ks (ls++ [m]) (List.range' k (ops.size-k))=true) (hlk:(lettersOk (Region.before ops) ls&&ls.all (apartAt ops m))=true) (hsz:ops.size=ks.length+ls.length+1+(ops.size-k))
  (hM:∀(a:Act) (w':World),Region.wanted om (yielded ops a.tmps)=true∧(execOp a.eval om).run P w'= .ok (.value (.pointer (some ⟨w'.heap.size,0,none⟩))) (w'.alloc Z))
  (h:PureList P ops w (fun a'=>LM P ops R (ops.toList.drop k) om w.heap.size Z ls a' w) ks a):(Code.region id ops true).wp P R a w:=by
 have ok:=regionOk_spec hok
 obtain ⟨hl1,hl2⟩:=Bool.and_eq_true_iff.1 hlk
 refine wp_region_any hm ?_
 have st:=Todo.start ok
 obtain ⟨a',hL,hp⟩:=PureList.fix h
 have kd:Keep w w.drew:=⟨rfl,rfl,rfl,Nat.le_refl _,fun _ _ _=>rfl⟩
 have e:=lettersm_sound (P:=P) (R:=R) ok (range_drop k) (w:=w) hom hM (ks.length+ls.length+1) ks ls [m] (Array.replicate ops.size false) a a' a' w.drew rfl kd st (fun _ h=>h) (fun _ h=>h) hl1 hl2 ok.pairs hp (.inl ⟨rfl,rfl⟩) (hL.keep kd)
 rw [List.length_range',←hsz] at e
 exact e
end
section
variable {P:Program} {R:Exit→Act→World→Prop} {l:List Oper} {w:World} {k:Nat} {ls:List Nat} {a:Act} {o om:Oper} {tops:List Oper} {lo:Nat} {Z:Obj}
theorem lm_call {f:FuncId} {args:Array Value} (ho:l[k]?=some o) (hw:Region.wanted o (yielded l.toArray a.tmps)=true)
  (hv:∀w',Keep w w'→(execOp a.eval o).run P w'= .ok (.enter f args) w') (hc:∀w',Keep w w'→Calls P f args w' fun e w''=>∃v,e= .returned v∧Keep w' w''∧LM P l.toArray R tops om lo Z ls (a.put o.dst v) w''):LM P l.toArray R tops om lo Z (k::ls) a w:=
 ⟨o,by simpa using ho,hw,fun w' hk=> .inr ⟨f,args,w',hv w' hk,hc w' hk⟩⟩
theorem lm_value (ho:l[k]?=some o) (hw:Region.wanted o (yielded l.toArray a.tmps)=true)
  (hv:∀w',Keep w w'→∃v w'',(execOp a.eval o).run P w'= .ok (.value v) w''∧Keep w' w''∧LM P l.toArray R tops om lo Z ls (a.put o.dst v) w''):LM P l.toArray R tops om lo Z (k::ls) a w:=
 ⟨o,by simpa using ho,hw,fun w' hk=> .inl (hv w' hk)⟩
end
section
variable {P:Program} {ops:Array Oper} {R:Exit→Act→World→Prop}
def LF (P:Program) (ops:Array Oper) (R:Exit→Act→World→Prop) (tops:List Oper) (om:Oper) (lo:Nat) (Z:Obj) (F:Nat→Value):List Nat→Act→World→Prop
 | [],a,w=>∀b w',Keep w w'→lo≤b→w'.heap[b]?=some Z→wpList P ops R tops (a.put om.dst (F b)) w'
 |l::ls,a,w=>∃ol,ops[l]?=some ol∧Region.wanted ol (yielded ops a.tmps)=true∧∀w',Keep w w'→YlSome P w' ((execOp a.eval ol).run P w') (fun v w''=>LF P ops R tops om lo Z F ls (a.put ol.dst v) w'')
theorem LF.keep {tops:List Oper} {om:Oper} {lo:Nat} {Z:Obj} {F:Nat→Value}:∀ {ls:List Nat} {a:Act} {w w':World},LF P ops R tops om lo Z F ls a w→Keep w w'→LF P ops R tops om lo Z F ls a w'
 | [],_,_,_,h,k=>fun b w'' k'=>h b w'' (k.trans k')
 |_::_,_,_,_,⟨ol,h1,h2,h3⟩,k=>⟨ol,h1,h2,fun w'' k'=>h3 w'' (k.trans k')⟩
theorem lettersf_sound {T:Array Nat} {ks ls ts:List Nat} {m:Nat} (ok:RegionOk ops T ks (ls++ [m]) ts) {tops:List Oper} (ht:ts.map (fun t=>ops[t]?)=tops.map some) {w:World} {om:Oper} (hom:ops[m]?=some om) {Z:Obj} {F:Nat→Value}:
  ∀(n:Nat) (rest lrest ms:List Nat) (listed:Array Bool) (a a' a2:Act) (w1:World),rest.length+lrest.length+ms.length=n→Keep w w1→Todo ops T (ks++(ls++ [m])) (rest++(lrest++ms)) listed→(∀k∈rest,k∈ks)→(∀l∈lrest,l∈ls)→lettersOk T lrest=true→lrest.all (apartAt ops m)=true→pairsOk ops T rest=true→
   PureList P ops w (fun b=>b=a2) rest a→(ms= [m]∧a2=a'∨ms= []∧∃b,w.heap.size≤b∧w1.heap[b]?=some Z∧a2=a'.put om.dst (F b))→LF P ops R tops om w.heap.size Z F lrest a' w1→(Region.wanted om (yielded ops a'.tmps)=true∧∀w':World,(execOp a'.eval om).run P w'= .ok (.value (F w'.heap.size)) (w'.alloc Z))→wpAny P .any ops R (n+ts.length) listed a w1:=by
 intro n
 induction n with
 |zero=>
  intro rest lrest ms listed a a' a2 w1 hm hk htd _ _ _ _ _ hp hs hL _
  have h1:rest= []:=List.eq_nil_of_length_eq_zero (by omega)
  have h2:lrest= []:=List.eq_nil_of_length_eq_zero (by omega)
  have h3:ms= []:=List.eq_nil_of_length_eq_zero (by omega)
  subst h1;subst h2;subst h3
  obtain rfl:a=a2:=hp
  rcases hs with ⟨h,_⟩|⟨_,b,hlo,hb,rfl⟩
  ·cases h
  rw [htd.done,Nat.zero_add]
  exact tail_sound ok.tail ⟨tops,ht,hL b w1 (KeepBut.refl _ _) hlo hb⟩
 |succ n ih=>
  intro rest lrest ms listed a a' a2 w1 hm hk htd hsub hlsub hlo hma hp h hs hL hM
  obtain ⟨hr,hall⟩:=htd.ready ok (by intro e;obtain ⟨e1,e2⟩:=List.append_eq_nil_iff.1 e;obtain ⟨e2,e3⟩:=List.append_eq_nil_iff.1 e2;rw [e1,e2,e3] at hm;simp at hm)
  rw [show n+1+ts.length=(n+ts.length)+1 from by omega]
  refine ⟨fun e=>absurd e hr,fun i hi=>?_⟩
  have hir:=hall i hi
  have hnx:=htd.next hi hir
  obtain ⟨h0,hlt,hdeps⟩:=mem_ready'.1 hi
  have hnd:=htd.nodup
  have notBehind:∀k,k∈rest++(lrest++ms)→behind T i k=false:=fun k hk'=>by
   cases hb:behind T i k
   ·rfl
   ·have:=behind_listed ok.table ok.lt htd.closed i k hlt hdeps hb
    have hkl:=(ok.inside k (htd.sub k hk')).1
    rw [getD_any (by rw [htd.size];exact hkl) false true,htd.iff k hkl] at this
    have hc:(rest++(lrest++ms)).contains k=true:=List.contains_iff_mem.2 hk'
    rw [hc] at this;simp at this
  have seq:∀ {ol:Oper},ops[i]?=some ol→apartAt ops m i=true→execOp a2.eval ol=execOp a'.eval ol∧Region.wanted ol (yielded ops a2.tmps)=Region.wanted ol (yielded ops a'.tmps):=fun {ol} hol hap=>by
   rcases hs with ⟨_,rfl⟩|⟨_,b,_,_,rfl⟩
   ·exact ⟨rfl,rfl⟩
   ·obtain ⟨h1,h2,h3⟩:=Oper.apart_spec (apartAt_spec hom hol hap)
    exact ⟨execOp_put ol (fun cs b=>Region.noSelect_spec ok.sel i ol cs b hol) a' om.dst _ h1,wanted_put ol a' om.dst _ h1⟩
  by_cases hir':i∈rest
  ·obtain ⟨l1,l2,rfl⟩:=List.append_of_mem hir'
   have hnd1:=(List.nodup_append.1 hnd).1
   rw [List.erase_append_left _ hir',erase_mid hnd1] at hnx
   have hp':pairsOk ops T (l1++l2)=true:=by have:=pairsOk_erase (i:=i) hp;rwa [erase_mid hnd1] at this
   have hap:∀k∈l1,apartAt ops i k=true:=fun k hk'=>(pairsOk_spec hp k hk').resolve_right fun hb=>by rw [notBehind k (by simp [hk'])] at hb;cases hb
   obtain ⟨o,v,ho,hg,hrest⟩:=PureList.first ok.sel hap h
   have hlen:(l1++l2).length+lrest.length+ms.length=n:=by simp at hm ⊢;omega
   have hsub':∀k∈l1++l2,k∈ks:=fun k hk'=>hsub k (by simp at hk' ⊢;exact hk'.imp id .inr)
   unfold wpOp
   simp only [ho]
   rcases hg with ⟨hw,hs'⟩|⟨hw,rfl⟩
   ·rw [if_pos hw]
    exact .inl ((hs' w1 hk).wp fun w'' hk''=>ih _ _ _ _ _ _ _ _ hlen (hk.trans hk'') hnx hsub' hlsub hlo hma hp' hrest (hs.imp_right fun ⟨e,b,h1,h2,h3⟩=>⟨e,b,h1,keep_block hk'' h2,h3⟩) (hL.keep hk'') hM)
   ·rw [if_neg (by simp [hw])]
    exact ih _ _ _ _ _ _ _ _ hlen hk hnx hsub' hlsub hlo hma hp' hrest hs hL hM
  ·have hil:i∈lrest++ms:=(List.mem_append.1 hir).resolve_left hir'
   by_cases hil':i∈lrest
   ·cases lrest with
    |nil=>cases hil'
    |cons l lr=>
     simp only [lettersOk,Bool.and_eq_true,List.all_eq_true] at hlo
     have hil:i=l:=by
      rcases List.mem_cons.1 hil' with e|e
      ·exact e
      ·have:=hlo.1 i e
       rw [notBehind l (by simp)] at this;cases this
     subst hil
     simp only [List.all_cons,Bool.and_eq_true] at hma
     have hap:∀k∈rest,apartAt ops i k=true:=fun k hk'=>(ok.letter i (List.mem_append_left _ (hlsub i (by simp))) k (hsub k hk')).resolve_right fun hb=>by rw [notBehind k (by simp [hk'])] at hb;cases hb
     rw [List.erase_append_right _ hir'] at hnx
     simp at hnx
     obtain ⟨ol,hol,hw,hs'⟩:=hL
     obtain ⟨a'',rfl,he,hw'⟩:=PureList.seen ok.sel hol hap h
     obtain ⟨q1,q2⟩:=seq hol hma.1
     unfold wpOp
     simp only [hol]
     rw [if_pos (by rw [←hw',q2];exact hw)]
     rw [←q1,he] at hs'
     refine .inl ((hs' w1 (KeepBut.refl _ _)).wp fun v w'' hk'' hL''=>?_)
     refine ih rest lr ms _ _ _ (a''.put ol.dst v) w'' (by simp at hm;omega) (hk.trans hk'') hnx hsub (fun l hl=>hlsub l (by simp [hl])) hlo.2 hma.2 hp ?_ ?_ hL'' ?_
     ·refine PureList.mono ?_ (PureList.putIn ok.sel hol v hap h)
      rintro b ⟨b',rfl,rfl⟩
      rfl
     ·refine hs.imp (fun ⟨e,h⟩=>⟨e,by rw [h]⟩) fun ⟨e,b,h1,h2,h3⟩=>⟨e,b,h1,keep_block hk'' h2,?_⟩
      rw [h3]
      obtain ⟨-,g2,-⟩:=Oper.apart_spec (apartAt_spec hom hol hma.1)
      exact Act.put_comm a' _ v g2
     ·obtain ⟨-,-,g3⟩:=Oper.apart_spec (apartAt_spec hom hol hma.1)
      refine ⟨?_,fun w3=>?_⟩
      ·rw [wanted_put om a' ol.dst v g3];exact hM.1
      ·rw [execOp_put om (fun cs b=>Region.noSelect_spec ok.sel m om cs b hom) a' ol.dst v g3];exact hM.2 w3
   ·have him:i∈ms:=(List.mem_append.1 hil).resolve_left hil'
    rcases hs with ⟨rfl,rfl⟩|⟨rfl,_⟩
    ·obtain rfl:i=m:=by simpa using him
     have hap:∀k∈rest,apartAt ops i k=true:=fun k hk'=>(ok.letter i (by simp) k (hsub k hk')).resolve_right fun hb=>by rw [notBehind k (by simp [hk'])] at hb;cases hb
     rw [List.erase_append_right _ hir',List.erase_append_right _ hil'] at hnx
     simp only [List.erase_cons_head] at hnx
     obtain ⟨a'',e2,he,hw'⟩:=PureList.seen ok.sel hom hap h
     subst e2
     have hw:Region.wanted om (yielded ops a.tmps)=true:=by rw [←hw'];exact hM.1
     have hrun:=hM.2 w1
     rw [he] at hrun
     unfold wpOp
     simp only [hom]
     rw [if_pos hw]
     have hY:YlSome P w1 ((execOp a.eval om).run P w1) (fun v w''=>v=F w1.heap.size∧w''=w1.alloc Z):= .inl ⟨_,_,hrun,keep_alloc w1 Z,rfl,rfl⟩
     refine .inl (hY.wp fun v w'' hk'' hv=>?_)
     obtain ⟨rfl,rfl⟩:=hv
     refine ih rest lrest [] _ _ _ (a''.put om.dst (F w1.heap.size)) _ (by simp at hm ⊢;omega) (hk.trans hk'') hnx hsub hlsub hlo hma hp ?_ (.inr ⟨rfl,w1.heap.size,hk.size,han w1 Z,rfl⟩) (hL.keep hk'') hM
     refine PureList.mono ?_ (PureList.putIn ok.sel hom _ hap h)
     rintro b ⟨b',rfl,rfl⟩
     rfl
    ·cases him
theorem wp_lettersf {id:Nat} {a:Act} {w:World} (ks ls:List Nat) (m k:Nat) {om:Oper} (hom:ops[m]?=some om) (Z:Obj) (F:Nat→Value) (hm:P.follows .mixedOrders=true) (hok:regionOk ops (Region.before ops) ks (ls++ [m]) (List.range' k (ops.size-k))=true) (hlk:(lettersOk (Region.before ops) ls&&ls.all (apartAt ops m))=true) (hsz:ops.size=ks.length+ls.length+1+(ops.size-k))
  (h:PureList P ops w (fun a'=>(Region.wanted om (yielded ops a'.tmps)=true∧∀w':World,(execOp a'.eval om).run P w'= .ok (.value (F w'.heap.size)) (w'.alloc Z))∧LF P ops R (ops.toList.drop k) om w.heap.size Z F ls a' w) ks a):(Code.region id ops true).wp P R a w:=by
 have ok:=regionOk_spec hok
 obtain ⟨hl1,hl2⟩:=Bool.and_eq_true_iff.1 hlk
 refine wp_region_any hm ?_
 have st:=Todo.start ok
 obtain ⟨a',⟨hM,hL⟩,hp⟩:=PureList.fix h
 have kd:Keep w w.drew:=⟨rfl,rfl,rfl,Nat.le_refl _,fun _ _ _=>rfl⟩
 have e:=lettersf_sound (P:=P) (R:=R) ok (range_drop k) (w:=w) hom (ks.length+ls.length+1) ks ls [m] (Array.replicate ops.size false) a a' a' w.drew rfl kd st (fun _ h=>h) (fun _ h=>h) hl1 hl2 ok.pairs hp (.inl ⟨rfl,rfl⟩) (hL.keep kd) hM
 rw [List.length_range',←hsz] at e
 exact e
end
section
variable {P:Program} {R:Exit→Act→World→Prop} {l:List Oper} {w:World} {k:Nat} {ls:List Nat} {a:Act} {o om:Oper} {tops:List Oper} {lo:Nat} {Z:Obj} {F:Nat→Value}
theorem lf_value (ho:l[k]?=some o) (hw:Region.wanted o (yielded l.toArray a.tmps)=true)
  (hv:∀w',Keep w w'→∃v w'',(execOp a.eval o).run P w'= .ok (.value v) w''∧Keep w' w''∧LF P l.toArray R tops om lo Z F ls (a.put o.dst v) w''):LF P l.toArray R tops om lo Z F (k::ls) a w:=
 ⟨o,by simpa using ho,hw,fun w' hk=> .inl (hv w' hk)⟩
end
end Go.Proofs.YtnaokijcggbfdaaGreatDoor
