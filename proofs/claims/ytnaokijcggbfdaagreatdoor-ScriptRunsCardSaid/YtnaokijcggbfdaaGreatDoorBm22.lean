/- What the statement's proof stands on, part 22: RegionT, RClear. -/
import Derived.Test.YtnaokijcggbfdaaGreatDoorBm13
import Derived.Orders
import Derived.Test.YtnaokijcggbfdaaGreatDoorBm11
import Derived.Laws.IdiomStrings
set_option linter.unusedSimpArgs false
set_option linter.unusedVariables false
set_option maxRecDepth 100000
set_option maxHeartbeats 4000000
namespace Go.Proofs.YtnaokijcggbfdaaGreatDoor.RT
open Go.RowKit
section
variable {P:Program} {ops:Array Oper} {Q:Exit→Act→World→Prop} {X:Nat→Prop} {late:Nat→Bool}
def Sure (P:Program) (X:Nat→Prop) (lt:Bool) (w:World) (s:Sem Next) (v:Value):Prop:=∀w',KeepBut (fun k=>lt=true∧X k) w w'→Yl P w' (s.run P w') v
def Stores (P:Program) (X:Nat→Prop) (w:World) (s:Sem Next) (R:World→Prop):Prop:=∀w',Keep w w'→∃w'',s.run P w'= .ok .skip w''∧KeepBut X w w''∧R w''
def Gets (P:Program) (ops:Array Oper) (X:Nat→Prop) (lt:Bool) (w:World) (o:Oper) (a:Act) (v:Value):Prop:=
 (Region.wanted o (yielded ops a.tmps)=true∧Sure P X lt w (execOp a.eval o) v)∨(Region.wanted o (yielded ops a.tmps)=false∧v=undef)
def PureList (P:Program) (ops:Array Oper) (X:Nat→Prop) (late:Nat→Bool) (w:World) (N:Act→Prop):List Nat→Act→Prop
 | [],a=>N a
 |k::ks,a=>∃o v,ops[k]?=some o∧Gets P ops X (late k) w o a v∧PureList P ops X late w N ks (a.put o.dst v)
theorem PureList.mono {w:World} {N N':Act→Prop} (h:∀a,N a→N' a):∀ {ks:List Nat} {a:Act},PureList P ops X late w N ks a→PureList P ops X late w N' ks a
 | [],a,hh=>h a hh
 |_::_,_,⟨o,v,ho,hg,hr⟩=>⟨o,v,ho,hg,PureList.mono h hr⟩
theorem Gets.put {lt:Bool} {w:World} {o:Oper} {a:Act} {v:Value} (hs:∀cs b,o.op≠ .select cs b) (h:Gets P ops X lt w o a v) {d:Option Tmp} (u:Value) (hd:∀t,d=some t→t ∉ o.looksAt ops):Gets P ops X lt w o (a.put d u) v:=by
 unfold Gets
 rw [wanted_put o a d u hd,execOp_put o hs a d u hd]
 exact h
theorem PureList.swap {w:World} {N:Act→Prop} (hsel:Region.noSelect ops=true) {i k:Nat} {l:List Nat} {a:Act} (hap:apartAt ops i k=true)
  (h:PureList P ops X late w N (k::i::l) a):PureList P ops X late w N (i::k::l) a:=by
 obtain ⟨ok,vk,hok,hgk,oi,vi,hoi,hgi,hr⟩:=h
 obtain ⟨h1,h2,h3⟩:=Oper.apart_spec (apartAt_spec hoi hok hap)
 have hsi:=fun cs b=>Region.noSelect_spec hsel i oi cs b hoi
 have hsk:=fun cs b=>Region.noSelect_spec hsel k ok cs b hok
 refine ⟨oi,vi,hoi,?_,ok,vk,hok,hgk.put hsk vi h1,?_⟩
 ·unfold Gets at hgi ⊢
  rw [wanted_put oi a ok.dst vk h3,execOp_put oi hsi a ok.dst vk h3] at hgi
  exact hgi
 ·rw [Act.put_comm a vi vk h2];exact hr
theorem PureList.first {w:World} {N:Act→Prop} (hsel:Region.noSelect ops=true) {i:Nat} {l2:List Nat}:∀ {l1:List Nat} {a:Act},(∀k∈l1,apartAt ops i k=true)→
  PureList P ops X late w N (l1++i::l2) a→PureList P ops X late w N (i::(l1++l2)) a
 | [],_,_,h=>h
 |k::l1,a,hap,⟨o,v,ho,hg,hr⟩=>PureList.swap hsel (hap k (by simp)) ⟨o,v,ho,hg,PureList.first hsel (fun j hj=>hap j (by simp [hj])) hr⟩
theorem PureList.putIn {w:World} {N:Act→Prop} (hsel:Region.noSelect ops=true) {i:Nat} {oi:Oper} (hoi:ops[i]?=some oi) (u:Value):∀ {ks:List Nat} {a:Act},(∀k∈ks,apartAt ops i k=true)→
  PureList P ops X late w N ks a→PureList P ops X late w (fun a''=>∃a',N a'∧a''=a'.put oi.dst u) ks (a.put oi.dst u)
 | [],a,_,h=>⟨a,h,rfl⟩
 |k::ks,a,hap,⟨o,v,ho,hg,hr⟩=>by
  obtain ⟨h1,h2,h3⟩:=Oper.apart_spec (apartAt_spec hoi ho (hap k (by simp)))
  refine ⟨o,v,ho,hg.put (fun cs b=>Region.noSelect_spec hsel k o cs b ho) u h1,?_⟩
  rw [Act.put_comm a u v h2]
  exact PureList.putIn hsel hoi u (fun j hj=>hap j (by simp [hj])) hr
theorem PureList.seen {w:World} {N:Act→Prop} (hsel:Region.noSelect ops=true) {i:Nat} {oi:Oper} (hoi:ops[i]?=some oi):∀ {ks:List Nat} {a:Act},(∀k∈ks,apartAt ops i k=true)→
  PureList P ops X late w N ks a→∃a',N a'∧execOp a'.eval oi=execOp a.eval oi∧Region.wanted oi (yielded ops a'.tmps)=Region.wanted oi (yielded ops a.tmps)
 | [],a,_,h=>⟨a,h,rfl,rfl⟩
 |k::ks,a,hap,⟨o,v,ho,hg,hr⟩=>by
  obtain ⟨h1,h2,h3⟩:=Oper.apart_spec (apartAt_spec hoi ho (hap k (by simp)))
  obtain ⟨a',hn,he,hw⟩:=PureList.seen hsel hoi (fun j hj=>hap j (by simp [hj])) hr
  exact ⟨a',hn,he.trans (execOp_put oi (fun cs b=>Region.noSelect_spec hsel i oi cs b hoi) a o.dst v h3),hw.trans (wanted_put oi a o.dst v h3)⟩
def regionOk (ops:Array Oper) (late:Nat→Bool) (T:Array Nat) (ks ls ts:List Nat):Bool:=
 Go.Proofs.YtnaokijcggbfdaaGreatDoor.regionOk ops T ks ls ts&&ls.all fun l=>ks.all fun k=>late k||behind T l k
structure RegionOk (ops:Array Oper) (late:Nat→Bool) (T:Array Nat) (ks ls ts:List Nat):Prop where
 base:Go.Proofs.YtnaokijcggbfdaaGreatDoor.RegionOk ops T ks ls ts
 late:∀l∈ls,∀k∈ks,late k=true∨behind T l k=true
theorem RegionOk.letter {T:Array Nat} {ks ls ts:List Nat} (ok:RegionOk ops late T ks ls ts):∀l∈ls,∀k∈ks,(apartAt ops l k=true∧late k=true)∨behind T l k=true:=fun l hl k hk=>by
 rcases ok.base.letter l hl k hk with h|h
 ·exact (ok.late l hl k hk).imp (fun h'=>⟨h,h'⟩) id
 ·exact .inr h
theorem regionOk_spec {T:Array Nat} {ks ls ts:List Nat} (h:regionOk ops late T ks ls ts=true):RegionOk ops late T ks ls ts:=by
 simp only [regionOk,Bool.and_eq_true,List.all_eq_true,Bool.or_eq_true] at h
 exact ⟨Go.Proofs.YtnaokijcggbfdaaGreatDoor.regionOk_spec h.1,h.2⟩
theorem PureList.anyW {w w2:World} {N:Act→Prop} (hk2:KeepBut X w w2):∀ {ks:List Nat} {a:Act},(∀k∈ks,late k=true)→PureList P ops X late w N ks a→PureList P ops X late w2 N ks a
 | [],_,_,h=>h
 |k::ks,a,hl,⟨o,v,ho,hg,hr⟩=>by
  refine ⟨o,v,ho,?_,PureList.anyW hk2 (fun j hj=>hl j (by simp [hj])) hr⟩
  unfold Gets at hg ⊢
  rw [hl k (by simp)] at hg ⊢
  exact hg.imp (fun h=>⟨h.1,fun w' hk=>h.2 w' ((hk2.mono fun _ _ h=>⟨rfl,h⟩).trans hk)⟩) id
theorem pure_sound {R:Exit→Act→World→Prop} {T:Array Nat} {ks ls ts:List Nat} (ok:RegionOk ops late T ks ls ts) {w:World} {F:World→Prop} (hF:∀A B,F A→Keep A B→F B) (fuel:Nat):
  ∀(m:Nat) (rest:List Nat) (listed:Array Bool) (a:Act) (w1:World),rest.length=m→Keep w w1→F w1→Todo ops T (ks++ls) rest listed→pairsOk ops T rest=true→
   PureList P ops X late w (fun a'=>∀w',Keep w w'→F w'→wpAny P .any ops R fuel (allListed ops (ks++ls)) a' w') rest a→wpAny P .any ops R (m+fuel) listed a w1:=by
 intro m
 induction m with
 |zero=>
  intro rest listed a w1 hm hk hf ht _ h
  have:rest= []:=List.eq_nil_of_length_eq_zero hm
  subst this
  rw [ht.done,Nat.zero_add]
  exact h w1 hk hf
 |succ m ih=>
  intro rest listed a w1 hm hk hf ht hp h
  have hne:rest≠ []:=by intro e;subst e;simp at hm
  obtain ⟨hr,hall⟩:=ht.ready ok.base hne
  rw [show m+1+fuel=(m+fuel)+1 from by omega]
  refine ⟨fun e=>absurd e hr,fun i hi=>?_⟩
  have hir:=hall i hi
  obtain ⟨l1,l2,rfl⟩:=List.append_of_mem hir
  have hnx:=ht.next hi hir
  rw [erase_mid ht.nodup] at hnx
  have hp':pairsOk ops T (l1++l2)=true:=by have:=pairsOk_erase (i:=i) hp;rwa [erase_mid ht.nodup] at this
  obtain ⟨h0,hlt,hdeps⟩:=mem_ready'.1 hi
  have hap:∀k∈l1,apartAt ops i k=true:=fun k hk'=>(pairsOk_spec hp k hk').resolve_right fun hb=>by
   have:=behind_listed ok.base.table ok.base.lt ht.closed i k hlt hdeps hb
   have hkl:=(ok.base.inside k (ht.sub k (by simp [hk']))).1
   rw [getD_any (by rw [ht.size];exact hkl) false true,ht.iff k hkl] at this
   simp [hk'] at this
  obtain ⟨o,v,ho,hg,hrest⟩:=PureList.first ok.base.sel hap h
  have hlen:(l1++l2).length=m:=by simp at hm ⊢;omega
  unfold wpOp
  simp only [ho]
  rcases hg with ⟨hw,hs⟩|⟨hw,rfl⟩
  ·rw [if_pos hw]
   exact .inl ((hs w1 (hk.mono fun _ _ h=>h.elim)).wp fun w'' hk''=>ih _ _ _ _ hlen (hk.trans hk'') (hF _ _ hf hk'') hnx hp' hrest)
  ·rw [if_neg (by simp [hw])]
   exact ih _ _ _ _ hlen hk hf hnx hp' hrest
theorem letter_sound {R:Exit→Act→World→Prop} {T:Array Nat} {ks ts:List Nat} {l:Nat} (ok:RegionOk ops late T ks [l] ts) {w:World} {F:World→Prop} (hF:∀A B,F A→Keep A B→F B) (fuel:Nat) {ol:Oper} (hol:ops[l]?=some ol):
  ∀(m:Nat) (rest:List Nat) (listed:Array Bool) (a:Act) (w1:World),rest.length=m→Keep w w1→Todo ops T (ks++ [l]) (rest++ [l]) listed→(∀k∈rest,k∈ks)→pairsOk ops T rest=true→
   PureList P ops X late w (fun a'=>Region.wanted ol (yielded ops a'.tmps)=true∧Stores P X w (execOp a'.eval ol) F∧∀w',F w'→wpAny P .any ops R fuel (allListed ops (ks++ [l])) (a'.put ol.dst undef) w') rest a→
   wpAny P .any ops R (m+1+fuel) listed a w1:=by
 intro m
 induction m using Nat.strongRecOn with
 |_ m ih=>
  intro rest listed a w1 hm hk ht hsub hp h
  obtain ⟨hr,hall⟩:=ht.ready ok.base (by simp)
  rw [show m+1+fuel=(m+fuel)+1 from by omega]
  refine ⟨fun e=>absurd e hr,fun i hi=>?_⟩
  have hir:=hall i hi
  have hnx:=ht.next hi hir
  obtain ⟨h0,hlt,hdeps⟩:=mem_ready'.1 hi
  have hnd:=ht.nodup
  have notBehind:∀k,k∈rest++ [l]→behind T i k=false:=fun k hk'=>by
   cases hb:behind T i k
   ·rfl
   ·have:=behind_listed ok.base.table ok.base.lt ht.closed i k hlt hdeps hb
    have hkl:=(ok.base.inside k (ht.sub k hk')).1
    rw [getD_any (by rw [ht.size];exact hkl) false true,ht.iff k hkl] at this
    have hc:(rest++ [l]).contains k=true:=by simpa using hk'
    rw [hc] at this;simp at this
  have hlr:l ∉ rest:=fun hl=>by
   have:=(List.nodup_append.1 hnd).2.2 l hl l (by simp);exact this rfl
  by_cases hil:i=l
  ·subst hil
   have hal:∀k∈rest,apartAt ops i k=true∧late k=true:=fun k hk'=>(ok.letter i (by simp) k (hsub k hk')).resolve_right fun hb=>by rw [notBehind k (by simp [hk'])] at hb;cases hb
   have hap:∀k∈rest,apartAt ops i k=true:=fun k hk'=>(hal k hk').1
   rw [List.erase_append_right _ hlr] at hnx
   simp at hnx
   obtain ⟨a',⟨hw,hs,_⟩,he,hw'⟩:=PureList.seen ok.base.sel hol hap h
   unfold wpOp
   simp only [hol]
   rw [if_pos (by rw [←hw'];exact hw)]
   rw [he] at hs
   obtain ⟨w'',hrun,hkX,hF''⟩:=hs w1 hk
   refine .inl ?_
   unfold Oper.wp
   rw [hrun]
   refine pure_sound (X:=X) ok (w:=w'') (F:=F) hF fuel m rest _ _ _ hm (KeepBut.refl _ _) hF'' hnx hp ?_
   refine PureList.mono ?_ (PureList.putIn ok.base.sel hol undef hap (PureList.anyW hkX (fun k hk'=>(hal k hk').2) h))
   rintro a'' ⟨a',⟨_,_,hN⟩,rfl⟩ w' _ hFw'
   exact hN w' hFw'
  ·have hir':i∈rest:=by simpa [hil] using hir
   obtain ⟨l1,l2,rfl⟩:=List.append_of_mem hir'
   have hnd1:=(List.nodup_append.1 hnd).1
   rw [List.erase_append_left _ hir',erase_mid hnd1] at hnx
   have hp':pairsOk ops T (l1++l2)=true:=by have:=pairsOk_erase (i:=i) hp;rwa [erase_mid hnd1] at this
   have hap:∀k∈l1,apartAt ops i k=true:=fun k hk'=>(pairsOk_spec hp k hk').resolve_right fun hb=>by rw [notBehind k (by simp [hk'])] at hb;cases hb
   obtain ⟨o,v,ho,hg,hrest⟩:=PureList.first ok.base.sel hap h
   have hlen:(l1++l2).length+1=m:=by simp at hm ⊢;omega
   have hsub':∀k∈l1++l2,k∈ks:=fun k hk'=>hsub k (by simp at hk' ⊢;exact hk'.imp id .inr)
   rw [show m+fuel=(l1++l2).length+1+fuel from by omega]
   unfold wpOp
   simp only [ho]
   rcases hg with ⟨hw,hs⟩|⟨hw,rfl⟩
   ·rw [if_pos hw]
    exact .inl ((hs w1 (hk.mono fun _ _ h=>h.elim)).wp fun w'' hk''=>ih _ (by omega) _ _ _ _ rfl (hk.trans hk'') hnx hsub' hp' hrest)
   ·rw [if_neg (by simp [hw])]
    exact ih _ (by omega) _ _ _ _ rfl hk hnx hsub' hp' hrest
theorem wp_region_pure {R:Exit→Act→World→Prop} {id:Nat} {a:Act} {w:World} (T:Array Nat) (ks ts:List Nat) (tops:List Oper) (hm:P.follows .mixedOrders=true) (hok:regionOk ops late T ks [] ts=true) (hsz:ops.size=ks.length+ts.length)
  (ht:ts.map (fun t=>ops[t]?)=tops.map some)
  (h:PureList P ops X late w (fun a'=>∀w',Keep w w'→wpList P ops R tops a' w') ks a):(Code.region id ops true).wp P R a w:=by
 have ok:=regionOk_spec hok
 refine wp_region_any hm ?_
 rw [hsz]
 have st:=Todo.start ok.base
 rw [List.append_nil] at st
 refine pure_sound (X:=X) (w:=w) (ks:=ks) (ls:= []) ok (F:=fun _=>True) (fun _ _ _ _=>trivial) ts.length ks.length ks _ a _ rfl ⟨rfl,rfl,rfl,Nat.le_refl _,fun _ _ _=>rfl⟩ trivial (by rw [List.append_nil];rw [hsz] at st;exact st) ok.base.pairs ?_
 exact PureList.mono (fun a' hN w' hk _=>by rw [List.append_nil];have:=ok.base.tail;rw [List.append_nil] at this;exact tail_sound this ⟨tops,ht,hN w' hk⟩) h
theorem wp_region_letter {R:Exit→Act→World→Prop} {id:Nat} {a:Act} {w:World} (T:Array Nat) (ks:List Nat) (l:Nat) (ts:List Nat) (ol:Oper) (tops:List Oper) (hm:P.follows .mixedOrders=true) (hok:regionOk ops late T ks [l] ts=true) (hsz:ops.size=ks.length+1+ts.length)
  (hol:ops[l]?=some ol) (ht:ts.map (fun t=>ops[t]?)=tops.map some) (F:World→Prop) (hF:∀A B,F A→Keep A B→F B)
  (h:PureList P ops X late w (fun a'=>Region.wanted ol (yielded ops a'.tmps)=true∧Stores P X w (execOp a'.eval ol) F∧∀w',F w'→wpList P ops R tops (a'.put ol.dst undef) w') ks a):(Code.region id ops true).wp P R a w:=by
 have ok:=regionOk_spec hok
 refine wp_region_any hm ?_
 rw [hsz]
 have st:=Todo.start ok.base
 refine letter_sound (X:=X) (w:=w) ok hF ts.length hol ks.length ks _ a _ rfl ⟨rfl,rfl,rfl,Nat.le_refl _,fun _ _ _=>rfl⟩ (by rw [hsz] at st;exact st) (fun _ h=>h) ok.base.pairs ?_
 exact PureList.mono (fun a' ⟨hw,hs,hN⟩=>⟨hw,hs,fun w' hf=>tail_sound ok.base.tail ⟨tops,ht,hN w' hf⟩⟩) h
theorem wp_pure {R:Exit→Act→World→Prop} {id:Nat} {a:Act} {w:World} (ks:List Nat) (k:Nat) (hm:P.follows .mixedOrders=true) (hok:regionOk ops late (Region.before ops) ks [] (List.range' k (ops.size-k))=true) (hsz:ops.size=ks.length+(ops.size-k))
  (h:PureList P ops X late w (fun a'=>∀w',Keep w w'→wpList P ops R (ops.toList.drop k) a' w') ks a):(Code.region id ops true).wp P R a w:=
 wp_region_pure (Region.before ops) ks (List.range' k (ops.size-k)) _ hm hok (by simpa using hsz) (range_drop k) h
theorem wp_letter {R:Exit→Act→World→Prop} {id:Nat} {a:Act} {w:World} (X:Nat→Prop) (late:Nat→Bool) (ks:List Nat) (l k:Nat) (F:World→Prop) {ol:Oper} (hol:ops[l]?=some ol) (hm:P.follows .mixedOrders=true) (hok:regionOk ops late (Region.before ops) ks [l] (List.range' k (ops.size-k))=true) (hsz:ops.size=ks.length+1+(ops.size-k))
  (hF:∀A B,F A→Keep A B→F B)
  (h:PureList P ops X late w (fun a'=>Region.wanted ol (yielded ops a'.tmps)=true∧Stores P X w (execOp a'.eval ol) F∧∀w',F w'→wpList P ops R (ops.toList.drop k) (a'.put ol.dst undef) w') ks a):(Code.region id ops true).wp P R a w:=
 wp_region_letter (Region.before ops) ks l (List.range' k (ops.size-k)) ol _ hm hok (by simpa using hsz) hol (range_drop k) F hF h
section
variable {X:Nat→Prop} {late:Nat→Bool} {l:List Oper} {w:World} {N:Act→Prop} {k:Nat} {ks:List Nat} {a:Act} {o:Oper} {v:Value}
theorem early {w w':World} {k:Nat} (he:late k=false) (h:KeepBut (fun j=>late k=true∧X j) w w'):Keep w w':=h.mono fun _ _ h=>by rw [he] at h;cases h.1
theorem pl_value (he:late k=false) (ho:l[k]?=some o) (hw:Region.wanted o (yielded l.toArray a.tmps)=true)
  (hv:∀w',Keep w w'→(execOp a.eval o).run P w'= .ok (.value v) w') (h:PureList P l.toArray X late w N ks (a.put o.dst v)):PureList P l.toArray X late w N (k::ks) a:=
 ⟨o,v,by simpa using ho, .inl ⟨hw,fun w' hk=> .inl ⟨w',hv w' (early he hk),KeepBut.refl _ _⟩⟩,h⟩
theorem pl_late (ho:l[k]?=some o) (hw:Region.wanted o (yielded l.toArray a.tmps)=true)
  (hv:∀w',KeepBut X w w'→(execOp a.eval o).run P w'= .ok (.value v) w') (h:PureList P l.toArray X late w N ks (a.put o.dst v)):PureList P l.toArray X late w N (k::ks) a:=
 ⟨o,v,by simpa using ho, .inl ⟨hw,fun w' hk=> .inl ⟨w',hv w' (hk.mono fun _ _ h=>h.2),KeepBut.refl _ _⟩⟩,h⟩
theorem pl_call {f:FuncId} {args:Array Value} (he:late k=false) (ho:l[k]?=some o) (hw:Region.wanted o (yielded l.toArray a.tmps)=true)
  (hv:∀w',Keep w w'→(execOp a.eval o).run P w'= .ok (.enter f args) w') (hc:∀w',Keep w w'→Calls P f args w' fun e w''=>e= .returned v∧Below w'.heap.size w' w'') (h:PureList P l.toArray X late w N ks (a.put o.dst v)):PureList P l.toArray X late w N (k::ks) a:=
 ⟨o,v,by simpa using ho, .inl ⟨hw,fun w' hk=> .inr (.inl ⟨f,args,w',hv w' (early he hk),(hc w' (early he hk)).mono fun _ _ ⟨he,hb⟩=>⟨he,KeepBut.of_below' hb⟩⟩)⟩,h⟩
end
def At (P:Program) (l:List Oper) (late:Nat→Bool) (w1 w2:World):List Nat→List Value→Act→Act→Prop
 | [],[],a,b=>a=b
 |k::ks,v::vs,a,b=>∃o,l[k]?=some o∧((Region.wanted o (yielded l.toArray a.tmps)=true∧Yl P (if late k then w2 else w1) ((execOp a.eval o).run P (if late k then w2 else w1)) v)∨(Region.wanted o (yielded l.toArray a.tmps)=false∧v=undef))∧At P l late w1 w2 ks vs (a.put o.dst v) b
 |_,_,_,_=>False
section
variable {X:Nat→Prop} {late:Nat→Bool} {l:List Oper} {w w1 w2:World} {k:Nat} {ks:List Nat} {vs:List Value} {a b:Act} {o:Oper} {v:Value}
theorem rat {N:Act→Prop} (h:∀w1 w2,Keep w w1→KeepBut X w w2→At P l late w1 w2 ks vs a b) (hN:PureList P l.toArray X late w N [] b):PureList P l.toArray X late w N ks a:=by
 induction ks generalizing vs a with
 |nil=>
  have:=h w w (KeepBut.refl _ _) (KeepBut.refl _ _)
  cases vs with
  |nil=>cases this;exact hN
  |cons v vs=>exact this.elim
 |cons k ks ih=>
  have h0:=h w w (KeepBut.refl _ _) (KeepBut.refl _ _)
  cases vs with
  |nil=>exact h0.elim
  |cons v vs=>
   obtain ⟨o,ho,hg,_⟩:=h0
   refine ⟨o,v,by simpa using ho,?_,ih (vs:=vs) (fun w1 w2 hk hk2=>?_)⟩
   ·refine hg.imp (fun hw=>⟨hw.1,fun w' hk=>?_⟩) id
    have key:∀w1 w2,Keep w w1→KeepBut X w w2→Yl P (if late k then w2 else w1) ((execOp a.eval o).run P (if late k then w2 else w1)) v:=fun w1 w2 hk hk2=>by
     obtain ⟨o',ho',hg',_⟩:=h w1 w2 hk hk2
     obtain rfl:o=o':=Option.some.inj (ho.symm.trans ho')
     rcases hg' with h'|h'
     ·exact h'.2
     ·rw [hw.1] at h';cases h'.1
    cases e:late k with
    |true=>have:=key w w' (KeepBut.refl _ _) (hk.mono fun _ _ h=>h.2);rw [e] at this;exact this
    |false=>have:=key w' w (early e hk) (KeepBut.refl _ _);rw [e] at this;exact this
   ·obtain ⟨o',ho',_,hr⟩:=h w1 w2 hk hk2
    obtain rfl:o=o':=Option.some.inj (ho.symm.trans ho')
    exact hr
theorem rn:At P l late w1 w2 [] [] a a:=rfl
theorem rv (h:At P l late w1 w2 ks vs (a.put o.dst v) b) (he:late k=false) (ho:l[k]?=some o) (hw:Region.wanted o (yielded l.toArray a.tmps)=true)
  (hv:(execOp a.eval o).run P w1= .ok (.value v) w1):At P l late w1 w2 (k::ks) (v::vs) a b:=
 ⟨o,ho, .inl ⟨hw,by rw [he];exact .inl ⟨w1,hv,KeepBut.refl _ _⟩⟩,h⟩
theorem rl (h:At P l late w1 w2 ks vs (a.put o.dst v) b) (he:late k=true) (ho:l[k]?=some o) (hw:Region.wanted o (yielded l.toArray a.tmps)=true)
  (hv:(execOp a.eval o).run P w2= .ok (.value v) w2):At P l late w1 w2 (k::ks) (v::vs) a b:=
 ⟨o,ho, .inl ⟨hw,by rw [he];exact .inl ⟨w2,hv,KeepBut.refl _ _⟩⟩,h⟩
theorem rs (h:At P l late w1 w2 ks vs (a.put o.dst undef) b) (ho:l[k]?=some o) (hw:Region.wanted o (yielded l.toArray a.tmps)=false):At P l late w1 w2 (k::ks) (undef::vs) a b:=
 ⟨o,ho, .inr ⟨hw,rfl⟩,h⟩
theorem rc {f:FuncId} {args:Array Value} (h:At P l late w1 w2 ks vs (a.put o.dst v) b) (he:late k=false) (ho:l[k]?=some o) (hw:Region.wanted o (yielded l.toArray a.tmps)=true)
  (hv:(execOp a.eval o).run P w1= .ok (.enter f args) w1)
  (hc:Calls P f args w1 fun e w''=>e= .returned v∧Below w1.heap.size w1 w''):At P l late w1 w2 (k::ks) (v::vs) a b:=
 ⟨o,ho, .inl ⟨hw,by rw [he];exact .inr (.inl ⟨f,args,w1,hv,hc.mono fun _ _ ⟨he,hb⟩=>⟨he,KeepBut.of_below' hb⟩⟩)⟩,h⟩
end
theorem pl_nil {w:World} {N:Act→Prop} {a:Act} (h:N a):PureList P ops X late w N [] a:=h
end
def Stored (w:World) (b:Nat) (c:Array Value) (t:TypeId) (w':World):Prop:=KeepBut (fun k=>k=b) w w'∧w'.heap[b]?=some (.cells c t (0,0))
theorem Stored.keep {w:World} {b:Nat} {c:Array Value} {t:TypeId} {A B:World} (h:Stored w b c t A) (hk:Keep A B):Stored w b c t B:=
 ⟨h.1.trans (hk.mono fun _ _ h=>h.elim),(hk.block b (block_lt h.2) id).trans h.2⟩
theorem stores_block {P:Program} {w:World} {a:Act} {o:Oper} (t:TypeId) (p x:Operand) (hop:o.op= .store t p x) {b:Nat} {c c':Array Value} {t':TypeId} (hp:a.eval p= .pointer (some ⟨b,0,none⟩)) (hx:a.eval x= .agg c')
  (hb:w.heap[b]?=some (.cells c t' (0,0))) (hi:(P.info? t).map (·.size)=some c'.size) (ho:c.size=c'.size) (h1:c'.all (·.oneCell')=true):Stores P (fun k=>k=b) w (execOp a.eval o) (Stored w b c' t'):=by
 intro w' hk
 have hb':=(hk.block b (block_lt hb) id).trans hb
 have hkb:KeepBut (fun k=>k=b) w (w'.setRow b c'):=(hk.mono fun _ _ h=>h.elim).trans ⟨rfl,rfl,rfl,by simp [World.setRow],fun k _ hne=>setRow_other w' b k c' hne⟩
 refine ⟨w'.setRow b c',?_,hkb,hkb,setRow_heap w' b _ c' _ _ hb'⟩
 have hl:=run_storeVar_row (P:=P) w' b t' t c c' hb' hi ho h1
 simp [execOp,hop,hp,hx,Instr.storeAt,Instr.sureAddr,hl,Result.andThen]
theorem stb {P:Program} {w:World} {a:Act} {o:Oper} {t t':TypeId} {p x:Operand} {b:Nat} {c c':Array Value} (hb:w.heap[b]?=some (.cells c t' (0,0))) (hop:o.op= .store t p x) (hp:a.eval p= .pointer (some ⟨b,0,none⟩)) (hx:a.eval x= .agg c') (hi:fits P t c c'=true):
  Stores P (fun k=>k=b) w (execOp a.eval o) (Stored w b c' t'):=
 have ⟨h1,h2,h3⟩:=fits_spec hi
 stores_block t p x hop hp hx hb h1 h2 h3
end Go.Proofs.YtnaokijcggbfdaaGreatDoor.RT
namespace Go.Proofs.YtnaokijcggbfdaaGreatDoor
open Go.RowKit Go.Shelf
attribute [local go_sem] Oper.semAt_some
abbrev bcells (l:List UInt8):List Value:=l.map fun b=>Value.int .u8 ((b.toNat:Nat):Int)
def OwnB (B:Nat) (w:World) (v:Value) (l:List UInt8):Prop:=(∃g cap,v= .slice (some ⟨g,0,none⟩) l.length cap)∧w.ownsRow B 5 1 v l.length (bcells l)
theorem ownB_new (w:World) {B:Nat} (hB:B≤w.heap.size):OwnB B (w.alloc (.cells #[] 5)) (.slice (some ⟨w.heap.size,0,none⟩) 0 0) []:=
 ⟨⟨_,_,rfl⟩,by simp, .inr ⟨_,0,#[],rfl,hB,World.alloc_heap_new _ _,by simp,by simp [maxLen],by simp,by simp⟩⟩
theorem ownB_cell {B:Nat} {w:World} {g n cap:Nat} {l:List UInt8} (h:OwnB B w (.slice (some ⟨g,0,none⟩) n cap) l) (j:Nat) (hj:j<l.length):w.cell? ((⟨g,0,none⟩:Addr).add j)=some (.int .u8 ((l[j].toNat:Nat):Int)):=by
 obtain ⟨_,_,h⟩:=h
 rcases h with ⟨h1,_⟩|⟨g',cap',cur,h1,_,h3,_,_,_,h7⟩
 ·cases h1
 ·injection h1 with h1 _ _
  injection h1 with h1
  injection h1 with h1
  subst h1
  rw [addr_add,cell_of_row _ _ j _ _ _ h3]
  have e:(cur.toList.take (l.length*1))[j]?=some (.int .u8 ((l[j].toNat:Nat):Int)):=by rw [h7];simp [bcells,hj]
  rw [List.getElem?_take,if_pos (by omega),Array.getElem?_toList] at e
  exact e
theorem ownB_conv {B:Nat} {w:World} {g n cap:Nat} {l:List UInt8} (h:OwnB B w (.slice (some ⟨g,0,none⟩) n cap) l):(convert 135 9 (.slice (some ⟨g,0,none⟩) n cap)).run Tryz.prog w= .ok (.string ⟨l.toArray⟩) w:=by
 obtain ⟨⟨g',cap',h1⟩,_⟩:=id h
 have hn:n=l.length:=by injection h1
 subst hn
 exact run_convert_bytes_back (P:=Tryz.prog) w 135 9 5 ⟨g,0,none⟩ cap l Tryz.underlying135 Tryz.underlying5 Tryz.underlying9 (fun j hj=>ownB_cell h j hj)
theorem ownB_keep {B:Nat} {A W:World} {v:Value} {l:List UInt8} {X:Nat→Prop} (h:OwnB B A v l) (hk:KeepBut X A W) (hX:∀g,B≤g→¬X g):OwnB B W v l:=⟨h.1,ownsRow_keep h.2 hk hX⟩
theorem append_byte {ops:Array Oper} {rest:List Oper} {o:Oper} {a:Act} {Q:Exit→Act→World→Prop} {w W:World} (hgd:o.guard=none) (s x:Operand)
  (ho:o.op= .call {callee:= .builtin .append,args:= #[s,x],argTypes:= #[135,135]}) {B:Nat} (hB:Below B W w) (hBW:B≤W.heap.size)
  {v:Value} {l:List UInt8} {p:UInt8} {g m c:Nat} (hs:a.eval s=v) (hown:OwnB B w v l) (hl:l.length≤1000) (hx:a.eval x= .slice (some ⟨g,0,none⟩) m c) (hm:m=1) (hg:w.heap[g]?=some (.cells #[.int .u8 ((p.toNat:Nat):Int)] 5 (0,0)))
  (h:∀g' c' w',OwnB B w' (.slice (some ⟨g',0,none⟩) (l.length+1) c') (l++ [p])→Below B W w'→(∀k,k<w.heap.size→k<B→w'.heap[k]?=w.heap[k]?)→w.heap.size≤w'.heap.size→wpList Tryz.prog ops Q rest (a.put o.dst (.slice (some ⟨g',0,none⟩) (l.length+1) c')) w'):wpList Tryz.prog ops Q (o::rest) a w:=by
 subst hm
 obtain ⟨i0,hi,hz0,hz1,hz2⟩:=info_parts infoB
 refine wpList_append_own _ hgd s x _ ho B 5 i0 _ 1 1 Tryz.underlying135 hi hz0 hz1 hz2 rfl (by decide) v _ _ hs hown.2 ⟨g,0,none⟩ 1 c (bcells [p]) hx rfl (news_of_block (c:= #[.int .u8 ((p.toNat:Nat):Int)]) hg) (by simp [bcells,Value.oneCell']) (Nat.le_trans (Nat.add_le_add_right hl 1) (by decide)) (Nat.le_trans (Nat.mul_le_mul_right 1 (Nat.add_le_add_right hl 1)) (by decide)) (Nat.le_trans hBW hB.size) ?_
 intro v2 w2 hown2 hgrow2 _
 have hlt:=hown.2.2
 have hk:∀k,some k=v.ownBlock→B≤k:=fun k e=>by
  rcases hlt with ⟨h1,_⟩|⟨g',cap,cur,h1,h2,_⟩
  ·rw [h1] at e;cases e
  ·rw [h1] at e
   obtain rfl:k=g':=by simpa [Value.ownBlock] using e
   exact h2
 have hkb:KeepBut (fun k=>B≤k) w w2:=(KeepBut.refl _ w).grown hgrow2 (fun k e=>hk k e.symm)
 rcases hown2.2 with ⟨h1,h2⟩|⟨g',c',cur,h1,h2,h3⟩
 ·omega
 ·subst h1
  refine h g' c' w2 ⟨⟨g',c',by rw [List.length_append];rfl⟩,?_⟩ (hB.trans (hkb.below (Nat.le_trans hBW hB.size) (fun _ h=>h))) (fun k hk1 hk2=>hkb.block k hk1 (by omega)) hgrow2.size
  have:=hown2
  rw [show bcells l++bcells [p]=bcells (l++ [p]) from by simp [bcells]] at this
  rw [List.length_append]
  exact this
theorem bits_or (a b:UInt8):bits .or .u8 (a.toNat:Int) (b.toNat:Int)=((a|||b).toNat:Int):=by
 show IntKind.u8.wrap ((BitVec.ofInt 8 (a.toNat:Int)|||BitVec.ofInt 8 (b.toNat:Int)).toNat:Int)=_
 rw [bv8,bv8,wrap8]
 rfl
theorem torn_bits (x y m:UInt8):(x&&&y)&&&m|||x&&& ~~~m=x&&& ~~~ (x&&& ~~~y&&&m):=by
 apply UInt8.eq_of_toBitVec_eq
 simp only [UInt8.toBitVec_or,UInt8.toBitVec_and,UInt8.toBitVec_not]
 generalize x.toBitVec=a
 generalize y.toBitVec=b
 generalize m.toBitVec=c
 ext i hi
 simp only [BitVec.getElem_or,BitVec.getElem_and,BitVec.getElem_not]
 cases a[i]<;>cases b[i]<;>cases c[i]<;>rfl
namespace Dw
theorem getD_take_succ (l:List UInt8) (k:Nat) (h:k<l.length):l.take (k+1)=l.take k++ [l.getD k 0]:=by
 rw [List.take_add_one,List.getElem?_eq_getElem h,List.getD_eq_getElem?_getD,List.getElem?_eq_getElem h]
 rfl
theorem tornB_at':∀(x y m:List UInt8) (k:Nat),k<x.length→(tornB x y m).getD k 0=((x.getD k 0&&&y.getD k 255)&&&m.getD k 0|||x.getD k 0&&& ~~~ m.getD k 0)
 | [],_,_,_,h=>absurd h (Nat.not_lt_zero _)
 |x::xs,y,m,0,_=>by rw [torn_bits];cases y<;>cases m<;>rfl
 |x::xs,y,m,k+1,h=>by
  have h':k<xs.length:=by simpa using h
  have ih:=tornB_at' xs y.tail m.tail k h'
  have e1:∀(l:List UInt8) d,l.tail.getD k d=l.getD (k+1) d:=by intro l d;cases l<;>rfl
  rw [e1,e1] at ih
  exact ih
end Dw
theorem rat_any (s:List UInt8) (_hs:s.length≤100000) (i:Nat) (b:UInt8) (B:Int) (hb:B=((b.toNat:Nat):Int)) (w:World):
  Calls Tryz.prog 225 #[.string ⟨s.toArray⟩, .int .i64 i, .int .u8 B] w fun e w'=>e= .returned (.int .u8 (((s.getD i b).toNat:Nat):Int))∧Below w.heap.size w w':=by
 subst hb
 by_cases h:i<s.length
 ·have h1:(i:Int)<(s.length:Int):=by omega
  have Hg:=Lib.hid (getD_other s i 0 b h)
  go_enter Tryz.func225,Tryz.ntmps225
  go_wp2_with fail
  go_ret
  exact ⟨by first|rfl|(rw [ba_get,Hg.out];rfl),Below.refl _ _⟩
 ·have h1:¬(i:Int)<(s.length:Int):=by omega
  have Hg:=Lib.hid (getD_past s i b h)
  go_enter Tryz.func225,Tryz.ntmps225
  go_wp2_with fail
  go_ret
  exact ⟨by first|rfl|(rw [Hg.out];rfl),Below.refl _ _⟩
theorem rand_any (x y:List UInt8) (hx:x.length≤400) (hy:y.length≤100000) (w:World):
  Calls Tryz.prog 227 #[.string ⟨x.toArray⟩, .string ⟨y.toArray⟩] w fun e w'=>e= .returned (.string ⟨(Dw.andB x y).toArray⟩)∧Below w.heap.size w w':=by
 have HL:=Lib.hid (Dw.andB_length x y)
 have HAT:=Lib.hid (Dw.andB_at x y)
 have hB0:=(Below.refl w.heap.size w).alloc (Nat.le_refl _) (.cells #[] 5)
 have hO0:=ownB_new w (Nat.le_refl _)
 generalize hD:Dw.andB x y=D at*
 clear hD
 go_enter Tryz.func227,Tryz.ntmps227
 go_wp2_with fail
 go_loopw [5,6] (fun v i wr=>∃k:Nat,k≤x.length∧i= .int .i64 k∧OwnB w.heap.size wr v (D.take k)∧Below w.heap.size w wr) (fun _ i _=>x.length-(intOf i).toNat)
 case atStart=>exact ⟨0,Nat.zero_le _,rfl,hO0,hB0⟩
 case round=>
  clear hO0 hB0
  obtain ⟨k,hk,rfl,hown,hB⟩:=hrel
  obtain ⟨⟨g,cap,hv⟩,_⟩:=id hown
  have hlen:(D.take k).length=k:=by rw [List.length_take,HL.out];omega
  rw [hlen] at hv
  subst hv
  have hBs:=hB.size
  by_cases hlt:k<x.length
  ·have h1:(k:Int)<(x.length:Int):=by omega
   have Htk:=Lib.hid (Dw.getD_take_succ D k (by rw [HL.out];exact hlt))
   have hb:=(bits_and (x.getD k 0) (y.getD k 255)).trans (congrArg (fun z:UInt8=>((z.toNat:Nat):Int)) (HAT.out k hlt).symm)
   have hry:=fun w=>rat_any y hy k 255 255 rfl w
   have hxk:=ba_get x k
   generalize D.take k=L at*
   generalize D.getD k 0=dk at*
   generalize x.getD k 0=xk at hb hxk
   generalize y.getD k 255=yk at hb hry
   have Hb:=Lib.hid hb;have HRY:=Lib.hid hry;have HX:=Lib.hid hxk;have Hlen:=Lib.hid hlen
   clear hb hry hxk hlen
   go_wp2_with fail
   refine wp_letter [0,1,2,3,4,5,6,7] 8 9 (NewRow wr #[.int .u8 ((dk.toNat:Nat):Int)] 5) rfl (by kernel_rfl) (by kernel_rfl) rfl (fun v A B h hk=>h.keep hk) ?_
   (apply rat;(focus (intro w' hk;repeat' (first|exact rn|((first|refine' rv ?_ rfl rfl (by go_simp;first|done|with_reducible rfl|exact rfl)|refine' rc ?_ (by exact rfl) (by exact rfl) (by go_simp;first|done|(constructor<;>with_reducible rfl)|with_reducible rfl) (by exact HRY.out w')|refine' rs ?_ rfl rfl);try simp only [Act.put,List.setIfInBounds_toArray,List.set_cons_zero,List.set_cons_succ])))))
   refine ⟨rfl,sure_row (fun w' _=>by go_simp;rw [HX.out,Hb.out]),?_⟩
   rintro v2 W2 hk2 ⟨b,rfl,hb,hbc⟩
   simp only [List.drop_succ_cons,List.drop_zero,List.setIfInBounds_toArray,List.size_toArray,List.length_cons,List.length_nil,Nat.zero_add]
   refine append_byte (by rfl) _ _ (by rfl) (hB.trans (hk2.whole.mono hB.size)) (Nat.le_refl _) (by rfl) (ownB_keep hown hk2 (fun _ _ h=>h.elim)) (by rw [Hlen.out];omega) (by rfl) rfl hbc ?_
   intro g' c' w3 hown3 hB3 _ _
   go_wp2_with fail
   go_roundw
   case rel=>exact ⟨k+1,by omega,by go_num,by rw [Htk.out];exact hown3,hB3⟩
   case measure=>simp [intOf];omega
  ·obtain rfl:k=x.length:=by omega
   have h1:¬(x.length:Int)<(x.length:Int):=by omega
   have kc:=ownB_conv hown
   rw [List.take_of_length_le (by rw [HL.out];exact Nat.le_refl _)] at kc
   go_wp2_with fail
   go_ret
   exact ⟨rfl,hB⟩
theorem rtorn_any (x y m:List UInt8) (hx:x.length≤400) (hy:y.length≤100000) (hm:m.length≤100000) (w:World):
  Calls Tryz.prog 213 #[.string ⟨x.toArray⟩, .string ⟨y.toArray⟩, .string ⟨m.toArray⟩] w fun e w'=>e= .returned (.string ⟨(Dw.tornB x y m).toArray⟩)∧Below w.heap.size w w':=by
 have HL:=Lib.hid (Dw.tornB_length x y m)
 have HAT:=Lib.hid (Dw.tornB_at' x y m)
 have hB0:=(Below.refl w.heap.size w).alloc (Nat.le_refl _) (.cells #[] 5)
 have hO0:=ownB_new w (Nat.le_refl _)
 generalize hD:Dw.tornB x y m=D at*
 clear hD
 go_enter Tryz.func213,Tryz.ntmps213
 go_wp2_with fail
 go_loopw [7,8] (fun v i wr=>∃k:Nat,k≤x.length∧i= .int .i64 k∧OwnB w.heap.size wr v (D.take k)∧Below w.heap.size w wr) (fun _ i _=>x.length-(intOf i).toNat)
 case atStart=>exact ⟨0,Nat.zero_le _,rfl,hO0,hB0⟩
 case round=>
  clear hO0 hB0
  obtain ⟨k,hk,rfl,hown,hB⟩:=hrel
  obtain ⟨⟨g,cap,hv⟩,_⟩:=id hown
  have hlen:(D.take k).length=k:=by rw [List.length_take,HL.out];omega
  rw [hlen] at hv
  subst hv
  have hBs:=hB.size
  by_cases hlt:k<x.length
  ·have h1:(k:Int)<(x.length:Int):=by omega
   have Htk:=Lib.hid (Dw.getD_take_succ D k (by rw [HL.out];exact hlt))
   have hat:=HAT.out k hlt
   have hry:=fun w=>rat_any y hy k 255 255 rfl w
   have hrm:=fun w=>rat_any m hm k 0 0 rfl w
   have hxk:=ba_get x k
   generalize D.take k=L at*
   generalize D.getD k 0=dk at*
   generalize x.getD k 0=xk at hat hxk
   generalize y.getD k 255=yk at hat hry
   generalize m.getD k 0=mk at hat hrm
   have Hat:=Lib.hid hat;have HRY:=Lib.hid hry;have HRM:=Lib.hid hrm;have HX:=Lib.hid hxk;have Hlen:=Lib.hid hlen
   clear hat hry hrm hxk hlen
   go_wp2_with fail
   refine wp_pure [0,1,2,3,4,5,6] 7 (by kernel_rfl) (by kernel_rfl) rfl ?_
   (apply rat;(focus (intro w' hk;repeat' (first|exact rn|((first|refine' rv ?_ rfl rfl (by go_simp;first|done|with_reducible rfl|exact rfl)|refine' rc ?_ (by exact rfl) (by exact rfl) (by go_simp;first|done|(constructor<;>with_reducible rfl)|with_reducible rfl) (by exact HRY.out w')|refine' rs ?_ rfl rfl);try simp only [Act.put,List.setIfInBounds_toArray,List.set_cons_zero,List.set_cons_succ])))))
   intro w2 hk2
   simp only [List.drop_succ_cons,List.drop_zero]
   have hown2:=ownB_keep hown hk2 (fun _ _ h=>h.elim)
   have hB2:=hB.trans (hk2.whole.mono hB.size)
   clear hown hB hk2
   go_wp2_with fail
   refine cb (HRM.out _) fun w3 hb=>?_
   have hown3:=ownB_keep hown2 (keepB hb) (fun _ _ h=>h.elim)
   have hB3:=tr hB2 hb
   clear hown2 hB2 hb
   have hz3:=hB3.size
   have hB4:=hB3.alloc hB3.size (.cells #[.int .u8 ((dk.toNat:Nat):Int)] 5)
   have hown4:=ownB_keep hown3 ((KeepBut.refl (fun _=>False) w3).alloc (.cells #[.int .u8 ((dk.toNat:Nat):Int)] 5)) (fun _ _ h=>h)
   have hbc:=han w3 (.cells #[.int .u8 ((dk.toNat:Nat):Int)] 5)
   have hbit:bits BinOp.or IntKind.u8 (bits BinOp.and IntKind.u8 (bits BinOp.and IntKind.u8 ((xk.toNat:Nat):Int) ((yk.toNat:Nat):Int)) ((mk.toNat:Nat):Int)) (bits BinOp.andNot IntKind.u8 ((xk.toNat:Nat):Int) ((mk.toNat:Nat):Int))=((dk.toNat:Nat):Int):=by
    rw [bits_and,bits_and,bits_andNot,bits_or,Hat.out]
   have Hbit:=Lib.hid hbit
   clear hbit
   go_wp2_with (at_builtin;rw [HX.out,Hbit.out];refine append_byte (by rfl) _ _ (by rfl) hB4 (Nat.le_refl _) (by rfl) hown4 (by rw [Hlen.out];omega) (by rfl) rfl hbc ?_;intro g' c' w5 hown5 hB5 _ _)
   go_wp2_with fail
   go_roundw
   case rel=>exact ⟨k+1,by omega,by go_num,by rw [Htk.out];exact hown5,hB5⟩
   case measure=>simp [intOf];omega
  ·obtain rfl:k=x.length:=by omega
   have h1:¬(x.length:Int)<(x.length:Int):=by omega
   have kc:=ownB_conv hown
   rw [List.take_of_length_le (by rw [HL.out];exact Nat.le_refl _)] at kc
   go_wp2_with fail
   go_ret
   exact ⟨rfl,hB⟩
end Go.Proofs.YtnaokijcggbfdaaGreatDoor
