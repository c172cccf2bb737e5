/- What the statement's proof stands on, part 26: RegionU, RPut, RPut3, RSt, RBody. -/
import Derived.Test.YtnaokijcggbfdaaGreatDoorBm22
import Derived.Test.YtnaokijcggbfdaaGreatDoorBm25
import Derived.Test.YtnaokijcggbfdaaGreatDoorBm9
import Derived.Test.YtnaokijcggbfdaaGreatDoorBm8
set_option linter.unusedSimpArgs false
set_option linter.unusedVariables false
set_option maxRecDepth 100000
set_option maxHeartbeats 4000000
namespace Go.Proofs.YtnaokijcggbfdaaGreatDoor.RT
open Go.RowKit
section
variable {P:Program} {ops:Array Oper} {Q:Exit→Act→World→Prop} {X:Nat→Prop} {late:Nat→Bool}
theorem PureList.rebase {w w2:World} {N:Act→Prop} (hk:Keep w w2):∀ {ks:List Nat} {a:Act},PureList P ops X late w N ks a→PureList P ops X late w2 N ks a
 | [],_,h=>h
 |k::ks,a,⟨o,v,ho,hg,hr⟩=>by
  refine ⟨o,v,ho,?_,PureList.rebase hk hr⟩
  unfold Gets at hg ⊢
  exact hg.imp (fun h=>⟨h.1,fun w' hk'=>h.2 w' ((hk.mono fun _ _ h=>h.elim).trans hk')⟩) id
theorem letter2_sound {R:Exit→Act→World→Prop} {T:Array Nat} {ks ts:List Nat} {l1 l:Nat} (ok:RegionOk ops late T (ks++ [l1]) [l] ts) (hbl:behind T l l1=true) {w:World} (G:Value→World→Prop)
  {F:Value→World→World→Prop} (hF:∀v w2 A B,F v w2 A→Keep A B→F v w2 B) (fuel:Nat) {ol1 ol:Oper} (hol1:ops[l1]?=some ol1) (hol:ops[l]?=some ol):
  ∀(m:Nat) (rest:List Nat) (listed:Array Bool) (a:Act) (w1:World),rest.length=m→Keep w w1→Todo ops T ((ks++ [l1])++ [l]) ((rest++ [l1])++ [l]) listed→(∀k∈rest,k∈ks)→pairsOk ops T (rest++ [l1])=true→
   PureList P ops X late w (fun a'=>Region.wanted ol1 (yielded ops a'.tmps)=true∧SureSome P w (execOp a'.eval ol1) G∧∀v w2,Keep w w2→G v w2→
    (Region.wanted ol (yielded ops (a'.put ol1.dst v).tmps)=true∧Stores P X w2 (execOp (a'.put ol1.dst v).eval ol) (F v w2)∧∀w',F v w2 w'→wpAny P .any ops R fuel (allListed ops ((ks++ [l1])++ [l])) ((a'.put ol1.dst v).put ol.dst undef) w')) rest a→
   wpAny P .any ops R (m+1+1+fuel) listed a w1:=by
 intro m
 induction m using Nat.strongRecOn with
 |_ m ih=>
  intro rest listed a w1 hm hk ht hsub hp h
  obtain ⟨hr,hall⟩:=ht.ready ok.base (by simp)
  rw [show m+1+1+fuel=(m+1+fuel)+1 from by omega]
  refine ⟨fun e=>absurd e hr,fun i hi=>?_⟩
  have hir:=hall i hi
  have hnx:=ht.next hi hir
  obtain ⟨h0,hlt,hdeps⟩:=mem_ready'.1 hi
  have hnd:=ht.nodup
  have notBehind:∀k,k∈(rest++ [l1])++ [l]→behind T i k=false:=fun k hk'=>by
   cases hb:behind T i k
   ·rfl
   ·have:=behind_listed ok.base.table ok.base.lt ht.closed i k hlt hdeps hb
    have hkl:=(ok.base.inside k (ht.sub k hk')).1
    rw [getD_any (by rw [ht.size];exact hkl) false true,ht.iff k hkl] at this
    have hc:((rest++ [l1])++ [l]).contains k=true:=by simpa using hk'
    rw [hc] at this;simp at this
  have hnd1:=(List.nodup_append.1 hnd).1
  have hlr:l ∉ rest++ [l1]:=fun hl=>by
   have:=(List.nodup_append.1 hnd).2.2 l hl l (by simp);exact this rfl
  have hlr1:l1 ∉ rest:=fun hl=>by
   have:=(List.nodup_append.1 hnd1).2.2 l1 hl l1 (by simp);exact this rfl
  have hil:i≠l:=by
   rintro rfl
   rw [notBehind l1 (by simp)] at hbl
   cases hbl
  by_cases hi1:i=l1
  ·subst hi1
   have hap:∀k∈rest,apartAt ops i k=true:=fun k hk'=>(pairsOk_spec (l2:= []) hp k hk').resolve_right fun hb=>by rw [notBehind k (by simp [hk'])] at hb;cases hb
   have hp':pairsOk ops T rest=true:=by have:=pairsOk_erase (i:=i) hp;rwa [List.erase_append_right _ hlr1,show [i].erase i= [] from by simp,List.append_nil] at this
   rw [List.erase_append_left _ (by simp),List.erase_append_right _ hlr1,show [i].erase i= [] from by simp,List.append_nil] at hnx
   obtain ⟨a',⟨hw,hs,_⟩,he,hw'⟩:=PureList.seen ok.base.sel hol1 hap h
   unfold wpOp
   simp only [hol1]
   rw [if_pos (by rw [←hw'];exact hw)]
   rw [he] at hs
   refine .inl ((hs w1 hk).wp fun v w'' hk'' hG''=>?_)
   have hkw:=hk.trans hk''
   refine letter_sound (X:=X) ok (w:=w'') (F:=F v w'') (fun A B hf hk=>hF v w'' A B hf hk) fuel hol m rest _ _ _ hm (KeepBut.refl _ _) hnx (fun k hk'=>by simp [hsub k hk']) hp' ?_
   refine PureList.mono ?_ (PureList.putIn ok.base.sel hol1 v hap (PureList.rebase hkw h))
   rintro a'' ⟨a',⟨_,_,hN⟩,rfl⟩
   exact hN v w'' hkw hG''
  ·have hir':i∈rest:=by simpa [hil,hi1] using hir
   obtain ⟨r1,r2,rfl⟩:=List.append_of_mem hir'
   have hnd2:=(List.nodup_append.1 hnd1).1
   rw [List.erase_append_left _ (by simp),List.erase_append_left _ hir',erase_mid hnd2] at hnx
   have hp':pairsOk ops T ((r1++r2)++ [l1])=true:=by have:=pairsOk_erase (i:=i) hp;rwa [List.erase_append_left _ hir',erase_mid hnd2] at this
   have hap:∀k∈r1,apartAt ops i k=true:=fun k hk'=>(pairsOk_spec (l2:=r2++ [l1]) (by simpa using hp) k hk').resolve_right fun hb=>by rw [notBehind k (by simp [hk'])] at hb;cases hb
   obtain ⟨o,v,ho,hg,hrest⟩:=PureList.first ok.base.sel hap h
   have hlen:(r1++r2).length+1=m:=by simp at hm ⊢;omega
   have hsub':∀k∈r1++r2,k∈ks:=fun k hk'=>hsub k (by simp at hk' ⊢;exact hk'.imp id .inr)
   rw [show m+1+fuel=(r1++r2).length+1+1+fuel from by omega]
   unfold wpOp
   simp only [ho]
   rcases hg with ⟨hw,hs⟩|⟨hw,rfl⟩
   ·rw [if_pos hw]
    exact .inl ((hs w1 (hk.mono fun _ _ h=>h.elim)).wp fun w'' hk''=>ih _ (by omega) _ _ _ _ rfl (hk.trans hk'') hnx hsub' hp' hrest)
   ·rw [if_neg (by simp [hw])]
    exact ih _ (by omega) _ _ _ _ rfl hk hnx hsub' hp' hrest
theorem Stores.mono {X X':Nat→Prop} {w:World} {s:Sem Next} {F F':World→Prop} (hX:∀k,X k→X' k) (hF:∀w',F w'→F' w') (h:Stores P X w s F):Stores P X' w s F':=fun w' hk=>by
 obtain ⟨w'',h1,h2,h3⟩:=h w' hk
 exact ⟨w'',h1,h2.mono (fun _ _ h=>hX _ h),hF _ h3⟩
theorem wp_letter2 {R:Exit→Act→World→Prop} {id:Nat} {a:Act} {w:World} (X:Nat→Prop) (late:Nat→Bool) (ks:List Nat) (l1 l k:Nat) (d1 d:Option Tmp) (G:Value→World→Prop) (F:Value→World→World→Prop) {ol1 ol:Oper} (hol1:ops[l1]?=some ol1) (hd1:ol1.dst=d1) (hol:ops[l]?=some ol) (hd:ol.dst=d)
  (hm:P.follows .mixedOrders=true) (hok:regionOk ops late (Region.before ops) (ks++ [l1]) [l] (List.range' k (ops.size-k))=true) (hbl:behind (Region.before ops) l l1=true) (hsz:ops.size=ks.length+1+1+(ops.size-k))
  (hF:∀v w2 A B,F v w2 A→Keep A B→F v w2 B)
  (h:PureList P ops X late w (fun a'=>Region.wanted ol1 (yielded ops a'.tmps)=true∧SureSome P w (execOp a'.eval ol1) G∧∀v w2,Keep w w2→G v w2→
    (Region.wanted ol (yielded ops (a'.put d1 v).tmps)=true∧Stores P X w2 (execOp (a'.put d1 v).eval ol) (F v w2)∧∀w',F v w2 w'→wpList P ops R (ops.toList.drop k) ((a'.put d1 v).put d undef) w')) ks a):(Code.region id ops true).wp P R a w:=by
 subst hd1 hd
 have ok:=regionOk_spec hok
 refine wp_region_any hm ?_
 rw [hsz]
 have st:=Todo.start ok.base
 refine letter2_sound (X:=X) (late:=late) (w:=w) ok hbl G hF (ops.size-k) hol1 hol ks.length ks _ a _ rfl ⟨rfl,rfl,rfl,Nat.le_refl _,fun _ _ _=>rfl⟩ (by rw [hsz] at st;exact st) (fun _ h=>h) ok.base.pairs ?_
 refine PureList.mono (fun a' ⟨hw,hs,hN⟩=>⟨hw,hs,fun v w2 hk hg=>?_⟩) h
 obtain ⟨h1,h2,h3⟩:=hN v w2 hk hg
 exact ⟨h1,h2,fun w' hf=>by
  have:=tail_sound ok.base.tail ⟨ops.toList.drop k,range_drop k,h3 w' hf⟩
  rw [List.length_range'] at this
  exact this⟩
end
end Go.Proofs.YtnaokijcggbfdaaGreatDoor.RT
namespace Go.Proofs.YtnaokijcggbfdaaGreatDoor
open Go.RowKit Go.Shelf
attribute [local go_sem] Oper.semAt_some
theorem rat5_any (n:Nat) (hn:n≤12) (w:World):
  Calls Tryz.prog 210 #[.int .i64 n] w fun e w'=>e= .returned (.int .i64 ((24*n+0:Nat):Int))∧Below w.heap.size w w':=by
 have i1:¬(n:Int)<0:=by omega
 have i2:¬(12:Int)<(n:Int):=by omega
 have i3:IntKind.i64.wrap (24*(n:Int))=24*(n:Int):=IntWalk.i64_in _ (by omega)
 go_enter Tryz.func210,Tryz.ntmps210
 go_wp2_with fail
 go_ret
 exact ⟨ret_int (by omega),Below.refl _ _⟩
theorem rmark5_any (n:Nat) (hn:n≤12) (w:World):
  Calls Tryz.prog 212 #[.int .i64 n] w fun e w'=>e= .returned (.int .i64 ((24*n+22:Nat):Int))∧Below w.heap.size w w':=by
 have i1:¬(n:Int)<0:=by omega
 have i2:¬(12:Int)<(n:Int):=by omega
 have i3:IntKind.i64.wrap (24*(n:Int))=24*(n:Int):=IntWalk.i64_in _ (by omega)
 have i4:IntKind.i64.wrap (24*(n:Int)+22)=24*(n:Int)+22:=IntWalk.i64_in _ (by omega)
 go_enter Tryz.func212,Tryz.ntmps212
 go_wp2_with fail
 go_ret
 exact ⟨ret_int (by omega),Below.refl _ _⟩
theorem rput_any (n:Nat) (hn:n<18446744073709551616) (w:World):
  Calls Tryz.prog 128 #[.int .u64 n, .int .i64 8] w fun e w'=>e= .returned (.string ⟨(Dw.put 8 n).toArray⟩)∧Below w.heap.size w w':=by
 have HL:=Lib.hid (Dw.put_length 8 n)
 have HG:=Lib.hid (show ∀k,k<8→(((Dw.put 8 n).getD k 0).toNat:Int)=((n/256^(7-k)%256:Nat):Int) from fun k hk=>by
  have hk':k<(Dw.put 8 n).length:=by rw [Dw.put_length];exact hk
  rw [List.getD_eq_getElem?_getD,List.getElem?_eq_getElem hk',Option.getD_some,Dw.put_at])
 have hB0:=(Below.refl w.heap.size w).alloc (Nat.le_refl _) (.cells #[] 5)
 have hO0:=ownB_new w (Nat.le_refl _)
 generalize hD:Dw.put 8 n=D at*
 clear hD
 have hmx:max (0:Int) 8=8:=by decide
 go_enter Tryz.func128,Tryz.ntmps128
 go_wp2_with fail
 go_loopw [5,6] (fun v i wr=>∃k:Nat,k≤8∧i= .int .i64 (7-(k:Int))∧OwnB w.heap.size wr v (D.take k)∧Below w.heap.size w wr) (fun _ i _=>(intOf i+1).toNat)
 case atStart=>exact ⟨0,Nat.zero_le _,rfl,hO0,hB0⟩
 case round=>
  clear hO0 hB0
  obtain ⟨k,hk,rfl,hown,hB⟩:=hrel
  obtain ⟨⟨g,cap,hv⟩,_⟩:=id hown
  have hlen:(D.take k).length=k:=by rw [List.length_take,HL.out];omega
  rw [hlen] at hv
  subst hv
  have hBs:=hB.size
  by_cases hlt:k<8
  ·have Htk:=Lib.hid (Dw.getD_take_succ D k (by rw [HL.out];exact hlt))
   have hg:=HG.out k hlt
   generalize D.take k=L at*
   generalize D.getD k 0=dk at*
   have hB4:=hB.alloc hB.size (.cells #[.int .u8 ((dk.toNat:Nat):Int)] 5)
   have hown4:=ownB_keep hown ((KeepBut.refl (fun _=>False) wr).alloc (.cells #[.int .u8 ((dk.toNat:Nat):Int)] 5)) (fun _ _ h=>h)
   have hbc:=han wr (.cells #[.int .u8 ((dk.toNat:Nat):Int)] 5)
   have HB4:=Lib.hid hB4;have HO4:=Lib.hid hown4;have HBC:=Lib.hid hbc;have Hlen:=Lib.hid hlen
   clear hB4 hown4 hbc hown hB hlen
   rcases (by omega:k=0∨k=1∨k=2∨k=3∨k=4∨k=5∨k=6∨k=7) with rfl|rfl|rfl|rfl|rfl|rfl|rfl|rfl
   ·rw [show (7-(((0:Nat)):Int))=7 from rfl]
    rw [show 256^(7-0)=72057594037927936 from rfl] at hg
    have hbyte:(n:Int)/72057594037927936=((dk.toNat:Nat):Int):=by rw [hg];omega
    have Hbyte:=Lib.hid hbyte
    clear hbyte hg
    go_wp2_with (at_builtin;rw [Hbyte.out];refine append_byte (p:=dk) (by rfl) _ _ (by rfl) HB4.out (Nat.le_refl _) (by rfl) HO4.out (by rw [Hlen.out];decide) (by rfl) rfl HBC.out ?_;intro g' c' w5 hown5 hB5 _ _)
    go_wp2_with fail
    go_roundw
    case rel=>exact ⟨1,by decide,by rfl,by rw [Htk.out];exact hown5,hB5⟩
    case measure=>first|done|(simp [intOf];done)|(simp [intOf];omega)
   ·rw [show (7-(((1:Nat)):Int))=6 from rfl]
    rw [show 256^(7-1)=281474976710656 from rfl] at hg
    have hbyte:(n:Int)/281474976710656%256=((dk.toNat:Nat):Int):=by rw [hg];omega
    have Hbyte:=Lib.hid hbyte
    clear hbyte hg
    go_wp2_with (at_builtin;rw [Hbyte.out];refine append_byte (p:=dk) (by rfl) _ _ (by rfl) HB4.out (Nat.le_refl _) (by rfl) HO4.out (by rw [Hlen.out];decide) (by rfl) rfl HBC.out ?_;intro g' c' w5 hown5 hB5 _ _)
    go_wp2_with fail
    go_roundw
    case rel=>exact ⟨2,by decide,by rfl,by rw [Htk.out];exact hown5,hB5⟩
    case measure=>first|done|(simp [intOf];done)|(simp [intOf];omega)
   ·rw [show (7-(((2:Nat)):Int))=5 from rfl]
    rw [show 256^(7-2)=1099511627776 from rfl] at hg
    have hbyte:(n:Int)/1099511627776%256=((dk.toNat:Nat):Int):=by rw [hg];omega
    have Hbyte:=Lib.hid hbyte
    clear hbyte hg
    go_wp2_with (at_builtin;rw [Hbyte.out];refine append_byte (p:=dk) (by rfl) _ _ (by rfl) HB4.out (Nat.le_refl _) (by rfl) HO4.out (by rw [Hlen.out];decide) (by rfl) rfl HBC.out ?_;intro g' c' w5 hown5 hB5 _ _)
    go_wp2_with fail
    go_roundw
    case rel=>exact ⟨3,by decide,by rfl,by rw [Htk.out];exact hown5,hB5⟩
    case measure=>first|done|(simp [intOf];done)|(simp [intOf];omega)
   ·rw [show (7-(((3:Nat)):Int))=4 from rfl]
    rw [show 256^(7-3)=4294967296 from rfl] at hg
    have hbyte:(n:Int)/4294967296%256=((dk.toNat:Nat):Int):=by rw [hg];omega
    have Hbyte:=Lib.hid hbyte
    clear hbyte hg
    go_wp2_with (at_builtin;rw [Hbyte.out];refine append_byte (p:=dk) (by rfl) _ _ (by rfl) HB4.out (Nat.le_refl _) (by rfl) HO4.out (by rw [Hlen.out];decide) (by rfl) rfl HBC.out ?_;intro g' c' w5 hown5 hB5 _ _)
    go_wp2_with fail
    go_roundw
    case rel=>exact ⟨4,by decide,by rfl,by rw [Htk.out];exact hown5,hB5⟩
    case measure=>first|done|(simp [intOf];done)|(simp [intOf];omega)
   ·rw [show (7-(((4:Nat)):Int))=3 from rfl]
    rw [show 256^(7-4)=16777216 from rfl] at hg
    have hbyte:(n:Int)/16777216%256=((dk.toNat:Nat):Int):=by rw [hg];omega
    have Hbyte:=Lib.hid hbyte
    clear hbyte hg
    go_wp2_with (at_builtin;rw [Hbyte.out];refine append_byte (p:=dk) (by rfl) _ _ (by rfl) HB4.out (Nat.le_refl _) (by rfl) HO4.out (by rw [Hlen.out];decide) (by rfl) rfl HBC.out ?_;intro g' c' w5 hown5 hB5 _ _)
    go_wp2_with fail
    go_roundw
    case rel=>exact ⟨5,by decide,by rfl,by rw [Htk.out];exact hown5,hB5⟩
    case measure=>first|done|(simp [intOf];done)|(simp [intOf];omega)
   ·rw [show (7-(((5:Nat)):Int))=2 from rfl]
    rw [show 256^(7-5)=65536 from rfl] at hg
    have hbyte:(n:Int)/65536%256=((dk.toNat:Nat):Int):=by rw [hg];omega
    have Hbyte:=Lib.hid hbyte
    clear hbyte hg
    go_wp2_with (at_builtin;rw [Hbyte.out];refine append_byte (p:=dk) (by rfl) _ _ (by rfl) HB4.out (Nat.le_refl _) (by rfl) HO4.out (by rw [Hlen.out];decide) (by rfl) rfl HBC.out ?_;intro g' c' w5 hown5 hB5 _ _)
    go_wp2_with fail
    go_roundw
    case rel=>exact ⟨6,by decide,by rfl,by rw [Htk.out];exact hown5,hB5⟩
    case measure=>first|done|(simp [intOf];done)|(simp [intOf];omega)
   ·rw [show (7-(((6:Nat)):Int))=1 from rfl]
    rw [show 256^(7-6)=256 from rfl] at hg
    have hbyte:(n:Int)/256%256=((dk.toNat:Nat):Int):=by rw [hg];omega
    have Hbyte:=Lib.hid hbyte
    clear hbyte hg
    go_wp2_with (at_builtin;rw [Hbyte.out];refine append_byte (p:=dk) (by rfl) _ _ (by rfl) HB4.out (Nat.le_refl _) (by rfl) HO4.out (by rw [Hlen.out];decide) (by rfl) rfl HBC.out ?_;intro g' c' w5 hown5 hB5 _ _)
    go_wp2_with fail
    go_roundw
    case rel=>exact ⟨7,by decide,by rfl,by rw [Htk.out];exact hown5,hB5⟩
    case measure=>first|done|(simp [intOf];done)|(simp [intOf];omega)
   ·rw [show (7-(((7:Nat)):Int))=0 from rfl]
    rw [show 256^(7-7)=1 from rfl] at hg
    have hbyte:(n:Int)%256=((dk.toNat:Nat):Int):=by rw [hg];omega
    have Hbyte:=Lib.hid hbyte
    clear hbyte hg
    go_wp2_with (at_builtin;rw [Hbyte.out];refine append_byte (p:=dk) (by rfl) _ _ (by rfl) HB4.out (Nat.le_refl _) (by rfl) HO4.out (by rw [Hlen.out];decide) (by rfl) rfl HBC.out ?_;intro g' c' w5 hown5 hB5 _ _)
    go_wp2_with fail
    go_roundw
    case rel=>exact ⟨8,by decide,by rfl,by rw [Htk.out];exact hown5,hB5⟩
    case measure=>first|done|(simp [intOf];done)|(simp [intOf];omega)
  ·obtain rfl:k=8:=by omega
   have kc:=ownB_conv hown
   rw [List.take_of_length_le (by rw [HL.out];exact Nat.le_refl _)] at kc
   go_wp2_with fail
   go_ret
   exact ⟨rfl,hB⟩
theorem rput3_any (n:Nat) (_:n<18446744073709551616) (w:World):
  Calls Tryz.prog 128 #[.int .u64 n, .int .i64 3] w fun e w'=>e= .returned (.string ⟨(Dw.put 3 n).toArray⟩)∧Below w.heap.size w w':=by
 have HL:=Lib.hid (Dw.put_length 3 n)
 have HG:=Lib.hid (show ∀k,k<3→(((Dw.put 3 n).getD k 0).toNat:Int)=((n/256^(2-k)%256:Nat):Int) from fun k hk=>by
  have hk':k<(Dw.put 3 n).length:=by rw [Dw.put_length];exact hk
  rw [List.getD_eq_getElem?_getD,List.getElem?_eq_getElem hk',Option.getD_some,Dw.put_at])
 have hB0:=(Below.refl w.heap.size w).alloc (Nat.le_refl _) (.cells #[] 5)
 have hO0:=ownB_new w (Nat.le_refl _)
 generalize hD:Dw.put 3 n=D at*
 clear hD
 have hmx:max (0:Int) 3=3:=by decide
 have hmn:min (3:Int) 8=3:=by decide
 go_enter Tryz.func128,Tryz.ntmps128
 go_wp2_with fail
 go_loopw [5,6] (fun v i wr=>∃k:Nat,k≤3∧i= .int .i64 (2-(k:Int))∧OwnB w.heap.size wr v (D.take k)∧Below w.heap.size w wr) (fun _ i _=>(intOf i+1).toNat)
 case atStart=>exact ⟨0,Nat.zero_le _,rfl,hO0,hB0⟩
 case round=>
  clear hO0 hB0
  obtain ⟨k,hk,rfl,hown,hB⟩:=hrel
  obtain ⟨⟨g,cap,hv⟩,_⟩:=id hown
  have hlen:(D.take k).length=k:=by rw [List.length_take,HL.out];omega
  rw [hlen] at hv
  subst hv
  have hBs:=hB.size
  by_cases hlt:k<3
  ·have Htk:=Lib.hid (Dw.getD_take_succ D k (by rw [HL.out];exact hlt))
   have hg:=HG.out k hlt
   generalize D.take k=L at*
   generalize D.getD k 0=dk at*
   have hB4:=hB.alloc hB.size (.cells #[.int .u8 ((dk.toNat:Nat):Int)] 5)
   have hown4:=ownB_keep hown ((KeepBut.refl (fun _=>False) wr).alloc (.cells #[.int .u8 ((dk.toNat:Nat):Int)] 5)) (fun _ _ h=>h)
   have hbc:=han wr (.cells #[.int .u8 ((dk.toNat:Nat):Int)] 5)
   have HB4:=Lib.hid hB4;have HO4:=Lib.hid hown4;have HBC:=Lib.hid hbc;have Hlen:=Lib.hid hlen
   clear hB4 hown4 hbc hown hB hlen
   rcases (by omega:k=0∨k=1∨k=2) with rfl|rfl|rfl
   ·rw [show (2-(((0:Nat)):Int))=2 from rfl]
    rw [show 256^(2-0)=65536 from rfl] at hg
    have hbyte:(n:Int)/65536%256=((dk.toNat:Nat):Int):=by rw [hg];omega
    have Hbyte:=Lib.hid hbyte
    clear hbyte hg
    go_wp2_with (at_builtin;rw [Hbyte.out];refine append_byte (p:=dk) (by rfl) _ _ (by rfl) HB4.out (Nat.le_refl _) (by rfl) HO4.out (by rw [Hlen.out];decide) (by rfl) rfl HBC.out ?_;intro g' c' w5 hown5 hB5 _ _)
    go_wp2_with fail
    go_roundw
    case rel=>exact ⟨1,by decide,by rfl,by rw [Htk.out];exact hown5,hB5⟩
    case measure=>first|done|(simp [intOf];done)|(simp [intOf];omega)
   ·rw [show (2-(((1:Nat)):Int))=1 from rfl]
    rw [show 256^(2-1)=256 from rfl] at hg
    have hbyte:(n:Int)/256%256=((dk.toNat:Nat):Int):=by rw [hg];omega
    have Hbyte:=Lib.hid hbyte
    clear hbyte hg
    go_wp2_with (at_builtin;rw [Hbyte.out];refine append_byte (p:=dk) (by rfl) _ _ (by rfl) HB4.out (Nat.le_refl _) (by rfl) HO4.out (by rw [Hlen.out];decide) (by rfl) rfl HBC.out ?_;intro g' c' w5 hown5 hB5 _ _)
    go_wp2_with fail
    go_roundw
    case rel=>exact ⟨2,by decide,by rfl,by rw [Htk.out];exact hown5,hB5⟩
    case measure=>first|done|(simp [intOf];done)|(simp [intOf];omega)
   ·rw [show (2-(((2:Nat)):Int))=0 from rfl]
    rw [show 256^(2-2)=1 from rfl] at hg
    have hbyte:(n:Int)%256=((dk.toNat:Nat):Int):=by rw [hg];omega
    have Hbyte:=Lib.hid hbyte
    clear hbyte hg
    go_wp2_with (at_builtin;rw [Hbyte.out];refine append_byte (p:=dk) (by rfl) _ _ (by rfl) HB4.out (Nat.le_refl _) (by rfl) HO4.out (by rw [Hlen.out];decide) (by rfl) rfl HBC.out ?_;intro g' c' w5 hown5 hB5 _ _)
    go_wp2_with fail
    go_roundw
    case rel=>exact ⟨3,by decide,by rfl,by rw [Htk.out];exact hown5,hB5⟩
    case measure=>first|done|(simp [intOf];done)|(simp [intOf];omega)
  ·obtain rfl:k=3:=by omega
   have kc:=ownB_conv hown
   rw [List.take_of_length_le (by rw [HL.out];exact Nat.le_refl _)] at kc
   go_wp2_with fail
   go_ret
   exact ⟨rfl,hB⟩
theorem rlegal_any (s:Dw.St) (w:World):
  Calls Tryz.prog 37 #[stV s] w fun e w'=>e= .returned (.bool (Dw.legal s))∧Below w.heap.size w w':=by
 have hB0:=(Below.refl w.heap.size w).alloc (Nat.le_refl _) (.cells (stC s) 42)
 have hC0:=han w (.cells (stC s) 42)
 obtain ⟨mo,ar,ho,la,lo,iso⟩:=s
 obtain ⟨c0,c1,c2,c3,c4,c5⟩:=cells6 hC0
 have HB:=Lib.hid hB0
 clear hC0 hB0
 cases ho
 ·have HLE:=Lib.hid (show ∀la,Dw.legal ⟨mo,ar,false,la,lo,iso⟩=decide ((0≤mo∧mo≤5∧0≤iso∧iso≤15)∧(-737280≤la∧la≤737280∧ -1474560≤lo∧lo≤1474560)∧(la=0∧lo=0)) from fun la=>by
   rw [Bool.eq_iff_iff,Dw.legal_iff,decide_eq_true_eq];simp)
  go_enter Tryz.func37,Tryz.ntmps37
  go_wp2_with fail
  all_goals
   go_ret
   refine ⟨?_,(Below.refl w.heap.size w).alloc (Nat.le_refl _) _⟩
   rw [HLE.out]
   first|exact ret_bool (decide_eq_true (by omega)).symm|exact ret_bool (decide_eq_false (by omega)).symm|exact ret_bool (show (lo==0)=_ from by rw [Bool.eq_iff_iff];simp;omega)
 ·have HLE:=Lib.hid (show Dw.legal ⟨mo,ar,true,la,lo,iso⟩=decide ((0≤mo∧mo≤5∧0≤iso∧iso≤15)∧(-737280≤la∧la≤737280∧ -1474560≤lo∧lo≤1474560)) from by
   rw [Bool.eq_iff_iff,Dw.legal_iff,decide_eq_true_eq];simp)
  go_enter Tryz.func37,Tryz.ntmps37
  go_wp2_with fail
  all_goals
   go_ret
   refine ⟨?_,(Below.refl w.heap.size w).alloc (Nat.le_refl _) _⟩
   rw [HLE.out]
   first|exact ret_bool (decide_eq_true (by omega)).symm|exact ret_bool (decide_eq_false (by omega)).symm
theorem and_m24 (n:Nat) (h:n<18446744073709551616):bits .and .u64 (n:Int) 16777215=((n%16777216:Nat):Int):=by
 have e:=u64_and_nat n 16777215 h (by decide)
 rw [show n&&&16777215=n%16777216 from Nat.and_two_pow_sub_one_eq_mod n 24] at e
 exact e
theorem rsigned_any (n:Nat) (h:n<16777216) (w:World):
  Calls Tryz.prog 129 #[.int .u64 n, .int .i64 3] w fun e w'=>e= .returned (.int .i64 (Dw.sg24 n))∧Below w.heap.size w w':=by
 have h1:=and_m24 n (by omega)
 rw [Nat.mod_eq_of_lt h] at h1
 have h2:wrap64 (n:Int)=(n:Int):=IntWalk.wrap64_in _ (by omega)
 by_cases hs:n<8388608
 ·have HS:=Lib.hid (show Dw.sg24 n=(n:Int) from by unfold Dw.sg24;rw [if_pos hs])
  have h3:¬(n:Int)/8388608=1:=by omega
  go_enter Tryz.func129,Tryz.ntmps129
  go_wp2_with fail
  go_ret
  exact ⟨ret_int HS.out.symm,Below.refl _ _⟩
 ·have HS:=Lib.hid (show Dw.sg24 n=(n:Int)-16777216 from by unfold Dw.sg24;rw [if_neg hs])
  have h3:(n:Int)/8388608=1:=by omega
  have h4:wrap64 ((n:Int)-16777216)=(n:Int)-16777216:=IntWalk.wrap64_in _ (by omega)
  have h5:IntKind.i64.wrap ((n:Int)-16777216)=(n:Int)-16777216:=IntWalk.i64_in _ (by omega)
  go_enter Tryz.func129,Tryz.ntmps129
  go_wp2_with fail
  go_ret
  exact ⟨ret_int HS.out.symm,Below.refl _ _⟩
theorem put_append (a:Nat):∀b n,Dw.put (a+b) n=Dw.put a (n/256^b)++Dw.put b n
 |0,n=>by simp [Dw.put]
 |b+1,n=>by
  rw [←Nat.add_assoc,Dw.put_succ,put_append a b,Dw.put_succ b n,Nat.div_div_eq_div_mul,List.append_assoc,Nat.mul_comm 256,←Nat.pow_succ]
theorem put8_parts (n:Nat):Dw.put 8 n=Dw.put 2 (n/281474976710656)++(Dw.put 3 (n/16777216)++Dw.put 3 n):=by
 rw [show Dw.put 8 n=Dw.put (5+3) n from rfl,put_append 5 3,show Dw.put 5 (n/256^3)=Dw.put (2+3) (n/256^3) from rfl,put_append 2 3,List.append_assoc,Nat.div_div_eq_div_mul]
theorem rat3_any (n i m:Nat) (hi:i+3≤8) (hm:((Dw.put 8 n).drop i).take 3=Dw.put 3 m) (w:World):
  Calls Tryz.prog 130 #[.string ⟨(Dw.put 8 n).toArray⟩, .int .i64 i, .int .i64 3] w fun e w'=>e= .returned (.int .u64 ((m%16777216:Nat):Int))∧Below w.heap.size w w':=by
 have HX:=Lib.hid (show (⟨(Dw.put 8 n).toArray⟩:ByteArray).extract i (i+3)=⟨(Dw.put 3 m).toArray⟩ from by rw [bs_extract,List.drop_take,Nat.add_sub_cancel_left,hm])
 have HG:=Lib.hid (fun w=>rget_any ⟨(Dw.put 3 m).toArray⟩ (by show (Dw.put 3 m).toArray.size≤8;simp [Dw.put_length]) w)
 rw [show (⟨(Dw.put 3 m).toArray⟩:ByteArray).data.toList=Dw.put 3 m from rfl,Dw.get_put] at HG
 have hs:(Dw.put 8 n).toArray.size=8:=by simp [Dw.put_length]
 have hsz:(⟨(Dw.put 8 n).toArray⟩:ByteArray).size=8:=hs
 generalize (⟨(Dw.put 8 n).toArray⟩:ByteArray)=S at*
 have i1:¬(i:Int)<0:=by omega
 have i2:¬(8:Int)<(i:Int):=by omega
 have i3:IntKind.i64.wrap (8-(i:Int))=8-(i:Int):=IntWalk.i64_in _ (by omega)
 have i4:¬(8:Int)-(i:Int)<3:=by omega
 have i5:IntKind.i64.wrap ((i:Int)+3)=(i:Int)+3:=IntWalk.i64_in _ (by omega)
 clear hm
 go_enter Tryz.func130,Tryz.ntmps130
 go_wp2_with fail
 rw [HX.out]
 refine cb (HG.out _) fun w1 hb=>?_
 go_wp2_with fail
 go_ret
 exact ⟨rfl,hb⟩
theorem rat_lat (n:Nat) (w:World):
  Calls Tryz.prog 130 #[.string ⟨(Dw.put 8 n).toArray⟩, .int .i64 2, .int .i64 3] w fun e w'=>e= .returned (.int .u64 ((n/16777216%16777216:Nat):Int))∧Below w.heap.size w w':=
 rat3_any n 2 (n/16777216) (by decide) (by rw [put8_parts,List.drop_left' (Dw.put_length 2 _),List.take_left' (Dw.put_length 3 _)]) w
theorem rat_lon (n:Nat) (w:World):
  Calls Tryz.prog 130 #[.string ⟨(Dw.put 8 n).toArray⟩, .int .i64 5, .int .i64 3] w fun e w'=>e= .returned (.int .u64 ((n%16777216:Nat):Int))∧Below w.heap.size w w':=
 rat3_any n 5 n (by decide) (by rw [put8_parts,←List.append_assoc,List.drop_left' (by simp [Dw.put_length]),List.take_of_length_le (by simp [Dw.put_length])]) w
theorem rbody_any (k q d:Nat) (hk:k<256) (hq:q<18446744073709551616) (hd:d<18446744073709551616) (w:World):
  Calls Tryz.prog 211 #[.agg #[.int .i64 k, .int .u64 q, .int .u64 d]] w fun e w'=>e= .returned (.string ⟨(Dw.body k q d).toArray⟩)∧Below w.heap.size w w':=by
 have hB:=(Below.refl w.heap.size w).alloc (Nat.le_refl _) (.cells #[.int .i64 k, .int .u64 q, .int .u64 d] 218)
 have hF:=han w (.cells #[.int .i64 k, .int .u64 q, .int .u64 d] 218)
 obtain ⟨c0,c1,c2⟩:=cells3 hF
 have hkb:IntKind.u8.wrap (k:Int)=(k:Int):=by rw [IntKind.wrap_u8'];omega
 have Hbody:=Lib.hid (show Dw.body k q d=Dw.head k q d++Dw.put 4 (Dw.rev4 (Dw.sum (Dw.head k q d))) from rfl)
 have Hhead:=Lib.hid (show Dw.head k q d= [165,UInt8.ofNat k]++(Dw.put 8 q++Dw.put 8 d) from rfl)
 have Hhl:=Lib.hid (Dw.head_length k q d)
 have hsl:Dw.sum (Dw.head k q d)<4294967296:=Dw.sum_lt _
 have HP1:=Lib.hid (fun w=>rput_any q hq w)
 have HP2:=Lib.hid (fun w=>rput_any d hd w)
 have l1:(Dw.put 8 q).length=8:=Dw.put_length 8 q
 have l2:(Dw.put 8 d).length=8:=Dw.put_length 8 d
 have hk8:((UInt8.ofNat k).toNat:Int)=(k:Int):=by rw [UInt8.toNat_ofNat'];omega
 generalize Dw.put 8 q=Q at*
 generalize Dw.put 8 d=D at*
 generalize hkk:UInt8.ofNat k=kb at*
 clear hkk hq hd
 have HK8:=Lib.hid hk8
 clear hk8
 go_enter Tryz.func211,Tryz.ntmps211
 go_wp2_with fail
 generalize w.alloc _=W at*
 refine wp_letterM [0,1,2,5,6,7,9,10,11] 3 [4,8,12] 13 (some 7) (NewRow W #[.int .u8 165, .int .u8 (k:Int)] 5) rfl rfl (by kernel_rfl) (by kernel_rfl) (by kernel_rfl) rfl (fun v A B h hk=>h.keep hk) ?_
 (apply rat;(focus (intro w' hk;obtain ⟨x0,x1,x2⟩:=look3 hk c0 c1 c2;(iterate 5 (refine' rv ?_ rfl rfl (by go_simp;first|done|with_reducible rfl|exact rfl);try simp only [Act.put,List.setIfInBounds_toArray,List.set_cons_zero,List.set_cons_succ]));(refine' rc ?_ (by exact rfl) (by exact rfl) (by go_simp;first|done|(constructor<;>with_reducible rfl)|with_reducible rfl) (by exact HP1.out w');try simp only [Act.put,List.setIfInBounds_toArray,List.set_cons_zero,List.set_cons_succ]);(iterate 2 (refine' rv ?_ rfl rfl (by go_simp;first|done|with_reducible rfl|exact rfl);try simp only [Act.put,List.setIfInBounds_toArray,List.set_cons_zero,List.set_cons_succ]));(refine' rc ?_ (by exact rfl) (by exact rfl) (by go_simp;first|done|(constructor<;>with_reducible rfl)|with_reducible rfl) (by exact HP2.out w');try simp only [Act.put,List.setIfInBounds_toArray,List.set_cons_zero,List.set_cons_succ]);(exact rn))))
 refine ⟨rfl,sure_row (fun w' _=>by go_simp),?_⟩
 rintro v W2 hk2 ⟨b,rfl,hb,hbc⟩
 simp only [List.setIfInBounds_toArray,List.set_cons_zero,List.set_cons_succ,List.size_toArray,List.length_cons,List.length_nil,Nat.zero_add]
 have kc:∀w',Keep W2 w'→(convert 135 9 (.slice (some ⟨b,0,none⟩) 2 2)).run Tryz.prog w'= .ok (.string ⟨([165,kb]:List UInt8).toArray⟩) w':=fun w' hk'=>by
  have hbc':=kpi hk' hbc
  exact run_convert_bytes_back (P:=Tryz.prog) w' 135 9 5 ⟨b,0,none⟩ 2 [165,kb] Tryz.underlying135 Tryz.underlying5 Tryz.underlying9 (fun j hj=>by
   rw [addr_add,cell_of_row _ _ j _ _ _ hbc']
   have hj2:j<2:=hj
   rcases (by omega:j=0∨j=1) with rfl|rfl
   ·rfl
   ·show some (Value.int .u8 (k:Int))=some (Value.int .u8 ((kb.toNat:Nat):Int))
    rw [HK8.out])
 have KC:=Lib.hid kc
 clear kc
 generalize hSS:([165,kb]:List UInt8)=SS at*
 have hS2:SS.length=2:=by rw [←hSS];rfl
 have HSS:=Lib.hid hSS
 clear hSS
 have j1:¬9223372036854775807<SS.length+Q.length:=by omega
 have j2:¬9223372036854775807<SS.length+Q.length+D.length:=by omega
 repeat' (first|(refine pl_value (v:=?_) rfl rfl ?_ ?_;rotate_left 1;(focus (intro w' hk;have kc':=KC.out w' hk;go_simp;(first|done|with_reducible rfl|exact rfl)));(try simp only [Act.put,List.setIfInBounds_toArray,List.set_cons_zero,List.set_cons_succ]))|(refine pl_value (v:=?_) rfl rfl ?_ ?_;rotate_left 1;(focus (intro w' hk;go_simp;(first|done|with_reducible rfl|exact rfl)));(try simp only [Act.put,List.setIfInBounds_toArray,List.set_cons_zero,List.set_cons_succ])))
 refine pl_nil ?_
 intro w3 hk3 _
 simp only [List.drop_succ_cons,List.drop_zero]
 rw [show ((⟨SS.toArray⟩:ByteArray)++⟨Q.toArray⟩++⟨D.toArray⟩)=⟨(Dw.head k q d).toArray⟩ from by rw [bs_append,bs_append,Hhead.out,←HSS.out,List.append_assoc]]
 have hB3:=hB.trans ((hk2.trans hk3).whole.mono hB.size)
 have hhl:=Hhl.out
 generalize Dw.head k q d=hd at*
 clear hk2 hk3 hbc hB KC c0 c1 c2 j1 j2 Hhead HP1 HP2
 go_wp2_with fail
 refine cb (rsum_any ⟨hd.toArray⟩ (by simp [ByteArray.size,hhl]) _) fun w4 hb4=>?_
 go_wp2_with fail
 refine cb (rlow_any _ hsl _) fun w5 hb5=>?_
 have hpl:=Dw.put_length 4 (Dw.rev4 (Dw.sum hd))
 have hB5:=(hB3.trans (hb4.mono hB3.size)).trans (hb5.mono (hB3.trans (hb4.mono hB3.size)).size)
 clear hb4 hb5 hB3 hF
 go_wp2_with fail
 go_ret
 refine ⟨?_,hB5⟩
 rw [Hbody.out]
 exact ret_str (bs_append _ _)
end Go.Proofs.YtnaokijcggbfdaaGreatDoor
