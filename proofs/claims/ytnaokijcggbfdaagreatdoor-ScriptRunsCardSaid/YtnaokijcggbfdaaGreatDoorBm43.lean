/- What the statement's proof stands on, part 43: Scr3, RTurn21, RFlip21, RNew21. -/
import Derived.Test.YtnaokijcggbfdaaGreatDoorBm42
import Derived.Test.YtnaokijcggbfdaaGreatDoorBm29
import Derived.Test.YtnaokijcggbfdaaGreatDoorBm37
import Derived.Test.YtnaokijcggbfdaaGreatDoorBm33
import Derived.Test.YtnaokijcggbfdaaGreatDoorBm6
set_option linter.unusedSimpArgs false
set_option linter.unusedVariables false
set_option maxRecDepth 100000
set_option maxHeartbeats 4000000
namespace Go.Proofs.YtnaokijcggbfdaaGreatDoor
open Go.RowKit Go.Shelf
attribute [local go_sem] Oper.semAt_some
abbrev fliC (x:Dw.Su) (v:Value):Array Value:= #[.string ⟨x.f.a.toArray⟩, .string ⟨x.f.b.toArray⟩, .int .i64 x.f.e0, .int .i64 x.f.e1, .int .i64 x.f.li, .int .i64 x.s.mo, .bool x.s.ar, .bool x.s.ho, .int .i64 x.s.la, .int .i64 x.s.lo, .int .i64 x.s.iso, .int .i64 x.ph, .int .i64 x.vo, .int .i64 x.n,v]
abbrev fliV (x:Dw.Su) (v:Value):Value:= .agg #[.string ⟨x.f.a.toArray⟩, .string ⟨x.f.b.toArray⟩, .int .i64 x.f.e0, .int .i64 x.f.e1, .int .i64 x.f.li, .int .i64 x.s.mo, .bool x.s.ar, .bool x.s.ho, .int .i64 x.s.la, .int .i64 x.s.lo, .int .i64 x.s.iso, .int .i64 x.ph, .int .i64 x.vo, .int .i64 x.n,v]
abbrev Z15:Array Value:= #[.string ⟨#[]⟩, .string ⟨#[]⟩, .int .i64 0, .int .i64 0, .int .i64 0, .int .i64 0, .bool false, .bool false, .int .i64 0, .int .i64 0, .int .i64 0, .int .i64 0, .int .i64 0, .int .i64 0, .slice none 0 0]
abbrev repC (r:Dw.Rep):Array Value:= #[.int .i64 r.e, .int .i64 r.ph, .int .i64 r.s.mo, .bool r.s.ar, .bool r.s.ho, .int .i64 r.s.la, .int .i64 r.s.lo, .int .i64 r.s.iso]
def repCells (l:List Dw.Rep):List Value:=l.flatMap fun r=>(repC r).toList
abbrev RepsAt (w:World) (v:Value) (l:List Dw.Rep):Prop:=w.ownsRow 0 89 8 v l.length (repCells l)
theorem reps_next {w w':World} {v:Value} {l:List Dw.Rep} (h:RepsAt w v l) (hb:Below w.heap.size w w'):RepsAt w' v l:=by
 obtain ⟨hl,h|⟨g,cap,cur,he,h0,hg,hr⟩⟩:=h
 ·exact ⟨hl, .inl h⟩
 ·exact ⟨hl, .inr ⟨g,cap,cur,he,h0,kp hb hg,hr⟩⟩
theorem reps_low {w:World} {B n:Nat} {v:Value} {l:List Dw.Rep} (h:w.ownsRow B 89 8 v n (repCells l)) (hn:n=l.length):RepsAt w v l:=by
 subst hn
 obtain ⟨hl,h|⟨g,cap,cur,he,h0,hg,hr⟩⟩:=h
 ·exact ⟨hl, .inl h⟩
 ·exact ⟨hl, .inr ⟨g,cap,cur,he,Nat.zero_le _,hg,hr⟩⟩
theorem reps_row {w:World} {v:Value} {l:List Dw.Rep} (h:RepsAt w v l) {g:Nat} {c0:Array Value} {fr:Nat×Nat} (hg:w.heap[g]?=some (.cells c0 64 fr)) (c:Array Value):RepsAt (w.setRow g c) v l:=by
 obtain ⟨hl,h|⟨b,cap,cur,he,h0,hb,hr⟩⟩:=h
 ·exact ⟨hl, .inl h⟩
 ·have hne:b≠g:=by
   rintro rfl
   rw [hg] at hb
   have:=Option.some.inj hb
   injection this with _ h2 _
   exact absurd h2 (by decide)
  exact ⟨hl, .inr ⟨b,cap,cur,he,h0,(setRow_other w g b c hne).trans hb,hr⟩⟩
theorem repCells_len (l:List Dw.Rep):(repCells l).length=l.length*8:=by
 induction l with
 |nil=>rfl
 |cons r l ih=>
  show ((repC r).toList++repCells l).length=_
  have h8:(repC r).toList.length=8:=rfl
  rw [List.length_append,ih,h8,show (r::l).length=l.length+1 from rfl]
  omega
theorem repCells_snoc (l:List Dw.Rep) (r:Dw.Rep):repCells (l++ [r])=repCells l++(repC r).toList:=by unfold repCells;simp
theorem new_bad (n:Nat) (hn:n≤400) (l:Int) (hl:l<0∨1000<l) (w:World):
  Calls Tryz.prog 38 #[.int .i64 n, .int .i64 l] w fun e w'=>e= .returned (flashV [] [] 0 0 0)∧Below w.heap.size w w':=by
 have hB0:=(Below.refl w.heap.size w).alloc (Nat.le_refl _) (.cells (flashC [] [] 0 0 0) 25)
 have hC0:=han w (.cells (flashC [] [] 0 0 0) 25)
 have n1:¬(n:Int)<0:=by omega
 have n2:¬(400:Int)<(n:Int):=by omega
 rcases hl with hl|hl
 ·go_enter Tryz.func38,Tryz.ntmps38
  go_wp2_with (first|(refine lb hC0 rfl rfl rfl (by kernel_rfl) ?_)|(refine sb hC0 rfl rfl rfl rfl (by kernel_rfl) ?_))
  exact bodyPost_ret (rcr rfl (srh hC0) (by rfl) (by kernel_rfl)) rfl ⟨rfl,below_setRow hB0 (Nat.le_refl _) _⟩
 ·have n3:¬l<0:=by omega
  go_enter Tryz.func38,Tryz.ntmps38
  go_wp2_with (first|(refine lb hC0 rfl rfl rfl (by kernel_rfl) ?_)|(refine sb hC0 rfl rfl rfl rfl (by kernel_rfl) ?_))
  exact bodyPost_ret (rcr rfl (srh hC0) (by rfl) (by kernel_rfl)) rfl ⟨rfl,below_setRow hB0 (Nat.le_refl _) _⟩
theorem newF_any (n li:Int) (w:World):
  Calls Tryz.prog 38 #[.int .i64 (Dw.size n), .int .i64 li] w fun e w'=>e= .returned (flV (Dw.newF n li))∧Below w.heap.size w w':=by
 obtain ⟨m,hm,hm4⟩:∃m:Nat,Dw.size n=(m:Int)∧m≤400:=by
  unfold Dw.size
  split
  ·exact ⟨(24*n+24).toNat,by omega,by omega⟩
  ·exact ⟨0,rfl,by omega⟩
 rw [hm]
 unfold Dw.newF
 by_cases hl:li<0∨1000<li
 ·rw [if_pos hl]
  exact new_bad m hm4 li hl w
 ·rw [if_neg hl]
  obtain ⟨l,rfl⟩:∃l:Nat,li=(l:Int):=⟨li.toNat,by omega⟩
  have h:=new_any m l hm4 (by omega) w
  unfold Dw.size at hm
  by_cases hn:1≤n∧n≤12
  ·rw [if_pos hn] at hm ⊢
   obtain rfl:m=24*n.toNat+24:=by omega
   exact h
  ·rw [if_neg hn] at hm ⊢
   obtain rfl:m=0:=by omega
   exact h
theorem begin_any (n li:Int) (w:World) (hn:NoneAt w):
  Calls Tryz.prog 23 #[.int .i64 n, .int .i64 li] w fun e w'=>e= .returned (fliV (Dw.beginF n li).x (.slice none 0 0))∧Below w.heap.size w w':=by
 obtain ⟨V,hV⟩:∃V,w.alloc (.cells Z15 64)=V:=⟨_,rfl⟩
 have b0:=han w (.cells Z15 64)
 have hB:=(Below.refl w.heap.size w).alloc (Nat.le_refl _) (.cells Z15 64)
 rw [hV] at b0 hB
 have HS:=Lib.hid (fun w=>lsize_any n w)
 have HN:=Lib.hid (fun w=>newF_any n li w)
 have HBt:=Lib.hid (fun w hn=>boot_any (Dw.newF n li) (Dw.newF_ok n li) w hn)
 rw [show Dw.boot (Dw.newF n li)=(Dw.beginF n li).x from rfl] at HBt
 generalize (Dw.beginF n li).x=X at*
 generalize Dw.newF n li=F at*
 generalize Dw.size n=sz at*
 go_enter Tryz.func23,Tryz.ntmps23
 go_wp2_with fail
 try rw [hV]
 clear hV
 refine cb (HS.out _) fun w1 hb=>?_
 replace b0:=kp hb b0;replace hB:=tr hB hb;clear hb HS
 go_wp2_with fail
 refine cb (HN.out _) fun w2 hb=>?_
 replace b0:=kp hb b0;replace hB:=tr hB hb;clear hb HN
 go_wp2_with fail
 refine cb (HBt.out _ (hn.next hB)) fun w3 hb=>?_
 replace b0:=kp hb b0;replace hB:=tr hB hb;clear hb HBt
 go_wp2_with (first|(refine sb b0 rfl rfl rfl rfl (by kernel_rfl) ?_))
 exact bodyPost_ret (rcr rfl (srh b0) (by rfl) (by kernel_rfl)) rfl ⟨rfl,below_setRow hB (Nat.le_refl _) _⟩
theorem RowAt.next {w w':World} {b n:Nat} {f:Nat→Value} (h:RowAt w b n f) (hb:Below w.heap.size w w'):RowAt w' b n f:=by
 obtain ⟨c,t,fr,h0,h⟩:=h
 exact ⟨c,t,fr,kp hb h0,h⟩
theorem rturned_any (s:List UInt8) (jn m:Nat) (hlt:jn<s.length) (hs:s.length≤400) (hm8:m<8) (w:World):
  Calls Tryz.prog 64 #[.string ⟨s.toArray⟩, .int .i64 jn, .int .i64 m] w fun e w'=>e= .returned (.string ⟨(Dw.turnB s jn m).toArray⟩)∧Below w.heap.size w w':=by
 have HBT:=Lib.hid (bit_u8 m hm8)
 have hj':(jn:Int)<(s.length:Int):=by omega
 have hj0:(0:Int)≤(jn:Int):=by omega
 have m0:(0:Int)≤(m:Int):=by omega
 have m1:(m:Int)≤8:=by omega
 have hcv:=Lib.run_convert_string_bytes (P:=Tryz.prog) w 9 135 5 ⟨s.toArray⟩ Tryz.underlying9 Tryz.underlying135 Tryz.underlying5
 have hR:=row_of_bytes w s
 have hB:=Lib.bytesWorld_below w 5 ⟨s.toArray⟩
 generalize Lib.bytesWorld w 5 ⟨s.toArray⟩=w1 at*
 generalize grownCap w _ 0 _=cap at*
 have hsz:=hB.size
 generalize w.heap.size=g at*
 have hck:=hR.cell hlt
 have HT:=Lib.hid (fun (W:World) (h:RowAt W g s.length (fun j=> .int .u8 (((s.getD j 0).toNat:Nat):Int)))=>turn_back (W.setCell ⟨g,jn,none⟩ (.int .u8 ((s.getD jn 0^^^UInt8.ofNat (2^m)).toNat:Int))) g jn m cap s hlt (h.set jn _))
 have hx:bits .xor .u8 ((s.getD jn 0).toNat:Int) (2^m%256)=((s.getD jn 0^^^UInt8.ofNat (2^m)).toNat:Int):=by rw [HBT.out];exact xor_u8 _ _
 have HRW:=Lib.hid hR
 have HL:=Lib.hid hlt
 generalize Dw.turnB s jn m=T at*
 obtain ⟨x0,hx0⟩:∃x,s.getD jn 0=x:=⟨_,rfl⟩
 obtain ⟨bt,hbt⟩:∃x,UInt8.ofNat (2^m)=x:=⟨_,rfl⟩
 rw [hx0] at hck
 rw [hx0,hbt] at HT hx
 simp only [UInt8.toNat_xor] at hx HT
 clear hx0 hbt HBT hR hs hm8 hlt
 go_enter Tryz.func64,Tryz.ntmps64
 go_wp2_with fail
 refine wp_pure [0,1,2,3,4,5,6,7,8,9] 10 (by kernel_rfl) (by kernel_rfl) rfl ?_
 (apply rat;(focus (intro w' hk;have k0:=look hk hck;(iterate 10 (refine' rv ?_ rfl rfl (by go_simp;first|done|with_reducible rfl|exact rfl);try simp only [Act.put,List.setIfInBounds_toArray,List.set_cons_zero,List.set_cons_succ]));(exact rn))))
 intro w2 hk2
 simp only [List.drop_succ_cons,List.drop_zero]
 have hB2:=hB.trans (hk2.whole.mono hsz)
 have hR2:=HRW.out.next hk2.whole
 have hfk:=hR2.frozen HL.out
 have hck2:=look hk2 hck
 have kc:=HT.out w2 hR2
 have HB3:=Lib.hid (hB2.setCell (p:=⟨g,jn,none⟩) (Nat.le_refl _) (.int .u8 ((x0.toNat^^^bt.toNat:Nat):Int)))
 clear hB hB2 hk2 hck HT hR2 HRW hcv
 go_wp2_with fail
 go_ret
 exact ⟨rfl,HB3.out⟩
theorem quo8 (k:Int) (h0:¬k<0) (hk:k≤9223372036854775807):∃i m:Nat,k/8=(i:Int)∧k%8=(m:Int)∧m<8∧Int.tdiv k 8=(i:Int)∧IntKind.i64.wrap (i:Int)=(i:Int)∧Int.tmod k 8=(m:Int)∧IntKind.i64.wrap (m:Int)=(m:Int)∧(i:Int)≤1152921504606846975:=by
 have h1:(0:Int)≤k:=by omega
 have h2:Int.tdiv k 8=k/8:=Int.tdiv_eq_ediv_of_nonneg h1
 have h3:Int.tmod k 8=k%8:=Int.tmod_eq_emod_of_nonneg h1
 obtain ⟨i,hi⟩:∃i:Nat,k/8=(i:Int):=⟨(k/8).toNat,by omega⟩
 obtain ⟨m,hm⟩:∃m:Nat,k%8=(m:Int):=⟨(k%8).toNat,by omega⟩
 have h4:(i:Int)≤1152921504606846975:=by omega
 exact ⟨i,m,hi,hm,by omega,h2.trans hi,IntWalk.i64_in _ (by omega),h3.trans hm,IntWalk.i64_in _ (by omega),h4⟩
theorem rflip_any (f:Dw.Fl) (hf:Dw.FlOk f) (k:Int) (hk: -9223372036854775808≤k∧k≤9223372036854775807) (w:World):
  Calls Tryz.prog 32 #[flV f, .int .i64 k] w fun e w'=>e= .returned (flV (Dw.flip f k))∧Below w.heap.size w w':=by
 obtain ⟨V,hV⟩:∃V,(w.alloc (.cells (flC f) 66)).alloc (.cells (flashC [] [] 0 0 0) 66)=V:=⟨_,rfl⟩
 obtain ⟨bF,bR,hB⟩:=allocs2 _ _ _ _ hV
 obtain ⟨c0,c1,-⟩:=cells5 bF
 have ha:=hf.a;have hb4:=hf.b
 clear hf
 by_cases h0:k<0
 ·have HFL:=Lib.hid (Dw.flip_neg f h0)
  clear ha hb4 hk
  go_enter Tryz.func32,Tryz.ntmps32
  go_wp2_with (first|(refine lb bF rfl rfl rfl (by kernel_rfl) ?_)|(refine sb bR rfl rfl rfl rfl (by kernel_rfl) ?_))
  exact bodyPost_ret (rcr rfl (srh bR) (by rfl) (by kernel_rfl)) rfl ⟨by rw [HFL.out],below_setRow hB (by omega) _⟩
 obtain ⟨i,m,e8,m8,hm8,d1,d2,d3,d4,hi60⟩:=quo8 k h0 hk.2
 have hfl:Dw.flip f k=if i<f.a.length then {f with a:=Dw.turnB f.a i m} else if i<f.a.length+f.b.length then {f with b:=Dw.turnB f.b (i-f.a.length) m} else f:=by
  clear hk
  unfold Dw.flip
  rw [if_neg h0,e8,m8]
  by_cases q:i<f.a.length
  ·rw [if_pos (by omega),if_pos q];simp
  ·rw [if_neg (by omega),if_neg q]
   by_cases q2:i<f.a.length+f.b.length
   ·rw [if_pos (by omega),if_pos q2,show ((i:Int)-(f.a.length:Int)).toNat=i-f.a.length by omega];simp
   ·rw [if_neg (by omega),if_neg q2]
 clear hk e8 m8
 have e1:IntKind.i64.wrap ((f.a.length:Int)+(f.b.length:Int))=(f.a.length:Int)+(f.b.length:Int):=IntWalk.i64_in _ (by omega)
 have e2:wrap64 ((f.a.length:Int)+(f.b.length:Int))=(f.a.length:Int)+(f.b.length:Int):=IntWalk.wrap64_in _ (by omega)
 by_cases q:i<f.a.length
 ·have HT:=Lib.hid (fun w=>rturned_any f.a i m q ha hm8 w)
  have q1:(i:Int)<(f.a.length:Int):=by clear d1 d2 d3 d4 e1 e2 hfl;omega
  have q2:¬((f.a.length:Int)+(f.b.length:Int)≤(i:Int)):=by clear d1 d2 d3 d4 e1 e2 hfl;omega
  rw [if_pos q] at hfl
  have HFL:=Lib.hid hfl
  clear hfl hm8 q ha hb4 hi60
  generalize Dw.turnB f.a i m=T at*
  go_enter Tryz.func32,Tryz.ntmps32
  go_wp2_with fail
  refine cb (HT.out _) fun w1 hb=>?_
  replace bF:=kp hb bF;replace bR:=kp hb bR;replace hB:=tr hB hb
  clear hb HT hV c0 c1
  obtain ⟨c0,c1,-⟩:=cells5 bF
  have hfn:=frozen0 bF 0
  have bF3:(w1.setCell ⟨w.heap.size,0,none⟩ (.string ⟨T.toArray⟩)).heap[w.heap.size]?=some (.cells (flC {f with a:=T}) 66 (0,0)):=heap_setCell_same _ _ 0 _ _ (.string ⟨T.toArray⟩) bF
  have bR3:=(heap_setCell_other w1 ⟨w.heap.size,0,none⟩ (w.heap.size+1) (.string ⟨T.toArray⟩) (by show w.heap.size+1≠w.heap.size;omega)).trans bR
  have hB3:=hB.setCell (p:=⟨w.heap.size,0,none⟩) (Nat.le_refl _) (.string ⟨T.toArray⟩)
  clear bF bR hB
  go_wp2_with (first|(refine lb bF3 rfl rfl rfl (by kernel_rfl) ?_)|(refine sb bR3 rfl rfl rfl rfl (by kernel_rfl) ?_))
  exact bodyPost_ret (rcr rfl (srh bR3) (by rfl) (by kernel_rfl)) rfl ⟨by rw [HFL.out],below_setRow hB3 (by omega) _⟩
 ·rw [if_neg q] at hfl
  by_cases q2:i<f.a.length+f.b.length
  ·obtain ⟨j,hj⟩:∃j,i-f.a.length=j:=⟨_,rfl⟩
   have HT:=Lib.hid (fun w=>rturned_any f.b j m (by clear d1 d2 d3 d4 e1 e2 hfl;omega) hb4 hm8 w)
   have r1:¬(i:Int)<(f.a.length:Int):=by clear d1 d2 d3 d4 e1 e2 hfl;omega
   have r2:¬((f.a.length:Int)+(f.b.length:Int)≤(i:Int)):=by clear d1 d2 d3 d4 e1 e2 hfl;omega
   have r3:IntKind.i64.wrap ((i:Int)-(f.a.length:Int))=(j:Int):=by clear d1 d2 d3 d4 e1 e2 hfl;rw [show (i:Int)-(f.a.length:Int)=(j:Int) by omega];exact IntWalk.i64_in _ (by omega)
   have r4:wrap64 ((i:Int)-(f.a.length:Int))=(j:Int):=by clear d1 d2 d3 d4 e1 e2 hfl r3;rw [show (i:Int)-(f.a.length:Int)=(j:Int) by omega];exact IntWalk.wrap64_in _ (by omega)
   rw [if_pos q2,hj] at hfl
   have HFL:=Lib.hid hfl
   clear hfl hm8 q ha hb4 hj q2 hi60
   generalize Dw.turnB f.b j m=T at*
   go_enter Tryz.func32,Tryz.ntmps32
   go_wp2_with fail
   refine cb (HT.out _) fun w1 hb=>?_
   replace bF:=kp hb bF;replace bR:=kp hb bR;replace hB:=tr hB hb
   clear hb HT hV c0 c1
   obtain ⟨c0,c1,-⟩:=cells5 bF
   have hfn:=frozen0 bF 1
   have bF3:(w1.setCell ⟨w.heap.size,1,none⟩ (.string ⟨T.toArray⟩)).heap[w.heap.size]?=some (.cells (flC {f with b:=T}) 66 (0,0)):=heap_setCell_same _ _ 1 _ _ (.string ⟨T.toArray⟩) bF
   have bR3:=(heap_setCell_other w1 ⟨w.heap.size,1,none⟩ (w.heap.size+1) (.string ⟨T.toArray⟩) (by show w.heap.size+1≠w.heap.size;omega)).trans bR
   have hB3:=hB.setCell (p:=⟨w.heap.size,1,none⟩) (Nat.le_refl _) (.string ⟨T.toArray⟩)
   clear bF bR hB
   go_wp2_with (first|(refine lb bF3 rfl rfl rfl (by kernel_rfl) ?_)|(refine sb bR3 rfl rfl rfl rfl (by kernel_rfl) ?_))
   exact bodyPost_ret (rcr rfl (srh bR3) (by rfl) (by kernel_rfl)) rfl ⟨by rw [HFL.out],below_setRow hB3 (by omega) _⟩
  ·have r2:(f.a.length:Int)+(f.b.length:Int)≤(i:Int):=by clear d1 d2 d3 d4 e1 e2 hfl;omega
   rw [if_neg q2] at hfl
   have HFL:=Lib.hid hfl
   clear hfl hm8 q ha hb4 q2 hi60
   go_enter Tryz.func32,Tryz.ntmps32
   go_wp2_with (first|(refine lb bF rfl rfl rfl (by kernel_rfl) ?_)|(refine sb bR rfl rfl rfl rfl (by kernel_rfl) ?_))
   exact bodyPost_ret (rcr rfl (srh bR) (by rfl) (by kernel_rfl)) rfl ⟨by rw [HFL.out],below_setRow hB (by omega) _⟩
theorem rnew_bad (n:Nat) (hn:n≤400) (l:Int) (hl:l<0∨1000<l) (w:World):
  Calls Tryz.prog 59 #[.int .i64 n, .int .i64 l] w fun e w'=>e= .returned (flashV [] [] 0 0 0)∧Below w.heap.size w w':=by
 have hB0:=(Below.refl w.heap.size w).alloc (Nat.le_refl _) (.cells (flashC [] [] 0 0 0) 66)
 have hC0:=han w (.cells (flashC [] [] 0 0 0) 66)
 have n1:¬(n:Int)<0:=by omega
 have n2:¬(400:Int)<(n:Int):=by omega
 rcases hl with hl|hl
 ·go_enter Tryz.func59,Tryz.ntmps59
  go_wp2_with (first|(refine lb hC0 rfl rfl rfl (by kernel_rfl) ?_)|(refine sb hC0 rfl rfl rfl rfl (by kernel_rfl) ?_))
  exact bodyPost_ret (rcr rfl (srh hC0) (by rfl) (by kernel_rfl)) rfl ⟨rfl,below_setRow hB0 (Nat.le_refl _) _⟩
 ·have n3:¬l<0:=by omega
  go_enter Tryz.func59,Tryz.ntmps59
  go_wp2_with (first|(refine lb hC0 rfl rfl rfl (by kernel_rfl) ?_)|(refine sb hC0 rfl rfl rfl rfl (by kernel_rfl) ?_))
  exact bodyPost_ret (rcr rfl (srh hC0) (by rfl) (by kernel_rfl)) rfl ⟨rfl,below_setRow hB0 (Nat.le_refl _) _⟩
theorem rnew_any (n l:Nat) (hn:n≤400) (hl:l≤1000) (w:World):
  Calls Tryz.prog 59 #[.int .i64 n, .int .i64 l] w fun e w'=>e= .returned (flashV (Dw.ffs n) (Dw.ffs n) 0 0 l)∧Below w.heap.size w w':=by
 have hB0:=(Below.refl w.heap.size w).alloc (Nat.le_refl _) (.cells (flashC [] [] 0 0 0) 66)
 have hC0:=han w (.cells (flashC [] [] 0 0 0) 66)
 have n1:¬(n:Int)<0:=by omega
 have n2:¬(400:Int)<(n:Int):=by omega
 have n3:¬(l:Int)<0:=by omega
 have n4:¬(1000:Int)<(l:Int):=by omega
 have HK:=Lib.hid (fun w=>rblankN_any n (by omega) w)
 obtain ⟨s,hs⟩:∃s,allFF n=s:=⟨_,rfl⟩
 have HS:=Lib.hid (show flashV (Dw.ffs n) (Dw.ffs n) 0 0 l= .agg #[.string s, .string s, .int .i64 0, .int .i64 0, .int .i64 l] by rw [←hs];rfl)
 rw [hs] at HK
 clear hs
 go_enter Tryz.func59,Tryz.ntmps59
 go_wp2_with fail
 refine cb (HK.out _) fun w1 hb=>?_
 have hC1:=(hb.block w.heap.size (by simp)).trans hC0
 have hB1:=tr hB0 hb
 clear hC0 hB0 hb
 go_wp2_with fail
 refine cb (HK.out _) fun w2 hb=>?_
 have hC2:=kp hb hC1
 have hB2:=tr hB1 hb
 clear hC1 hB1 hb
 go_wp2_with (first|(refine lb hC2 rfl rfl rfl (by kernel_rfl) ?_)|(refine sb hC2 rfl rfl rfl rfl (by kernel_rfl) ?_))
 refine bodyPost_ret (rcr rfl (srh hC2) (by rfl) (by kernel_rfl)) rfl ⟨by rw [HS.out],below_setRow hB2 (Nat.le_refl _) _⟩
theorem rnewF_any (n li:Int) (w:World):
  Calls Tryz.prog 59 #[.int .i64 (Dw.size n), .int .i64 li] w fun e w'=>e= .returned (flV (Dw.newF n li))∧Below w.heap.size w w':=by
 obtain ⟨m,hm,hm4⟩:∃m:Nat,Dw.size n=(m:Int)∧m≤400:=by
  unfold Dw.size
  split
  ·exact ⟨(24*n+24).toNat,by omega,by omega⟩
  ·exact ⟨0,rfl,by omega⟩
 rw [hm]
 unfold Dw.newF
 by_cases hl:li<0∨1000<li
 ·rw [if_pos hl]
  exact rnew_bad m hm4 li hl w
 ·rw [if_neg hl]
  obtain ⟨l,rfl⟩:∃l:Nat,li=(l:Int):=⟨li.toNat,by omega⟩
  have h:=rnew_any m l hm4 (by omega) w
  unfold Dw.size at hm
  by_cases hn:1≤n∧n≤12
  ·rw [if_pos hn] at hm ⊢
   obtain rfl:m=24*n.toNat+24:=by omega
   exact h
  ·rw [if_neg hn] at hm ⊢
   obtain rfl:m=0:=by omega
   exact h
theorem rbegin_any (n li:Int) (w:World):
  Calls Tryz.prog 24 #[.int .i64 n, .int .i64 li] w fun e w'=>e= .returned (fliV (Dw.beginF n li).x (.slice none 0 0))∧Below w.heap.size w w':=by
 obtain ⟨V,hV⟩:∃V,w.alloc (.cells Z15 71)=V:=⟨_,rfl⟩
 have b0:=han w (.cells Z15 71)
 have hB:=(Below.refl w.heap.size w).alloc (Nat.le_refl _) (.cells Z15 71)
 rw [hV] at b0 hB
 have HS:=Lib.hid (fun w=>rsize_any n w)
 have HN:=Lib.hid (fun w=>rnewF_any n li w)
 have HBt:=Lib.hid (fun w=>rboot_any (Dw.newF n li) (Dw.newF_ok n li) w)
 rw [show Dw.boot (Dw.newF n li)=(Dw.beginF n li).x from rfl] at HBt
 generalize (Dw.beginF n li).x=X at*
 generalize Dw.newF n li=F at*
 generalize Dw.size n=sz at*
 go_enter Tryz.func24,Tryz.ntmps24
 go_wp2_with fail
 try rw [hV]
 clear hV
 refine cb (HS.out _) fun w1 hb=>?_
 replace b0:=kp hb b0;replace hB:=tr hB hb;clear hb HS
 go_wp2_with fail
 refine cb (HN.out _) fun w2 hb=>?_
 replace b0:=kp hb b0;replace hB:=tr hB hb;clear hb HN
 go_wp2_with fail
 refine cb (HBt.out _) fun w3 hb=>?_
 replace b0:=kp hb b0;replace hB:=tr hB hb;clear hb HBt
 go_wp2_with (first|(refine sb b0 rfl rfl rfl rfl (by kernel_rfl) ?_))
 exact bodyPost_ret (rcr rfl (srh b0) (by rfl) (by kernel_rfl)) rfl ⟨rfl,below_setRow hB (Nat.le_refl _) _⟩
end Go.Proofs.YtnaokijcggbfdaaGreatDoor
