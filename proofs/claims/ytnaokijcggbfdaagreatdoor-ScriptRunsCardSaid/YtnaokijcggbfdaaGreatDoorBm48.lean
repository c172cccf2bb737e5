/- What the statement's proof stands on, part 48: RSup2, RSup3, RSup4. -/
import Derived.Test.YtnaokijcggbfdaaGreatDoorBm37
import Derived.Test.YtnaokijcggbfdaaGreatDoorBm29
import Derived.Test.YtnaokijcggbfdaaGreatDoorBm46
import Derived.Test.YtnaokijcggbfdaaGreatDoorBm31
import Derived.Test.YtnaokijcggbfdaaGreatDoorBm47
set_option linter.unusedSimpArgs false
set_option linter.unusedVariables false
set_option maxRecDepth 100000
set_option maxHeartbeats 4000000
namespace Go.Proofs.YtnaokijcggbfdaaGreatDoor
open Go.RowKit Go.Shelf
attribute [local go_sem] Oper.semAt_some
theorem rwrite_core (x:Dw.Su) (t:Dw.St) (p:Dw.Pw) (G:Dw.Fl) (ack:Bool) (er:Int) (w:World)
  (hP:∀w,Calls Tryz.prog 131 #[stV t] w fun e w'=>e= .returned (.int .u64 (Dw.pack t:Nat))∧Below w.heap.size w w')
  (hJ:∀w,Calls Tryz.prog 132 #[flV x.f,stpV (Dw.wStp t p)] w fun e w'=>e= .returned (.tuple #[flV G, .bool ack, .int .i64 er])∧Below w.heap.size w w'):
  Calls Tryz.prog 93 #[suV x,stV t,pwV p] w fun e w'=>
   ((¬er=0∧e= .returned (.tuple #[suV {x with ph:=2}, .int .i64 26]))∨(er=0∧ack=false∧e= .returned (.tuple #[suV {x with f:=G,ph:=3}, .int .i64 26]))∨(er=0∧ack=true∧e= .returned (.tuple #[suV {x with f:=G,s:=t}, .int .i64 0])))∧Below w.heap.size w w':=by
 obtain ⟨V,hV⟩:∃V,(((w.alloc (.cells (suC x) 68)).alloc (.cells (stC t) 42)).alloc (.cells (pwC p) 79)).alloc (.cells Z14 68)=V:=⟨_,rfl⟩
 obtain ⟨vz,hB,b0,b1,b2,b3⟩:=alloc4 w _ _ _ _ V hV
 have HP:=Lib.hid hP;have HJ:=Lib.hid hJ
 clear hP hJ
 unfold Dw.wStp at HJ
 obtain ⟨pd,hpd⟩:∃pd,Dw.pack t=pd:=⟨_,rfl⟩
 rw [hpd] at HP HJ
 obtain ⟨f,s,ph,vo,nn⟩:=x
 obtain ⟨tm,ta,th,tla,tlo,tis⟩:=t
 obtain ⟨cut,mask⟩:=p
 dsimp only at*
 obtain ⟨⟨x0,x1,x2,x3,x4⟩,-,x11,-,-⟩:=cells14 b0
 obtain ⟨t0,t1,t2,t3,t4,t5⟩:=cells6 b1
 obtain ⟨p0,p1⟩:=cells2 b2
 clear hpd
 go_enter Tryz.func93,Tryz.ntmps93
 go_wp2_with fail
 try rw [hV]
 clear hV
 refine RT.wp_letter2 (fun j=>V.heap.size≤j) (fun k=>decide (12≤k)) [0,1,2,3,4,5,6,7,8,9,10,11,12,13,16] 14 15 17 (some 8) none (NewBlock V Z5 66) (fun v w2 w'=>∃b,v= .pointer (some ⟨b,0,none⟩)∧RT.Stored w2 b (flC G) 66 w') rfl rfl rfl rfl (by kernel_rfl) (by kernel_rfl) (by kernel_rfl) rfl (fun v w2 A B h hk=>by obtain ⟨b,e,h⟩:=h;exact ⟨b,e,h.keep hk⟩) ?_
 (apply RT.rat;(focus (intro w' w'' hk hk2;obtain ⟨k0,k1,k2,k3,k4,k5,k6,k7⟩:=look8 hk x0 x1 x2 x3 x4 t0 t1 t2;obtain ⟨k8,k9,k10,k11,k12⟩:=look5 hk t3 t4 t5 p0 p1;repeat' (first|exact RT.rn|((first|refine' RT.rv ?_ rfl rfl rfl (by go_simp;first|done|with_reducible rfl|exact rfl)|refine' RT.rc ?_ (by exact rfl) (by exact rfl) (by exact rfl) (by go_simp;first|done|(constructor<;>with_reducible rfl)|with_reducible rfl) (by first|exact HP.out w'|exact HJ.out w')|refine' RT.rl ?_ rfl rfl rfl (by go_simp;first|done|with_reducible rfl|exact rfl)|refine' RT.rs ?_ rfl rfl);try simp only [Act.put,List.setIfInBounds_toArray,List.set_cons_zero,List.set_cons_succ])))))
 refine RT.pl_nil ⟨rfl,sure_new (fun w' _=>by go_simp),?_⟩
 rintro v W2 hk2 ⟨b,rfl,hb,hbc⟩
 refine ⟨rfl,RT.Stores.mono (fun k h=>by rw [h];exact hb) (fun w' h=>⟨b,rfl,h⟩) (RT.stb hbc rfl rfl rfl (by kernel_rfl)),?_⟩
 rintro U ⟨b',hb',hst⟩
 obtain rfl:b=b':=by injection hb' with h;injection h with h;injection h with h
 obtain ⟨hk3,b4⟩:=hst
 clear hb'
 simp only [List.drop_succ_cons,List.drop_zero,List.setIfInBounds_toArray,List.set_cons_zero,List.set_cons_succ]
 have hwb:w.heap.size≠b∧w.heap.size+1≠b∧w.heap.size+3≠b:=by have:=block_lt b3;omega
 replace b0:=kpi hk2 b0
 replace b1:=kpi hk2 b1
 replace b3:=kpi hk2 b3
 replace b0:=(hk3.block _ (block_lt b0) hwb.1).trans b0
 replace b1:=(hk3.block _ (block_lt b1) hwb.2.1).trans b1
 replace b3:=(hk3.block _ (block_lt b3) hwb.2.2).trans b3
 replace hB:=hB.trans (hk2.whole.mono hB.size)
 replace hB:=hB.trans (hk3.below hB.size (fun k hk=>by omega))
 clear hk2 hk3 x0 x1 x2 x3 x4 x11 t0 t1 t2 t3 t4 t5 p0 p1 HP HJ b2 hb hbc
 by_cases her:er=0
 ·subst her
  have e0:=setRow_heap U w.heap.size _ (suC ⟨G,s,ph,vo,nn⟩) _ _ b0
  have e1:=(setRow_other U w.heap.size (w.heap.size+1) (suC ⟨G,s,ph,vo,nn⟩) (by omega)).trans b1
  have e3:=(setRow_other U w.heap.size (w.heap.size+3) (suC ⟨G,s,ph,vo,nn⟩) (by omega)).trans b3
  replace hB:=below_setRow hB (Nat.le_refl _) (suC ⟨G,s,ph,vo,nn⟩)
  cases ack
  ·have r0:=heap_setCell_same _ w.heap.size 11 _ _ (.int .i64 3) e0
   change _=some (Obj.cells (suC ⟨G,s,3,vo,nn⟩) _ _) at r0
   have r3:=(heap_setCell_other _ ⟨w.heap.size,11,none⟩ (w.heap.size+3) (.int .i64 3) (by simp)).trans e3
   replace hB:=hB.setCell (p:=⟨w.heap.size,11,none⟩) (by simp) (.int .i64 3)
   obtain ⟨-,-,c11,-⟩:=cells14 e0
   have z11:=frozen0 e0 11
   go_wp2_with (first|(refine lb b4 rfl rfl rfl (by kernel_rfl) ?_)|(refine sb b4 rfl rfl rfl rfl (by kernel_rfl) ?_)|(refine sp 66 0 (flC G) (suC ⟨G,s,ph,vo,nn⟩) b0 rfl rfl rfl rfl (by kernel_rfl) (by rfl) (by rfl) ?_)|(refine lb r0 rfl rfl rfl (by kernel_rfl) ?_)|(refine sb r0 rfl rfl rfl rfl (by kernel_rfl) ?_)|(refine lb r3 rfl rfl rfl (by kernel_rfl) ?_)|(refine sb r3 rfl rfl rfl rfl (by kernel_rfl) ?_))
   refine bodyPost_ret (rct rfl (srh r3) (by rfl) (by kernel_rfl)) rfl ⟨?_,below_setRow hB (by omega) _⟩
   first|rfl|exact .inr (.inl ⟨rfl,rfl,rfl⟩)
  ·have r0:=setRow_heap _ w.heap.size _ (suC ⟨G,⟨tm,ta,th,tla,tlo,tis⟩,ph,vo,nn⟩) _ _ e0
   have r3:=(setRow_other _ w.heap.size (w.heap.size+3) (suC ⟨G,⟨tm,ta,th,tla,tlo,tis⟩,ph,vo,nn⟩) (by omega)).trans e3
   replace hB:=below_setRow hB (Nat.le_refl _) (suC ⟨G,⟨tm,ta,th,tla,tlo,tis⟩,ph,vo,nn⟩)
   go_wp2_with (first|(refine lb b4 rfl rfl rfl (by kernel_rfl) ?_)|(refine sb b4 rfl rfl rfl rfl (by kernel_rfl) ?_)|(refine sp 66 0 (flC G) (suC ⟨G,s,ph,vo,nn⟩) b0 rfl rfl rfl rfl (by kernel_rfl) (by rfl) (by rfl) ?_)|(refine lb e1 rfl rfl rfl (by kernel_rfl) ?_)|(refine sb e1 rfl rfl rfl rfl (by kernel_rfl) ?_)|(refine sp 42 5 (stC ⟨tm,ta,th,tla,tlo,tis⟩) (suC ⟨G,⟨tm,ta,th,tla,tlo,tis⟩,ph,vo,nn⟩) e0 rfl rfl rfl rfl (by kernel_rfl) (by rfl) (by rfl) ?_)|(refine lb r0 rfl rfl rfl (by kernel_rfl) ?_)|(refine sb r0 rfl rfl rfl rfl (by kernel_rfl) ?_)|(refine lb r3 rfl rfl rfl (by kernel_rfl) ?_)|(refine sb r3 rfl rfl rfl rfl (by kernel_rfl) ?_))
   refine bodyPost_ret (rct rfl (srh r3) (by rfl) (by kernel_rfl)) rfl ⟨?_,below_setRow hB (by omega) _⟩
   first|rfl|exact .inr (.inr ⟨rfl,rfl,rfl⟩)
 ·have her':(er==0)=false:=by simpa using her
  have r0:=heap_setCell_same U w.heap.size 11 _ _ (.int .i64 2) b0
  change _=some (Obj.cells (suC ⟨f,s,2,vo,nn⟩) _ _) at r0
  have r3:=(heap_setCell_other U ⟨w.heap.size,11,none⟩ (w.heap.size+3) (.int .i64 2) (by simp)).trans b3
  replace hB:=hB.setCell (p:=⟨w.heap.size,11,none⟩) (by simp) (.int .i64 2)
  obtain ⟨-,-,c11,-⟩:=cells14 b0
  have z11:=frozen0 b0 11
  go_wp2_with (first|(refine lb r0 rfl rfl rfl (by kernel_rfl) ?_)|(refine sb r0 rfl rfl rfl rfl (by kernel_rfl) ?_)|(refine lb r3 rfl rfl rfl (by kernel_rfl) ?_)|(refine sb r3 rfl rfl rfl rfl (by kernel_rfl) ?_))
  refine bodyPost_ret (rct rfl (srh r3) (by rfl) (by kernel_rfl)) rfl ⟨?_,below_setRow hB (by omega) _⟩
  first|rfl|exact .inl ⟨her,rfl⟩|exact ⟨her,rfl⟩
theorem rwrite_any (x:Dw.Su) (t:Dw.St) (p:Dw.Pw) (hf:Dw.FlOk x.f) (ht:Dw.legal t=true) (hm:p.mask.length≤100000) (w:World):
  Calls Tryz.prog 93 #[suV x,stV t,pwV p] w fun e w'=>e= .returned (.tuple #[suV (Dw.writeX x t p), .int .i64 (Dw.writeE x t p)])∧Below w.heap.size w w':=by
 have hP:=fun w=>rpack_any t ht w
 have hJ:=fun w=>rput12_any x.f hf (Dw.wStp t p) (Dw.pack_lt64 t) hm w
 unfold putV at hJ
 have hd:(Dw.wStp t p).data=Dw.pack t:=rfl
 rw [hd] at hJ
 by_cases h0:(Dw.plan x.f (Dw.pack t)).2=0
 ·rw [if_pos h0] at hJ
  refine (rwrite_core x t p (Dw.putG x.f (Dw.wStp t p)).1 (Dw.ackB x.f (Dw.wStp t p)) 0 w hP hJ).mono ?_
  rintro e w' ⟨⟨h,-⟩|⟨-,ha,rfl⟩|⟨-,ha,rfl⟩,hB⟩
  ·exact absurd rfl h
  ·obtain ⟨e1,e2⟩:=Dw.write_off (x:=x) (t:=t) (p:=p) h0 ha
   rw [e1,e2];exact ⟨rfl,hB⟩
  ·obtain ⟨e1,e2⟩:=Dw.write_ack (x:=x) (t:=t) (p:=p) h0 ha
   rw [e1,e2];exact ⟨rfl,hB⟩
 ·rw [if_neg h0] at hJ
  refine (rwrite_core x t p x.f false _ w hP hJ).mono ?_
  rintro e w' ⟨⟨-,rfl⟩|⟨h,-⟩|⟨h,-⟩,hB⟩
  ·obtain ⟨e1,e2⟩:=Dw.write_no (x:=x) (t:=t) (p:=p) h0
   rw [e1,e2];exact ⟨rfl,hB⟩
  ·exact absurd h h0
  ·exact absurd h h0
theorem rcommand_any (x:Dw.Su) (c:Dw.Cmd) (p:Dw.Pw) (hf:Dw.FlOk x.f) (hl:Dw.legal x.s=true) (hm:p.mask.length≤100000) (w:World):
  Calls Tryz.prog 62 #[suV x,cmV c,pwV p] w fun e w'=>e= .returned (.tuple #[suV (Dw.commandX x c p), .int .i64 (Dw.commandE x c p)])∧Below w.heap.size w w':=by
 obtain ⟨V,hV⟩:∃V,(((w.alloc (.cells (suC x) 68)).alloc (.cells (cmC c) 45)).alloc (.cells (pwC p) 79)).alloc (.cells Z14 68)=V:=⟨_,rfl⟩
 obtain ⟨vz,hB,b0,b1,b2,b3⟩:=alloc4 w _ _ _ _ V hV
 have HD:=Lib.hid (fun w=>rdelta_any x.s (Dw.legal_iso hl) c w)
 have HWr:=Lib.hid (fun h w=>rwrite_any x (Dw.deltaS x.s c) p hf h hm w)
 have hlT:=Dw.deltaS_legal hl c
 have H26:=Lib.hid (fun h=>Dw.cmd_26 (x:=x) c p h)
 have H25:=Lib.hid (fun h h2=>Dw.cmd_25 (x:=x) (c:=c) p h h2)
 have HGO:=Lib.hid (fun h h2=>Dw.cmd_go (x:=x) (c:=c) p h h2)
 have HWr:=Lib.hid (HWr.out hlT)
 clear hl hm hlT
 obtain ⟨-,-,x11,-,-⟩:=cells14 b0
 obtain ⟨k0,-⟩:=cells4 b1
 obtain ⟨xf,xs,ph,vo,n⟩:=x
 obtain ⟨ki,cn,cla,clo⟩:=c
 dsimp only at*
 obtain ⟨SX,hSX⟩:∃S,Dw.commandX ⟨xf,xs,ph,vo,n⟩ ⟨ki,cn,cla,clo⟩ p=S:=⟨_,rfl⟩
 obtain ⟨SE,hSE⟩:∃S,Dw.commandE ⟨xf,xs,ph,vo,n⟩ ⟨ki,cn,cla,clo⟩ p=S:=⟨_,rfl⟩
 rw [hSX] at H26 H25 HGO ⊢
 rw [hSE] at H26 H25 HGO ⊢
 clear hSX hSE
 generalize Dw.deltaS xs ⟨ki,cn,cla,clo⟩=T at*
 generalize Dw.deltaE xs ⟨ki,cn,cla,clo⟩=E at*
 by_cases h23:ph=2∨ph=3
 ·obtain ⟨hX,hE⟩:=H26.out h23
  subst hX;subst hE
  clear H26 H25 HGO HWr HD
  rcases h23 with rfl|rfl
  all_goals
   go_enter Tryz.func62,Tryz.ntmps62
   go_wp2_with (first|(refine lb b0 rfl rfl rfl (by kernel_rfl) ?_)|(refine sb b0 rfl rfl rfl rfl (by kernel_rfl) ?_)|(refine lb b3 rfl rfl rfl (by kernel_rfl) ?_)|(refine sb b3 rfl rfl rfl rfl (by kernel_rfl) ?_))
   refine bodyPost_ret (rct rfl (srh b3) (by rfl) (by kernel_rfl)) rfl ⟨?_,below_setRow hB (by omega) _⟩
   rfl
 ·have p2:(ph==2)=false:=by simp;omega
  have p3:(ph==3)=false:=by simp;omega
  by_cases hh:ph=0∧1≤ki∧ki≤3
  ·obtain ⟨hX,hE⟩:=H25.out hh.1 hh.2
   obtain ⟨rfl,hk1,hk3⟩:=hh
   subst hX;subst hE
   clear H26 H25 HGO HWr HD h23 p2 p3
   go_enter Tryz.func62,Tryz.ntmps62
   go_wp2_with (first|(refine lb b0 rfl rfl rfl (by kernel_rfl) ?_)|(refine sb b0 rfl rfl rfl rfl (by kernel_rfl) ?_)|(refine lb b3 rfl rfl rfl (by kernel_rfl) ?_)|(refine sb b3 rfl rfl rfl rfl (by kernel_rfl) ?_))
   refine bodyPost_ret (rct rfl (srh b3) (by rfl) (by kernel_rfl)) rfl ⟨?_,below_setRow hB (by omega) _⟩
   rfl
  ·obtain ⟨hX,hE⟩:=HGO.out h23 hh
   have HX:=Lib.hid hX;have HE:=Lib.hid hE
   clear H26 H25 HGO h23 hX hE
   have hcase:(ph==0)=false∨(ph=0∧ki<1)∨(ph=0∧1≤ki∧¬ki≤3):=by
    by_cases h0:ph=0
    ·right
     by_cases h1:ki<1
     ·exact .inl ⟨h0,h1⟩
     ·exact .inr ⟨h0,by omega,fun h=>hh ⟨h0,by omega,h⟩⟩
    ·left;simpa using h0
   clear hh
   rcases hcase with hc|⟨rfl,hc⟩|⟨rfl,hc,hc2⟩
   all_goals
    go_enter Tryz.func62,Tryz.ntmps62
    go_wp2_with (first|(refine lp 42 5 (stC xs) b0 rfl rfl rfl (by kernel_rfl) (by rfl) ?_)|(refine lb b1 rfl rfl rfl (by kernel_rfl) ?_)|(refine sb b1 rfl rfl rfl rfl (by kernel_rfl) ?_))
    refine cb (HD.out _) fun w5 hb=>?_
    replace b0:=kp hb b0
    replace b1:=kp hb b1
    replace b2:=kp hb b2
    replace b3:=kp hb b3
    replace hB:=tr hB hb
    clear hb
    clear hV k0 x11
    have b9:=han w5 (.cells (stC T) 42)
    replace b0:=hao w5 (.cells (stC T) 42) b0
    replace b2:=hao w5 (.cells (stC T) 42) b2
    replace b3:=hao w5 (.cells (stC T) 42) b3
    replace hB:=hB.alloc hB.size (.cells (stC T) 42)
    obtain ⟨W6,hW6⟩:∃W6,w5.alloc (.cells (stC T) 42)=W6:=⟨_,rfl⟩
    rw [hW6] at b9 b0 b2 b3 hB
    by_cases he0:E=0
    ·subst he0
     by_cases hT:T=xs
     ·subst hT
      have hst:∀x y,(do eqGuard .eql 42 x y (stV T) (stV T);binOp .eql 42 (stV T) (stV T):Sem Value).run Tryz.prog W6= .ok (.bool true) W6:=fun x y=>(rst_eq x y T T W6).trans (by simp)
      have HST:=Lib.hid hst
      clear hst
      have hX:=HX.out;have hE:=HE.out
      rw [if_neg (by simp)] at hX hE
      subst hX;subst hE
      clear HX HE HWr HD
      go_wp2_with (first|(refine wpList_load_block_on rfl 42 _ rfl rfl b9 Tryz.underlying42 rfl (by kernel_rfl) ?_)|(refine wpList_load_part_on rfl 42 _ rfl 5 (stC T) rfl b0 Tryz.underlying42 rfl (by kernel_rfl) (by rfl) ?_)|(refine wpList_bin_on rfl .eql 42 _ _ _ rfl (stV T) (stV T) (.bool true) rfl rfl (HST.out _ _) ?_)|(refine lb b0 rfl rfl rfl (by kernel_rfl) ?_)|(refine sb b0 rfl rfl rfl rfl (by kernel_rfl) ?_)|(refine lb b3 rfl rfl rfl (by kernel_rfl) ?_)|(refine sb b3 rfl rfl rfl rfl (by kernel_rfl) ?_))
      refine bodyPost_ret (rct rfl (srh b3) (by rfl) (by kernel_rfl)) rfl ⟨?_,below_setRow hB (by omega) _⟩
      rfl
     ·have hst:∀x y,(do eqGuard .eql 42 x y (stV T) (stV xs);binOp .eql 42 (stV T) (stV xs):Sem Value).run Tryz.prog W6= .ok (.bool false) W6:=fun x y=>(rst_eq x y T xs W6).trans (by rw [decide_eq_false hT])
      have HST:=Lib.hid hst
      clear hst
      have hX:=HX.out;have hE:=HE.out
      rw [if_pos ⟨rfl,hT⟩] at hX hE
      rw [←hX,←hE] at HWr
      clear HX HE HD hX hE
      go_wp2_with (first|(refine wpList_load_block_on rfl 42 _ rfl rfl b9 Tryz.underlying42 rfl (by kernel_rfl) ?_)|(refine wpList_load_part_on rfl 42 _ rfl 5 (stC xs) rfl b0 Tryz.underlying42 rfl (by kernel_rfl) (by rfl) ?_)|(refine wpList_bin_on rfl .eql 42 _ _ _ rfl (stV T) (stV xs) (.bool false) rfl rfl (HST.out _ _) ?_)|(refine lb b0 rfl rfl rfl (by kernel_rfl) ?_)|(refine sb b0 rfl rfl rfl rfl (by kernel_rfl) ?_)|(refine lb b9 rfl rfl rfl (by kernel_rfl) ?_)|(refine sb b9 rfl rfl rfl rfl (by kernel_rfl) ?_)|(refine lb b2 rfl rfl rfl (by kernel_rfl) ?_)|(refine sb b2 rfl rfl rfl rfl (by kernel_rfl) ?_))
      refine cb (HWr.out _) fun w7 hb=>?_
      replace b3:=kp hb b3
      replace hB:=tr hB hb
      clear hb b0 b2 b9 hW6 HWr HST
      go_wp2_with (first|(refine lb b3 rfl rfl rfl (by kernel_rfl) ?_)|(refine sb b3 rfl rfl rfl rfl (by kernel_rfl) ?_))
      refine bodyPost_ret (rct rfl (srh b3) (by rfl) (by kernel_rfl)) rfl ⟨?_,below_setRow hB (by omega) _⟩
      rfl
    ·have hX:=HX.out;have hE:=HE.out
     rw [if_neg (fun h=>he0 h.1)] at hX hE
     subst hX;subst hE
     have heb:(SE==0)=false:=by simpa using he0
     clear HX HE HWr HD
     go_wp2_with (first|(refine lb b0 rfl rfl rfl (by kernel_rfl) ?_)|(refine sb b0 rfl rfl rfl rfl (by kernel_rfl) ?_)|(refine lb b3 rfl rfl rfl (by kernel_rfl) ?_)|(refine sb b3 rfl rfl rfl rfl (by kernel_rfl) ?_))
     refine bodyPost_ret (rct rfl (srh b3) (by rfl) (by kernel_rfl)) rfl ⟨?_,below_setRow hB (by omega) _⟩
     rfl
theorem rsample_any (x:Dw.Su) (a b c:Nat) (p:Dw.Pw) (hf:Dw.FlOk x.f) (hl:Dw.legal x.s=true) (hm:p.mask.length≤100000) (w:World):
  Calls Tryz.prog 63 #[suV x,smV a b c,pwV p] w fun e w'=>e= .returned (.tuple #[suV (Dw.sampleX x (Dw.voteI a b c) p), .int .i64 (Dw.sampleE x (Dw.voteI a b c) p)])∧Below w.heap.size w w':=by
 obtain ⟨V,hV⟩:∃V,(((w.alloc (.cells (suC x) 68)).alloc (.cells (smC a b c) 54)).alloc (.cells (pwC p) 79)).alloc (.cells Z14 68)=V:=⟨_,rfl⟩
 obtain ⟨vz,hB,b0,b1,b2,b3⟩:=alloc4 w _ _ _ _ V hV
 have HV:=Lib.hid (fun w=>rvote_any a b c w)
 generalize hv:Dw.voteI a b c=v at*
 have HSX:=Lib.hid (show Dw.sampleX x v p=if x.ph=3 then x else if x.ph≠0∨verdC (addV x.vo v) (addN x.vo x.n v)=0 then Dw.voted x v else if Dw.resolveS x.s (verdC (addV x.vo v) (addN x.vo x.n v))=x.s∧Dw.kept x=true then {Dw.voted x v with ph:=1} else if Dw.writeE (Dw.voted x v) (Dw.resolveS x.s (verdC (addV x.vo v) (addN x.vo x.n v))) p=0 then {Dw.writeX (Dw.voted x v) (Dw.resolveS x.s (verdC (addV x.vo v) (addN x.vo x.n v))) p with ph:=1} else Dw.writeX (Dw.voted x v) (Dw.resolveS x.s (verdC (addV x.vo v) (addN x.vo x.n v))) p from rfl)
 have HSE:=Lib.hid (show Dw.sampleE x v p=if x.ph=3 then 26 else if x.ph≠0∨verdC (addV x.vo v) (addN x.vo x.n v)=0 then 0 else if Dw.resolveS x.s (verdC (addV x.vo v) (addN x.vo x.n v))=x.s∧Dw.kept x=true then 0 else Dw.writeE (Dw.voted x v) (Dw.resolveS x.s (verdC (addV x.vo v) (addN x.vo x.n v))) p from rfl)
 obtain ⟨SX,hSX⟩:∃S,Dw.sampleX x v p=S:=⟨_,rfl⟩
 obtain ⟨SE,hSE⟩:∃S,Dw.sampleE x v p=S:=⟨_,rfl⟩
 rw [hSX] at HSX ⊢
 rw [hSE] at HSE ⊢
 clear hSX hSE
 obtain ⟨-,-,x11,x12,x13⟩:=cells14 b0
 by_cases h3:x.ph=3
 ·obtain ⟨xf,xs,ph,vo,n⟩:=x
  dsimp only at*
  subst h3
  have hX:=HSX.out;have hE:=HSE.out
  rw [if_pos rfl] at hX hE
  subst hX;subst hE
  clear HSX HSE HV
  go_enter Tryz.func63,Tryz.ntmps63
  go_wp2_with (first|(refine lb b0 rfl rfl rfl (by kernel_rfl) ?_)|(refine sb b0 rfl rfl rfl rfl (by kernel_rfl) ?_)|(refine lb b3 rfl rfl rfl (by kernel_rfl) ?_)|(refine sb b3 rfl rfl rfl rfl (by kernel_rfl) ?_))
  refine bodyPost_ret (rct rfl (srh b3) (by rfl) (by kernel_rfl)) rfl ⟨?_,below_setRow hB (by omega) _⟩
  rfl
 ·obtain ⟨xf,xs,ph,vo,n⟩:=x
  dsimp only at*
  have h3b:(ph==3)=false:=by simpa using h3
  have HSX:=Lib.hid (HSX.out.trans (if_neg h3));have HSE:=Lib.hid (HSE.out.trans (if_neg h3))
  obtain ⟨s0,s1,s2⟩:=cells3 b1
  have HAd:=Lib.hid (fun w=>radd_any vo n v w)
  have HVd:=Lib.hid (fun w=>rverd_any (addV vo v) (addN vo n v) w)
  generalize hvo:addV vo v=vo' at*
  generalize hvn:addN vo n v=vn' at*
  have hvd:Dw.voted ⟨xf,xs,ph,vo,n⟩ v=⟨xf,xs,ph,vo',vn'⟩:=by unfold Dw.voted;rw [hvo,hvn]
  rw [hvd] at HSX HSE
  generalize verdC vo' vn'=d at*
  clear hvd
  have hkv:Dw.kept ⟨xf,xs,ph,vo',vn'⟩=Dw.kept ⟨xf,xs,ph,vo,n⟩:=rfl
  have HKp:=Lib.hid (fun w=>hkv ▸ rkept_any ⟨xf,xs,ph,vo',vn'⟩ hf hl w)
  have HRs:=Lib.hid (fun w=>rresolve_any xs (Dw.legal_iso hl) d w)
  have HWr:=Lib.hid (fun w=>rwrite_any ⟨xf,xs,ph,vo',vn'⟩ (Dw.resolveS xs d) p hf (Dw.resolve_legal hl d) hm w)
  generalize Dw.resolveS xs d=T at*
  obtain ⟨Y,hY⟩:∃Y,Dw.writeX ⟨xf,xs,ph,vo',vn'⟩ T p=Y:=⟨_,rfl⟩
  obtain ⟨YE,hYE⟩:∃Y,Dw.writeE ⟨xf,xs,ph,vo',vn'⟩ T p=Y:=⟨_,rfl⟩
  rw [hY] at HSX HWr
  rw [hYE] at HSX HSE HWr
  clear hY hYE hkv
  generalize Dw.kept ⟨xf,xs,ph,vo,n⟩=kpt at*
  go_enter Tryz.func63,Tryz.ntmps63
  go_wp2_with fail
  try rw [hV]
  clear hV
  refine wp_pure [0,1,2,3,4,5] 6 (by kernel_rfl) (by kernel_rfl) rfl ?_
  (apply rat;(focus (intro w' hk;obtain ⟨k0,k1,k2,k3,k4⟩:=look5 hk x12 x13 s0 s1 s2;repeat' (first|exact rn|((first|refine' rv ?_ rfl rfl (by go_simp;first|done|with_reducible rfl|exact rfl)|refine' rc ?_ (by exact rfl) (by exact rfl) (by go_simp;first|done|(constructor<;>with_reducible rfl)|with_reducible rfl) (by first|first|exact HV.out w'|exact HAd.out w')|refine' rs ?_ rfl rfl);try simp only [Act.put,List.setIfInBounds_toArray,List.set_cons_zero,List.set_cons_succ])))))
  intro W2 hk2
  simp only [List.drop_succ_cons,List.drop_zero]
  replace b0:=kpi hk2 b0
  replace b2:=kpi hk2 b2
  replace b3:=kpi hk2 b3
  replace hB:=hB.trans (hk2.whole.mono hB.size)
  clear hk2 x11 x12 x13 s0 s1 s2 b1 HAd HV
  have f0:=setRow_heap W2 w.heap.size _ (suC ⟨xf,xs,ph,vo',vn'⟩) _ _ b0
  have f2:=(setRow_other W2 w.heap.size (w.heap.size+2) (suC ⟨xf,xs,ph,vo',vn'⟩) (by omega)).trans b2
  have f3:=(setRow_other W2 w.heap.size (w.heap.size+3) (suC ⟨xf,xs,ph,vo',vn'⟩) (by omega)).trans b3
  replace hB:=below_setRow hB (Nat.le_refl _) (suC ⟨xf,xs,ph,vo',vn'⟩)
  obtain ⟨W3,hW3⟩:∃W3,W2.setRow w.heap.size (suC ⟨xf,xs,ph,vo',vn'⟩)=W3:=⟨_,rfl⟩
  rw [hW3] at f0 f2 f3 hB
  go_wp2_with (first|(refine wpList_store_part rfl 50 _ _ rfl 12 #[.int .i64 vo', .int .i64 vn'] (suC ⟨xf,xs,ph,vo',vn'⟩) rfl rfl b0 (by kernel_rfl) (Nat.le_of_ble_eq_true rfl) (by simp [Value.oneCell']) (by rfl) ?_)|(refine wpList_load_part rfl 50 _ rfl 12 #[.int .i64 vo', .int .i64 vn'] rfl f0 Tryz.underlying50 rfl (by kernel_rfl) (by rfl) ?_))
  clear hW3 b0 b2 b3
  have b0:=f0;have b2:=f2;have b3:=f3
  clear f0 f2 f3
  refine cb (HVd.out _) fun w4 hb=>?_
  replace b0:=kp hb b0
  replace b2:=kp hb b2
  replace b3:=kp hb b3
  replace hB:=tr hB hb
  clear hb
  clear HVd
  obtain ⟨-,-,x11,-,-⟩:=cells14 b0
  by_cases hpd:ph≠0∨d=0
  ·have hX:=HSX.out;have hE:=HSE.out
   rw [if_pos hpd] at hX hE
   subst hX;subst hE
   clear HSX HSE HKp HRs HWr
   by_cases hp:ph=0
   ·subst hp
    obtain rfl:d=0:=by rcases hpd with h|h;exact absurd rfl h;exact h
    clear hpd
    go_wp2_with (first|(refine lb b0 rfl rfl rfl (by kernel_rfl) ?_)|(refine sb b0 rfl rfl rfl rfl (by kernel_rfl) ?_)|(refine lb b3 rfl rfl rfl (by kernel_rfl) ?_)|(refine sb b3 rfl rfl rfl rfl (by kernel_rfl) ?_))
    refine bodyPost_ret (rct rfl (srh b3) (by rfl) (by kernel_rfl)) rfl ⟨?_,below_setRow hB (by omega) _⟩
    rfl
   ·have hpn:(ph !=0)=true:=by simpa using hp
    clear hpd
    go_wp2_with (first|(refine lb b0 rfl rfl rfl (by kernel_rfl) ?_)|(refine sb b0 rfl rfl rfl rfl (by kernel_rfl) ?_)|(refine lb b3 rfl rfl rfl (by kernel_rfl) ?_)|(refine sb b3 rfl rfl rfl rfl (by kernel_rfl) ?_))
    refine bodyPost_ret (rct rfl (srh b3) (by rfl) (by kernel_rfl)) rfl ⟨?_,below_setRow hB (by omega) _⟩
    rfl
  ·have HX:=Lib.hid (HSX.out.trans (if_neg hpd));have HE:=Lib.hid (HSE.out.trans (if_neg hpd))
   have hp:ph=0:=Decidable.byContradiction fun h=>hpd (.inl h)
   have hd:¬d=0:=fun h=>hpd (.inr h)
   subst hp
   have hdb:(d==0)=false:=by simpa using hd
   clear HSX HSE hpd
   go_wp2_with (first|(refine lp 42 5 (stC xs) b0 rfl rfl rfl (by kernel_rfl) (by rfl) ?_))
   refine cb (HRs.out _) fun w5 hb=>?_
   replace b0:=kp hb b0
   replace b2:=kp hb b2
   replace b3:=kp hb b3
   replace hB:=tr hB hb
   clear hb
   clear HRs x11
   have b9:=han w5 (.cells (stC T) 42)
   replace b0:=hao w5 (.cells (stC T) 42) b0
   replace b2:=hao w5 (.cells (stC T) 42) b2
   replace b3:=hao w5 (.cells (stC T) 42) b3
   replace hB:=hB.alloc hB.size (.cells (stC T) 42)
   obtain ⟨W6,hW6⟩:∃W6,w5.alloc (.cells (stC T) 42)=W6:=⟨_,rfl⟩
   rw [hW6] at b9 b0 b2 b3 hB
   by_cases hT:T=xs
   ·subst hT
    have hst:∀x y,(do eqGuard .eql 42 x y (stV T) (stV T);binOp .eql 42 (stV T) (stV T):Sem Value).run Tryz.prog W6= .ok (.bool true) W6:=fun x y=>(rst_eq x y T T W6).trans (by simp)
    have HST:=Lib.hid hst
    clear hst
    go_wp2_with (first|(refine lb b9 rfl rfl rfl (by kernel_rfl) ?_)|(refine sb b9 rfl rfl rfl rfl (by kernel_rfl) ?_)|(refine lp 42 5 (stC T) b0 rfl rfl rfl (by kernel_rfl) (by rfl) ?_)|(refine wpList_bin rfl .eql 42 _ _ _ rfl (stV T) (stV T) (.bool true) rfl rfl (HST.out _ _) ?_)|(refine wpList_load_block_on rfl 68 _ rfl rfl b0 Tryz.underlying68 rfl (by kernel_rfl) ?_))
    refine cb (HKp.out _) fun w7 hb=>?_
    replace b9:=kp hb b9
    replace b0:=kp hb b0
    replace b2:=kp hb b2
    replace b3:=kp hb b3
    replace hB:=tr hB hb
    clear hb
    clear HKp hW6
    cases kpt
    ·have HX:=Lib.hid (HX.out.trans (if_neg (by simp)));have HE:=Lib.hid (HE.out.trans (if_neg (by simp)))
     go_wp2_with (first|(refine lb b0 rfl rfl rfl (by kernel_rfl) ?_)|(refine sb b0 rfl rfl rfl rfl (by kernel_rfl) ?_)|(refine lb b9 rfl rfl rfl (by kernel_rfl) ?_)|(refine sb b9 rfl rfl rfl rfl (by kernel_rfl) ?_)|(refine lb b2 rfl rfl rfl (by kernel_rfl) ?_)|(refine sb b2 rfl rfl rfl rfl (by kernel_rfl) ?_))
     refine cb (HWr.out _) fun w8 hb=>?_
     replace b3:=kp hb b3
     replace hB:=tr hB hb
     clear hb b0 b2 b9 HWr HST
     have hlt8:=block_lt b3
     have b10:=han w8 (.cells (suC Y) 68)
     replace b3:=hao w8 (.cells (suC Y) 68) b3
     replace hB:=hB.alloc hB.size (.cells (suC Y) 68)
     obtain ⟨W10,hW10⟩:∃W,w8.alloc (.cells (suC Y) 68)=W:=⟨_,rfl⟩
     rw [hW10] at b10 b3 hB
     have hwz:w.heap.size≤w8.heap.size:=by omega
     have hne8:w.heap.size+3≠w8.heap.size:=by omega
     obtain ⟨yf,ys,yp,yv,yn⟩:=Y
     by_cases he:YE=0
     ·subst he
      have r10:=heap_setCell_same _ w8.heap.size 11 _ _ (.int .i64 1) b10
      change _=some (Obj.cells (suC ⟨yf,ys,1,yv,yn⟩) _ _) at r10
      have r3:=(heap_setCell_other _ ⟨w8.heap.size,11,none⟩ (w.heap.size+3) (.int .i64 1) hne8).trans b3
      replace hB:=hB.setCell (p:=⟨w8.heap.size,11,none⟩) hwz (.int .i64 1)
      obtain ⟨-,-,c11,-⟩:=cells14 b10
      have z11:=frozen0 b10 11
      have hX:=HX.out;have hE:=HE.out
      rw [if_pos rfl] at hX
      subst hX;subst hE
      clear HX HE
      go_wp2_with (first|(refine lb r10 rfl rfl rfl (by kernel_rfl) ?_)|(refine sb r10 rfl rfl rfl rfl (by kernel_rfl) ?_)|(refine lb r3 rfl rfl rfl (by kernel_rfl) ?_)|(refine sb r3 rfl rfl rfl rfl (by kernel_rfl) ?_))
      refine bodyPost_ret (rct rfl (srh r3) (by rfl) (by kernel_rfl)) rfl ⟨?_,below_setRow hB (by omega) _⟩
      rfl
     ·have heb:(YE==0)=false:=by simpa using he
      have hX:=HX.out;have hE:=HE.out
      rw [if_neg he] at hX
      subst hX;subst hE
      clear HX HE
      go_wp2_with (first|(refine lb b10 rfl rfl rfl (by kernel_rfl) ?_)|(refine sb b10 rfl rfl rfl rfl (by kernel_rfl) ?_)|(refine lb b3 rfl rfl rfl (by kernel_rfl) ?_)|(refine sb b3 rfl rfl rfl rfl (by kernel_rfl) ?_))
      refine bodyPost_ret (rct rfl (srh b3) (by rfl) (by kernel_rfl)) rfl ⟨?_,below_setRow hB (by omega) _⟩
      rfl
    ·have hX:=HX.out;have hE:=HE.out
     rw [if_pos (by simp)] at hX hE
     subst hX;subst hE
     have r0:=heap_setCell_same _ w.heap.size 11 _ _ (.int .i64 1) b0
     change _=some (Obj.cells (suC ⟨xf,T,1,vo',vn'⟩) _ _) at r0
     have r3:=(heap_setCell_other _ ⟨w.heap.size,11,none⟩ (w.heap.size+3) (.int .i64 1) (by simp)).trans b3
     replace hB:=hB.setCell (p:=⟨w.heap.size,11,none⟩) (by simp) (.int .i64 1)
     obtain ⟨-,-,c11,-⟩:=cells14 b0
     have z11:=frozen0 b0 11
     clear HX HE HWr HST
     go_wp2_with (first|(refine lb r0 rfl rfl rfl (by kernel_rfl) ?_)|(refine sb r0 rfl rfl rfl rfl (by kernel_rfl) ?_)|(refine lb r3 rfl rfl rfl (by kernel_rfl) ?_)|(refine sb r3 rfl rfl rfl rfl (by kernel_rfl) ?_))
     refine bodyPost_ret (rct rfl (srh r3) (by rfl) (by kernel_rfl)) rfl ⟨?_,below_setRow hB (by omega) _⟩
     rfl
   ·have hst:∀x y,(do eqGuard .eql 42 x y (stV T) (stV xs);binOp .eql 42 (stV T) (stV xs):Sem Value).run Tryz.prog W6= .ok (.bool false) W6:=fun x y=>(rst_eq x y T xs W6).trans (by rw [decide_eq_false hT])
    have HST:=Lib.hid hst
    clear hst
    have HX:=Lib.hid (HX.out.trans (if_neg (fun h=>hT h.1)));have HE:=Lib.hid (HE.out.trans (if_neg (fun h=>hT h.1)))
    go_wp2_with (first|(refine lb b9 rfl rfl rfl (by kernel_rfl) ?_)|(refine sb b9 rfl rfl rfl rfl (by kernel_rfl) ?_)|(refine lp 42 5 (stC xs) b0 rfl rfl rfl (by kernel_rfl) (by rfl) ?_)|(refine wpList_bin rfl .eql 42 _ _ _ rfl (stV T) (stV xs) (.bool false) rfl rfl (HST.out _ _) ?_)|(refine lb b0 rfl rfl rfl (by kernel_rfl) ?_)|(refine sb b0 rfl rfl rfl rfl (by kernel_rfl) ?_)|(refine lb b2 rfl rfl rfl (by kernel_rfl) ?_)|(refine sb b2 rfl rfl rfl rfl (by kernel_rfl) ?_))
    clear hW6 HKp
    refine cb (HWr.out _) fun w8 hb=>?_
    replace b3:=kp hb b3
    replace hB:=tr hB hb
    clear hb b0 b2 b9 HWr HST
    have hlt8:=block_lt b3
    have b10:=han w8 (.cells (suC Y) 68)
    replace b3:=hao w8 (.cells (suC Y) 68) b3
    replace hB:=hB.alloc hB.size (.cells (suC Y) 68)
    obtain ⟨W10,hW10⟩:∃W,w8.alloc (.cells (suC Y) 68)=W:=⟨_,rfl⟩
    rw [hW10] at b10 b3 hB
    have hwz:w.heap.size≤w8.heap.size:=by omega
    have hne8:w.heap.size+3≠w8.heap.size:=by omega
    obtain ⟨yf,ys,yp,yv,yn⟩:=Y
    by_cases he:YE=0
    ·subst he
     have r10:=heap_setCell_same _ w8.heap.size 11 _ _ (.int .i64 1) b10
     change _=some (Obj.cells (suC ⟨yf,ys,1,yv,yn⟩) _ _) at r10
     have r3:=(heap_setCell_other _ ⟨w8.heap.size,11,none⟩ (w.heap.size+3) (.int .i64 1) hne8).trans b3
     replace hB:=hB.setCell (p:=⟨w8.heap.size,11,none⟩) hwz (.int .i64 1)
     obtain ⟨-,-,c11,-⟩:=cells14 b10
     have z11:=frozen0 b10 11
     have hX:=HX.out;have hE:=HE.out
     rw [if_pos rfl] at hX
     subst hX;subst hE
     clear HX HE
     go_wp2_with (first|(refine lb r10 rfl rfl rfl (by kernel_rfl) ?_)|(refine sb r10 rfl rfl rfl rfl (by kernel_rfl) ?_)|(refine lb r3 rfl rfl rfl (by kernel_rfl) ?_)|(refine sb r3 rfl rfl rfl rfl (by kernel_rfl) ?_))
     refine bodyPost_ret (rct rfl (srh r3) (by rfl) (by kernel_rfl)) rfl ⟨?_,below_setRow hB (by omega) _⟩
     rfl
    ·have heb:(YE==0)=false:=by simpa using he
     have hX:=HX.out;have hE:=HE.out
     rw [if_neg he] at hX
     subst hX;subst hE
     clear HX HE
     go_wp2_with (first|(refine lb b10 rfl rfl rfl (by kernel_rfl) ?_)|(refine sb b10 rfl rfl rfl rfl (by kernel_rfl) ?_)|(refine lb b3 rfl rfl rfl (by kernel_rfl) ?_)|(refine sb b3 rfl rfl rfl rfl (by kernel_rfl) ?_))
     refine bodyPost_ret (rct rfl (srh b3) (by rfl) (by kernel_rfl)) rfl ⟨?_,below_setRow hB (by omega) _⟩
     rfl
end Go.Proofs.YtnaokijcggbfdaaGreatDoor
