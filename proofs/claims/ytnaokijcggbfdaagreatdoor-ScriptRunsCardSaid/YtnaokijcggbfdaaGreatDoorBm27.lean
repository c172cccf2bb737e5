/- What the statement's proof stands on, part 27: RFlash, RPower. -/
import Derived.Test.YtnaokijcggbfdaaGreatDoorBm22
import Derived.Test.YtnaokijcggbfdaaGreatDoorBm21
set_option linter.unusedSimpArgs false
set_option linter.unusedVariables false
set_option maxRecDepth 100000
set_option maxHeartbeats 4000000
namespace Go.Proofs.YtnaokijcggbfdaaGreatDoor
open Go.RowKit Go.Shelf
attribute [local go_sem] Oper.semAt_some
theorem allFF_ffs (n:Nat):allFF n=⟨(Dw.ffs n).toArray⟩:=rfl
theorem rreadsA (f:Dw.Fl) (at_ n:Nat) (h:at_+n≤(f.a).length) (hl:(f.a).length≤400) (w:World):
  Calls Tryz.prog 226 #[flV f, .int .i64 0, .int .i64 at_, .int .i64 n] w fun e w'=>e= .returned (.int .i64 0)∧Below w.heap.size w w':=by
 have hB:=(Below.refl w.heap.size w).alloc (Nat.le_refl _) (.cells (flashC f.a f.b f.e0 f.e1 f.li) 66)
 have hF:=han w (.cells (flashC f.a f.b f.e0 f.e1 f.li) 66)
 obtain ⟨c0,c1,c2,c3,c4⟩:=cells5 hF
 have i1:¬(at_:Int)<0:=by omega
 have i2:¬(n:Int)<0:=by omega
 have i3:¬((f.a).length:Int)<(at_:Int):=by omega
 have i4:IntKind.i64.wrap (((f.a).length:Int)-(at_:Int))=((f.a).length:Int)-(at_:Int):=IntWalk.i64_in _ (by omega)
 have i5:¬((f.a).length:Int)-(at_:Int)<(n:Int):=by omega
 go_enter Tryz.func226,Tryz.ntmps226
 go_wp2_with fail
 go_ret
 exact ⟨rfl,hB⟩
theorem rprogramA (f:Dw.Fl) (at_:Nat) (data:List UInt8) (h:at_+data.length≤(f.a).length) (hl:(f.a).length≤400) (he:at_%2=0) (hd:data.length%2=0) (w:World):
  Calls Tryz.prog 214 #[flV f, .int .i64 0, .int .i64 at_, .string ⟨data.toArray⟩] w fun e w'=>e= .returned (.tuple #[flV (Dw.doOp f ⟨1,0,at_,data⟩), .int .i64 0])∧Below w.heap.size w w':=by
 have HO:=Lib.hid (show flV (Dw.doOp f ⟨1,0,at_,data⟩)=flV ((f.put 0 (Dw.over (f.a) at_ (Dw.andB (Dw.sub (f.a) at_ data.length) data))).wearN 0 0) from rfl)
 obtain ⟨V,hV⟩:∃V,(w.alloc (.cells (flashC f.a f.b f.e0 f.e1 f.li) 66)).alloc (.cells (flashC [] [] 0 0 0) 66)=V:=⟨_,rfl⟩
 have b0:=hV ▸ heap_alloc2_old w (.cells (flashC f.a f.b f.e0 f.e1 f.li) 66) (.cells (flashC [] [] 0 0 0) 66)
 have b1:=hV ▸ heap_alloc2_new w (.cells (flashC f.a f.b f.e0 f.e1 f.li) 66) (.cells (flashC [] [] 0 0 0) 66)
 have hB:Below w.heap.size w V:=hV ▸ ((Below.refl w.heap.size w).alloc (Nat.le_refl _) _).alloc (by simp) _
 obtain ⟨c0,c1,c2,c3,c4⟩:=cells5 b0
 have HR:=Lib.hid (fun w=>rreadsA f at_ data.length h hl w)
 have i0:Int.tmod (at_:Int) 2=0:=by rw [show Int.tmod (at_:Int) 2=((at_%2:Nat):Int) from rfl,he];rfl
 have i1:Int.tmod (data.length:Int) 2=0:=by rw [show Int.tmod (data.length:Int) 2=((data.length%2:Nat):Int) from rfl,hd];rfl
 have i2:(at_:Int)%2=0:=by omega
 have i3:(data.length:Int)%2=0:=by omega
 go_enter Tryz.func214,Tryz.ntmps214
 go_wp2_with fail
 refine cb (HR.out _) fun w1 hb=>?_
 replace b0:=kp hb b0
 replace b1:=kp hb b1
 replace hB:=tr hB hb
 clear hb c0 c1 c2 c3 c4 hV
 obtain ⟨c0,c1,c2,c3,c4⟩:=cells5 b0
 have f1:=frozen0 b0 0
 have i6:IntKind.i64.wrap ((at_:Int)+(data.length:Int))=(at_:Int)+(data.length:Int):=IntWalk.i64_in _ (by omega)
 go_wp2_with fail
 have i7:(at_:Int)+(data.length:Int)≤((f.a).length:Int):=by omega
 have i8:((at_:Int)+(data.length:Int)).toNat=at_+data.length:=by omega
 have i9:(0:Int)≤(at_:Int)+(data.length:Int):=by omega
 have i10:(at_:Int)≤((f.a).length:Int):=by omega
 have i11:(at_:Int)≤(at_:Int)+(data.length:Int):=by omega
 have x1:(⟨(f.a).toArray⟩:ByteArray).extract 0 at_=⟨((f.a).take at_).toArray⟩:=by rw [bs_extract,List.drop_zero]
 have x2:(⟨(f.a).toArray⟩:ByteArray).extract at_ (at_+data.length)=⟨(Dw.sub (f.a) at_ data.length).toArray⟩:=by rw [bs_extract,List.drop_take,Nat.add_sub_cancel_left];rfl
 have x3:(⟨(f.a).toArray⟩:ByteArray).extract (at_+data.length) (f.a).length=⟨((f.a).drop (at_+data.length)).toArray⟩:=by rw [bs_extract,List.take_length]
 have lA:((f.a).take at_).length≤400:=by rw [List.length_take];omega
 have lZ:((f.a).drop (at_+data.length)).length≤400:=by rw [List.length_drop];omega
 have lS:(Dw.sub (f.a) at_ data.length).length≤400:=by rw [Dw.sub_length _ _ _ h];omega
 have lM:(Dw.andB (Dw.sub (f.a) at_ data.length) data).length≤400:=by rw [Dw.andB_length];exact lS
 have lMd:(Dw.andB (Dw.sub (f.a) at_ data.length) data).length=data.length:=by rw [Dw.andB_length,Dw.sub_length _ _ _ h]
 have HAND:=Lib.hid (fun w=>rand_any (Dw.sub (f.a) at_ data.length) data lS (by omega) w)
 have hov:Dw.over (f.a) at_ (Dw.andB (Dw.sub (f.a) at_ data.length) data)=(f.a).take at_++(Dw.andB (Dw.sub (f.a) at_ data.length) data++(f.a).drop (at_+data.length)):=by unfold Dw.over;rw [lMd]
 rw [hov] at HO
 generalize (f.a).take at_=A at*
 generalize (f.a).drop (at_+data.length)=Z at*
 generalize Dw.andB (Dw.sub (f.a) at_ data.length) data=M at*
 generalize Dw.sub (f.a) at_ data.length=S at*
 clear lMd hov lS
 have j1:¬9223372036854775807<A.length+M.length:=by omega
 have j2:¬9223372036854775807<A.length+M.length+Z.length:=by omega
 refine wp_pure [0,1,2,3,4,5,6,7,8,9,10,11,12,13,14,15,16] 17 (by kernel_rfl) (by kernel_rfl) rfl ?_
 (apply rat;(focus (intro w' hk;repeat' (first|exact rn|((first|refine' rv ?_ rfl rfl (by go_simp;first|done|with_reducible rfl|exact rfl)|refine' rc ?_ (by exact rfl) (by exact rfl) (by go_simp;first|done|(constructor<;>with_reducible rfl)|with_reducible rfl) (by exact HAND.out w')|refine' rs ?_ rfl rfl);try simp only [Act.put,List.setIfInBounds_toArray,List.set_cons_zero,List.set_cons_succ])))))
 intro w2 hk2
 simp only [List.drop_succ_cons,List.drop_zero]
 replace b0:=kpi hk2 b0
 replace b1:=kpi hk2 b1
 replace hB:=hB.trans (hk2.whole.mono hB.size)
 clear hk2 c0 c1 c2 c3 c4 f1 x1 x2 x3
 have f1:=frozen0 b0 0
 obtain ⟨c0,c1,c2,c3,c4⟩:=cells5 b0
 have q0:=heap_setCell_same w2 w.heap.size 0 _ 66 (.string (⟨A.toArray⟩++⟨M.toArray⟩++⟨Z.toArray⟩)) b0
 change _=some (Obj.cells #[.string (⟨A.toArray⟩++⟨M.toArray⟩++⟨Z.toArray⟩), .string ⟨f.b.toArray⟩, .int .i64 f.e0, .int .i64 f.e1, .int .i64 f.li] _ _) at q0
 have q1:=(heap_setCell_other w2 ⟨w.heap.size,0,none⟩ (w.heap.size+1) (.string (⟨A.toArray⟩++⟨M.toArray⟩++⟨Z.toArray⟩)) (by simp)).trans b1
 have hB3:=hB.setCell (p:=⟨w.heap.size,0,none⟩) (by simp) (.string (⟨A.toArray⟩++⟨M.toArray⟩++⟨Z.toArray⟩))
 have Q0:=Lib.hid q0;have Q1:=Lib.hid q1;have HB3:=Lib.hid hB3
 clear q0 q1 hB3 b0 b1 hB
 go_wp2_with (first|(refine lb Q0.out rfl rfl rfl (by kernel_rfl) ?_)|(refine sb Q1.out rfl rfl rfl rfl (by kernel_rfl) ?_))
 refine bodyPost_ret (rct rfl (srh Q1.out) (by rfl) (by kernel_rfl)) rfl ⟨?_,below_setRow HB3.out (by omega) _⟩
 rw [HO.out];simp [Dw.Fl.put,Dw.Fl.wearN,bs_append]
theorem rreadsB (f:Dw.Fl) (at_ n:Nat) (h:at_+n≤(f.b).length) (hl:(f.b).length≤400) (w:World):
  Calls Tryz.prog 226 #[flV f, .int .i64 1, .int .i64 at_, .int .i64 n] w fun e w'=>e= .returned (.int .i64 0)∧Below w.heap.size w w':=by
 have hB:=(Below.refl w.heap.size w).alloc (Nat.le_refl _) (.cells (flashC f.a f.b f.e0 f.e1 f.li) 66)
 have hF:=han w (.cells (flashC f.a f.b f.e0 f.e1 f.li) 66)
 obtain ⟨c0,c1,c2,c3,c4⟩:=cells5 hF
 have i1:¬(at_:Int)<0:=by omega
 have i2:¬(n:Int)<0:=by omega
 have i3:¬((f.b).length:Int)<(at_:Int):=by omega
 have i4:IntKind.i64.wrap (((f.b).length:Int)-(at_:Int))=((f.b).length:Int)-(at_:Int):=IntWalk.i64_in _ (by omega)
 have i5:¬((f.b).length:Int)-(at_:Int)<(n:Int):=by omega
 go_enter Tryz.func226,Tryz.ntmps226
 go_wp2_with fail
 go_ret
 exact ⟨rfl,hB⟩
theorem rprogramB (f:Dw.Fl) (at_:Nat) (data:List UInt8) (h:at_+data.length≤(f.b).length) (hl:(f.b).length≤400) (he:at_%2=0) (hd:data.length%2=0) (w:World):
  Calls Tryz.prog 214 #[flV f, .int .i64 1, .int .i64 at_, .string ⟨data.toArray⟩] w fun e w'=>e= .returned (.tuple #[flV (Dw.doOp f ⟨1,1,at_,data⟩), .int .i64 0])∧Below w.heap.size w w':=by
 have HO:=Lib.hid (show flV (Dw.doOp f ⟨1,1,at_,data⟩)=flV ((f.put 1 (Dw.over (f.b) at_ (Dw.andB (Dw.sub (f.b) at_ data.length) data))).wearN 1 0) from rfl)
 obtain ⟨V,hV⟩:∃V,(w.alloc (.cells (flashC f.a f.b f.e0 f.e1 f.li) 66)).alloc (.cells (flashC [] [] 0 0 0) 66)=V:=⟨_,rfl⟩
 have b0:=hV ▸ heap_alloc2_old w (.cells (flashC f.a f.b f.e0 f.e1 f.li) 66) (.cells (flashC [] [] 0 0 0) 66)
 have b1:=hV ▸ heap_alloc2_new w (.cells (flashC f.a f.b f.e0 f.e1 f.li) 66) (.cells (flashC [] [] 0 0 0) 66)
 have hB:Below w.heap.size w V:=hV ▸ ((Below.refl w.heap.size w).alloc (Nat.le_refl _) _).alloc (by simp) _
 obtain ⟨c0,c1,c2,c3,c4⟩:=cells5 b0
 have HR:=Lib.hid (fun w=>rreadsB f at_ data.length h hl w)
 have i0:Int.tmod (at_:Int) 2=0:=by rw [show Int.tmod (at_:Int) 2=((at_%2:Nat):Int) from rfl,he];rfl
 have i1:Int.tmod (data.length:Int) 2=0:=by rw [show Int.tmod (data.length:Int) 2=((data.length%2:Nat):Int) from rfl,hd];rfl
 have i2:(at_:Int)%2=0:=by omega
 have i3:(data.length:Int)%2=0:=by omega
 go_enter Tryz.func214,Tryz.ntmps214
 go_wp2_with fail
 refine cb (HR.out _) fun w1 hb=>?_
 replace b0:=kp hb b0
 replace b1:=kp hb b1
 replace hB:=tr hB hb
 clear hb c0 c1 c2 c3 c4 hV
 obtain ⟨c0,c1,c2,c3,c4⟩:=cells5 b0
 have f1:=frozen0 b0 1
 have i6:IntKind.i64.wrap ((at_:Int)+(data.length:Int))=(at_:Int)+(data.length:Int):=IntWalk.i64_in _ (by omega)
 go_wp2_with fail
 have i7:(at_:Int)+(data.length:Int)≤((f.b).length:Int):=by omega
 have i8:((at_:Int)+(data.length:Int)).toNat=at_+data.length:=by omega
 have i9:(0:Int)≤(at_:Int)+(data.length:Int):=by omega
 have i10:(at_:Int)≤((f.b).length:Int):=by omega
 have i11:(at_:Int)≤(at_:Int)+(data.length:Int):=by omega
 have x1:(⟨(f.b).toArray⟩:ByteArray).extract 0 at_=⟨((f.b).take at_).toArray⟩:=by rw [bs_extract,List.drop_zero]
 have x2:(⟨(f.b).toArray⟩:ByteArray).extract at_ (at_+data.length)=⟨(Dw.sub (f.b) at_ data.length).toArray⟩:=by rw [bs_extract,List.drop_take,Nat.add_sub_cancel_left];rfl
 have x3:(⟨(f.b).toArray⟩:ByteArray).extract (at_+data.length) (f.b).length=⟨((f.b).drop (at_+data.length)).toArray⟩:=by rw [bs_extract,List.take_length]
 have lA:((f.b).take at_).length≤400:=by rw [List.length_take];omega
 have lZ:((f.b).drop (at_+data.length)).length≤400:=by rw [List.length_drop];omega
 have lS:(Dw.sub (f.b) at_ data.length).length≤400:=by rw [Dw.sub_length _ _ _ h];omega
 have lM:(Dw.andB (Dw.sub (f.b) at_ data.length) data).length≤400:=by rw [Dw.andB_length];exact lS
 have lMd:(Dw.andB (Dw.sub (f.b) at_ data.length) data).length=data.length:=by rw [Dw.andB_length,Dw.sub_length _ _ _ h]
 have HAND:=Lib.hid (fun w=>rand_any (Dw.sub (f.b) at_ data.length) data lS (by omega) w)
 have hov:Dw.over (f.b) at_ (Dw.andB (Dw.sub (f.b) at_ data.length) data)=(f.b).take at_++(Dw.andB (Dw.sub (f.b) at_ data.length) data++(f.b).drop (at_+data.length)):=by unfold Dw.over;rw [lMd]
 rw [hov] at HO
 generalize (f.b).take at_=A at*
 generalize (f.b).drop (at_+data.length)=Z at*
 generalize Dw.andB (Dw.sub (f.b) at_ data.length) data=M at*
 generalize Dw.sub (f.b) at_ data.length=S at*
 clear lMd hov lS
 have j1:¬9223372036854775807<A.length+M.length:=by omega
 have j2:¬9223372036854775807<A.length+M.length+Z.length:=by omega
 refine wp_pure [0,1,2,3,4,5,6,7,8,9,10,11,12,13,14,15,16] 17 (by kernel_rfl) (by kernel_rfl) rfl ?_
 (apply rat;(focus (intro w' hk;repeat' (first|exact rn|((first|refine' rv ?_ rfl rfl (by go_simp;first|done|with_reducible rfl|exact rfl)|refine' rc ?_ (by exact rfl) (by exact rfl) (by go_simp;first|done|(constructor<;>with_reducible rfl)|with_reducible rfl) (by exact HAND.out w')|refine' rs ?_ rfl rfl);try simp only [Act.put,List.setIfInBounds_toArray,List.set_cons_zero,List.set_cons_succ])))))
 intro w2 hk2
 simp only [List.drop_succ_cons,List.drop_zero]
 replace b0:=kpi hk2 b0
 replace b1:=kpi hk2 b1
 replace hB:=hB.trans (hk2.whole.mono hB.size)
 clear hk2 c0 c1 c2 c3 c4 f1 x1 x2 x3
 have f1:=frozen0 b0 1
 obtain ⟨c0,c1,c2,c3,c4⟩:=cells5 b0
 have q0:=heap_setCell_same w2 w.heap.size 1 _ 66 (.string (⟨A.toArray⟩++⟨M.toArray⟩++⟨Z.toArray⟩)) b0
 change _=some (Obj.cells #[.string ⟨f.a.toArray⟩, .string (⟨A.toArray⟩++⟨M.toArray⟩++⟨Z.toArray⟩), .int .i64 f.e0, .int .i64 f.e1, .int .i64 f.li] _ _) at q0
 have q1:=(heap_setCell_other w2 ⟨w.heap.size,1,none⟩ (w.heap.size+1) (.string (⟨A.toArray⟩++⟨M.toArray⟩++⟨Z.toArray⟩)) (by simp)).trans b1
 have hB3:=hB.setCell (p:=⟨w.heap.size,1,none⟩) (by simp) (.string (⟨A.toArray⟩++⟨M.toArray⟩++⟨Z.toArray⟩))
 have Q0:=Lib.hid q0;have Q1:=Lib.hid q1;have HB3:=Lib.hid hB3
 clear q0 q1 hB3 b0 b1 hB
 go_wp2_with (first|(refine lb Q0.out rfl rfl rfl (by kernel_rfl) ?_)|(refine sb Q1.out rfl rfl rfl rfl (by kernel_rfl) ?_))
 refine bodyPost_ret (rct rfl (srh Q1.out) (by rfl) (by kernel_rfl)) rfl ⟨?_,below_setRow HB3.out (by omega) _⟩
 rw [HO.out];simp [Dw.Fl.put,Dw.Fl.wearN,bs_append]
theorem reraseA (f:Dw.Fl) (hl:(f.a).length≤400) (hw:IntKind.i64.wrap (f.e0+1)=f.e0+1) (hlt:f.e0<f.li) (at_:Nat) (data:List UInt8) (w:World):
  Calls Tryz.prog 215 #[flV f, .int .i64 0] w fun e w'=>e= .returned (.tuple #[flV (Dw.doOp f ⟨2,0,at_,data⟩), .int .i64 0])∧Below w.heap.size w w':=by
 have HO:=Lib.hid (show flV (Dw.doOp f ⟨2,0,at_,data⟩)=flashV (Dw.ffs f.a.length) f.b (f.e0+1) f.e1 f.li from rfl)
 obtain ⟨V,hV⟩:∃V,(w.alloc (.cells (flashC f.a f.b f.e0 f.e1 f.li) 66)).alloc (.cells (flashC [] [] 0 0 0) 66)=V:=⟨_,rfl⟩
 have b0:=hV ▸ heap_alloc2_old w (.cells (flashC f.a f.b f.e0 f.e1 f.li) 66) (.cells (flashC [] [] 0 0 0) 66)
 have b1:=hV ▸ heap_alloc2_new w (.cells (flashC f.a f.b f.e0 f.e1 f.li) 66) (.cells (flashC [] [] 0 0 0) 66)
 have hB:Below w.heap.size w V:=hV ▸ ((Below.refl w.heap.size w).alloc (Nat.le_refl _) _).alloc (by simp) _
 obtain ⟨c0,c1,c2,c3,c4⟩:=cells5 b0
 have hge:¬f.li≤f.e0:=by omega
 go_enter Tryz.func215,Tryz.ntmps215
 go_wp2_with fail
 refine wp_pure [0,1,2,3,4,5,6] 7 (by kernel_rfl) (by kernel_rfl) rfl ?_
 (apply rat;(focus (intro w' hk;obtain ⟨k2,k4⟩:=look2 hk c2 c4;repeat' (first|exact rn|((first|refine' rv ?_ rfl rfl (by go_simp;first|done|with_reducible rfl|exact rfl)|refine' rs ?_ rfl rfl);try simp only [Act.put,List.setIfInBounds_toArray,List.set_cons_zero,List.set_cons_succ])))))
 intro w2 hk2
 simp only [List.drop_succ_cons,List.drop_zero]
 replace b0:=kpi hk2 b0
 replace b1:=kpi hk2 b1
 replace hB:=hB.trans (hk2.whole.mono hB.size)
 clear hk2 c0 c1 c2 c3 c4 hV
 obtain ⟨c0,c1,c2,c3,c4⟩:=cells5 b0
 go_wp2_with fail
 refine cb (rblankN_any (f.a).length (by omega) _) fun w3 hb=>?_
 replace b0:=kp hb b0
 replace b1:=kp hb b1
 replace hB:=tr hB hb
 clear hb c0 c1 c2 c3 c4
 rw [allFF_ffs]
 obtain ⟨c0,c1,c2,c3,c4⟩:=cells5 b0
 have f0:=frozen0 b0
 have f1:=f0 0
 have f2:=f0 2
 clear f0
 have p1:=heap_setCell_same w3 w.heap.size 0 _ 66 (.string ⟨(Dw.ffs (f.a).length).toArray⟩) b0
 have q1:=heap_setCell_same _ w.heap.size 2 _ 66 (.int .i64 (f.e0+1)) p1
 change _=some (Obj.cells (flashC (Dw.ffs f.a.length) f.b (f.e0+1) f.e1 f.li) _ _) at q1
 have p2:=(heap_setCell_other w3 ⟨w.heap.size,0,none⟩ (w.heap.size+1) (.string ⟨(Dw.ffs (f.a).length).toArray⟩) (by simp)).trans b1
 have q2:=(heap_setCell_other _ ⟨w.heap.size,2,none⟩ (w.heap.size+1) (.int .i64 (f.e0+1)) (by simp)).trans p2
 have hB3:=(hB.setCell (p:=⟨w.heap.size,0,none⟩) (by simp) (.string ⟨(Dw.ffs (f.a).length).toArray⟩)).setCell (p:=⟨w.heap.size,2,none⟩) (by simp) (.int .i64 (f.e0+1))
 have Q1:=Lib.hid q1;have Q2:=Lib.hid q2;have HB3:=Lib.hid hB3
 clear p1 p2 q2 hB3 b0 b1 hB q1
 go_wp2_with (first|(refine lb Q1.out rfl rfl rfl (by kernel_rfl) ?_)|(refine sb Q2.out rfl rfl rfl rfl (by kernel_rfl) ?_))
 refine bodyPost_ret (rct rfl (srh Q2.out) (by rfl) (by kernel_rfl)) rfl ⟨?_,below_setRow HB3.out (by omega) _⟩
 rw [HO.out];rfl
theorem reraseB (f:Dw.Fl) (hl:(f.b).length≤400) (hw:IntKind.i64.wrap (f.e1+1)=f.e1+1) (hlt:f.e1<f.li) (at_:Nat) (data:List UInt8) (w:World):
  Calls Tryz.prog 215 #[flV f, .int .i64 1] w fun e w'=>e= .returned (.tuple #[flV (Dw.doOp f ⟨2,1,at_,data⟩), .int .i64 0])∧Below w.heap.size w w':=by
 have HO:=Lib.hid (show flV (Dw.doOp f ⟨2,1,at_,data⟩)=flashV f.a (Dw.ffs f.b.length) f.e0 (f.e1+1) f.li from rfl)
 obtain ⟨V,hV⟩:∃V,(w.alloc (.cells (flashC f.a f.b f.e0 f.e1 f.li) 66)).alloc (.cells (flashC [] [] 0 0 0) 66)=V:=⟨_,rfl⟩
 have b0:=hV ▸ heap_alloc2_old w (.cells (flashC f.a f.b f.e0 f.e1 f.li) 66) (.cells (flashC [] [] 0 0 0) 66)
 have b1:=hV ▸ heap_alloc2_new w (.cells (flashC f.a f.b f.e0 f.e1 f.li) 66) (.cells (flashC [] [] 0 0 0) 66)
 have hB:Below w.heap.size w V:=hV ▸ ((Below.refl w.heap.size w).alloc (Nat.le_refl _) _).alloc (by simp) _
 obtain ⟨c0,c1,c2,c3,c4⟩:=cells5 b0
 have hge:¬f.li≤f.e1:=by omega
 go_enter Tryz.func215,Tryz.ntmps215
 go_wp2_with fail
 refine wp_pure [0,1,2,3,4,5,6] 7 (by kernel_rfl) (by kernel_rfl) rfl ?_
 (apply rat;(focus (intro w' hk;obtain ⟨k3,k4⟩:=look2 hk c3 c4;repeat' (first|exact rn|((first|refine' rv ?_ rfl rfl (by go_simp;first|done|with_reducible rfl|exact rfl)|refine' rs ?_ rfl rfl);try simp only [Act.put,List.setIfInBounds_toArray,List.set_cons_zero,List.set_cons_succ])))))
 intro w2 hk2
 simp only [List.drop_succ_cons,List.drop_zero]
 replace b0:=kpi hk2 b0
 replace b1:=kpi hk2 b1
 replace hB:=hB.trans (hk2.whole.mono hB.size)
 clear hk2 c0 c1 c2 c3 c4 hV
 obtain ⟨c0,c1,c2,c3,c4⟩:=cells5 b0
 go_wp2_with fail
 refine cb (rblankN_any (f.b).length (by omega) _) fun w3 hb=>?_
 replace b0:=kp hb b0
 replace b1:=kp hb b1
 replace hB:=tr hB hb
 clear hb c0 c1 c2 c3 c4
 rw [allFF_ffs]
 obtain ⟨c0,c1,c2,c3,c4⟩:=cells5 b0
 have f0:=frozen0 b0
 have f1:=f0 1
 have f2:=f0 3
 clear f0
 have p1:=heap_setCell_same w3 w.heap.size 1 _ 66 (.string ⟨(Dw.ffs (f.b).length).toArray⟩) b0
 have q1:=heap_setCell_same _ w.heap.size 3 _ 66 (.int .i64 (f.e1+1)) p1
 change _=some (Obj.cells (flashC f.a (Dw.ffs f.b.length) f.e0 (f.e1+1) f.li) _ _) at q1
 have p2:=(heap_setCell_other w3 ⟨w.heap.size,1,none⟩ (w.heap.size+1) (.string ⟨(Dw.ffs (f.b).length).toArray⟩) (by simp)).trans b1
 have q2:=(heap_setCell_other _ ⟨w.heap.size,3,none⟩ (w.heap.size+1) (.int .i64 (f.e1+1)) (by simp)).trans p2
 have hB3:=(hB.setCell (p:=⟨w.heap.size,1,none⟩) (by simp) (.string ⟨(Dw.ffs (f.b).length).toArray⟩)).setCell (p:=⟨w.heap.size,3,none⟩) (by simp) (.int .i64 (f.e1+1))
 have Q1:=Lib.hid q1;have Q2:=Lib.hid q2;have HB3:=Lib.hid hB3
 clear p1 p2 q2 hB3 b0 b1 hB q1
 go_wp2_with (first|(refine lb Q1.out rfl rfl rfl (by kernel_rfl) ?_)|(refine sb Q2.out rfl rfl rfl rfl (by kernel_rfl) ?_))
 refine bodyPost_ret (rct rfl (srh Q2.out) (by rfl) (by kernel_rfl)) rfl ⟨?_,below_setRow HB3.out (by omega) _⟩
 rw [HO.out];rfl
theorem rprogram_any (f:Dw.Fl) (hf:Dw.FlOk f) (k at_:Nat) (data:List UInt8) (hk:k<2) (h:at_+data.length≤(f.bk k).length) (he:at_%2=0) (hd:data.length%2=0) (w:World):
  Calls Tryz.prog 214 #[flV f, .int .i64 k, .int .i64 at_, .string ⟨data.toArray⟩] w fun e w'=>e= .returned (.tuple #[flV (Dw.doOp f ⟨1,k,at_,data⟩), .int .i64 0])∧Below w.heap.size w w':=by
 rcases (by omega:k=0∨k=1) with rfl|rfl
 ·exact rprogramA f at_ data h hf.a he hd w
 ·exact rprogramB f at_ data h hf.b he hd w
theorem rerase_any (f:Dw.Fl) (hf:Dw.FlOk f) (k at_:Nat) (data:List UInt8) (hk:k<2) (h:f.er k<f.li) (w:World):
  Calls Tryz.prog 215 #[flV f, .int .i64 k] w fun e w'=>e= .returned (.tuple #[flV (Dw.doOp f ⟨2,k,at_,data⟩), .int .i64 0])∧Below w.heap.size w w':=by
 rcases (by omega:k=0∨k=1) with rfl|rfl
 ·exact reraseA f hf.a (i64_succ hf.e0 h hf.li) h at_ data w
 ·exact reraseB f hf.b (i64_succ hf.e1 h hf.li) h at_ data w
theorem rdo_any (f:Dw.Fl) (hf:Dw.FlOk f) (o:Dw.Op) (ho:Dw.OpOk f o) (w:World):
  Calls Tryz.prog 190 #[flV f,opV o] w fun e w'=>e= .returned (.tuple #[flV (Dw.doOp f o), .int .i64 0])∧Below w.heap.size w w':=by
 obtain ⟨V,hV⟩:∃V,((w.alloc (.cells (flashC f.a f.b f.e0 f.e1 f.li) 66)).alloc (.cells (opC o) 286)).alloc (.cells (flashC [] [] 0 0 0) 66)=V:=⟨_,rfl⟩
 obtain ⟨vz,vB,b0,b1,b2⟩:=alloc3 w _ _ _ V hV
 obtain ⟨c0,c1,c2,c3,c4⟩:=cells5 b0
 obtain ⟨o0,o1,o2,o3⟩:=cells4 b1
 obtain ⟨k,b,a,d⟩:=o
 obtain ⟨hb2,ho⟩:=ho
 dsimp only at*
 rcases ho with ⟨rfl,h1,h2,h3⟩|⟨rfl,h1,_⟩
 ·have P:=rprogram_any f hf b a d hb2 h1 h2 h3
  have HP:=Lib.hid P
  clear P
  generalize Dw.doOp f _=g at*
  go_enter Tryz.func190,Tryz.ntmps190
  go_wp2_with fail
  refine cb (HP.out _) fun w1 hb=>?_
  replace b2:=kp hb b2
  replace vB:=tr vB hb
  clear hV
  go_wp2_with (refine sb b2 rfl rfl rfl rfl (by kernel_rfl) ?_)
  refine bodyPost_ret (rct rfl (srh b2) (by rfl) (by kernel_rfl)) rfl ⟨?_,below_setRow vB (by omega) _⟩
  rfl
 ·have P:=rerase_any f hf b a d hb2 h1
  have HP:=Lib.hid P
  clear P
  generalize Dw.doOp f _=g at*
  go_enter Tryz.func190,Tryz.ntmps190
  go_wp2_with fail
  refine cb (HP.out _) fun w1 hb=>?_
  replace b2:=kp hb b2
  replace vB:=tr vB hb
  clear hV
  go_wp2_with (refine sb b2 rfl rfl rfl rfl (by kernel_rfl) ?_)
  refine bodyPost_ret (rct rfl (srh b2) (by rfl) (by kernel_rfl)) rfl ⟨?_,below_setRow vB (by omega) _⟩
  rfl
theorem rtearPA (f:Dw.Fl) (hf:Dw.FlOk f) (a:Nat) (d m:List UInt8) (hm:m.length≤100000) (ho:Dw.OpOk f ⟨1,0,a,d⟩) (w:World):
  Calls Tryz.prog 189 #[flV f,opV ⟨1,0,a,d⟩, .string ⟨m.toArray⟩] w fun e w'=>e= .returned (.tuple #[flV (Dw.tearOp f ⟨1,0,a,d⟩ m), .int .i64 0])∧Below w.heap.size w w':=by
 have HO:=Lib.hid (show flV (Dw.tearOp f ⟨1,0,a,d⟩ m)=flV ((f.put 0 (Dw.over (f.a) a (Dw.tornB (Dw.sub (f.a) a d.length) d m))).wearN 0 0) from rfl)
 obtain ⟨V,hV⟩:∃V,((w.alloc (.cells (flashC f.a f.b f.e0 f.e1 f.li) 66)).alloc (.cells (opC ⟨1,0,a,d⟩) 286)).alloc (.cells (flashC [] [] 0 0 0) 66)=V:=⟨_,rfl⟩
 obtain ⟨vz,vB,b0,b1,b2⟩:=alloc3 w _ _ _ V hV
 obtain ⟨c0,c1,c2,c3,c4⟩:=cells5 b0
 obtain ⟨o0,o1,o2,o3⟩:=cells4 b1
 have HD:=Lib.hid (rdo_any f hf _ ho)
 obtain ⟨_,h1,_,_⟩:=ho.2.resolve_right fun h=>absurd (show (1:Nat)=2 from h.1) (by decide)
 clear ho
 have h1:a+d.length≤(f.a).length:=h1
 have hl:(f.a).length≤400:=by first|exact hf.a|exact hf.b
 generalize Dw.doOp f _=g at*
 have i6:IntKind.i64.wrap ((a:Int)+(d.length:Int))=(a:Int)+(d.length:Int):=IntWalk.i64_in _ (by omega)
 go_enter Tryz.func189,Tryz.ntmps189
 go_wp2_with fail
 refine cb (HD.out _) fun w1 hb=>?_
 replace b0:=kp hb b0
 replace b1:=kp hb b1
 replace b2:=kp hb b2
 replace vB:=tr vB hb
 clear hb hV c0 c1 c2 c3 c4 o0 o1 o2 o3 HD vz
 have hz1:=vB.size
 have hq:=block_lt b2
 replace b0:=hao w1 (.cells (flashC g.a g.b g.e0 g.e1 g.li) 66) b0
 replace b1:=hao w1 (.cells (flashC g.a g.b g.e0 g.e1 g.li) 66) b1
 replace b2:=hao w1 (.cells (flashC g.a g.b g.e0 g.e1 g.li) 66) b2
 replace vB:=vB.alloc vB.size (.cells (flashC g.a g.b g.e0 g.e1 g.li) 66)
 obtain ⟨c0,c1,c2,c3,c4⟩:=cells5 b0
 obtain ⟨o0,o1,o2,o3⟩:=cells4 b1
 go_wp2_with fail
 generalize w1.alloc _=W2 at*
 have i7:(a:Int)+(d.length:Int)≤((f.a).length:Int):=by omega
 have i8:((a:Int)+(d.length:Int)).toNat=a+d.length:=by omega
 have i9:(0:Int)≤(a:Int)+(d.length:Int):=by omega
 have i10:(a:Int)≤((f.a).length:Int):=by omega
 have i11:(a:Int)≤(a:Int)+(d.length:Int):=by omega
 have x1:(⟨(f.a).toArray⟩:ByteArray).extract 0 a=⟨((f.a).take a).toArray⟩:=by rw [bs_extract,List.drop_zero]
 have x2:(⟨(f.a).toArray⟩:ByteArray).extract a (a+d.length)=⟨(Dw.sub (f.a) a d.length).toArray⟩:=by rw [bs_extract,List.drop_take,Nat.add_sub_cancel_left];rfl
 have x3:(⟨(f.a).toArray⟩:ByteArray).extract (a+d.length) (f.a).length=⟨((f.a).drop (a+d.length)).toArray⟩:=by rw [bs_extract,List.take_length]
 have lA:((f.a).take a).length≤400:=by rw [List.length_take];omega
 have lZ:((f.a).drop (a+d.length)).length≤400:=by rw [List.length_drop];omega
 have lS:(Dw.sub (f.a) a d.length).length≤400:=by rw [Dw.sub_length _ _ _ h1];omega
 have lM:(Dw.tornB (Dw.sub (f.a) a d.length) d m).length≤400:=by rw [Dw.tornB_length];exact lS
 have lMd:(Dw.tornB (Dw.sub (f.a) a d.length) d m).length=d.length:=by rw [Dw.tornB_length,Dw.sub_length _ _ _ h1]
 have HT:=Lib.hid (fun w=>rtorn_any (Dw.sub (f.a) a d.length) d m lS (by omega) hm w)
 have hov:Dw.over (f.a) a (Dw.tornB (Dw.sub (f.a) a d.length) d m)=(f.a).take a++(Dw.tornB (Dw.sub (f.a) a d.length) d m++(f.a).drop (a+d.length)):=by unfold Dw.over;rw [lMd]
 rw [hov] at HO
 generalize (f.a).take a=A at*
 generalize (f.a).drop (a+d.length)=Z at*
 generalize Dw.tornB (Dw.sub (f.a) a d.length) d m=M at*
 generalize Dw.sub (f.a) a d.length=S at*
 clear lMd hov lS hm
 have j1:¬9223372036854775807<A.length+M.length:=by omega
 have j2:¬9223372036854775807<A.length+M.length+Z.length:=by omega
 refine wp_pure [0,1,2,3,4,5,6,7,8,9,10,11,12,13,14,15,16,17,18,19,20,21] 22 (by kernel_rfl) (by kernel_rfl) rfl ?_
 (apply rat;(focus (intro w' hk;obtain ⟨k1,k2,k3⟩:=look3 hk o1 o2 o3;repeat' (first|exact rn|((first|refine' rv ?_ rfl rfl (by go_simp;first|done|with_reducible rfl|exact rfl)|refine' rc ?_ (by exact rfl) (by exact rfl) (by go_simp;first|done|(constructor<;>with_reducible rfl)|with_reducible rfl) (by exact HT.out w')|refine' rs ?_ rfl rfl);try simp only [Act.put,List.setIfInBounds_toArray,List.set_cons_zero,List.set_cons_succ])))))
 intro w3 hk3
 simp only [List.drop_succ_cons,List.drop_zero]
 replace b0:=kpi hk3 b0
 replace b2:=kpi hk3 b2
 replace vB:=vB.trans (hk3.whole.mono vB.size)
 clear hk3 c0 c1 c2 c3 c4 o0 o1 o2 o3 x1 x2 x3 b1
 have f1:=frozen0 b0 0
 obtain ⟨c0,c1,c2,c3,c4⟩:=cells5 b0
 have q0:=heap_setCell_same w3 w.heap.size 0 _ 66 (.string (⟨A.toArray⟩++⟨M.toArray⟩++⟨Z.toArray⟩)) b0
 change _=some (Obj.cells #[.string (⟨A.toArray⟩++⟨M.toArray⟩++⟨Z.toArray⟩), .string ⟨f.b.toArray⟩, .int .i64 f.e0, .int .i64 f.e1, .int .i64 f.li] _ _) at q0
 have q1:=(heap_setCell_other w3 ⟨w.heap.size,0,none⟩ (w.heap.size+2) (.string (⟨A.toArray⟩++⟨M.toArray⟩++⟨Z.toArray⟩)) (by simp)).trans b2
 have hB3:=vB.setCell (p:=⟨w.heap.size,0,none⟩) (by simp) (.string (⟨A.toArray⟩++⟨M.toArray⟩++⟨Z.toArray⟩))
 have Q0:=Lib.hid q0;have Q1:=Lib.hid q1;have HB3:=Lib.hid hB3
 clear q0 q1 hB3 b0 b2 vB
 go_wp2_with (first|(refine lb Q0.out rfl rfl rfl (by kernel_rfl) ?_)|(refine sb Q1.out rfl rfl rfl rfl (by kernel_rfl) ?_))
 refine bodyPost_ret (rct rfl (srh Q1.out) (by rfl) (by kernel_rfl)) rfl ⟨?_,below_setRow HB3.out (by omega) _⟩
 rw [HO.out];simp [Dw.Fl.put,Dw.Fl.wearN,bs_append]
theorem rtearPB (f:Dw.Fl) (hf:Dw.FlOk f) (a:Nat) (d m:List UInt8) (hm:m.length≤100000) (ho:Dw.OpOk f ⟨1,1,a,d⟩) (w:World):
  Calls Tryz.prog 189 #[flV f,opV ⟨1,1,a,d⟩, .string ⟨m.toArray⟩] w fun e w'=>e= .returned (.tuple #[flV (Dw.tearOp f ⟨1,1,a,d⟩ m), .int .i64 0])∧Below w.heap.size w w':=by
 have HO:=Lib.hid (show flV (Dw.tearOp f ⟨1,1,a,d⟩ m)=flV ((f.put 1 (Dw.over (f.b) a (Dw.tornB (Dw.sub (f.b) a d.length) d m))).wearN 1 0) from rfl)
 obtain ⟨V,hV⟩:∃V,((w.alloc (.cells (flashC f.a f.b f.e0 f.e1 f.li) 66)).alloc (.cells (opC ⟨1,1,a,d⟩) 286)).alloc (.cells (flashC [] [] 0 0 0) 66)=V:=⟨_,rfl⟩
 obtain ⟨vz,vB,b0,b1,b2⟩:=alloc3 w _ _ _ V hV
 obtain ⟨c0,c1,c2,c3,c4⟩:=cells5 b0
 obtain ⟨o0,o1,o2,o3⟩:=cells4 b1
 have HD:=Lib.hid (rdo_any f hf _ ho)
 obtain ⟨_,h1,_,_⟩:=ho.2.resolve_right fun h=>absurd (show (1:Nat)=2 from h.1) (by decide)
 clear ho
 have h1:a+d.length≤(f.b).length:=h1
 have hl:(f.b).length≤400:=by first|exact hf.a|exact hf.b
 generalize Dw.doOp f _=g at*
 have i6:IntKind.i64.wrap ((a:Int)+(d.length:Int))=(a:Int)+(d.length:Int):=IntWalk.i64_in _ (by omega)
 go_enter Tryz.func189,Tryz.ntmps189
 go_wp2_with fail
 refine cb (HD.out _) fun w1 hb=>?_
 replace b0:=kp hb b0
 replace b1:=kp hb b1
 replace b2:=kp hb b2
 replace vB:=tr vB hb
 clear hb hV c0 c1 c2 c3 c4 o0 o1 o2 o3 HD vz
 have hz1:=vB.size
 have hq:=block_lt b2
 replace b0:=hao w1 (.cells (flashC g.a g.b g.e0 g.e1 g.li) 66) b0
 replace b1:=hao w1 (.cells (flashC g.a g.b g.e0 g.e1 g.li) 66) b1
 replace b2:=hao w1 (.cells (flashC g.a g.b g.e0 g.e1 g.li) 66) b2
 replace vB:=vB.alloc vB.size (.cells (flashC g.a g.b g.e0 g.e1 g.li) 66)
 obtain ⟨c0,c1,c2,c3,c4⟩:=cells5 b0
 obtain ⟨o0,o1,o2,o3⟩:=cells4 b1
 go_wp2_with fail
 generalize w1.alloc _=W2 at*
 have i7:(a:Int)+(d.length:Int)≤((f.b).length:Int):=by omega
 have i8:((a:Int)+(d.length:Int)).toNat=a+d.length:=by omega
 have i9:(0:Int)≤(a:Int)+(d.length:Int):=by omega
 have i10:(a:Int)≤((f.b).length:Int):=by omega
 have i11:(a:Int)≤(a:Int)+(d.length:Int):=by omega
 have x1:(⟨(f.b).toArray⟩:ByteArray).extract 0 a=⟨((f.b).take a).toArray⟩:=by rw [bs_extract,List.drop_zero]
 have x2:(⟨(f.b).toArray⟩:ByteArray).extract a (a+d.length)=⟨(Dw.sub (f.b) a d.length).toArray⟩:=by rw [bs_extract,List.drop_take,Nat.add_sub_cancel_left];rfl
 have x3:(⟨(f.b).toArray⟩:ByteArray).extract (a+d.length) (f.b).length=⟨((f.b).drop (a+d.length)).toArray⟩:=by rw [bs_extract,List.take_length]
 have lA:((f.b).take a).length≤400:=by rw [List.length_take];omega
 have lZ:((f.b).drop (a+d.length)).length≤400:=by rw [List.length_drop];omega
 have lS:(Dw.sub (f.b) a d.length).length≤400:=by rw [Dw.sub_length _ _ _ h1];omega
 have lM:(Dw.tornB (Dw.sub (f.b) a d.length) d m).length≤400:=by rw [Dw.tornB_length];exact lS
 have lMd:(Dw.tornB (Dw.sub (f.b) a d.length) d m).length=d.length:=by rw [Dw.tornB_length,Dw.sub_length _ _ _ h1]
 have HT:=Lib.hid (fun w=>rtorn_any (Dw.sub (f.b) a d.length) d m lS (by omega) hm w)
 have hov:Dw.over (f.b) a (Dw.tornB (Dw.sub (f.b) a d.length) d m)=(f.b).take a++(Dw.tornB (Dw.sub (f.b) a d.length) d m++(f.b).drop (a+d.length)):=by unfold Dw.over;rw [lMd]
 rw [hov] at HO
 generalize (f.b).take a=A at*
 generalize (f.b).drop (a+d.length)=Z at*
 generalize Dw.tornB (Dw.sub (f.b) a d.length) d m=M at*
 generalize Dw.sub (f.b) a d.length=S at*
 clear lMd hov lS hm
 have j1:¬9223372036854775807<A.length+M.length:=by omega
 have j2:¬9223372036854775807<A.length+M.length+Z.length:=by omega
 refine wp_pure [0,1,2,3,4,5,6,7,8,9,10,11,12,13,14,15,16,17,18,19,20,21] 22 (by kernel_rfl) (by kernel_rfl) rfl ?_
 (apply rat;(focus (intro w' hk;obtain ⟨k1,k2,k3⟩:=look3 hk o1 o2 o3;repeat' (first|exact rn|((first|refine' rv ?_ rfl rfl (by go_simp;first|done|with_reducible rfl|exact rfl)|refine' rc ?_ (by exact rfl) (by exact rfl) (by go_simp;first|done|(constructor<;>with_reducible rfl)|with_reducible rfl) (by exact HT.out w')|refine' rs ?_ rfl rfl);try simp only [Act.put,List.setIfInBounds_toArray,List.set_cons_zero,List.set_cons_succ])))))
 intro w3 hk3
 simp only [List.drop_succ_cons,List.drop_zero]
 replace b0:=kpi hk3 b0
 replace b2:=kpi hk3 b2
 replace vB:=vB.trans (hk3.whole.mono vB.size)
 clear hk3 c0 c1 c2 c3 c4 o0 o1 o2 o3 x1 x2 x3 b1
 have f1:=frozen0 b0 1
 obtain ⟨c0,c1,c2,c3,c4⟩:=cells5 b0
 have q0:=heap_setCell_same w3 w.heap.size 1 _ 66 (.string (⟨A.toArray⟩++⟨M.toArray⟩++⟨Z.toArray⟩)) b0
 change _=some (Obj.cells #[.string ⟨f.a.toArray⟩, .string (⟨A.toArray⟩++⟨M.toArray⟩++⟨Z.toArray⟩), .int .i64 f.e0, .int .i64 f.e1, .int .i64 f.li] _ _) at q0
 have q1:=(heap_setCell_other w3 ⟨w.heap.size,1,none⟩ (w.heap.size+2) (.string (⟨A.toArray⟩++⟨M.toArray⟩++⟨Z.toArray⟩)) (by simp)).trans b2
 have hB3:=vB.setCell (p:=⟨w.heap.size,1,none⟩) (by simp) (.string (⟨A.toArray⟩++⟨M.toArray⟩++⟨Z.toArray⟩))
 have Q0:=Lib.hid q0;have Q1:=Lib.hid q1;have HB3:=Lib.hid hB3
 clear q0 q1 hB3 b0 b2 vB
 go_wp2_with (first|(refine lb Q0.out rfl rfl rfl (by kernel_rfl) ?_)|(refine sb Q1.out rfl rfl rfl rfl (by kernel_rfl) ?_))
 refine bodyPost_ret (rct rfl (srh Q1.out) (by rfl) (by kernel_rfl)) rfl ⟨?_,below_setRow HB3.out (by omega) _⟩
 rw [HO.out];simp [Dw.Fl.put,Dw.Fl.wearN,bs_append]
namespace Dw
theorem eraB_at2:∀(x m:List UInt8) (k:Nat),k<x.length→(eraB x m).getD k 0=if (m.getD k 0).toNat%2=1 then 255 else x.getD k 0
 | [],_,_,h=>absurd h (Nat.not_lt_zero _)
 |x::xs,m,0,_=>by
  have e:∀b:UInt8,(b%2=1)↔(b.toNat%2=1):=fun b=>by rw [←UInt8.toNat_inj];simp
  cases m with
  |nil=>rfl
  |cons y ys=>
   show (if y%2=1 then 255 else x)=if y.toNat%2=1 then 255 else x
   by_cases hy:y%2=1
   ·rw [if_pos hy,if_pos ((e y).mp hy)]
   ·rw [if_neg hy,if_neg (fun h'=>hy ((e y).mpr h'))]
 |x::xs,m,k+1,h=>by
  have h':k<xs.length:=by simpa using h
  have ih:=eraB_at2 xs m.tail k h'
  have e1:∀(l:List UInt8) d,l.tail.getD k d=l.getD (k+1) d:=by intro l d;cases l<;>rfl
  rw [e1] at ih
  exact ih
end Dw
theorem rtearEA (f:Dw.Fl) (hf:Dw.FlOk f) (a:Nat) (d m:List UInt8) (hm:m.length≤100000) (ho:Dw.OpOk f ⟨2,0,a,d⟩) (w:World):
  Calls Tryz.prog 189 #[flV f,opV ⟨2,0,a,d⟩, .string ⟨m.toArray⟩] w fun e w'=>e= .returned (.tuple #[flV (Dw.tearOp f ⟨2,0,a,d⟩ m), .int .i64 0])∧Below w.heap.size w w':=by
 have HO:=Lib.hid (show flV (Dw.tearOp f ⟨2,0,a,d⟩ m)=flV ((Dw.doOp f ⟨2,0,a,d⟩).put 0 (Dw.eraB (f.a) m)) from rfl)
 obtain ⟨V,hV⟩:∃V,((w.alloc (.cells (flashC f.a f.b f.e0 f.e1 f.li) 66)).alloc (.cells (opC ⟨2,0,a,d⟩) 286)).alloc (.cells (flashC [] [] 0 0 0) 66)=V:=⟨_,rfl⟩
 obtain ⟨vz,vB,b0,b1,b2⟩:=alloc3 w _ _ _ V hV
 obtain ⟨c0,c1,c2,c3,c4⟩:=cells5 b0
 obtain ⟨o0,o1,o2,o3⟩:=cells4 b1
 have HD:=Lib.hid (rdo_any f hf _ ho)
 clear ho
 have hl:(f.a).length≤400:=by first|exact hf.a|exact hf.b
 have HL:=Lib.hid (Dw.eraB_length (f.a) m)
 have HAT:=Lib.hid (Dw.eraB_at2 (f.a) m)
 generalize Dw.doOp f _=g at*
 generalize Dw.eraB (f.a) m=T at*
 go_enter Tryz.func189,Tryz.ntmps189
 go_wp2_with fail
 refine cb (HD.out _) fun w1 hb=>?_
 replace b0:=kp hb b0
 replace b1:=kp hb b1
 replace b2:=kp hb b2
 replace vB:=tr vB hb
 clear hb hV c0 c1 c2 c3 c4 o0 o1 o2 o3 HD vz
 have hz1:=vB.size
 have hq:=block_lt b2
 have b8:=han w1 (.cells (flashC g.a g.b g.e0 g.e1 g.li) 66)
 replace b0:=hao w1 (.cells (flashC g.a g.b g.e0 g.e1 g.li) 66) b0
 replace b1:=hao w1 (.cells (flashC g.a g.b g.e0 g.e1 g.li) 66) b1
 replace b2:=hao w1 (.cells (flashC g.a g.b g.e0 g.e1 g.li) 66) b2
 replace vB:=vB.alloc vB.size (.cells (flashC g.a g.b g.e0 g.e1 g.li) 66)
 obtain ⟨c0,c1,c2,c3,c4⟩:=cells5 b0
 obtain ⟨o0,o1,o2,o3⟩:=cells4 b1
 go_wp2_with fail
 have hzW:(w1.alloc (.cells (flashC g.a g.b g.e0 g.e1 g.li) 66)).heap.size=w1.heap.size+1:=by simp
 have hown0:=ownB_new (w1.alloc (.cells (flashC g.a g.b g.e0 g.e1 g.li) 66)) (B:=w1.heap.size+1) (by simp)
 have hB0:=Below.refl (w1.heap.size+1) (w1.alloc (.cells (flashC g.a g.b g.e0 g.e1 g.li) 66))
 have hBn:=hB0.alloc (by simp) (.cells #[] 5)
 rw [hzW] at hown0
 generalize hW2:w1.alloc _=W2 at*
 clear c0 c1 c2 c3 c4 o0 o1 o2 o3 hW2 hB0
 go_loopw [12,13] (fun v i wr=>∃k:Nat,k≤(f.a).length∧i= .int .i64 k∧OwnB (w1.heap.size+1) wr v (T.take k)∧Below (w1.heap.size+1) W2 wr) (fun _ i _=>(f.a).length-(intOf i).toNat)
 case atStart=>exact ⟨0,Nat.zero_le _,rfl,hown0,hBn⟩
 case round=>
  clear hown0 hBn
  obtain ⟨k,hk,rfl,hown,hB⟩:=hrel
  obtain ⟨⟨gg,cap,hv⟩,_⟩:=id hown
  have hlen:(T.take k).length=k:=by rw [List.length_take,HL.out];omega
  rw [hlen] at hv
  subst hv
  have hBs:=hB.size
  by_cases hlt:k<(f.a).length
  ·have h1:(k:Int)<((f.a).length:Int):=by omega
   have Htk:=Lib.hid (Dw.getD_take_succ T k (by rw [HL.out];exact hlt))
   have hat:=HAT.out k hlt
   have hxk:=ba_get (f.a) k
   have hmk:=ba_get m k
   have hpast:=getD_past m k 0
   generalize T.take k=L at*
   generalize T.getD k 0=dk at*
   generalize (f.a).getD k 0=xk at hat hxk
   generalize m.getD k 0=mk at hat hmk hpast
   have Hlen:=Lib.hid hlen;have HAT2:=Lib.hid hat;have HP:=Lib.hid hpast
   clear hlen hat hpast
   have hzr:w1.heap.size+1≤wr.heap.size:=by omega
   have hB4:=hB.alloc hzr (.cells #[.int .u8 ((dk.toNat:Nat):Int)] 5)
   have hown4:=ownB_keep hown ((KeepBut.refl (fun _=>False) wr).alloc (.cells #[.int .u8 ((dk.toNat:Nat):Int)] 5)) (fun _ _ h=>h)
   have hbc:=han wr (.cells #[.int .u8 ((dk.toNat:Nat):Int)] 5)
   have HB4:=Lib.hid hB4;have HO4:=Lib.hid hown4;have HBC:=Lib.hid hbc
   clear hB4 hown4 hbc hown hB
   by_cases hmod:mk.toNat%2=1
   ·have hdk:=HAT2.out
    rw [if_pos hmod] at hdk
    have hkm:k<m.length:=by
     by_cases hkm:k<m.length
     ·exact hkm
     ·rw [HP.out hkm] at hmod;exact absurd hmod (by decide)
    have h2:(k:Int)<(m.length:Int):=by omega
    have h3:Int.tmod ((mk.toNat:Nat):Int) 2=1:=by rw [show Int.tmod ((mk.toNat:Nat):Int) 2=((mk.toNat%2:Nat):Int) from rfl,hmod];rfl
    have h4:((mk.toNat:Nat):Int)%2=1:=by omega
    have HDK:=Lib.hid hdk
    clear hdk hxk
    go_wp2_with (at_builtin;refine append_byte (p:=dk) (by rfl) _ _ (by rfl) (by rw [HDK.out] at HB4;exact HB4.out) (Nat.le_of_eq hzW.symm|>fun h=>by omega) (by rfl) (by rw [HDK.out] at HO4;exact HO4.out) (by rw [Hlen.out];omega) (by rfl) rfl (by rw [HDK.out] at HBC;rw [HDK.out];exact HBC.out) ?_;intro g' c' w5 hown5 hB5 _ _)
    go_wp2_with fail
    go_roundw
    case rel=>exact ⟨k+1,by omega,by go_num,by rw [Htk.out];exact hown5,hB5⟩
    case measure=>simp [intOf];omega
   ·have hdk:=HAT2.out
    rw [if_neg hmod] at hdk
    have HDK:=Lib.hid hdk
    clear hdk
    by_cases hkm:k<m.length
    ·have h2:(k:Int)<(m.length:Int):=by omega
     have h3:Int.tmod ((mk.toNat:Nat):Int) 2=0:=by rw [show Int.tmod ((mk.toNat:Nat):Int) 2=((mk.toNat%2:Nat):Int) from rfl,show mk.toNat%2=0 by omega];rfl
     have h4:((mk.toNat:Nat):Int)%2=0:=by omega
     go_wp2_with (at_builtin;refine append_byte (p:=dk) (by rfl) _ _ (by rfl) (by rw [HDK.out] at HB4;exact HB4.out) (by omega) (by rfl) (by rw [HDK.out] at HO4;exact HO4.out) (by rw [Hlen.out];omega) (by rfl) rfl (by rw [HDK.out] at HBC;rw [HDK.out];exact HBC.out) ?_;intro g' c' w5 hown5 hB5 _ _)
     go_wp2_with fail
     go_roundw
     case rel=>exact ⟨k+1,by omega,by go_num,by rw [Htk.out];exact hown5,hB5⟩
     case measure=>simp [intOf];omega
    ·have h2:¬(k:Int)<(m.length:Int):=by omega
     go_wp2_with (at_builtin;refine append_byte (p:=dk) (by rfl) _ _ (by rfl) (by rw [HDK.out] at HB4;exact HB4.out) (by omega) (by rfl) (by rw [HDK.out] at HO4;exact HO4.out) (by rw [Hlen.out];omega) (by rfl) rfl (by rw [HDK.out] at HBC;rw [HDK.out];exact HBC.out) ?_;intro g' c' w5 hown5 hB5 _ _)
     go_wp2_with fail
     go_roundw
     case rel=>exact ⟨k+1,by omega,by go_num,by rw [Htk.out];exact hown5,hB5⟩
     case measure=>simp [intOf];omega
  ·obtain rfl:k=(f.a).length:=by omega
   have h1:¬((f.a).length:Int)<((f.a).length:Int):=by omega
   have kc:=ownB_conv hown
   rw [List.take_of_length_le (by rw [HL.out];exact Nat.le_refl _)] at kc
   replace b1:=(hB.block _ (by have:=block_lt b1;omega)).trans b1
   replace b2:=(hB.block _ (by have:=block_lt b2;omega)).trans b2
   replace b8:=(hB.block _ (by omega)).trans b8
   replace vB:=vB.trans (hB.mono (by omega))
   obtain ⟨o0,o1,o2,o3⟩:=cells4 b1
   obtain ⟨c0,c1,c2,c3,c4⟩:=cells5 b8
   have f1:=frozen0 b8 0
   have q0:=heap_setCell_same wr w1.heap.size 0 _ 66 (.string ⟨T.toArray⟩) b8
   change _=some (Obj.cells #[.string ⟨T.toArray⟩, .string ⟨g.b.toArray⟩, .int .i64 g.e0, .int .i64 g.e1, .int .i64 g.li] _ _) at q0
   have q1:=(heap_setCell_other wr ⟨w1.heap.size,0,none⟩ (w.heap.size+2) (.string ⟨T.toArray⟩) (by simp;omega)).trans b2
   have hB3:=vB.setCell (p:=⟨w1.heap.size,0,none⟩) (by simp;omega) (.string ⟨T.toArray⟩)
   have Q0:=Lib.hid q0;have Q1:=Lib.hid q1;have HB3:=Lib.hid hB3
   clear q0 q1 hB3 b0 b1 b2 b8 vB hown hB
   go_wp2_with (first|(refine lb Q0.out rfl rfl rfl (by kernel_rfl) ?_)|(refine sb Q1.out rfl rfl rfl rfl (by kernel_rfl) ?_))
   refine bodyPost_ret (rct rfl (srh Q1.out) (by rfl) (by kernel_rfl)) rfl ⟨?_,below_setRow HB3.out (by omega) _⟩
   rw [HO.out];simp [Dw.Fl.put]
theorem rtearEB (f:Dw.Fl) (hf:Dw.FlOk f) (a:Nat) (d m:List UInt8) (hm:m.length≤100000) (ho:Dw.OpOk f ⟨2,1,a,d⟩) (w:World):
  Calls Tryz.prog 189 #[flV f,opV ⟨2,1,a,d⟩, .string ⟨m.toArray⟩] w fun e w'=>e= .returned (.tuple #[flV (Dw.tearOp f ⟨2,1,a,d⟩ m), .int .i64 0])∧Below w.heap.size w w':=by
 have HO:=Lib.hid (show flV (Dw.tearOp f ⟨2,1,a,d⟩ m)=flV ((Dw.doOp f ⟨2,1,a,d⟩).put 1 (Dw.eraB (f.b) m)) from rfl)
 obtain ⟨V,hV⟩:∃V,((w.alloc (.cells (flashC f.a f.b f.e0 f.e1 f.li) 66)).alloc (.cells (opC ⟨2,1,a,d⟩) 286)).alloc (.cells (flashC [] [] 0 0 0) 66)=V:=⟨_,rfl⟩
 obtain ⟨vz,vB,b0,b1,b2⟩:=alloc3 w _ _ _ V hV
 obtain ⟨c0,c1,c2,c3,c4⟩:=cells5 b0
 obtain ⟨o0,o1,o2,o3⟩:=cells4 b1
 have HD:=Lib.hid (rdo_any f hf _ ho)
 clear ho
 have hl:(f.b).length≤400:=by first|exact hf.a|exact hf.b
 have HL:=Lib.hid (Dw.eraB_length (f.b) m)
 have HAT:=Lib.hid (Dw.eraB_at2 (f.b) m)
 generalize Dw.doOp f _=g at*
 generalize Dw.eraB (f.b) m=T at*
 go_enter Tryz.func189,Tryz.ntmps189
 go_wp2_with fail
 refine cb (HD.out _) fun w1 hb=>?_
 replace b0:=kp hb b0
 replace b1:=kp hb b1
 replace b2:=kp hb b2
 replace vB:=tr vB hb
 clear hb hV c0 c1 c2 c3 c4 o0 o1 o2 o3 HD vz
 have hz1:=vB.size
 have hq:=block_lt b2
 have b8:=han w1 (.cells (flashC g.a g.b g.e0 g.e1 g.li) 66)
 replace b0:=hao w1 (.cells (flashC g.a g.b g.e0 g.e1 g.li) 66) b0
 replace b1:=hao w1 (.cells (flashC g.a g.b g.e0 g.e1 g.li) 66) b1
 replace b2:=hao w1 (.cells (flashC g.a g.b g.e0 g.e1 g.li) 66) b2
 replace vB:=vB.alloc vB.size (.cells (flashC g.a g.b g.e0 g.e1 g.li) 66)
 obtain ⟨c0,c1,c2,c3,c4⟩:=cells5 b0
 obtain ⟨o0,o1,o2,o3⟩:=cells4 b1
 go_wp2_with fail
 have hzW:(w1.alloc (.cells (flashC g.a g.b g.e0 g.e1 g.li) 66)).heap.size=w1.heap.size+1:=by simp
 have hown0:=ownB_new (w1.alloc (.cells (flashC g.a g.b g.e0 g.e1 g.li) 66)) (B:=w1.heap.size+1) (by simp)
 have hB0:=Below.refl (w1.heap.size+1) (w1.alloc (.cells (flashC g.a g.b g.e0 g.e1 g.li) 66))
 have hBn:=hB0.alloc (by simp) (.cells #[] 5)
 rw [hzW] at hown0
 generalize hW2:w1.alloc _=W2 at*
 clear c0 c1 c2 c3 c4 o0 o1 o2 o3 hW2 hB0
 go_loopw [12,13] (fun v i wr=>∃k:Nat,k≤(f.b).length∧i= .int .i64 k∧OwnB (w1.heap.size+1) wr v (T.take k)∧Below (w1.heap.size+1) W2 wr) (fun _ i _=>(f.b).length-(intOf i).toNat)
 case atStart=>exact ⟨0,Nat.zero_le _,rfl,hown0,hBn⟩
 case round=>
  clear hown0 hBn
  obtain ⟨k,hk,rfl,hown,hB⟩:=hrel
  obtain ⟨⟨gg,cap,hv⟩,_⟩:=id hown
  have hlen:(T.take k).length=k:=by rw [List.length_take,HL.out];omega
  rw [hlen] at hv
  subst hv
  have hBs:=hB.size
  by_cases hlt:k<(f.b).length
  ·have h1:(k:Int)<((f.b).length:Int):=by omega
   have Htk:=Lib.hid (Dw.getD_take_succ T k (by rw [HL.out];exact hlt))
   have hat:=HAT.out k hlt
   have hxk:=ba_get (f.b) k
   have hmk:=ba_get m k
   have hpast:=getD_past m k 0
   generalize T.take k=L at*
   generalize T.getD k 0=dk at*
   generalize (f.b).getD k 0=xk at hat hxk
   generalize m.getD k 0=mk at hat hmk hpast
   have Hlen:=Lib.hid hlen;have HAT2:=Lib.hid hat;have HP:=Lib.hid hpast
   clear hlen hat hpast
   have hzr:w1.heap.size+1≤wr.heap.size:=by omega
   have hB4:=hB.alloc hzr (.cells #[.int .u8 ((dk.toNat:Nat):Int)] 5)
   have hown4:=ownB_keep hown ((KeepBut.refl (fun _=>False) wr).alloc (.cells #[.int .u8 ((dk.toNat:Nat):Int)] 5)) (fun _ _ h=>h)
   have hbc:=han wr (.cells #[.int .u8 ((dk.toNat:Nat):Int)] 5)
   have HB4:=Lib.hid hB4;have HO4:=Lib.hid hown4;have HBC:=Lib.hid hbc
   clear hB4 hown4 hbc hown hB
   by_cases hmod:mk.toNat%2=1
   ·have hdk:=HAT2.out
    rw [if_pos hmod] at hdk
    have hkm:k<m.length:=by
     by_cases hkm:k<m.length
     ·exact hkm
     ·rw [HP.out hkm] at hmod;exact absurd hmod (by decide)
    have h2:(k:Int)<(m.length:Int):=by omega
    have h3:Int.tmod ((mk.toNat:Nat):Int) 2=1:=by rw [show Int.tmod ((mk.toNat:Nat):Int) 2=((mk.toNat%2:Nat):Int) from rfl,hmod];rfl
    have h4:((mk.toNat:Nat):Int)%2=1:=by omega
    have HDK:=Lib.hid hdk
    clear hdk hxk
    go_wp2_with (at_builtin;refine append_byte (p:=dk) (by rfl) _ _ (by rfl) (by rw [HDK.out] at HB4;exact HB4.out) (Nat.le_of_eq hzW.symm|>fun h=>by omega) (by rfl) (by rw [HDK.out] at HO4;exact HO4.out) (by rw [Hlen.out];omega) (by rfl) rfl (by rw [HDK.out] at HBC;rw [HDK.out];exact HBC.out) ?_;intro g' c' w5 hown5 hB5 _ _)
    go_wp2_with fail
    go_roundw
    case rel=>exact ⟨k+1,by omega,by go_num,by rw [Htk.out];exact hown5,hB5⟩
    case measure=>simp [intOf];omega
   ·have hdk:=HAT2.out
    rw [if_neg hmod] at hdk
    have HDK:=Lib.hid hdk
    clear hdk
    by_cases hkm:k<m.length
    ·have h2:(k:Int)<(m.length:Int):=by omega
     have h3:Int.tmod ((mk.toNat:Nat):Int) 2=0:=by rw [show Int.tmod ((mk.toNat:Nat):Int) 2=((mk.toNat%2:Nat):Int) from rfl,show mk.toNat%2=0 by omega];rfl
     have h4:((mk.toNat:Nat):Int)%2=0:=by omega
     go_wp2_with (at_builtin;refine append_byte (p:=dk) (by rfl) _ _ (by rfl) (by rw [HDK.out] at HB4;exact HB4.out) (by omega) (by rfl) (by rw [HDK.out] at HO4;exact HO4.out) (by rw [Hlen.out];omega) (by rfl) rfl (by rw [HDK.out] at HBC;rw [HDK.out];exact HBC.out) ?_;intro g' c' w5 hown5 hB5 _ _)
     go_wp2_with fail
     go_roundw
     case rel=>exact ⟨k+1,by omega,by go_num,by rw [Htk.out];exact hown5,hB5⟩
     case measure=>simp [intOf];omega
    ·have h2:¬(k:Int)<(m.length:Int):=by omega
     go_wp2_with (at_builtin;refine append_byte (p:=dk) (by rfl) _ _ (by rfl) (by rw [HDK.out] at HB4;exact HB4.out) (by omega) (by rfl) (by rw [HDK.out] at HO4;exact HO4.out) (by rw [Hlen.out];omega) (by rfl) rfl (by rw [HDK.out] at HBC;rw [HDK.out];exact HBC.out) ?_;intro g' c' w5 hown5 hB5 _ _)
     go_wp2_with fail
     go_roundw
     case rel=>exact ⟨k+1,by omega,by go_num,by rw [Htk.out];exact hown5,hB5⟩
     case measure=>simp [intOf];omega
  ·obtain rfl:k=(f.b).length:=by omega
   have h1:¬((f.b).length:Int)<((f.b).length:Int):=by omega
   have kc:=ownB_conv hown
   rw [List.take_of_length_le (by rw [HL.out];exact Nat.le_refl _)] at kc
   replace b1:=(hB.block _ (by have:=block_lt b1;omega)).trans b1
   replace b2:=(hB.block _ (by have:=block_lt b2;omega)).trans b2
   replace b8:=(hB.block _ (by omega)).trans b8
   replace vB:=vB.trans (hB.mono (by omega))
   obtain ⟨o0,o1,o2,o3⟩:=cells4 b1
   obtain ⟨c0,c1,c2,c3,c4⟩:=cells5 b8
   have f1:=frozen0 b8 1
   have q0:=heap_setCell_same wr w1.heap.size 1 _ 66 (.string ⟨T.toArray⟩) b8
   change _=some (Obj.cells #[.string ⟨g.a.toArray⟩, .string ⟨T.toArray⟩, .int .i64 g.e0, .int .i64 g.e1, .int .i64 g.li] _ _) at q0
   have q1:=(heap_setCell_other wr ⟨w1.heap.size,1,none⟩ (w.heap.size+2) (.string ⟨T.toArray⟩) (by simp;omega)).trans b2
   have hB3:=vB.setCell (p:=⟨w1.heap.size,1,none⟩) (by simp;omega) (.string ⟨T.toArray⟩)
   have Q0:=Lib.hid q0;have Q1:=Lib.hid q1;have HB3:=Lib.hid hB3
   clear q0 q1 hB3 b0 b1 b2 b8 vB hown hB
   go_wp2_with (first|(refine lb Q0.out rfl rfl rfl (by kernel_rfl) ?_)|(refine sb Q1.out rfl rfl rfl rfl (by kernel_rfl) ?_))
   refine bodyPost_ret (rct rfl (srh Q1.out) (by rfl) (by kernel_rfl)) rfl ⟨?_,below_setRow HB3.out (by omega) _⟩
   rw [HO.out];simp [Dw.Fl.put]
theorem rtear_any (f:Dw.Fl) (hf:Dw.FlOk f) (o:Dw.Op) (ho:Dw.OpOk f o) (m:List UInt8) (hm:m.length≤100000) (w:World):
  Calls Tryz.prog 189 #[flV f,opV o, .string ⟨m.toArray⟩] w fun e w'=>e= .returned (.tuple #[flV (Dw.tearOp f o m), .int .i64 0])∧Below w.heap.size w w':=by
 obtain ⟨k,b,a,d⟩:=o
 have ho':=ho
 obtain ⟨hb2,ho⟩:=ho
 dsimp only at hb2 ho
 rcases (by omega:b=0∨b=1) with rfl|rfl
 ·rcases ho with ⟨rfl,_⟩|⟨rfl,_⟩
  ·exact rtearPA f hf a d m hm ho' w
  ·exact rtearEA f hf a d m hm ho' w
 ·rcases ho with ⟨rfl,_⟩|⟨rfl,_⟩
  ·exact rtearPB f hf a d m hm ho' w
  ·exact rtearEB f hf a d m hm ho' w
end Go.Proofs.YtnaokijcggbfdaaGreatDoor
