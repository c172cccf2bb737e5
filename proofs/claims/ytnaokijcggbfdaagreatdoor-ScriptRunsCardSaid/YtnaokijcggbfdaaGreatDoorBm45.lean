/- What the statement's proof stands on, part 45: Scr4b, Scr4c, Scr4d, Scr4e, Scr4f, Scr5, Shown21, Show21. -/
import Derived.Test.YtnaokijcggbfdaaGreatDoorBm44
import Derived.Test.YtnaokijcggbfdaaGreatDoorBm38
import Derived.Test.YtnaokijcggbfdaaGreatDoorBm10
set_option linter.unusedSimpArgs false
set_option linter.unusedVariables false
set_option maxRecDepth 100000
set_option maxHeartbeats 4000000
namespace Go.Proofs.YtnaokijcggbfdaaGreatDoor
open Go.RowKit Go.Shelf
attribute [local go_sem] Oper.semAt_some
theorem fstep_see (f:Dw.Fli) (e:Dw.En) (h1:¬e.ki=1) (h2:e.ki=2) (hf:Dw.FlOk f.x.f) (hl:Dw.legal f.x.s=true) (he:enOk e) (hln:f.out.length≤1000000) (v:Value) (w:World) (hn:NoneAt w) (hv:RepsAt w v f.out):
  Calls Tryz.prog 27 #[fliV f.x v,enV e] w fun en w'=>(∃v',en= .returned (fliV (Dw.stepF f e).x v')∧RepsAt w' v' (Dw.stepF f e).out)∧Below w.heap.size w w':=by
 have HV:=Lib.hid hv
 obtain ⟨ao,cap,rfl,hle,hnil,-⟩:=slAt_own hv
 obtain ⟨V,hV⟩:∃V,((w.alloc (.cells (fliC f.x (.slice ao f.out.length cap)) 64)).alloc (.cells (enC e) 77)).alloc (.cells Z15 64)=V:=⟨_,rfl⟩
 obtain ⟨bF,bE,bR,hB⟩:=allocs3 _ _ _ _ _ hV
 have HA:=Lib.hid (fun w=>act_any e w)
 have HX:=Lib.hid (Dw.stepF_x f e)
 have HE:=Lib.hid he
 clear hnil he
 have ha:actV e= .iface 130 (smV e.va e.vb e.vc):=by unfold actV;rw [if_neg h1,if_pos h2]
 have hx:Dw.stepX f.x e=Dw.sampleX f.x (Dw.voteI e.va e.vb e.vc) e.p:=by unfold Dw.stepX;rw [if_neg h1,if_pos h2]
 have hE:Dw.stepE f.x e=Dw.sampleE f.x (Dw.voteI e.va e.vb e.vc) e.p:=by unfold Dw.stepE;rw [if_neg h1,if_pos h2]
 have HO:=Lib.hid (show (Dw.stepF f e).out=f.out++ [Dw.repOf f.x e] by unfold Dw.stepF;rw [if_pos (by unfold Dw.isK;rw [h2];rfl)])
 have HC:=Lib.hid (fun w hn=>ssample_any f.x e.va e.vb e.vc HE.out.1.2.2 e.p hf hl w hn)
 unfold Dw.repOf at HO
 rw [hx,hE] at HO
 rw [hx] at HX
 rw [ha] at HA
 generalize Dw.sampleX f.x (Dw.voteI e.va e.vb e.vc) e.p=Y at*
 generalize Dw.sampleE f.x (Dw.voteI e.va e.vb e.vc) e.p=E at*
 clear h1 h2 ha hx hE hf hl
 have A0:=as_see_reset;have A1:=as_see_ask;have A2:=as_see_see
 go_enter Tryz.func27,Tryz.ntmps27
 go_wp2_with (first|(refine lb bE rfl rfl rfl (by kernel_rfl) ?_))
 try rw [hV]
 clear hV
 refine cb (HA.out _) fun w1 hb=>?_
 replace bF:=kp hb bF;replace bE:=kp hb bE;replace bR:=kp hb bR;replace hB:=tr hB hb;clear hb
 obtain ⟨V2,hV2⟩:∃V,(w1.alloc (.cells #[] 124)).alloc (.cells (smC e.va e.vb e.vc) 130)=V:=⟨_,rfl⟩
 obtain ⟨-,bA,hb⟩:=allocs2 _ _ _ _ hV2
 replace bF:=kp hb bF;replace bE:=kp hb bE;replace bR:=kp hb bR;replace hB:=tr hB hb;clear hb
 have HV2:=Lib.hid hV2
 clear hV2
 go_wp2_with (first|(refine nb rfl rfl rfl rfl (by go_simp;first|done|with_reducible rfl|exact rfl) rfl rfl (by kernel_rfl) ?_;first|rw [HV2.out]|skip)|(refine lp 31 0 (suC f.x) bF rfl rfl rfl (by kernel_rfl) (by rfl) ?_)|(refine lp 55 0 (smC e.va e.vb e.vc) bA rfl rfl rfl (by kernel_rfl) (by rfl) ?_)|(refine lp 36 8 #[.int .i64 e.p.cut, .string ⟨e.p.mask.toArray⟩] bE rfl rfl rfl (by kernel_rfl) (by rfl) ?_))
 clear A0 A1 A2 bA HV2
 refine cb (HC.out _ (hn.next hB)) fun w2 hb=>?_
 replace bF:=kp hb bF;replace bE:=kp hb bE;replace bR:=kp hb bR;replace hB:=tr hB hb;clear hb
 clear HC
 have bF0:=bF
 replace bF:=srh (c':=fliC Y (.slice ao f.out.length cap)) bF
 replace bE:=(setRow_other w2 w.heap.size (w.heap.size+1) (fliC Y (.slice ao f.out.length cap)) (by omega)).trans bE
 replace bR:=(setRow_other w2 w.heap.size (w.heap.size+2) (fliC Y (.slice ao f.out.length cap)) (by omega)).trans bR
 replace hB:=below_setRow hB (Nat.le_refl _) (fliC Y (.slice ao f.out.length cap))
 obtain ⟨wt,hwt⟩:∃W,w2.setRow w.heap.size (fliC Y (.slice ao f.out.length cap))=W:=⟨_,rfl⟩
 rw [hwt] at bF bE bR hB
 have HWT:=Lib.hid hwt
 clear hwt
 go_wp2_with (first|(refine sp 31 0 (suC Y) (fliC Y (.slice ao f.out.length cap)) bF0 rfl rfl rfl rfl (by kernel_rfl) (by rfl) (by rfl) ?_;rw [HWT.out]))
 clear bF0 HWT
 have hvt:=slAt_own (reps_next HV.out hB)
 obtain ⟨⟨-,-,-,-,-⟩,⟨y5,y6,y7,y8,y9,y10⟩,y11,-,-,y14⟩:=cells15 bF
 have zt:=block_lt bR
 have HF:=Lib.hid bF;have HR:=Lib.hid bR;have HB:=Lib.hid hB;have HT:=Lib.hid hvt;have HZ:=Lib.hid zt
 clear bF bR hB hvt bE zt
 go_wp2_with fail
 refine wp_letter [0,1,2,3,4,5,6,7,8,9,10,11,12,13,14,15,16] 17 18 (NewRow1 wt (repC ⟨E,Y.ph,Y.s⟩) 89) rfl (by kernel_rfl) (by kernel_rfl) rfl (fun v A B h hk=>h.keep hk) ?_
 (apply rat;(focus (intro w' hk;obtain ⟨k0,k1,k2,k3,k4,k5,k6,k7⟩:=look8 hk y5 y6 y7 y8 y9 y10 y11 y14;(iterate 8 (refine' rv ?_ rfl rfl (by go_simp;first|done|with_reducible rfl|exact rfl);try simp only [Act.put,List.setIfInBounds_toArray,List.set_cons_zero,List.set_cons_succ]));(refine' rv ?_ rfl rfl (by exact exec_full (k:=8) rfl rfl rfl rfl Tryz.underlying62 (by kernel_rfl) hle);try simp only [Act.put,List.setIfInBounds_toArray,List.set_cons_zero,List.set_cons_succ]);(iterate 8 (refine' rv ?_ rfl rfl (by go_simp;first|done|with_reducible rfl|exact rfl);try simp only [Act.put,List.setIfInBounds_toArray,List.set_cons_zero,List.set_cons_succ]));(exact rn))))
 refine ⟨rfl,sure_row1 (fun w' _=>by go_simp),?_⟩
 rintro v2 w5 hk5 ⟨b,rfl,hbs,hbc⟩
 change wpList _ _ _ [_,_,_] _ _
 (try simp only [Act.put,List.setIfInBounds_toArray,List.set_cons_zero,List.set_cons_succ])
 have bF:=kpi hk5 HF.out;have bR:=kpi hk5 HR.out;have hB:=HB.out.trans (hk5.whole.mono HB.out.size);have hvt:=HT.out.keep hk5;have zt:=HZ.out;have zt5:=hk5.size
 clear HF HR HB HT HZ hk5 y5 y6 y7 y8 y9 y10 y11 y14
 refine append_full (by rfl) (by rfl) Tryz.underlying62 infoRep rfl (by decide) (by decide) hvt (repCells_len _) hln rfl rfl hbc rfl rfl (repC_one _) ?_
 intro v3 w6 hv3 hk6
 obtain ⟨p3,q3,e3⟩:∃p q,v3= .slice p (f.out.length+1) q:=by
  obtain ⟨p,q,e,-⟩:=slAt_own hv3
  exact ⟨p,q,e⟩
 subst e3
 have bF6:=kpi hk6 bF
 have bR6:=kpi hk6 bR
 have c14:=(cells15 bF6).2.2.2.2.2
 have f14:=frozen0 bF6 14
 have bF7:(w6.setCell ⟨w.heap.size,14,none⟩ (Value.slice p3 (f.out.length+1) q3)).heap[w.heap.size]?=some (.cells (fliC Y (Value.slice p3 (f.out.length+1) q3)) 64 (0,0)):=heap_setCell_same w6 _ 14 _ _ (Value.slice p3 (f.out.length+1) q3) bF6
 have bR7:=(heap_setCell_other w6 ⟨w.heap.size,14,none⟩ (w.heap.size+2) (Value.slice p3 (f.out.length+1) q3) (by show w.heap.size+2≠w.heap.size;omega)).trans bR6
 have hB7:=(hB.trans (hk6.whole.mono hB.size)).setCell (p:=⟨w.heap.size,14,none⟩) (Nat.le_refl _) (Value.slice p3 (f.out.length+1) q3)
 have HV3:=Lib.hid hv3
 clear bF6 bR6 bF bR hB hvt hv3 hk6 hbc
 go_wp2_with (first|(refine lb bF7 rfl rfl rfl (by kernel_rfl) ?_)|(refine sb bR7 rfl rfl rfl rfl (by kernel_rfl) ?_))
 refine bodyPost_ret (rcr rfl (srh bR7) (by rfl) (by kernel_rfl)) rfl ⟨⟨(Value.slice p3 (f.out.length+1) q3),by rw [HX.out],?_⟩,below_setRow hB7 (by omega) _⟩
 rw [HO.out]
 refine reps_low (B:=w5.heap.size) ?_ List.length_append.symm
 rw [repCells_snoc]
 exact own_setRow (own_setCell HV3.out (by omega) _ _) (by omega) _
theorem fstep_reset (f:Dw.Fli) (e:Dw.En) (h1:¬e.ki=1) (h2:¬e.ki=2) (h3:e.ki=3) (hf:Dw.FlOk f.x.f) (hl:Dw.legal f.x.s=true) (he:enOk e) (hln:f.out.length≤1000000) (v:Value) (w:World) (hn:NoneAt w) (hv:RepsAt w v f.out):
  Calls Tryz.prog 27 #[fliV f.x v,enV e] w fun en w'=>(∃v',en= .returned (fliV (Dw.stepF f e).x v')∧RepsAt w' v' (Dw.stepF f e).out)∧Below w.heap.size w w':=by
 have HV:=Lib.hid hv
 obtain ⟨ao,cap,rfl,hle,hnil,-⟩:=slAt_own hv
 obtain ⟨V,hV⟩:∃V,((w.alloc (.cells (fliC f.x (.slice ao f.out.length cap)) 64)).alloc (.cells (enC e) 77)).alloc (.cells Z15 64)=V:=⟨_,rfl⟩
 obtain ⟨bF,bE,bR,hB⟩:=allocs3 _ _ _ _ _ hV
 have HA:=Lib.hid (fun w=>act_any e w)
 have HX:=Lib.hid (Dw.stepF_x f e)
 have HE:=Lib.hid he
 clear hnil he
 have ha:actV e= .iface 124 (.agg #[]):=by unfold actV;rw [if_neg h1,if_neg h2,if_pos h3]
 have hx:Dw.stepX f.x e=Dw.boot f.x.f:=by unfold Dw.stepX;rw [if_neg h1,if_neg h2,if_pos h3]
 have hE:Dw.stepE f.x e=0:=by unfold Dw.stepE;rw [if_neg h1,if_neg h2]
 have HO:=Lib.hid (show (Dw.stepF f e).out=f.out++ [Dw.repOf f.x e] by unfold Dw.stepF;rw [if_pos (by unfold Dw.isK;rw [h3];rfl)])
 obtain ⟨F,hFF⟩:∃F,F=f.x.f:=⟨_,rfl⟩
 have HC:=Lib.hid (fun w=>(show Calls Tryz.prog 31 #[flV f.x.f, .int .i64 (-1)] w (fun e w'=>e= .returned (flV F)∧Below w.heap.size w w') from by have h:=flip_any f.x.f hf (-1) (by decide) w;rw [Dw.flip_neg f.x.f (by decide)] at h;rw [hFF];exact h))
 have HD:=Lib.hid (fun w hn=>(show Calls Tryz.prog 15 #[flV F] w (fun e w'=>e= .returned (suV (Dw.boot F))∧Below w.heap.size w w') from by rw [hFF];exact boot_any f.x.f hf w hn))
 rw [←hFF] at hx
 clear hFF
 have A0:=as_reset_reset;have A1:=as_turn_ask;have A2:=as_turn_see;have A3:=as_turn_turn
 unfold Dw.repOf at HO
 rw [hx,hE] at HO
 rw [hx] at HX
 rw [ha] at HA
 generalize Dw.boot F=Y at*
 obtain ⟨E,hEE⟩:∃E:Int,E=0:=⟨_,rfl⟩
 rw [←hEE] at HO
 have HEE:=Lib.hid hEE
 clear h1 h2 h3 ha hx hE hf hl hEE
 go_enter Tryz.func27,Tryz.ntmps27
 go_wp2_with (first|(refine lb bE rfl rfl rfl (by kernel_rfl) ?_))
 try rw [hV]
 clear hV
 refine cb (HA.out _) fun w1 hb=>?_
 replace bF:=kp hb bF;replace bE:=kp hb bE;replace bR:=kp hb bR;replace hB:=tr hB hb;clear hb
 obtain ⟨V2,hV2⟩:∃V,w1.alloc (.cells #[] 124)=V:=⟨_,rfl⟩
 have hb:Below w1.heap.size w1 V2:=by rw [←hV2];exact (Below.refl _ w1).alloc (Nat.le_refl _) _
 replace bF:=kp hb bF;replace bE:=kp hb bE;replace bR:=kp hb bR;replace hB:=tr hB hb;clear hb
 have HV2:=Lib.hid hV2
 clear hV2
 go_wp2_with (first|(refine nb rfl rfl rfl rfl (by go_simp;first|done|with_reducible rfl|exact rfl) rfl rfl (by kernel_rfl) ?_;first|rw [HV2.out]|skip)|(refine lp 25 0 (flC f.x.f) bF rfl rfl rfl (by kernel_rfl) (by rfl) ?_))
 clear A0 A1 A2 A3 HV2
 refine cb (HC.out _) fun w3 hb=>?_
 replace bF:=kp hb bF;replace bE:=kp hb bE;replace bR:=kp hb bR;replace hB:=tr hB hb;clear hb
 clear HC
 go_wp2_with fail
 refine cb (HD.out _ (hn.next hB)) fun w2 hb=>?_
 replace bF:=kp hb bF;replace bE:=kp hb bE;replace bR:=kp hb bR;replace hB:=tr hB hb;clear hb
 clear HD
 have bF0:=bF
 replace bF:=srh (c':=fliC Y (.slice ao f.out.length cap)) bF
 replace bE:=(setRow_other w2 w.heap.size (w.heap.size+1) (fliC Y (.slice ao f.out.length cap)) (by omega)).trans bE
 replace bR:=(setRow_other w2 w.heap.size (w.heap.size+2) (fliC Y (.slice ao f.out.length cap)) (by omega)).trans bR
 replace hB:=below_setRow hB (Nat.le_refl _) (fliC Y (.slice ao f.out.length cap))
 obtain ⟨wt,hwt⟩:∃W,w2.setRow w.heap.size (fliC Y (.slice ao f.out.length cap))=W:=⟨_,rfl⟩
 rw [hwt] at bF bE bR hB
 have HWT:=Lib.hid hwt
 clear hwt
 go_wp2_with (first|(refine sp 31 0 (suC Y) (fliC Y (.slice ao f.out.length cap)) bF0 rfl rfl rfl rfl (by kernel_rfl) (by rfl) (by rfl) ?_;rw [HWT.out]))
 clear bF0 HWT
 have hvt:=slAt_own (reps_next HV.out hB)
 obtain ⟨⟨-,-,-,-,-⟩,⟨y5,y6,y7,y8,y9,y10⟩,y11,-,-,y14⟩:=cells15 bF
 have zt:=block_lt bR
 have HF:=Lib.hid bF;have HR:=Lib.hid bR;have HB:=Lib.hid hB;have HT:=Lib.hid hvt;have HZ:=Lib.hid zt
 clear bF bR hB hvt bE zt
 go_wp2_with fail
 refine wp_letter [0,1,2,3,4,5,6,7,8,9,10,11,12,13,14,15,16] 17 18 (NewRow1 wt (repC ⟨E,Y.ph,Y.s⟩) 89) rfl (by kernel_rfl) (by kernel_rfl) rfl (fun v A B h hk=>h.keep hk) ?_
 (apply rat;(focus (intro w' hk;obtain ⟨k0,k1,k2,k3,k4,k5,k6,k7⟩:=look8 hk y5 y6 y7 y8 y9 y10 y11 y14;(iterate 8 (refine' rv ?_ rfl rfl (by go_simp;first|done|with_reducible rfl|exact rfl);try simp only [Act.put,List.setIfInBounds_toArray,List.set_cons_zero,List.set_cons_succ]));(refine' rv ?_ rfl rfl (by exact exec_full (k:=8) rfl rfl rfl rfl Tryz.underlying62 (by kernel_rfl) hle);try simp only [Act.put,List.setIfInBounds_toArray,List.set_cons_zero,List.set_cons_succ]);(iterate 8 (refine' rv ?_ rfl rfl (by go_simp;first|done|with_reducible rfl|exact rfl);try simp only [Act.put,List.setIfInBounds_toArray,List.set_cons_zero,List.set_cons_succ]));(exact rn))))
 refine ⟨rfl,sure_row1 (fun w' _=>by rw [HEE.out];go_simp),?_⟩
 rintro v2 w5 hk5 ⟨b,rfl,hbs,hbc⟩
 change wpList _ _ _ [_,_,_] _ _
 (try simp only [Act.put,List.setIfInBounds_toArray,List.set_cons_zero,List.set_cons_succ])
 have bF:=kpi hk5 HF.out;have bR:=kpi hk5 HR.out;have hB:=HB.out.trans (hk5.whole.mono HB.out.size);have hvt:=HT.out.keep hk5;have zt:=HZ.out;have zt5:=hk5.size
 clear HF HR HB HT HZ hk5 y5 y6 y7 y8 y9 y10 y11 y14
 refine append_full (by rfl) (by rfl) Tryz.underlying62 infoRep rfl (by decide) (by decide) hvt (repCells_len _) hln rfl rfl hbc rfl rfl (repC_one _) ?_
 intro v3 w6 hv3 hk6
 obtain ⟨p3,q3,e3⟩:∃p q,v3= .slice p (f.out.length+1) q:=by
  obtain ⟨p,q,e,-⟩:=slAt_own hv3
  exact ⟨p,q,e⟩
 subst e3
 have bF6:=kpi hk6 bF
 have bR6:=kpi hk6 bR
 have c14:=(cells15 bF6).2.2.2.2.2
 have f14:=frozen0 bF6 14
 have bF7:(w6.setCell ⟨w.heap.size,14,none⟩ (Value.slice p3 (f.out.length+1) q3)).heap[w.heap.size]?=some (.cells (fliC Y (Value.slice p3 (f.out.length+1) q3)) 64 (0,0)):=heap_setCell_same w6 _ 14 _ _ (Value.slice p3 (f.out.length+1) q3) bF6
 have bR7:=(heap_setCell_other w6 ⟨w.heap.size,14,none⟩ (w.heap.size+2) (Value.slice p3 (f.out.length+1) q3) (by show w.heap.size+2≠w.heap.size;omega)).trans bR6
 have hB7:=(hB.trans (hk6.whole.mono hB.size)).setCell (p:=⟨w.heap.size,14,none⟩) (Nat.le_refl _) (Value.slice p3 (f.out.length+1) q3)
 have HV3:=Lib.hid hv3
 clear bF6 bR6 bF bR hB hvt hv3 hk6 hbc
 go_wp2_with (first|(refine lb bF7 rfl rfl rfl (by kernel_rfl) ?_)|(refine sb bR7 rfl rfl rfl rfl (by kernel_rfl) ?_))
 refine bodyPost_ret (rcr rfl (srh bR7) (by rfl) (by kernel_rfl)) rfl ⟨⟨(Value.slice p3 (f.out.length+1) q3),by rw [HX.out],?_⟩,below_setRow hB7 (by omega) _⟩
 rw [HO.out]
 refine reps_low (B:=w5.heap.size) ?_ List.length_append.symm
 rw [repCells_snoc]
 exact own_setRow (own_setCell HV3.out (by omega) _ _) (by omega) _
theorem fstep_turn (f:Dw.Fli) (e:Dw.En) (h1:¬e.ki=1) (h2:¬e.ki=2) (h3:¬e.ki=3) (h4:e.ki=4) (hf:Dw.FlOk f.x.f) (hl:Dw.legal f.x.s=true) (he:enOk e) (hln:f.out.length≤1000000) (v:Value) (w:World) (hn:NoneAt w) (hv:RepsAt w v f.out):
  Calls Tryz.prog 27 #[fliV f.x v,enV e] w fun en w'=>(∃v',en= .returned (fliV (Dw.stepF f e).x v')∧RepsAt w' v' (Dw.stepF f e).out)∧Below w.heap.size w w':=by
 have HV:=Lib.hid hv
 obtain ⟨ao,cap,rfl,hle,hnil,-⟩:=slAt_own hv
 obtain ⟨V,hV⟩:∃V,((w.alloc (.cells (fliC f.x (.slice ao f.out.length cap)) 64)).alloc (.cells (enC e) 77)).alloc (.cells Z15 64)=V:=⟨_,rfl⟩
 obtain ⟨bF,bE,bR,hB⟩:=allocs3 _ _ _ _ _ hV
 have HA:=Lib.hid (fun w=>act_any e w)
 have HX:=Lib.hid (Dw.stepF_x f e)
 have HE:=Lib.hid he
 clear hnil he
 have ha:actV e= .iface 126 (.int .i64 e.at_):=by unfold actV;rw [if_neg h1,if_neg h2,if_neg h3,if_pos h4]
 have hx:Dw.stepX f.x e=Dw.boot (Dw.flip f.x.f e.at_):=by unfold Dw.stepX;rw [if_neg h1,if_neg h2,if_neg h3,if_pos h4]
 have hE:Dw.stepE f.x e=0:=by unfold Dw.stepE;rw [if_neg h1,if_neg h2]
 have HO:=Lib.hid (show (Dw.stepF f e).out=f.out++ [Dw.repOf f.x e] by unfold Dw.stepF;rw [if_pos (by unfold Dw.isK;rw [h4];rfl)])
 have HC:=Lib.hid (fun w=>flip_any f.x.f hf e.at_ HE.out.2 w)
 have HD:=Lib.hid (fun w hn=>boot_any _ (Dw.flip_ok hf e.at_) w hn)
 have A0:=as_turn_reset;have A1:=as_turn_ask;have A2:=as_turn_see;have A3:=as_turn_turn
 generalize Dw.flip f.x.f e.at_=F at HC HD hx
 unfold Dw.repOf at HO
 rw [hx,hE] at HO
 rw [hx] at HX
 rw [ha] at HA
 generalize Dw.boot F=Y at*
 obtain ⟨E,hEE⟩:∃E:Int,E=0:=⟨_,rfl⟩
 rw [←hEE] at HO
 have HEE:=Lib.hid hEE
 clear h1 h2 h3 h4 ha hx hE hf hl hEE
 go_enter Tryz.func27,Tryz.ntmps27
 go_wp2_with (first|(refine lb bE rfl rfl rfl (by kernel_rfl) ?_))
 try rw [hV]
 clear hV
 refine cb (HA.out _) fun w1 hb=>?_
 replace bF:=kp hb bF;replace bE:=kp hb bE;replace bR:=kp hb bR;replace hB:=tr hB hb;clear hb
 obtain ⟨V2,hV2⟩:∃V,w1.alloc (.cells #[] 124)=V:=⟨_,rfl⟩
 have hb:Below w1.heap.size w1 V2:=by rw [←hV2];exact (Below.refl _ w1).alloc (Nat.le_refl _) _
 replace bF:=kp hb bF;replace bE:=kp hb bE;replace bR:=kp hb bR;replace hB:=tr hB hb;clear hb
 have HV2:=Lib.hid hV2
 clear hV2
 go_wp2_with (first|(refine nb rfl rfl rfl rfl (by go_simp;first|done|with_reducible rfl|exact rfl) rfl rfl (by kernel_rfl) ?_;first|rw [HV2.out]|skip)|(refine lp 25 0 (flC f.x.f) bF rfl rfl rfl (by kernel_rfl) (by rfl) ?_))
 clear A0 A1 A2 A3 HV2
 refine cb (HC.out _) fun w3 hb=>?_
 replace bF:=kp hb bF;replace bE:=kp hb bE;replace bR:=kp hb bR;replace hB:=tr hB hb;clear hb
 clear HC
 go_wp2_with fail
 refine cb (HD.out _ (hn.next hB)) fun w2 hb=>?_
 replace bF:=kp hb bF;replace bE:=kp hb bE;replace bR:=kp hb bR;replace hB:=tr hB hb;clear hb
 clear HD
 have bF0:=bF
 replace bF:=srh (c':=fliC Y (.slice ao f.out.length cap)) bF
 replace bE:=(setRow_other w2 w.heap.size (w.heap.size+1) (fliC Y (.slice ao f.out.length cap)) (by omega)).trans bE
 replace bR:=(setRow_other w2 w.heap.size (w.heap.size+2) (fliC Y (.slice ao f.out.length cap)) (by omega)).trans bR
 replace hB:=below_setRow hB (Nat.le_refl _) (fliC Y (.slice ao f.out.length cap))
 obtain ⟨wt,hwt⟩:∃W,w2.setRow w.heap.size (fliC Y (.slice ao f.out.length cap))=W:=⟨_,rfl⟩
 rw [hwt] at bF bE bR hB
 have HWT:=Lib.hid hwt
 clear hwt
 go_wp2_with (first|(refine sp 31 0 (suC Y) (fliC Y (.slice ao f.out.length cap)) bF0 rfl rfl rfl rfl (by kernel_rfl) (by rfl) (by rfl) ?_;rw [HWT.out]))
 clear bF0 HWT
 have hvt:=slAt_own (reps_next HV.out hB)
 obtain ⟨⟨-,-,-,-,-⟩,⟨y5,y6,y7,y8,y9,y10⟩,y11,-,-,y14⟩:=cells15 bF
 have zt:=block_lt bR
 have HF:=Lib.hid bF;have HR:=Lib.hid bR;have HB:=Lib.hid hB;have HT:=Lib.hid hvt;have HZ:=Lib.hid zt
 clear bF bR hB hvt bE zt
 go_wp2_with fail
 refine wp_letter [0,1,2,3,4,5,6,7,8,9,10,11,12,13,14,15,16] 17 18 (NewRow1 wt (repC ⟨E,Y.ph,Y.s⟩) 89) rfl (by kernel_rfl) (by kernel_rfl) rfl (fun v A B h hk=>h.keep hk) ?_
 (apply rat;(focus (intro w' hk;obtain ⟨k0,k1,k2,k3,k4,k5,k6,k7⟩:=look8 hk y5 y6 y7 y8 y9 y10 y11 y14;(iterate 8 (refine' rv ?_ rfl rfl (by go_simp;first|done|with_reducible rfl|exact rfl);try simp only [Act.put,List.setIfInBounds_toArray,List.set_cons_zero,List.set_cons_succ]));(refine' rv ?_ rfl rfl (by exact exec_full (k:=8) rfl rfl rfl rfl Tryz.underlying62 (by kernel_rfl) hle);try simp only [Act.put,List.setIfInBounds_toArray,List.set_cons_zero,List.set_cons_succ]);(iterate 8 (refine' rv ?_ rfl rfl (by go_simp;first|done|with_reducible rfl|exact rfl);try simp only [Act.put,List.setIfInBounds_toArray,List.set_cons_zero,List.set_cons_succ]));(exact rn))))
 refine ⟨rfl,sure_row1 (fun w' _=>by rw [HEE.out];go_simp),?_⟩
 rintro v2 w5 hk5 ⟨b,rfl,hbs,hbc⟩
 change wpList _ _ _ [_,_,_] _ _
 (try simp only [Act.put,List.setIfInBounds_toArray,List.set_cons_zero,List.set_cons_succ])
 have bF:=kpi hk5 HF.out;have bR:=kpi hk5 HR.out;have hB:=HB.out.trans (hk5.whole.mono HB.out.size);have hvt:=HT.out.keep hk5;have zt:=HZ.out;have zt5:=hk5.size
 clear HF HR HB HT HZ hk5 y5 y6 y7 y8 y9 y10 y11 y14
 refine append_full (by rfl) (by rfl) Tryz.underlying62 infoRep rfl (by decide) (by decide) hvt (repCells_len _) hln rfl rfl hbc rfl rfl (repC_one _) ?_
 intro v3 w6 hv3 hk6
 obtain ⟨p3,q3,e3⟩:∃p q,v3= .slice p (f.out.length+1) q:=by
  obtain ⟨p,q,e,-⟩:=slAt_own hv3
  exact ⟨p,q,e⟩
 subst e3
 have bF6:=kpi hk6 bF
 have bR6:=kpi hk6 bR
 have c14:=(cells15 bF6).2.2.2.2.2
 have f14:=frozen0 bF6 14
 have bF7:(w6.setCell ⟨w.heap.size,14,none⟩ (Value.slice p3 (f.out.length+1) q3)).heap[w.heap.size]?=some (.cells (fliC Y (Value.slice p3 (f.out.length+1) q3)) 64 (0,0)):=heap_setCell_same w6 _ 14 _ _ (Value.slice p3 (f.out.length+1) q3) bF6
 have bR7:=(heap_setCell_other w6 ⟨w.heap.size,14,none⟩ (w.heap.size+2) (Value.slice p3 (f.out.length+1) q3) (by show w.heap.size+2≠w.heap.size;omega)).trans bR6
 have hB7:=(hB.trans (hk6.whole.mono hB.size)).setCell (p:=⟨w.heap.size,14,none⟩) (Nat.le_refl _) (Value.slice p3 (f.out.length+1) q3)
 have HV3:=Lib.hid hv3
 clear bF6 bR6 bF bR hB hvt hv3 hk6 hbc
 go_wp2_with (first|(refine lb bF7 rfl rfl rfl (by kernel_rfl) ?_)|(refine sb bR7 rfl rfl rfl rfl (by kernel_rfl) ?_))
 refine bodyPost_ret (rcr rfl (srh bR7) (by rfl) (by kernel_rfl)) rfl ⟨⟨(Value.slice p3 (f.out.length+1) q3),by rw [HX.out],?_⟩,below_setRow hB7 (by omega) _⟩
 rw [HO.out]
 refine reps_low (B:=w5.heap.size) ?_ List.length_append.symm
 rw [repCells_snoc]
 exact own_setRow (own_setCell HV3.out (by omega) _ _) (by omega) _
theorem fstep_none (f:Dw.Fli) (e:Dw.En) (h1:¬e.ki=1) (h2:¬e.ki=2) (h3:¬e.ki=3) (h4:¬e.ki=4) (hf:Dw.FlOk f.x.f) (hl:Dw.legal f.x.s=true) (he:enOk e) (hln:f.out.length≤1000000) (v:Value) (w:World) (hn:NoneAt w) (hv:RepsAt w v f.out):
  Calls Tryz.prog 27 #[fliV f.x v,enV e] w fun en w'=>(∃v',en= .returned (fliV (Dw.stepF f e).x v')∧RepsAt w' v' (Dw.stepF f e).out)∧Below w.heap.size w w':=by
 have HV:=Lib.hid hv
 obtain ⟨ao,cap,rfl,hle,hnil,-⟩:=slAt_own hv
 obtain ⟨V,hV⟩:∃V,((w.alloc (.cells (fliC f.x (.slice ao f.out.length cap)) 64)).alloc (.cells (enC e) 77)).alloc (.cells Z15 64)=V:=⟨_,rfl⟩
 obtain ⟨bF,bE,bR,hB⟩:=allocs3 _ _ _ _ _ hV
 have HA:=Lib.hid (fun w=>act_any e w)
 have HX:=Lib.hid (Dw.stepF_x f e)
 have HE:=Lib.hid he
 clear hnil he
 have ha:actV e= .nilIface:=by unfold actV;rw [if_neg h1,if_neg h2,if_neg h3,if_neg h4]
 have hs:Dw.stepF f e=f:=by unfold Dw.stepF;rw [if_neg (by unfold Dw.isK;simp;omega)]
 rw [ha] at HA
 rw [hs]
 clear HX HE h1 h2 h3 h4 ha hs hf hl hln
 have A0:=as_nil_reset
 go_enter Tryz.func27,Tryz.ntmps27
 go_wp2_with (first|(refine lb bE rfl rfl rfl (by kernel_rfl) ?_))
 try rw [hV]
 clear hV
 refine cb (HA.out _) fun w1 hb=>?_
 replace bF:=kp hb bF;replace bE:=kp hb bE;replace bR:=kp hb bR;replace hB:=tr hB hb;clear hb
 obtain ⟨V2,hV2⟩:∃V,w1.alloc (.cells #[] 124)=V:=⟨_,rfl⟩
 have hb:Below w1.heap.size w1 V2:=by rw [←hV2];exact (Below.refl _ w1).alloc (Nat.le_refl _) _
 replace bF:=kp hb bF;replace bE:=kp hb bE;replace bR:=kp hb bR;replace hB:=tr hB hb;clear hb
 have HV2:=Lib.hid hV2
 clear hV2
 go_wp2_with (first|(refine nb rfl rfl rfl rfl (by go_simp;first|done|with_reducible rfl|exact rfl) rfl rfl (by kernel_rfl) ?_;first|rw [HV2.out]|skip)|(refine lb bF rfl rfl rfl (by kernel_rfl) ?_)|(refine sb bR rfl rfl rfl rfl (by kernel_rfl) ?_))
 refine bodyPost_ret (rcr rfl (srh bR) (by rfl) (by kernel_rfl)) rfl ⟨⟨_,rfl,?_⟩,below_setRow hB (by omega) _⟩
 exact reps_next HV.out (below_setRow hB (by omega) _)
end Go.Proofs.YtnaokijcggbfdaaGreatDoor
namespace Go.Proofs.YtnaokijcggbfdaaGreatDoor
open Go.RowKit Go.Shelf
theorem fstep_any (f:Dw.Fli) (e:Dw.En) (hf:Dw.FlOk f.x.f) (hl:Dw.legal f.x.s=true) (he:enOk e) (hln:f.out.length≤1000000) (v:Value) (w:World) (hn:NoneAt w) (hv:RepsAt w v f.out):
  Calls Tryz.prog 27 #[fliV f.x v,enV e] w fun en w'=>(∃v',en= .returned (fliV (Dw.stepF f e).x v')∧RepsAt w' v' (Dw.stepF f e).out)∧Below w.heap.size w w':=by
 by_cases h1:e.ki=1
 ·exact fstep_ask f e h1 hf hl he hln v w hn hv
 by_cases h2:e.ki=2
 ·exact fstep_see f e h1 h2 hf hl he hln v w hn hv
 by_cases h3:e.ki=3
 ·exact fstep_reset f e h1 h2 h3 hf hl he hln v w hn hv
 by_cases h4:e.ki=4
 ·exact fstep_turn f e h1 h2 h3 h4 hf hl he hln v w hn hv
 ·exact fstep_none f e h1 h2 h3 h4 hf hl he hln v w hn hv
end Go.Proofs.YtnaokijcggbfdaaGreatDoor
namespace Go.Proofs.YtnaokijcggbfdaaGreatDoor
open Go.RowKit Go.Shelf
attribute [local go_sem] Oper.semAt_some
theorem Dw.out_le (l:List Dw.En) (f:Dw.Fli):(Dw.runF f l).out.length≤f.out.length+l.length:=by
 rw [Dw.out_len]
 have:=List.length_filter_le Dw.isK l
 omega
theorem reps_shape {w:World} {v:Value} {l:List Dw.Rep} (h:RepsAt w v l):∃p q,v= .slice p l.length q:=by
 obtain ⟨p,q,e,-⟩:=slAt_own h
 exact ⟨p,q,e⟩
theorem frun_any (f:Dw.Fli) (l:List Dw.En) (hf:Dw.FlOk f.x.f) (hl:Dw.legal f.x.s=true) (hlen:l.length≤1000) (hln:f.out.length≤1000) (v v2:Value) (w:World) (hn:NoneAt w) (hv:RepsAt w v f.out) (hv2:EnsAt w v2 l):
  Calls Tryz.prog 30 #[fliV f.x v,v2] w fun en w'=>(∃v',en= .returned (fliV (Dw.runF f l).x v')∧RepsAt w' v' (Dw.runF f l).out)∧Below w.heap.size w w':=by
 have HV:=Lib.hid hv2
 obtain ⟨sa,cap,rfl,-,-⟩:=id hv2
 obtain ⟨V,hV⟩:∃V,(w.alloc (.cells (fliC f.x v) 64)).alloc (.cells Z15 64)=V:=⟨_,rfl⟩
 obtain ⟨bF,bR,hB⟩:=allocs2 _ _ _ _ hV
 have HR0:=Lib.hid (reps_next hv hB)
 clear hv hv2
 have hll:(0:Int)≤(l.length:Int):=by omega
 go_enter Tryz.func30,Tryz.ntmps30
 go_wp2_with fail
 try rw [hV]
 clear hV
 go_loopw [9] (fun i wr=>∃(k:Nat) (g:Dw.Fli) (v':Value),k≤l.length∧i= .int .i64 k∧g=Dw.runF f (l.take k)∧wr.heap[w.heap.size]?=some (.cells (fliC g.x v') 64 (0,0))∧wr.heap[w.heap.size+1]?=some (.cells Z15 64 (0,0))∧RepsAt wr v' g.out∧Below w.heap.size w wr) (fun i _=>l.length-(intOf i).toNat)
 case atStart=>exact ⟨0,f,v,Nat.zero_le _,rfl,rfl,bF,bR,HR0.out,hB⟩
 case round=>
  clear bF bR hB HR0
  obtain ⟨k,g,v',hk,rfl,hg,bF,bR,hR,hB⟩:=hrel
  obtain ⟨p0,q0,rfl⟩:=reps_shape hR
  by_cases hlt:k<l.length
  ·have hlt':(k:Int)<(l.length:Int):=by omega
   obtain ⟨e,hce⟩:∃e,l[k]?=some e:=⟨l[k],List.getElem?_eq_getElem hlt⟩
   obtain ⟨he,bb,off,hsa,kc⟩:=EnsAt.get (HV.out.next hB) hce
   subst hsa
   have hgo:Dw.FlOk g.x.f:=by rw [hg];exact Dw.runF_ok _ _ hf
   have hgl:Dw.legal g.x.s=true:=by rw [hg];exact Dw.runF_legal _ _ hl
   have hgn:g.out.length≤1000000:=by
    rw [hg]
    have h1:=Dw.out_le (l.take k) f
    have h2:=List.length_take_le k l
    omega
   have HG:=Lib.hid (show Dw.stepF g e=Dw.runF f (l.take (k+1)) by rw [hg];exact (Dw.run_take hce).symm)
   obtain ⟨V2,hV2⟩:∃V,wr.alloc (.cells (enC e) 77)=V:=⟨_,rfl⟩
   have hb:Below wr.heap.size wr V2:=by rw [←hV2];exact (Below.refl _ wr).alloc (Nat.le_refl _) _
   have bE:V2.heap[wr.heap.size]?=some (.cells (enC e) 77):=by rw [←hV2];exact han _ _
   have HS:=Lib.hid (fun w hn hv=>fstep_any g e hgo hgl he hgn (.slice p0 g.out.length q0) w hn hv)
   have HR2:=Lib.hid (reps_next hR hb)
   have bF2:=kp hb bF;have bR2:=kp hb bR;have hB2:=tr hB hb
   have HV2:=Lib.hid hV2
   have zz:=block_lt bR
   clear hb hV2 hg hR hgo hgl hgn hce he bF bR
   go_wp2_with (first|(refine lr (enC e).toList.toArray kc rfl rfl rfl (by kernel_rfl) ?_)|(refine nb rfl rfl rfl rfl (by go_simp;first|done|with_reducible rfl|exact rfl) rfl rfl (by kernel_rfl) ?_;first|rw [HV2.out]|skip)|(refine lb bF2 rfl rfl rfl (by kernel_rfl) ?_)|(refine lb bE rfl rfl rfl (by kernel_rfl) ?_))
   refine (HS.out _ (hn.next hB2) HR2.out).mono ?_
   rintro en w5 ⟨⟨v5,rfl,hR5⟩,hb⟩
   obtain ⟨p5,q5,rfl⟩:=reps_shape hR5
   have bF5:=kp hb bF2;have bR5:=kp hb bR2;have hB5:=tr hB2 hb
   have HR5:=Lib.hid hR5;have HB5:=Lib.hid hB5;have HBR:=Lib.hid bR5
   clear hb bF2 bR2 hB2 bE HV2 HS HR2 hR5 hB5 bR5 kc
   go_wp2_with (first|(refine sb bF5 rfl rfl rfl rfl (by kernel_rfl) ?_))
   go_roundw
   case rel=>exact ⟨k+1,Dw.stepF g e,_,hlt,by go_num,HG.out,srh bF5,(setRow_other _ _ _ _ (by omega)).trans HBR.out,reps_row HR5.out bF5 _,below_setRow HB5.out (Nat.le_refl _) _⟩
   case measure=>first|done|(simp [intOf];done)|(simp [intOf];omega)
  ·have hge:¬(k:Int)<(l.length:Int):=by omega
   obtain rfl:k=l.length:=by omega
   rw [List.take_length] at hg
   subst hg
   have HB:=Lib.hid hB;have HRR:=Lib.hid hR
   clear hB hR hk
   go_wp2_with (first|(refine lb bF rfl rfl rfl (by kernel_rfl) ?_)|(refine sb bR rfl rfl rfl rfl (by kernel_rfl) ?_))
   refine bodyPost_ret (rcr rfl (srh bR) (by rfl) (by kernel_rfl)) rfl ⟨⟨_,rfl,?_⟩,below_setRow HB.out (by omega) _⟩
   exact reps_row HRR.out bR _
def Dw.sA:Dw.En:=⟨1,⟨2,0,0,0⟩,0,0,0,⟨-1,[]⟩,0⟩
def Dw.sS:Dw.En:=⟨2,⟨0,0,0,0⟩,0,0,0,⟨-1,[]⟩,0⟩
def Dw.sK (k:Int):Dw.En:=⟨k,⟨0,0,0,0⟩,0,0,0,⟨0,[]⟩,0⟩
def Dw.sL:List Dw.En:= [Dw.sA,Dw.sS,Dw.sS,Dw.sS,Dw.sA,Dw.sK 3,Dw.sK 9]
def sLC:List Value:=Dw.sL.flatMap fun e=>(enC e).toList
theorem cells_of {w:World} {b:Nat} {c:Array Value} {t:TypeId} {fr:Nat×Nat} (h:w.heap[b]?=some (.cells c t fr)) (i:Nat) (u:Value) (hi:c.toList[i]?=some u):w.cell? ⟨b,0+i,none⟩=some u:=by
 rw [Nat.zero_add,cell_of_row _ _ i _ _ _ h]
 simpa using hi
theorem flat_get {α:Type} {enc:α→List Value} {k:Nat} (hk:∀a,(enc a).length=k):∀(l:List α) (j:Nat) (x:α) (i:Nat),l[j]?=some x→i<k→(l.flatMap enc)[j*k+i]?=(enc x)[i]?
 | [],j,x,i,h,_=>by simp at h
 |a::l,0,x,i,h,hi=>by
  simp at h
  subst h
  rw [List.flatMap_cons,Nat.zero_mul,Nat.zero_add,List.getElem?_append_left (by rw [hk];exact hi)]
 |a::l,j+1,x,i,h,hi=>by
  rw [List.flatMap_cons,List.getElem?_append_right (by rw [hk,Nat.succ_mul];omega),hk,show (j+1)*k+i-k=j*k+i by rw [Nat.succ_mul];omega]
  exact flat_get hk l j x i (by simpa using h) hi
theorem sL_at {w:World} {b cap:Nat} {t:TypeId} (h:w.heap[b]?=some (.cells sLC.toArray t)):EnsAt w (.slice (some ⟨b,0,none⟩) 7 cap) Dw.sL:=by
 refine ⟨_,_,rfl,by decide, .inr ⟨b,0,rfl,fun j x hj i u hi=>?_⟩⟩
 have hi11:i<11:=(List.getElem?_eq_some_iff.1 hi).1
 rw [cell_of_row _ _ _ _ _ _ h,←hi,Nat.zero_add]
 show sLC.toArray[j*11+i]?=_
 rw [List.getElem?_toArray]
 exact flat_get (k:=11) (fun _=>rfl) Dw.sL j x i hj hi11
theorem shown21_walk (X0:Dw.Su) (g:Dw.Fli) (F2:Dw.Fl) (w:World) (hn:NoneAt w)
  (hbeg:∀w,NoneAt w→Calls Tryz.prog 23 #[.int .i64 3, .int .i64 9] w fun e w'=>e= .returned (fliV X0 (.slice none 0 0))∧Below w.heap.size w w')
  (hrun:∀w v2,NoneAt w→EnsAt w v2 Dw.sL→Calls Tryz.prog 30 #[fliV X0 (.slice none 0 0),v2] w fun en w'=>(∃v',en= .returned (fliV g.x v')∧RepsAt w' v' g.out)∧Below w.heap.size w w')
  (hflip:∀w,Calls Tryz.prog 31 #[flV g.x.f, .int .i64 9] w fun e w'=>e= .returned (flV F2)∧Below w.heap.size w w')
  (r0 r1 r2 r3 r4 r5:Dw.Rep) (hout:g.out= [r0,r1,r2,r3,r4,r5]) (e0:r0.e=25) (p3:r3.ph=1) (a4:r4.s.ar=true) (p5:r5.ph=0) (a5:r5.s.ar=true) (t t2:List UInt8) (hfa:g.x.f.a=165::1::t) (hfa2:F2.a=165::3::t2):
  Calls Tryz.prog 22 #[] w fun e w'=>e= .returned (.bool true)∧Below w.heap.size w w':=by
 obtain ⟨⟨⟨fa,fb,fe0,fe1,fli⟩,gs,gph,gvo,gn⟩,go⟩:=g
 obtain ⟨da,db,de0,de1,dli⟩:=F2
 dsimp only at hout hfa hfa2 hrun hflip
 subst hout hfa hfa2
 have HBG:=Lib.hid hbeg;have HRN:=Lib.hid hrun;have HFL:=Lib.hid hflip
 clear hbeg hrun hflip
 obtain ⟨V1,hV1⟩:∃V,w.alloc (.cells #[.int .i64 2, .int .i64 0, .int .i64 0, .float .f64 0, .float .f64 0, .float .f64 0, .float .f64 0, .float .f64 0, .int .i64 (-1), .string ⟨#[]⟩, .int .i64 0] 77)=V:=⟨_,rfl⟩
 obtain ⟨V,hV⟩:∃V,V1.alloc (.cells #[.int .i64 1, .int .i64 2, .int .i64 0, .float .f64 0, .float .f64 0, .float .f64 0, .float .f64 0, .float .f64 0, .int .i64 (-1), .string ⟨#[]⟩, .int .i64 0] 77)=V:=⟨_,rfl⟩
 have bS1:V1.heap[w.heap.size]?=some (.cells (enC Dw.sS) 77):=by rw [←hV1];exact han _ _
 have hb:Below V1.heap.size V1 V:=by rw [←hV];exact (Below.refl _ V1).alloc (Nat.le_refl _) _
 have bA:V.heap[V1.heap.size]?=some (.cells (enC Dw.sA) 77):=by rw [←hV];exact han _ _
 have bS:=kp hb bS1
 have hB1:Below w.heap.size w V1:=by rw [←hV1];exact (Below.refl _ w).alloc (Nat.le_refl _) _
 have hB:=tr hB1 hb
 have HV1:=Lib.hid hV1;have HV2:=Lib.hid hV
 clear hV1 hV hb hB1 bS1
 go_enter Tryz.func22,Tryz.ntmps22
 go_wp2_with (first|(refine nb rfl rfl rfl rfl (by go_simp;first|done|with_reducible rfl|exact rfl) rfl rfl (by kernel_rfl) ?_;first|rw [HV1.out]|rw [HV2.out]|skip))
 (try simp only [Act.put,List.setIfInBounds_toArray,List.set_cons_zero,List.set_cons_succ])
 clear HV1 HV2
 have HB:=Lib.hid hB
 clear hB
 refine wp_lettersm [0,1,2,3,4,5,6,7] [8,9] 10 11 rfl (.cells Z15 64) rfl (by kernel_rfl) (by kernel_rfl) rfl (fun a w'=>⟨rfl,by kernel_rfl⟩) ?_
 (apply rat;(focus (intro w' hk;(refine' rc ?_ (by exact rfl) (by exact rfl) (by go_simp;first|done|(constructor<;>with_reducible rfl)|with_reducible rfl) (by exact HBG.out w' ((hn.next HB.out).next hk.whole));try simp only [Act.put,List.setIfInBounds_toArray,List.set_cons_zero,List.set_cons_succ]);(refine' rv ?_ rfl rfl (by exact exec_cells (enC Dw.sA) (cells_of (kpi hk bA)) rfl rfl (by kernel_rfl));try simp only [Act.put,List.setIfInBounds_toArray,List.set_cons_zero,List.set_cons_succ]);(refine' rv ?_ rfl rfl (by exact exec_cells (enC Dw.sS) (cells_of (kpi hk bS)) rfl rfl (by kernel_rfl));try simp only [Act.put,List.setIfInBounds_toArray,List.set_cons_zero,List.set_cons_succ]);(refine' rv ?_ rfl rfl (by exact exec_cells (enC Dw.sS) (cells_of (kpi hk bS)) rfl rfl (by kernel_rfl));try simp only [Act.put,List.setIfInBounds_toArray,List.set_cons_zero,List.set_cons_succ]);(refine' rv ?_ rfl rfl (by exact exec_cells (enC Dw.sS) (cells_of (kpi hk bS)) rfl rfl (by kernel_rfl));try simp only [Act.put,List.setIfInBounds_toArray,List.set_cons_zero,List.set_cons_succ]);(refine' rv ?_ rfl rfl (by exact exec_cells (enC Dw.sA) (cells_of (kpi hk bA)) rfl rfl (by kernel_rfl));try simp only [Act.put,List.setIfInBounds_toArray,List.set_cons_zero,List.set_cons_succ]);(iterate 2 (refine' rv ?_ rfl rfl (by go_simp;first|done|with_reducible rfl|exact rfl);try simp only [Act.put,List.setIfInBounds_toArray,List.set_cons_zero,List.set_cons_succ]));(exact rn))))
 clear HBG bS bA
 refine lm_value rfl rfl fun w5 hk5=>⟨.slice (some ⟨w5.heap.size,0,none⟩) 7 7,w5.alloc (.cells sLC.toArray 77),by kernel_rfl,keep_alloc _ _,?_⟩
 have hn6:=(hn.next HB.out).next hk5.whole
 have HB6:=Lib.hid ((HB.out.trans (hk5.whole.mono HB.out.size)).alloc (by have:=HB.out.size;have:=hk5.size;omega) (.cells sLC.toArray 77))
 have hn6:=hn.next HB6.out
 have he6:EnsAt (w5.alloc (.cells sLC.toArray 77)) (.slice (some ⟨w5.heap.size,0,none⟩) 7 7) Dw.sL:=sL_at (han _ _)
 obtain ⟨W6,hW6⟩:∃W,w5.alloc (.cells sLC.toArray 77)=W:=⟨_,rfl⟩
 rw [hW6] at hn6 he6 HB6 ⊢
 clear hW6
 refine lm_call (f:=?_) (args:=?_) rfl rfl ?_ ?_
 rotate_left 2
 ·intro w' hk
  go_simp
  first|done|(constructor<;>with_reducible rfl)|with_reducible rfl
 intro w7 hk7
 refine (HRN.out w7 _ (hn6.next hk7.whole) (he6.next hk7.whole)).mono ?_
 rintro e w8 ⟨⟨v8,rfl,hr8⟩,hb8⟩
 refine ⟨_,rfl,KeepBut.of_below' hb8,?_⟩
 intro b w9 hk9 hlo hb9
 have hr9:=reps_next hr8 hk9.whole
 have hB9:=((HB6.out.trans (hk7.whole.mono HB6.out.size)).trans (hb8.mono (by have:=HB6.out.size;have:=hk7.size;omega))).trans (hk9.whole.mono (by have:=HB6.out.size;have:=hk7.size;have:=hb8.size;omega))
 have hlo':w.heap.size≤b:=by have:=HB.out.size;omega
 clear hk9 hb8 hr8 hk7 he6 hn6 HRN HB6
 obtain ⟨-,⟨-,h0⟩|⟨q,cap,cur,rfl,-⟩⟩:=id hr9
 ·cases h0
 have hrr:=reps_row hr9 hb9 (fliC ⟨⟨165::1::t,fb,fe0,fe1,fli⟩,gs,gph,gvo,gn⟩ (.slice (some ⟨q,0,none⟩) 6 cap))
 have bF:=srh (c':=fliC ⟨⟨165::1::t,fb,fe0,fe1,fli⟩,gs,gph,gvo,gn⟩ (.slice (some ⟨q,0,none⟩) 6 cap)) hb9
 have hB10:=below_setRow hB9 hlo' (fliC ⟨⟨165::1::t,fb,fe0,fe1,fli⟩,gs,gph,gvo,gn⟩ (.slice (some ⟨q,0,none⟩) 6 cap))
 obtain ⟨W,hW⟩:∃W,w9.setRow b (fliC ⟨⟨165::1::t,fb,fe0,fe1,fli⟩,gs,gph,gvo,gn⟩ (.slice (some ⟨q,0,none⟩) 6 cap))=W:=⟨_,rfl⟩
 rw [hW] at hrr bF hB10
 have HW:=Lib.hid hW
 clear hW hr9 hB9
 change wpList _ _ _ [_] _ _
 (try simp only [Act.put,List.setIfInBounds_toArray,List.set_cons_zero,List.set_cons_succ])
 refine sb (c':=fliC ⟨⟨165::1::t,fb,fe0,fe1,fli⟩,gs,gph,gvo,gn⟩ (.slice (some ⟨q,0,none⟩) 6 cap)) hb9 rfl rfl rfl rfl (by kernel_rfl) ?_
 rw [HW.out]
 (try simp only [Act.put,List.setIfInBounds_toArray,List.set_cons_zero,List.set_cons_succ])
 clear hb9 HW hlo hlo'
 obtain ⟨ao2,cap2,he2,-,-,hc⟩:=slAt_own hrr
 cases he2
 have hcc:=hc _ rfl
 have q0:W.cell? ⟨q,0,none⟩=some (.int .i64 25):=by rw [←e0];exact hcc 0 _ rfl
 have q1:W.cell? ⟨q,25,none⟩=some (.int .i64 1):=by rw [←p3];exact hcc 25 _ rfl
 have q2:W.cell? ⟨q,35,none⟩=some (.bool true):=by rw [←a4];exact hcc 35 _ rfl
 have q3:W.cell? ⟨q,41,none⟩=some (.int .i64 0):=by rw [←p5];exact hcc 41 _ rfl
 have q4:W.cell? ⟨q,43,none⟩=some (.bool true):=by rw [←a5];exact hcc 43 _ rfl
 obtain ⟨⟨y0,y1,y2,y3,y4⟩,-,-,-,-,y14⟩:=cells15 bF
 have hox:∀(A B:ByteArray) V,(Instr.index 22 (.agg #[.string A, .string B]) (.int .i64 0)).run Tryz.prog V= .ok (.string A) V:=fun A B V=>by kernel_rfl
 have hix1:∀V,(Instr.index 9 (.string ⟨((165::1::t:List UInt8)).toArray⟩) (.int .i64 1)).run Tryz.prog V= .ok (.int .u8 1) V:=fun V=>by kernel_rfl
 have hix2:∀V,(Instr.index 9 (.string ⟨((165::3::t2:List UInt8)).toArray⟩) (.int .i64 1)).run Tryz.prog V= .ok (.int .u8 3) V:=fun V=>by kernel_rfl
 clear hcc hc hrr bF e0 p3 a4 p5 a5
 go_wp2_with fail
 refine wp_pure (0::1::2::3::4::5::6::7::8::9::10::11::12::13::14::15::16::17::18::19::20::21::22::23::24::25::26::27::28::29::30::31::32::33::34::35::36::37::38::39::40::41::42::43::44::45::46::47::48::49::50::51::52::53::54::55::56::57::58::59::60::61:: []) 62 (by kernel_rfl) (by kernel_rfl) rfl ?_
 (apply rat;(focus (intro w' hk;obtain ⟨k0,k1,k2,k3,k4,k14,j0,j1⟩:=look8 hk y0 y1 y2 y3 y4 y14 q0 q1;obtain ⟨j2,j3,j4⟩:=look3 hk q2 q3 q4;(iterate 48 (refine' rv ?_ rfl rfl (by go_simp;first|done|with_reducible rfl|exact rfl);try simp only [Act.put,List.setIfInBounds_toArray,List.set_cons_zero,List.set_cons_succ]));(refine' rc ?_ (by exact rfl) (by exact rfl) (by go_simp;first|done|(constructor<;>with_reducible rfl)|with_reducible rfl) (by exact HFL.out w');try simp only [Act.put,List.setIfInBounds_toArray,List.set_cons_zero,List.set_cons_succ]);(iterate 13 (refine' rv ?_ rfl rfl (by go_simp;first|done|with_reducible rfl|exact rfl);try simp only [Act.put,List.setIfInBounds_toArray,List.set_cons_zero,List.set_cons_succ]));(exact rn))))
 intro w2 hk2
 simp only [List.drop_succ_cons,List.drop_zero]
 go_wp2_with fail
 go_ret
 exact ⟨rfl,hB10.trans (hk2.whole.mono hB10.size)⟩
end Go.Proofs.YtnaokijcggbfdaaGreatDoor
namespace Go.Proofs.YtnaokijcggbfdaaGreatDoor
open Go.RowKit Go.Shelf
theorem shown21_any (w:World) (hn:NoneAt w):
  Calls Tryz.prog 22 #[] w fun e w'=>e= .returned (.bool true)∧Below w.heap.size w w':=by
 obtain ⟨g,hg⟩:∃g,Dw.runF (Dw.beginF 3 9) Dw.sL=g:=⟨_,rfl⟩
 have hm:(g.out.map fun r=>(r.e,r.ph,r.s.ar))= [(25,0,false),(0,0,false),(0,0,false),(0,1,false),(0,1,true),(0,0,true)]:=by rw [←hg];decide+kernel
 have ha:g.x.f.a.take 2= [165,1]:=by rw [←hg];decide+kernel
 have hb:(Dw.flip g.x.f 9).a.take 2= [165,3]:=by rw [←hg];decide+kernel
 have hrun:=fun w v2 hn hv=>frun_any (Dw.beginF 3 9) Dw.sL (Dw.newF_ok 3 9) (Dw.boot_legal _) (by decide) (Nat.zero_le _) (.slice none 0 0) v2 w hn (World.ownsRow_nil _ _ _ _) hv
 have hok:Dw.FlOk g.x.f:=by rw [←hg];exact Dw.runF_ok _ _ (Dw.newF_ok 3 9)
 rw [hg] at hrun
 obtain ⟨t,ht⟩:∃t,g.x.f.a=165::1::t:=⟨g.x.f.a.drop 2,by have h:=List.take_append_drop 2 g.x.f.a;rw [ha] at h;exact h.symm⟩
 obtain ⟨t2,ht2⟩:∃t,(Dw.flip g.x.f 9).a=165::3::t:=⟨(Dw.flip g.x.f 9).a.drop 2,by have h:=List.take_append_drop 2 (Dw.flip g.x.f 9).a;rw [hb] at h;exact h.symm⟩
 have hfl:=fun w=>flip_any g.x.f hok 9 (by decide) w
 clear hg ha hb hok
 have key:∃r0 r1 r2 r3 r4 r5:Dw.Rep,g.out= [r0,r1,r2,r3,r4,r5]∧r0.e=25∧r3.ph=1∧r4.s.ar=true∧r5.ph=0∧r5.s.ar=true:=by
  generalize g.out=o at hm
  rcases o with _|⟨r0,_|⟨r1,_|⟨r2,_|⟨r3,_|⟨r4,_|⟨r5,_|⟨r6,o⟩⟩⟩⟩⟩⟩⟩<;>simp at hm
  exact ⟨r0,r1,r2,r3,r4,r5,rfl,hm.1.1,hm.2.2.2.1.2.1,hm.2.2.2.2.1.2.2,hm.2.2.2.2.2.2.1,hm.2.2.2.2.2.2.2⟩
 obtain ⟨r0,r1,r2,r3,r4,r5,hout,e0,p3,a4,p5,a5⟩:=key
 exact shown21_walk (Dw.beginF 3 9).x g (Dw.flip g.x.f 9) w hn (fun w hn=>begin_any 3 9 w hn) hrun hfl r0 r1 r2 r3 r4 r5 hout e0 p3 a4 p5 a5 t t2 ht ht2
end Go.Proofs.YtnaokijcggbfdaaGreatDoor
