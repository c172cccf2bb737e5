/- What the statement's proof stands on, part 49: RStA21, RStB21, RStC21, RStD21, RStE21, RStep21, Runs21. -/
import Derived.Test.YtnaokijcggbfdaaGreatDoorBm44
import Derived.Test.YtnaokijcggbfdaaGreatDoorBm43
import Derived.Test.YtnaokijcggbfdaaGreatDoorBm48
import Derived.Test.YtnaokijcggbfdaaGreatDoorBm45
import Derived.Test.YtnaokijcggbfdaaGreatDoorBm38
import Derived.Test.YtnaokijcggbfdaaGreatDoorBm37
set_option linter.unusedSimpArgs false
set_option linter.unusedVariables false
set_option maxRecDepth 100000
set_option maxHeartbeats 4000000
namespace Go.Proofs.YtnaokijcggbfdaaGreatDoor
open Go.RowKit Go.Shelf
attribute [local go_sem] Oper.semAt_some
theorem rstep_ask (f:Dw.Fli) (e:Dw.En) (h1:e.ki=1) (hf:Dw.FlOk f.x.f) (hl:Dw.legal f.x.s=true) (he:enOk e) (hm:e.p.mask.length≤100000) (hln:f.out.length≤1000000) (v:Value) (w:World) (hv:RRepsAt w v f.out):
  Calls Tryz.prog 28 #[fliV f.x v,enV e] w fun en w'=>(∃v',en= .returned (fliV (Dw.stepF f e).x v')∧RRepsAt w' v' (Dw.stepF f e).out)∧Below w.heap.size w w':=by
 have HV:=Lib.hid hv
 obtain ⟨ao,cap,rfl,hle,hnil,-⟩:=slAt_own hv
 obtain ⟨V,hV⟩:∃V,((w.alloc (.cells (fliC f.x (.slice ao f.out.length cap)) 71)).alloc (.cells (enC e) 81)).alloc (.cells Z15 71)=V:=⟨_,rfl⟩
 obtain ⟨bF,bE,bR,hB⟩:=allocs3 _ _ _ _ _ hV
 have k0:V.cell? ⟨w.heap.size+1,0,none⟩=some (.int .i64 e.ki):=by rw [cell_of_row _ _ 0 _ _ _ bE];rfl
 have HX:=Lib.hid (Dw.stepF_x f e)
 have HE:=Lib.hid he
 clear hnil he hv
 have HO:=Lib.hid (show (Dw.stepF f e).out=f.out++ [Dw.repOf f.x e] by unfold Dw.stepF;rw [if_pos (by unfold Dw.isK;rw [h1];rfl)])
 have hx:Dw.stepX f.x e=Dw.commandX f.x e.c e.p:=by unfold Dw.stepX;rw [if_pos h1]
 have hE:Dw.stepE f.x e=Dw.commandE f.x e.c e.p:=by unfold Dw.stepE;rw [if_pos h1]
 have HC:=Lib.hid (fun w=>rcommand_any f.x e.c e.p hf hl hm w)
 unfold Dw.repOf at HO
 rw [hx,hE] at HO
 rw [hx] at HX
 rw [h1] at k0
 generalize Dw.commandX f.x e.c e.p=Y at*
 generalize Dw.commandE f.x e.c e.p=E at*
 clear h1 hx hE hf hl hm
 go_enter Tryz.func28,Tryz.ntmps28
 go_wp2_with (first|(refine lp 68 0 (suC f.x) bF rfl rfl rfl (by kernel_rfl) (by rfl) ?_)|(refine lp 45 1 (cmC e.c) bE rfl rfl rfl (by kernel_rfl) (by rfl) ?_)|(refine lp 79 8 #[.int .i64 e.p.cut, .string ⟨e.p.mask.toArray⟩] bE rfl rfl rfl (by kernel_rfl) (by rfl) ?_))
 clear hV k0
 refine cb (HC.out _) fun w2 hb=>?_
 replace bF:=kp hb bF;replace bE:=kp hb bE;replace bR:=kp hb bR;replace hB:=tr hB hb;clear hb
 clear HC
 have bF0:=bF
 replace bF:=srh (c':=fliC Y (.slice ao f.out.length cap)) bF
 replace bE:=(setRow_other w2 w.heap.size (w.heap.size+1) (fliC Y (.slice ao f.out.length cap)) (by omega)).trans bE
 replace bR:=(setRow_other w2 w.heap.size (w.heap.size+2) (fliC Y (.slice ao f.out.length cap)) (by omega)).trans bR
 replace hB:=below_setRow hB (Nat.le_refl _) (fliC Y (.slice ao f.out.length cap))
 obtain ⟨wt,hwt⟩:∃W,w2.setRow w.heap.size (fliC Y (.slice ao f.out.length cap))=W:=⟨_,rfl⟩
 rw [hwt] at bF bE bR hB
 have HWT:=Lib.hid hwt
 clear hwt
 go_wp2_with (first|(refine sp 68 0 (suC Y) (fliC Y (.slice ao f.out.length cap)) bF0 rfl rfl rfl rfl (by kernel_rfl) (by rfl) (by rfl) ?_;rw [HWT.out]))
 clear bF0 HWT
 have hvt:=rreps_next HV.out hB
 obtain ⟨⟨-,-,-,-,-⟩,⟨y5,y6,y7,y8,y9,y10⟩,y11,-,-,y14⟩:=cells15 bF
 have zt:=block_lt bR
 have HF:=Lib.hid bF;have HR:=Lib.hid bR;have HB:=Lib.hid hB;have HT:=Lib.hid hvt;have HZ:=Lib.hid zt
 clear bF bR hB hvt bE zt
 go_wp2_with fail
 refine wp_lettersf [1,2,4,5,6,7,8,9,10,11] [0,3] 12 13 rfl (.cells (repC ⟨E,Y.ph,Y.s⟩) 121) (fun b=> .slice (some ⟨b,0,none⟩) 1 1) rfl (by kernel_rfl) (by kernel_rfl) rfl ?_
 (apply rat;(focus (intro w' hk;obtain ⟨k0,k1,k2,k3,k4,k5,k6,k7⟩:=look8 hk y5 y6 y7 y8 y9 y10 y11 y14;(iterate 10 (refine' rv ?_ rfl rfl (by go_simp;first|done|with_reducible rfl|exact rfl);try simp only [Act.put,List.setIfInBounds_toArray,List.set_cons_zero,List.set_cons_succ]));(exact rn))))
 refine ⟨⟨rfl,fun w'=>by go_simp⟩,?_⟩
 clear y5 y6 y7 y8 y9 y10 y11 y14
 refine lf_value rfl rfl fun w5 hk5=>⟨.slice (some ⟨w5.heap.size,0,none⟩) 0 0,w5.alloc (.cells #[] 121),by kernel_rfl,keep_alloc _ _,?_⟩
 have hk6:=hk5.trans (keep_alloc w5 (.cells #[] 121))
 have b06:=han w5 (.cells #[] 121)
 have z5:=hk5.size
 obtain ⟨W6,hW6⟩:∃W,w5.alloc (.cells #[] 121)=W:=⟨_,rfl⟩
 rw [hW6] at hk6 b06 ⊢
 clear hW6 hk5
 obtain ⟨g0,hg0⟩:∃g,w5.heap.size=g:=⟨_,rfl⟩
 rw [hg0] at b06 z5 ⊢
 clear hg0
 (try simp only [Act.put,List.setIfInBounds_toArray,List.set_cons_zero,List.set_cons_succ])
 refine lf_copy rfl rfl rfl Tryz.underlying69 infoRRep rfl (by decide) (by decide) (by rfl) (by rfl) hln z5 b06 (rreps_next HT.out hk6.whole) ?_
 intro w7 v8 w8 hk7 hown8 hk8
 have hk67:=hk6.trans hk7
 intro b w9 hk9 hlo hb9
 change wpList _ _ _ [_,_,_] _ _
 (try simp only [Act.put,List.setIfInBounds_toArray,List.set_cons_zero,List.set_cons_succ])
 have hk09:=(hk67.trans hk8).trans hk9
 have how9:=ownsRow_keep hown8 hk9 (fun _ _ h=>h)
 have bF:=kpi hk09 HF.out;have bR:=kpi hk09 HR.out;have hB:=HB.out.trans (hk09.whole.mono HB.out.size);have zt:=HZ.out;have zt5:=hk09.size
 clear HF HR HB HT HZ hk6 hk7 hk67 hk8 hk9 hk09 hown8 b06
 refine append_owned1 (by rfl) (by rfl) Tryz.underlying69 infoRRep rfl (by decide) (by decide) how9 hln zt5 (by rfl) hb9 (by rfl) rfl (repC_one _) ?_
 intro v3 w6 hv3 hk6
 obtain ⟨p3,q3,e3⟩:∃p q,v3= .slice p (f.out.length+1) q:=by
  obtain ⟨p,q,e,-⟩:=slAt_own hv3
  exact ⟨p,q,e⟩
 subst e3
 have bF6:=(hk6.block _ (block_lt bF) (by omega)).trans bF
 have bR6:=(hk6.block _ (block_lt bR) (by omega)).trans bR
 have hB6:=hB.trans (hk6.below (by omega) (fun j hj=>by omega))
 have c14:=(cells15 bF6).2.2.2.2.2
 have f14:=frozen0 bF6 14
 have bF7:(w6.setCell ⟨w.heap.size,14,none⟩ (Value.slice p3 (f.out.length+1) q3)).heap[w.heap.size]?=some (.cells (fliC Y (Value.slice p3 (f.out.length+1) q3)) 71 (0,0)):=heap_setCell_same w6 _ 14 _ _ (Value.slice p3 (f.out.length+1) q3) bF6
 have bR7:=(heap_setCell_other w6 ⟨w.heap.size,14,none⟩ (w.heap.size+2) (Value.slice p3 (f.out.length+1) q3) (by show w.heap.size+2≠w.heap.size;omega)).trans bR6
 have hB7:=hB6.setCell (p:=⟨w.heap.size,14,none⟩) (Nat.le_refl _) (Value.slice p3 (f.out.length+1) q3)
 have HV3:=Lib.hid hv3
 clear bF6 bR6 bF bR hB hB6 how9 hv3 hk6 hb9
 go_wp2_with (first|(refine lb bF7 rfl rfl rfl (by kernel_rfl) ?_)|(refine sb bR7 rfl rfl rfl rfl (by kernel_rfl) ?_))
 refine bodyPost_ret (rcr rfl (srh bR7) (by rfl) (by kernel_rfl)) rfl ⟨⟨(Value.slice p3 (f.out.length+1) q3),by rw [HX.out],?_⟩,below_setRow hB7 (by omega) _⟩
 rw [HO.out]
 refine rreps_low (B:=wt.heap.size) ?_ List.length_append.symm
 rw [repCells_snoc]
 exact own_setRow (own_setCell HV3.out (by omega) _ _) (by omega) _
theorem rstep_see (f:Dw.Fli) (e:Dw.En) (h1:e.ki≠1) (h2:e.ki=2) (hf:Dw.FlOk f.x.f) (hl:Dw.legal f.x.s=true) (he:enOk e) (hm:e.p.mask.length≤100000) (hln:f.out.length≤1000000) (v:Value) (w:World) (hv:RRepsAt w v f.out):
  Calls Tryz.prog 28 #[fliV f.x v,enV e] w fun en w'=>(∃v',en= .returned (fliV (Dw.stepF f e).x v')∧RRepsAt w' v' (Dw.stepF f e).out)∧Below w.heap.size w w':=by
 have HV:=Lib.hid hv
 obtain ⟨ao,cap,rfl,hle,hnil,-⟩:=slAt_own hv
 obtain ⟨V,hV⟩:∃V,((w.alloc (.cells (fliC f.x (.slice ao f.out.length cap)) 71)).alloc (.cells (enC e) 81)).alloc (.cells Z15 71)=V:=⟨_,rfl⟩
 obtain ⟨bF,bE,bR,hB⟩:=allocs3 _ _ _ _ _ hV
 have k0:V.cell? ⟨w.heap.size+1,0,none⟩=some (.int .i64 e.ki):=by rw [cell_of_row _ _ 0 _ _ _ bE];rfl
 have HX:=Lib.hid (Dw.stepF_x f e)
 have HE:=Lib.hid he
 clear hnil he hv
 have HO:=Lib.hid (show (Dw.stepF f e).out=f.out++ [Dw.repOf f.x e] by unfold Dw.stepF;rw [if_pos (by unfold Dw.isK;rw [h2];rfl)])
 have hx:Dw.stepX f.x e=Dw.sampleX f.x (Dw.voteI e.va e.vb e.vc) e.p:=by unfold Dw.stepX;rw [if_neg h1,if_pos h2]
 have hE:Dw.stepE f.x e=Dw.sampleE f.x (Dw.voteI e.va e.vb e.vc) e.p:=by unfold Dw.stepE;rw [if_neg h1,if_pos h2]
 have HC:=Lib.hid (fun w=>rsample_any f.x e.va e.vb e.vc e.p hf hl hm w)
 unfold Dw.repOf at HO
 rw [hx,hE] at HO
 rw [hx] at HX
 rw [h2] at k0
 generalize Dw.sampleX f.x (Dw.voteI e.va e.vb e.vc) e.p=Y at*
 generalize Dw.sampleE f.x (Dw.voteI e.va e.vb e.vc) e.p=E at*
 clear h1 h2 hx hE hf hl hm
 go_enter Tryz.func28,Tryz.ntmps28
 go_wp2_with (first|(refine lp 68 0 (suC f.x) bF rfl rfl rfl (by kernel_rfl) (by rfl) ?_)|(refine lp 54 5 (smC e.va e.vb e.vc) bE rfl rfl rfl (by kernel_rfl) (by rfl) ?_)|(refine lp 79 8 #[.int .i64 e.p.cut, .string ⟨e.p.mask.toArray⟩] bE rfl rfl rfl (by kernel_rfl) (by rfl) ?_))
 clear hV k0
 refine cb (HC.out _) fun w2 hb=>?_
 replace bF:=kp hb bF;replace bE:=kp hb bE;replace bR:=kp hb bR;replace hB:=tr hB hb;clear hb
 clear HC
 have bF0:=bF
 replace bF:=srh (c':=fliC Y (.slice ao f.out.length cap)) bF
 replace bE:=(setRow_other w2 w.heap.size (w.heap.size+1) (fliC Y (.slice ao f.out.length cap)) (by omega)).trans bE
 replace bR:=(setRow_other w2 w.heap.size (w.heap.size+2) (fliC Y (.slice ao f.out.length cap)) (by omega)).trans bR
 replace hB:=below_setRow hB (Nat.le_refl _) (fliC Y (.slice ao f.out.length cap))
 obtain ⟨wt,hwt⟩:∃W,w2.setRow w.heap.size (fliC Y (.slice ao f.out.length cap))=W:=⟨_,rfl⟩
 rw [hwt] at bF bE bR hB
 have HWT:=Lib.hid hwt
 clear hwt
 go_wp2_with (first|(refine sp 68 0 (suC Y) (fliC Y (.slice ao f.out.length cap)) bF0 rfl rfl rfl rfl (by kernel_rfl) (by rfl) (by rfl) ?_;rw [HWT.out]))
 clear bF0 HWT
 have hvt:=rreps_next HV.out hB
 obtain ⟨⟨-,-,-,-,-⟩,⟨y5,y6,y7,y8,y9,y10⟩,y11,-,-,y14⟩:=cells15 bF
 have zt:=block_lt bR
 have HF:=Lib.hid bF;have HR:=Lib.hid bR;have HB:=Lib.hid hB;have HT:=Lib.hid hvt;have HZ:=Lib.hid zt
 clear bF bR hB hvt bE zt
 go_wp2_with fail
 refine wp_lettersf [1,2,4,5,6,7,8,9,10,11] [0,3] 12 13 rfl (.cells (repC ⟨E,Y.ph,Y.s⟩) 121) (fun b=> .slice (some ⟨b,0,none⟩) 1 1) rfl (by kernel_rfl) (by kernel_rfl) rfl ?_
 (apply rat;(focus (intro w' hk;obtain ⟨k0,k1,k2,k3,k4,k5,k6,k7⟩:=look8 hk y5 y6 y7 y8 y9 y10 y11 y14;(iterate 10 (refine' rv ?_ rfl rfl (by go_simp;first|done|with_reducible rfl|exact rfl);try simp only [Act.put,List.setIfInBounds_toArray,List.set_cons_zero,List.set_cons_succ]));(exact rn))))
 refine ⟨⟨rfl,fun w'=>by go_simp⟩,?_⟩
 clear y5 y6 y7 y8 y9 y10 y11 y14
 refine lf_value rfl rfl fun w5 hk5=>⟨.slice (some ⟨w5.heap.size,0,none⟩) 0 0,w5.alloc (.cells #[] 121),by kernel_rfl,keep_alloc _ _,?_⟩
 have hk6:=hk5.trans (keep_alloc w5 (.cells #[] 121))
 have b06:=han w5 (.cells #[] 121)
 have z5:=hk5.size
 obtain ⟨W6,hW6⟩:∃W,w5.alloc (.cells #[] 121)=W:=⟨_,rfl⟩
 rw [hW6] at hk6 b06 ⊢
 clear hW6 hk5
 obtain ⟨g0,hg0⟩:∃g,w5.heap.size=g:=⟨_,rfl⟩
 rw [hg0] at b06 z5 ⊢
 clear hg0
 (try simp only [Act.put,List.setIfInBounds_toArray,List.set_cons_zero,List.set_cons_succ])
 refine lf_copy rfl rfl rfl Tryz.underlying69 infoRRep rfl (by decide) (by decide) (by rfl) (by rfl) hln z5 b06 (rreps_next HT.out hk6.whole) ?_
 intro w7 v8 w8 hk7 hown8 hk8
 have hk67:=hk6.trans hk7
 intro b w9 hk9 hlo hb9
 change wpList _ _ _ [_,_,_] _ _
 (try simp only [Act.put,List.setIfInBounds_toArray,List.set_cons_zero,List.set_cons_succ])
 have hk09:=(hk67.trans hk8).trans hk9
 have how9:=ownsRow_keep hown8 hk9 (fun _ _ h=>h)
 have bF:=kpi hk09 HF.out;have bR:=kpi hk09 HR.out;have hB:=HB.out.trans (hk09.whole.mono HB.out.size);have zt:=HZ.out;have zt5:=hk09.size
 clear HF HR HB HT HZ hk6 hk7 hk67 hk8 hk9 hk09 hown8 b06
 refine append_owned1 (by rfl) (by rfl) Tryz.underlying69 infoRRep rfl (by decide) (by decide) how9 hln zt5 (by rfl) hb9 (by rfl) rfl (repC_one _) ?_
 intro v3 w6 hv3 hk6
 obtain ⟨p3,q3,e3⟩:∃p q,v3= .slice p (f.out.length+1) q:=by
  obtain ⟨p,q,e,-⟩:=slAt_own hv3
  exact ⟨p,q,e⟩
 subst e3
 have bF6:=(hk6.block _ (block_lt bF) (by omega)).trans bF
 have bR6:=(hk6.block _ (block_lt bR) (by omega)).trans bR
 have hB6:=hB.trans (hk6.below (by omega) (fun j hj=>by omega))
 have c14:=(cells15 bF6).2.2.2.2.2
 have f14:=frozen0 bF6 14
 have bF7:(w6.setCell ⟨w.heap.size,14,none⟩ (Value.slice p3 (f.out.length+1) q3)).heap[w.heap.size]?=some (.cells (fliC Y (Value.slice p3 (f.out.length+1) q3)) 71 (0,0)):=heap_setCell_same w6 _ 14 _ _ (Value.slice p3 (f.out.length+1) q3) bF6
 have bR7:=(heap_setCell_other w6 ⟨w.heap.size,14,none⟩ (w.heap.size+2) (Value.slice p3 (f.out.length+1) q3) (by show w.heap.size+2≠w.heap.size;omega)).trans bR6
 have hB7:=hB6.setCell (p:=⟨w.heap.size,14,none⟩) (Nat.le_refl _) (Value.slice p3 (f.out.length+1) q3)
 have HV3:=Lib.hid hv3
 clear bF6 bR6 bF bR hB hB6 how9 hv3 hk6 hb9
 go_wp2_with (first|(refine lb bF7 rfl rfl rfl (by kernel_rfl) ?_)|(refine sb bR7 rfl rfl rfl rfl (by kernel_rfl) ?_))
 refine bodyPost_ret (rcr rfl (srh bR7) (by rfl) (by kernel_rfl)) rfl ⟨⟨(Value.slice p3 (f.out.length+1) q3),by rw [HX.out],?_⟩,below_setRow hB7 (by omega) _⟩
 rw [HO.out]
 refine rreps_low (B:=wt.heap.size) ?_ List.length_append.symm
 rw [repCells_snoc]
 exact own_setRow (own_setCell HV3.out (by omega) _ _) (by omega) _
theorem rstep_reset (f:Dw.Fli) (e:Dw.En) (h1:e.ki≠1) (h2:e.ki≠2) (h3:e.ki=3) (hf:Dw.FlOk f.x.f) (hl:Dw.legal f.x.s=true) (he:enOk e) (hm:e.p.mask.length≤100000) (hln:f.out.length≤1000000) (v:Value) (w:World) (hv:RRepsAt w v f.out):
  Calls Tryz.prog 28 #[fliV f.x v,enV e] w fun en w'=>(∃v',en= .returned (fliV (Dw.stepF f e).x v')∧RRepsAt w' v' (Dw.stepF f e).out)∧Below w.heap.size w w':=by
 have HV:=Lib.hid hv
 obtain ⟨ao,cap,rfl,hle,hnil,-⟩:=slAt_own hv
 obtain ⟨V,hV⟩:∃V,((w.alloc (.cells (fliC f.x (.slice ao f.out.length cap)) 71)).alloc (.cells (enC e) 81)).alloc (.cells Z15 71)=V:=⟨_,rfl⟩
 obtain ⟨bF,bE,bR,hB⟩:=allocs3 _ _ _ _ _ hV
 have k0:V.cell? ⟨w.heap.size+1,0,none⟩=some (.int .i64 e.ki):=by rw [cell_of_row _ _ 0 _ _ _ bE];rfl
 have HX:=Lib.hid (Dw.stepF_x f e)
 have HE:=Lib.hid he
 clear hnil he hv
 have HO:=Lib.hid (show (Dw.stepF f e).out=f.out++ [Dw.repOf f.x e] by unfold Dw.stepF;rw [if_pos (by unfold Dw.isK;rw [h3];rfl)])
 have hx:Dw.stepX f.x e=Dw.boot f.x.f:=by unfold Dw.stepX;rw [if_neg h1,if_neg h2,if_pos h3]
 have hE:Dw.stepE f.x e=0:=by unfold Dw.stepE;rw [if_neg h1,if_neg h2]
 have HC:=Lib.hid (fun w=>rboot_any f.x.f hf w)
 unfold Dw.repOf at HO
 rw [hx,hE] at HO
 rw [hx] at HX
 rw [h3] at k0
 generalize Dw.boot f.x.f=Y at*
 clear h1 h2 h3 hx hE hf hl hm
 go_enter Tryz.func28,Tryz.ntmps28
 go_wp2_with (first|(refine lp 66 0 (flC f.x.f) bF rfl rfl rfl (by kernel_rfl) (by rfl) ?_))
 clear hV k0
 refine cb (HC.out _) fun w2 hb=>?_
 replace bF:=kp hb bF;replace bE:=kp hb bE;replace bR:=kp hb bR;replace hB:=tr hB hb;clear hb
 clear HC
 have bF0:=bF
 replace bF:=srh (c':=fliC Y (.slice ao f.out.length cap)) bF
 replace bE:=(setRow_other w2 w.heap.size (w.heap.size+1) (fliC Y (.slice ao f.out.length cap)) (by omega)).trans bE
 replace bR:=(setRow_other w2 w.heap.size (w.heap.size+2) (fliC Y (.slice ao f.out.length cap)) (by omega)).trans bR
 replace hB:=below_setRow hB (Nat.le_refl _) (fliC Y (.slice ao f.out.length cap))
 obtain ⟨wt,hwt⟩:∃W,w2.setRow w.heap.size (fliC Y (.slice ao f.out.length cap))=W:=⟨_,rfl⟩
 rw [hwt] at bF bE bR hB
 have HWT:=Lib.hid hwt
 clear hwt
 go_wp2_with (first|(refine sp 68 0 (suC Y) (fliC Y (.slice ao f.out.length cap)) bF0 rfl rfl rfl rfl (by kernel_rfl) (by rfl) (by rfl) ?_;rw [HWT.out]))
 clear bF0 HWT
 have hvt:=rreps_next HV.out hB
 obtain ⟨⟨-,-,-,-,-⟩,⟨y5,y6,y7,y8,y9,y10⟩,y11,-,-,y14⟩:=cells15 bF
 have zt:=block_lt bR
 have HF:=Lib.hid bF;have HR:=Lib.hid bR;have HB:=Lib.hid hB;have HT:=Lib.hid hvt;have HZ:=Lib.hid zt
 clear bF bR hB hvt bE zt
 go_wp2_with fail
 refine wp_lettersf [1,2,4,5,6,7,8,9,10,11] [0,3] 12 13 rfl (.cells (repC ⟨0,Y.ph,Y.s⟩) 121) (fun b=> .slice (some ⟨b,0,none⟩) 1 1) rfl (by kernel_rfl) (by kernel_rfl) rfl ?_
 (apply rat;(focus (intro w' hk;obtain ⟨k0,k1,k2,k3,k4,k5,k6,k7⟩:=look8 hk y5 y6 y7 y8 y9 y10 y11 y14;(iterate 10 (refine' rv ?_ rfl rfl (by go_simp;first|done|with_reducible rfl|exact rfl);try simp only [Act.put,List.setIfInBounds_toArray,List.set_cons_zero,List.set_cons_succ]));(exact rn))))
 refine ⟨⟨rfl,fun w'=>by go_simp⟩,?_⟩
 clear y5 y6 y7 y8 y9 y10 y11 y14
 refine lf_value rfl rfl fun w5 hk5=>⟨.slice (some ⟨w5.heap.size,0,none⟩) 0 0,w5.alloc (.cells #[] 121),by kernel_rfl,keep_alloc _ _,?_⟩
 have hk6:=hk5.trans (keep_alloc w5 (.cells #[] 121))
 have b06:=han w5 (.cells #[] 121)
 have z5:=hk5.size
 obtain ⟨W6,hW6⟩:∃W,w5.alloc (.cells #[] 121)=W:=⟨_,rfl⟩
 rw [hW6] at hk6 b06 ⊢
 clear hW6 hk5
 obtain ⟨g0,hg0⟩:∃g,w5.heap.size=g:=⟨_,rfl⟩
 rw [hg0] at b06 z5 ⊢
 clear hg0
 (try simp only [Act.put,List.setIfInBounds_toArray,List.set_cons_zero,List.set_cons_succ])
 refine lf_copy rfl rfl rfl Tryz.underlying69 infoRRep rfl (by decide) (by decide) (by rfl) (by rfl) hln z5 b06 (rreps_next HT.out hk6.whole) ?_
 intro w7 v8 w8 hk7 hown8 hk8
 have hk67:=hk6.trans hk7
 intro b w9 hk9 hlo hb9
 change wpList _ _ _ [_,_,_] _ _
 (try simp only [Act.put,List.setIfInBounds_toArray,List.set_cons_zero,List.set_cons_succ])
 have hk09:=(hk67.trans hk8).trans hk9
 have how9:=ownsRow_keep hown8 hk9 (fun _ _ h=>h)
 have bF:=kpi hk09 HF.out;have bR:=kpi hk09 HR.out;have hB:=HB.out.trans (hk09.whole.mono HB.out.size);have zt:=HZ.out;have zt5:=hk09.size
 clear HF HR HB HT HZ hk6 hk7 hk67 hk8 hk9 hk09 hown8 b06
 refine append_owned1 (by rfl) (by rfl) Tryz.underlying69 infoRRep rfl (by decide) (by decide) how9 hln zt5 (by rfl) hb9 (by rfl) rfl (repC_one _) ?_
 intro v3 w6 hv3 hk6
 obtain ⟨p3,q3,e3⟩:∃p q,v3= .slice p (f.out.length+1) q:=by
  obtain ⟨p,q,e,-⟩:=slAt_own hv3
  exact ⟨p,q,e⟩
 subst e3
 have bF6:=(hk6.block _ (block_lt bF) (by omega)).trans bF
 have bR6:=(hk6.block _ (block_lt bR) (by omega)).trans bR
 have hB6:=hB.trans (hk6.below (by omega) (fun j hj=>by omega))
 have c14:=(cells15 bF6).2.2.2.2.2
 have f14:=frozen0 bF6 14
 have bF7:(w6.setCell ⟨w.heap.size,14,none⟩ (Value.slice p3 (f.out.length+1) q3)).heap[w.heap.size]?=some (.cells (fliC Y (Value.slice p3 (f.out.length+1) q3)) 71 (0,0)):=heap_setCell_same w6 _ 14 _ _ (Value.slice p3 (f.out.length+1) q3) bF6
 have bR7:=(heap_setCell_other w6 ⟨w.heap.size,14,none⟩ (w.heap.size+2) (Value.slice p3 (f.out.length+1) q3) (by show w.heap.size+2≠w.heap.size;omega)).trans bR6
 have hB7:=hB6.setCell (p:=⟨w.heap.size,14,none⟩) (Nat.le_refl _) (Value.slice p3 (f.out.length+1) q3)
 have HV3:=Lib.hid hv3
 clear bF6 bR6 bF bR hB hB6 how9 hv3 hk6 hb9
 go_wp2_with (first|(refine lb bF7 rfl rfl rfl (by kernel_rfl) ?_)|(refine sb bR7 rfl rfl rfl rfl (by kernel_rfl) ?_))
 refine bodyPost_ret (rcr rfl (srh bR7) (by rfl) (by kernel_rfl)) rfl ⟨⟨(Value.slice p3 (f.out.length+1) q3),by rw [HX.out],?_⟩,below_setRow hB7 (by omega) _⟩
 rw [HO.out]
 refine rreps_low (B:=wt.heap.size) ?_ List.length_append.symm
 rw [repCells_snoc]
 exact own_setRow (own_setCell HV3.out (by omega) _ _) (by omega) _
theorem rstep_turn (f:Dw.Fli) (e:Dw.En) (h1:e.ki≠1) (h2:e.ki≠2) (h3:e.ki≠3) (h4:e.ki=4) (hf:Dw.FlOk f.x.f) (hl:Dw.legal f.x.s=true) (he:enOk e) (hm:e.p.mask.length≤100000) (hln:f.out.length≤1000000) (v:Value) (w:World) (hv:RRepsAt w v f.out):
  Calls Tryz.prog 28 #[fliV f.x v,enV e] w fun en w'=>(∃v',en= .returned (fliV (Dw.stepF f e).x v')∧RRepsAt w' v' (Dw.stepF f e).out)∧Below w.heap.size w w':=by
 have HV:=Lib.hid hv
 obtain ⟨ao,cap,rfl,hle,hnil,-⟩:=slAt_own hv
 obtain ⟨V,hV⟩:∃V,((w.alloc (.cells (fliC f.x (.slice ao f.out.length cap)) 71)).alloc (.cells (enC e) 81)).alloc (.cells Z15 71)=V:=⟨_,rfl⟩
 obtain ⟨bF,bE,bR,hB⟩:=allocs3 _ _ _ _ _ hV
 have k0:V.cell? ⟨w.heap.size+1,0,none⟩=some (.int .i64 e.ki):=by rw [cell_of_row _ _ 0 _ _ _ bE];rfl
 have HX:=Lib.hid (Dw.stepF_x f e)
 have HE:=Lib.hid he
 clear hnil he hv
 have HO:=Lib.hid (show (Dw.stepF f e).out=f.out++ [Dw.repOf f.x e] by unfold Dw.stepF;rw [if_pos (by unfold Dw.isK;rw [h4];rfl)])
 have hx:Dw.stepX f.x e=Dw.boot (Dw.flip f.x.f e.at_):=by unfold Dw.stepX;rw [if_neg h1,if_neg h2,if_neg h3,if_pos h4]
 have hE:Dw.stepE f.x e=0:=by unfold Dw.stepE;rw [if_neg h1,if_neg h2]
 have HD:=Lib.hid (fun w=>rflip_any f.x.f hf e.at_ HE.out.2 w)
 have HC:=Lib.hid (fun w=>rboot_any (Dw.flip f.x.f e.at_) (Dw.flip_ok hf e.at_) w)
 have k10:V.cell? ⟨w.heap.size+1,10,none⟩=some (.int .i64 e.at_):=by rw [cell_of_row _ _ 10 _ _ _ bE];rfl
 unfold Dw.repOf at HO
 rw [hx,hE] at HO
 rw [hx] at HX
 rw [h4] at k0
 generalize Dw.boot (Dw.flip f.x.f e.at_)=Y at*
 generalize Dw.flip f.x.f e.at_=G at*
 clear h1 h2 h3 h4 hx hE hf hl hm
 go_enter Tryz.func28,Tryz.ntmps28
 go_wp2_with (first|(refine lp 66 0 (flC f.x.f) bF rfl rfl rfl (by kernel_rfl) (by rfl) ?_))
 clear hV k0 k10
 refine cb (HD.out _) fun w1 hb=>?_
 replace bF:=kp hb bF;replace bE:=kp hb bE;replace bR:=kp hb bR;replace hB:=tr hB hb;clear hb
 clear HD
 go_wp2_with fail
 refine cb (HC.out _) fun w2 hb=>?_
 replace bF:=kp hb bF;replace bE:=kp hb bE;replace bR:=kp hb bR;replace hB:=tr hB hb;clear hb
 clear HC
 have bF0:=bF
 replace bF:=srh (c':=fliC Y (.slice ao f.out.length cap)) bF
 replace bE:=(setRow_other w2 w.heap.size (w.heap.size+1) (fliC Y (.slice ao f.out.length cap)) (by omega)).trans bE
 replace bR:=(setRow_other w2 w.heap.size (w.heap.size+2) (fliC Y (.slice ao f.out.length cap)) (by omega)).trans bR
 replace hB:=below_setRow hB (Nat.le_refl _) (fliC Y (.slice ao f.out.length cap))
 obtain ⟨wt,hwt⟩:∃W,w2.setRow w.heap.size (fliC Y (.slice ao f.out.length cap))=W:=⟨_,rfl⟩
 rw [hwt] at bF bE bR hB
 have HWT:=Lib.hid hwt
 clear hwt
 go_wp2_with (first|(refine sp 68 0 (suC Y) (fliC Y (.slice ao f.out.length cap)) bF0 rfl rfl rfl rfl (by kernel_rfl) (by rfl) (by rfl) ?_;rw [HWT.out]))
 clear bF0 HWT
 have hvt:=rreps_next HV.out hB
 obtain ⟨⟨-,-,-,-,-⟩,⟨y5,y6,y7,y8,y9,y10⟩,y11,-,-,y14⟩:=cells15 bF
 have zt:=block_lt bR
 have HF:=Lib.hid bF;have HR:=Lib.hid bR;have HB:=Lib.hid hB;have HT:=Lib.hid hvt;have HZ:=Lib.hid zt
 clear bF bR hB hvt bE zt
 go_wp2_with fail
 refine wp_lettersf [1,2,4,5,6,7,8,9,10,11] [0,3] 12 13 rfl (.cells (repC ⟨0,Y.ph,Y.s⟩) 121) (fun b=> .slice (some ⟨b,0,none⟩) 1 1) rfl (by kernel_rfl) (by kernel_rfl) rfl ?_
 (apply rat;(focus (intro w' hk;obtain ⟨k0,k1,k2,k3,k4,k5,k6,k7⟩:=look8 hk y5 y6 y7 y8 y9 y10 y11 y14;(iterate 10 (refine' rv ?_ rfl rfl (by go_simp;first|done|with_reducible rfl|exact rfl);try simp only [Act.put,List.setIfInBounds_toArray,List.set_cons_zero,List.set_cons_succ]));(exact rn))))
 refine ⟨⟨rfl,fun w'=>by go_simp⟩,?_⟩
 clear y5 y6 y7 y8 y9 y10 y11 y14
 refine lf_value rfl rfl fun w5 hk5=>⟨.slice (some ⟨w5.heap.size,0,none⟩) 0 0,w5.alloc (.cells #[] 121),by kernel_rfl,keep_alloc _ _,?_⟩
 have hk6:=hk5.trans (keep_alloc w5 (.cells #[] 121))
 have b06:=han w5 (.cells #[] 121)
 have z5:=hk5.size
 obtain ⟨W6,hW6⟩:∃W,w5.alloc (.cells #[] 121)=W:=⟨_,rfl⟩
 rw [hW6] at hk6 b06 ⊢
 clear hW6 hk5
 obtain ⟨g0,hg0⟩:∃g,w5.heap.size=g:=⟨_,rfl⟩
 rw [hg0] at b06 z5 ⊢
 clear hg0
 (try simp only [Act.put,List.setIfInBounds_toArray,List.set_cons_zero,List.set_cons_succ])
 refine lf_copy rfl rfl rfl Tryz.underlying69 infoRRep rfl (by decide) (by decide) (by rfl) (by rfl) hln z5 b06 (rreps_next HT.out hk6.whole) ?_
 intro w7 v8 w8 hk7 hown8 hk8
 have hk67:=hk6.trans hk7
 intro b w9 hk9 hlo hb9
 change wpList _ _ _ [_,_,_] _ _
 (try simp only [Act.put,List.setIfInBounds_toArray,List.set_cons_zero,List.set_cons_succ])
 have hk09:=(hk67.trans hk8).trans hk9
 have how9:=ownsRow_keep hown8 hk9 (fun _ _ h=>h)
 have bF:=kpi hk09 HF.out;have bR:=kpi hk09 HR.out;have hB:=HB.out.trans (hk09.whole.mono HB.out.size);have zt:=HZ.out;have zt5:=hk09.size
 clear HF HR HB HT HZ hk6 hk7 hk67 hk8 hk9 hk09 hown8 b06
 refine append_owned1 (by rfl) (by rfl) Tryz.underlying69 infoRRep rfl (by decide) (by decide) how9 hln zt5 (by rfl) hb9 (by rfl) rfl (repC_one _) ?_
 intro v3 w6 hv3 hk6
 obtain ⟨p3,q3,e3⟩:∃p q,v3= .slice p (f.out.length+1) q:=by
  obtain ⟨p,q,e,-⟩:=slAt_own hv3
  exact ⟨p,q,e⟩
 subst e3
 have bF6:=(hk6.block _ (block_lt bF) (by omega)).trans bF
 have bR6:=(hk6.block _ (block_lt bR) (by omega)).trans bR
 have hB6:=hB.trans (hk6.below (by omega) (fun j hj=>by omega))
 have c14:=(cells15 bF6).2.2.2.2.2
 have f14:=frozen0 bF6 14
 have bF7:(w6.setCell ⟨w.heap.size,14,none⟩ (Value.slice p3 (f.out.length+1) q3)).heap[w.heap.size]?=some (.cells (fliC Y (Value.slice p3 (f.out.length+1) q3)) 71 (0,0)):=heap_setCell_same w6 _ 14 _ _ (Value.slice p3 (f.out.length+1) q3) bF6
 have bR7:=(heap_setCell_other w6 ⟨w.heap.size,14,none⟩ (w.heap.size+2) (Value.slice p3 (f.out.length+1) q3) (by show w.heap.size+2≠w.heap.size;omega)).trans bR6
 have hB7:=hB6.setCell (p:=⟨w.heap.size,14,none⟩) (Nat.le_refl _) (Value.slice p3 (f.out.length+1) q3)
 have HV3:=Lib.hid hv3
 clear bF6 bR6 bF bR hB hB6 how9 hv3 hk6 hb9
 go_wp2_with (first|(refine lb bF7 rfl rfl rfl (by kernel_rfl) ?_)|(refine sb bR7 rfl rfl rfl rfl (by kernel_rfl) ?_))
 refine bodyPost_ret (rcr rfl (srh bR7) (by rfl) (by kernel_rfl)) rfl ⟨⟨(Value.slice p3 (f.out.length+1) q3),by rw [HX.out],?_⟩,below_setRow hB7 (by omega) _⟩
 rw [HO.out]
 refine rreps_low (B:=wt.heap.size) ?_ List.length_append.symm
 rw [repCells_snoc]
 exact own_setRow (own_setCell HV3.out (by omega) _ _) (by omega) _
theorem rstep_none (f:Dw.Fli) (e:Dw.En) (h1:e.ki≠1) (h2:e.ki≠2) (h3:e.ki≠3) (h4:e.ki≠4) (hf:Dw.FlOk f.x.f) (hl:Dw.legal f.x.s=true) (he:enOk e) (hm:e.p.mask.length≤100000) (hln:f.out.length≤1000000) (v:Value) (w:World) (hv:RRepsAt w v f.out):
  Calls Tryz.prog 28 #[fliV f.x v,enV e] w fun en w'=>(∃v',en= .returned (fliV (Dw.stepF f e).x v')∧RRepsAt w' v' (Dw.stepF f e).out)∧Below w.heap.size w w':=by
 have HV:=Lib.hid hv
 obtain ⟨ao,cap,rfl,hle,hnil,-⟩:=slAt_own hv
 obtain ⟨V,hV⟩:∃V,((w.alloc (.cells (fliC f.x (.slice ao f.out.length cap)) 71)).alloc (.cells (enC e) 81)).alloc (.cells Z15 71)=V:=⟨_,rfl⟩
 obtain ⟨bF,bE,bR,hB⟩:=allocs3 _ _ _ _ _ hV
 have k0:V.cell? ⟨w.heap.size+1,0,none⟩=some (.int .i64 e.ki):=by rw [cell_of_row _ _ 0 _ _ _ bE];rfl
 have HX:=Lib.hid (Dw.stepF_x f e)
 have HE:=Lib.hid he
 clear hnil he hv
 have HO:=Lib.hid (show Dw.stepF f e=f by
  unfold Dw.stepF
  rw [if_neg (by unfold Dw.isK;simp;omega)])
 have b1:(e.ki==1)=false:=by simpa using h1
 have b2:(e.ki==2)=false:=by simpa using h2
 have b3:(e.ki==3)=false:=by simpa using h3
 have b4:(e.ki==4)=false:=by simpa using h4
 have HR0:=Lib.hid (rreps_next HV.out hB)
 clear h1 h2 h3 h4 hf hl hm
 go_enter Tryz.func28,Tryz.ntmps28
 go_wp2_with (first|(refine lb bF rfl rfl rfl (by kernel_rfl) ?_)|(refine sb bR rfl rfl rfl rfl (by kernel_rfl) ?_))
 refine bodyPost_ret (rcr rfl (srh bR) (by rfl) (by kernel_rfl)) rfl ⟨⟨.slice ao f.out.length cap,by rw [HO.out],?_⟩,below_setRow hB (by omega) _⟩
 rw [HO.out]
 exact rreps_row HR0.out bR _
end Go.Proofs.YtnaokijcggbfdaaGreatDoor
namespace Go.Proofs.YtnaokijcggbfdaaGreatDoor
open Go.RowKit Go.Shelf
theorem rfstep_any (f:Dw.Fli) (e:Dw.En) (hf:Dw.FlOk f.x.f) (hl:Dw.legal f.x.s=true) (he:enOk e) (hm:e.p.mask.length≤100000) (hln:f.out.length≤1000000) (v:Value) (w:World) (hv:RRepsAt w v f.out):
  Calls Tryz.prog 28 #[fliV f.x v,enV e] w fun en w'=>(∃v',en= .returned (fliV (Dw.stepF f e).x v')∧RRepsAt w' v' (Dw.stepF f e).out)∧Below w.heap.size w w':=by
 by_cases h1:e.ki=1
 ·exact rstep_ask f e h1 hf hl he hm hln v w hv
 by_cases h2:e.ki=2
 ·exact rstep_see f e h1 h2 hf hl he hm hln v w hv
 by_cases h3:e.ki=3
 ·exact rstep_reset f e h1 h2 h3 hf hl he hm hln v w hv
 by_cases h4:e.ki=4
 ·exact rstep_turn f e h1 h2 h3 h4 hf hl he hm hln v w hv
 ·exact rstep_none f e h1 h2 h3 h4 hf hl he hm hln v w hv
end Go.Proofs.YtnaokijcggbfdaaGreatDoor
namespace Go.Proofs.YtnaokijcggbfdaaGreatDoor
open Go.RowKit Go.Shelf
attribute [local go_sem] Oper.semAt_some
theorem runs21_any (n li:Int) (l:List Dw.En) (v:Value) (w:World) (hv:EnsAt w v l) (hn:NoneAt w):
  Calls Tryz.prog 5 #[.int .i64 n, .int .i64 li,v] w fun e w'=>e= .returned (.bool true)∧Below w.heap.size w w':=by
 have hB:=Below.refl w.heap.size w
 have HV:=Lib.hid hv
 obtain ⟨sa,cap,rfl,-,-⟩:=id hv
 have hll:(0:Int)≤(l.length:Int):=by omega
 clear hv
 go_enter Tryz.func5,Tryz.ntmps5
 go_wp2_with fail
 refine (long21m_any l _ _ HV.out).mono ?_
 rintro e w1 ⟨⟨b,rfl,hlb⟩,hb⟩
 replace hB:=tr hB hb
 clear hb
 cases b with
 |true=>
  go_wp2_with fail
  refine (shown21_any _ (hn.next hB)).mono ?_
  rintro en wy ⟨rfl,hb⟩
  replace hB:=tr hB hb
  clear hb
  go_wp2_with fail
  go_ret
  exact ⟨rfl,hB⟩
 |false=>
 have HL:=Lib.hid (hlb rfl)
 clear hlb
 go_wp2_with fail
 refine (shown21_any _ (hn.next hB)).mono ?_
 rintro en wy ⟨rfl,hb⟩
 replace hB:=tr hB hb
 clear hb
 go_wp2_with fail
 obtain ⟨G,hG⟩:∃G,Dw.beginF n li=G:=⟨_,rfl⟩
 have HOK:=Lib.hid (show Dw.FlOk G.x.f by rw [←hG];exact Dw.newF_ok n li)
 have HLE:=Lib.hid (show Dw.legal G.x.s=true by rw [←hG];exact Dw.boot_legal _)
 have HG0:=Lib.hid (show G.out= [] by rw [←hG];rfl)
 have HBG:=Lib.hid (fun w hn=>begin_any n li w hn)
 have HRB:=Lib.hid (fun w=>rbegin_any n li w)
 rw [hG] at HBG HRB
 clear hG
 refine cb (HBG.out _ (hn.next hB)) fun w3 hb=>?_
 replace hB:=tr hB hb
 clear hb
 obtain ⟨gF,hgF⟩:∃g,w3.heap.size=g:=⟨_,rfl⟩
 obtain ⟨V1,hV1⟩:∃V,w3.alloc (.cells (fliC G.x (.slice none 0 0)) 64)=V:=⟨_,rfl⟩
 have bF:V1.heap[gF]?=some (.cells (fliC G.x (.slice none 0 0)) 64):=by rw [←hV1,←hgF];exact han _ _
 have hb:Below w3.heap.size w3 V1:=by rw [←hV1];exact (Below.refl _ w3).alloc (Nat.le_refl _) _
 have hgw:w.heap.size≤gF:=by rw [←hgF];exact hB.size
 replace hB:=tr hB hb
 have HV1:=Lib.hid hV1;have HGF:=Lib.hid hgF
 clear hV1 hb hgF
 go_wp2_with (first|(refine nb rfl rfl rfl rfl (by go_simp;first|done|with_reducible rfl|exact rfl) rfl rfl (by kernel_rfl) ?_;rw [HV1.out,HGF.out]))
 clear HV1 HGF
 refine cb (HRB.out _) fun w4 hb=>?_
 have lF:=Nat.lt_of_lt_of_le (block_lt bF) hb.size
 replace bF:=kp hb bF
 replace hB:=tr hB hb
 clear hb HRB
 obtain ⟨gR,hgR⟩:∃g,w4.heap.size=g:=⟨_,rfl⟩
 rw [hgR] at lF
 obtain ⟨V2,hV2⟩:∃V,w4.alloc (.cells (fliC G.x (.slice none 0 0)) 71)=V:=⟨_,rfl⟩
 have bR:V2.heap[gR]?=some (.cells (fliC G.x (.slice none 0 0)) 71):=by rw [←hV2,←hgR];exact han _ _
 have hb:Below w4.heap.size w4 V2:=by rw [←hV2];exact (Below.refl _ w4).alloc (Nat.le_refl _) _
 replace bF:=kp hb bF
 replace hB:=tr hB hb
 have HV2:=Lib.hid hV2;have HGR:=Lib.hid hgR
 have HF0:=Lib.hid (fun w=>flight_any G.x [] (by decide) (.slice none 0 0) w (World.ownsRow_nil _ _ _ _))
 have HS0:=Lib.hid (fun v1 w h1=>same_any G.x [] (by decide) v1 (.slice none 0 0) w h1 (World.ownsRow_nil _ _ _ _))
 have HBF:=Lib.hid bF;have HBR:=Lib.hid bR;have HB:=Lib.hid hB
 clear hV2 hb hgR bF bR hB
 go_wp2_with (first|(refine nb rfl rfl rfl rfl (by go_simp;first|done|with_reducible rfl|exact rfl) rfl rfl (by kernel_rfl) ?_;rw [HV2.out,HGR.out]))
 clear HV2 HGR
 refine wp_letters [0,2] [1,3] 4 (by kernel_rfl) (by kernel_rfl) (by kernel_rfl) rfl ?_
 (apply rat;(focus (intro w' hk;(refine' rv ?_ rfl rfl (by exact exec_cells (fliC G.x (.slice none 0 0)) (cells_of (kpi hk HBF.out)) rfl rfl (by kernel_rfl));try simp only [Act.put,List.setIfInBounds_toArray,List.set_cons_zero,List.set_cons_succ]);(refine' rv ?_ rfl rfl (by exact exec_cells (fliC G.x (.slice none 0 0)) (cells_of (kpi hk HBR.out)) rfl rfl (by kernel_rfl));try simp only [Act.put,List.setIfInBounds_toArray,List.set_cons_zero,List.set_cons_succ]);(exact rn))))
 refine ll_call (f:=?_) (args:=?_) rfl rfl ?_ ?_
 rotate_left 2
 ·intro w' hk
  go_simp
  first|done|(constructor<;>with_reducible rfl)|with_reducible rfl
 intro w5 hk5
 refine (HF0.out w5).mono ?_
 rintro en w6 ⟨⟨v6,rfl,hr6⟩,hb6⟩
 refine ⟨_,rfl,KeepBut.of_below' hb6,?_⟩
 have hk6:=hk5.trans (KeepBut.of_below' hb6:Keep w5 w6)
 clear hk5 hb6
 (try simp only [Act.put,List.setIfInBounds_toArray,List.set_cons_zero,List.set_cons_succ])
 refine ll_call (f:=?_) (args:=?_) rfl rfl ?_ ?_
 rotate_left 2
 ·intro w' hk
  go_simp
  first|done|(constructor<;>with_reducible rfl)|with_reducible rfl
 intro w7 hk7
 refine (HS0.out v6 w7 (rreps_next hr6 hk7.whole)).mono ?_
 rintro en w8 ⟨rfl,hb8⟩
 refine ⟨_,rfl,KeepBut.of_below' hb8,?_⟩
 intro w9 hk9
 have hk:=((hk6.trans hk7).trans (KeepBut.of_below' hb8:Keep w7 w8)).trans hk9
 have bF:=kpi hk HBF.out;have bR:=kpi hk HBR.out;have hB:=HB.out.trans (hk.whole.mono HB.out.size)
 clear hk6 hk7 hb8 hk9 hk hr6 HF0 HS0 HBF HBR HB
 change wpList _ _ _ [_] _ _
 (try simp only [Act.put,List.setIfInBounds_toArray,List.set_cons_zero,List.set_cons_succ])
 go_wp2_with fail
 go_loopw [9] (fun y wr=>∃(k:Nat) (g:Dw.Fli) (v1 v2:Value),k≤l.length∧y= .int .i64 k∧g=Dw.runF G (l.take k)∧g.out.length≤k∧wr.heap[gF]?=some (.cells (fliC g.x v1) 64 (0,0))∧wr.heap[gR]?=some (.cells (fliC g.x v2) 71 (0,0))∧RepsAt wr v1 g.out∧RRepsAt wr v2 g.out∧Below w.heap.size w wr) (fun y _=>l.length-(intOf y).toNat)
 case atStart=>exact ⟨0,G,_,_,Nat.zero_le _,rfl,rfl,by rw [HG0.out];exact Nat.le_refl _,bF,bR,by rw [HG0.out];exact World.ownsRow_nil _ _ _ _,by rw [HG0.out];exact World.ownsRow_nil _ _ _ _,hB⟩
 case round=>
  clear bF bR hB
  obtain ⟨k,g,v1,v2,hk,rfl,hg,hgk,bF,bR,hR,hRR,hB⟩:=hrel
  obtain ⟨p0,q0,rfl⟩:=reps_shape hR
  obtain ⟨p1,q1,rfl⟩:=rreps_shape hRR
  by_cases hlt:k<l.length
  ·have hlt':(k:Int)<(l.length:Int):=by omega
   obtain ⟨e,hce⟩:∃e,l[k]?=some e:=⟨l[k],List.getElem?_eq_getElem hlt⟩
   obtain ⟨he,bb,off,hsa,kc⟩:=EnsAt.get (HV.out.next hB) hce
   subst hsa
   have hgo:Dw.FlOk g.x.f:=by rw [hg];exact Dw.runF_ok _ _ HOK.out
   have hgl:Dw.legal g.x.s=true:=by rw [hg];exact Dw.runF_legal _ _ HLE.out
   have hk60:k+1≤60:=by have:=HL.out.1;omega
   have hem:e.p.mask.length≤100000:=Nat.le_trans (HL.out.2 e (List.mem_of_getElem? hce)) (by decide)
   have hg2:(Dw.stepF g e).out.length≤k+1:=by
    have h3:=Dw.out_le [e] g
    have h4:Dw.runF g [e]=Dw.stepF g e:=rfl
    rw [h4] at h3
    simp at h3
    omega
   have HG:=Lib.hid (show Dw.stepF g e=Dw.runF G (l.take (k+1)) by rw [hg];exact (Dw.run_take hce).symm)
   have HS:=Lib.hid (fun w hn hv=>fstep_any g e hgo hgl he (by omega) (.slice p0 g.out.length q0) w hn hv)
   have HRS:=Lib.hid (fun w hv=>rfstep_any g e hgo hgl he hem (by omega) (.slice p1 g.out.length q1) w hv)
   have HEN:=Lib.hid (fun w=>entry_any e w)
   generalize Dw.stepF g e=g2 at*
   have HFL:=Lib.hid (fun v w hv=>flight_any g2.x g2.out (by omega) v w hv)
   have HSM:=Lib.hid (fun v1 v2 w h1 h2=>same_any g2.x g2.out (by omega) v1 v2 w h1 h2)
   have HR:=Lib.hid hR;have HRR:=Lib.hid hRR;have HBF:=Lib.hid bF;have HBR:=Lib.hid bR;have HB:=Lib.hid hB;have HN:=Lib.hid (hn.next hB)
   have HCE:=Lib.hid hce;have HG2:=Lib.hid hg2
   have HKC:=Lib.hid kc
   clear hg hgo hgl hce hR hRR bF bR hB kc he hgk hem hg2
   go_wp2_with fail
   refine wp_letters [0,1,2,3,4] [5] 6 (by kernel_rfl) (by kernel_rfl) (by kernel_rfl) rfl ?_
   (apply rat;(focus (intro w' hk;(refine' rv ?_ rfl rfl (by exact exec_cells (fliC g.x (.slice p0 g.out.length q0)) (cells_of (kpi hk HBF.out)) rfl rfl (by kernel_rfl));try simp only [Act.put,List.setIfInBounds_toArray,List.set_cons_zero,List.set_cons_succ]);(iterate 3 (refine' rv ?_ rfl rfl (by go_simp;first|done|with_reducible rfl|exact rfl);try simp only [Act.put,List.setIfInBounds_toArray,List.set_cons_zero,List.set_cons_succ]));(refine' rv ?_ rfl rfl (by exact exec_cells (enC e) (fun i u hi=>look hk (HKC.out i u hi)) rfl rfl (by kernel_rfl));try simp only [Act.put,List.setIfInBounds_toArray,List.set_cons_zero,List.set_cons_succ]);(exact rn))))
   refine ll_call (f:=?_) (args:=?_) rfl rfl ?_ ?_
   rotate_left 2
   ·intro w' hk
    go_simp
    first|done|(constructor<;>with_reducible rfl)|with_reducible rfl
   intro w5 hk5
   refine (HS.out w5 (HN.out.next hk5.whole) (reps_next HR.out hk5.whole)).mono ?_
   rintro en w6 ⟨⟨v6,rfl,hr6⟩,hb6⟩
   refine ⟨_,rfl,KeepBut.of_below' hb6,?_⟩
   intro w7 hk7
   obtain ⟨p6,q6,rfl⟩:=reps_shape hr6
   have hk57:=(hk5.trans (KeepBut.of_below' hb6:Keep w5 w6)).trans hk7
   have bF7:=kpi hk57 HBF.out;have bR7:=kpi hk57 HBR.out
   have hr7:=reps_next hr6 hk7.whole
   have hrr7:=rreps_next HRR.out hk57.whole
   have hB7:=HB.out.trans (hk57.whole.mono HB.out.size)
   clear hk5 hb6 hk7 hr6 hk57 HS HR HRR HBF HBR HB HN HKC
   change wpList _ _ _ [_] _ _
   (try simp only [Act.put,List.setIfInBounds_toArray,List.set_cons_zero,List.set_cons_succ])
   obtain ⟨n2,hn2⟩:∃m,g2.out.length=m:=⟨_,rfl⟩
   rw [hn2] at hr7 ⊢
   have hrW:=reps_row hr7 bF7 (fliC g2.x (.slice p6 n2 q6))
   have bW:=srh (c':=fliC g2.x (.slice p6 n2 q6)) bF7
   have bRW:=(setRow_other w7 gF gR (fliC g2.x (.slice p6 n2 q6)) (by omega)).trans bR7
   have hrrW:=rreps_rowF hrr7 bF7 (fliC g2.x (.slice p6 n2 q6))
   have hBW:=below_setRow hB7 hgw (fliC g2.x (.slice p6 n2 q6))
   refine sb (c':=fliC g2.x (.slice p6 n2 q6)) bF7 rfl rfl rfl rfl (by kernel_rfl) ?_
   obtain ⟨W,hW⟩:∃W,w7.setRow gF (fliC g2.x (.slice p6 n2 q6))=W:=⟨_,rfl⟩
   rw [hW] at hrW bW hBW bRW hrrW ⊢
   clear hW bF7 hr7 hB7 bR7 hrr7
   (try simp only [Act.put,List.setIfInBounds_toArray,List.set_cons_zero,List.set_cons_succ])
   obtain ⟨-,bb',off',hsa',kc⟩:=EnsAt.get (HV.out.next hBW) HCE.out
   cases hsa'
   have HKC:=Lib.hid kc;have HBF:=Lib.hid bW;have HBR:=Lib.hid bRW;have HR:=Lib.hid hrW;have HRR:=Lib.hid hrrW;have HB:=Lib.hid hBW
   clear kc bW bRW hrW hrrW hBW HCE
   go_wp2_with fail
   refine wp_letters [0,1,2,3,4,5] [6] 7 (by kernel_rfl) (by kernel_rfl) (by kernel_rfl) rfl ?_
   (apply rat;(focus (intro w' hk;(refine' rv ?_ rfl rfl (by exact exec_cells (fliC g.x (.slice p1 g.out.length q1)) (cells_of (kpi hk HBR.out)) rfl rfl (by kernel_rfl));try simp only [Act.put,List.setIfInBounds_toArray,List.set_cons_zero,List.set_cons_succ]);(iterate 3 (refine' rv ?_ rfl rfl (by go_simp;first|done|with_reducible rfl|exact rfl);try simp only [Act.put,List.setIfInBounds_toArray,List.set_cons_zero,List.set_cons_succ]));(refine' rv ?_ rfl rfl (by exact exec_cells (enC e) (fun i u hi=>look hk (HKC.out i u hi)) rfl rfl (by kernel_rfl));try simp only [Act.put,List.setIfInBounds_toArray,List.set_cons_zero,List.set_cons_succ]);(refine' rc ?_ (by exact rfl) (by exact rfl) (by go_simp;first|done|(constructor<;>with_reducible rfl)|with_reducible rfl) (by exact HEN.out w');try simp only [Act.put,List.setIfInBounds_toArray,List.set_cons_zero,List.set_cons_succ]);(exact rn))))
   refine ll_call (f:=?_) (args:=?_) rfl rfl ?_ ?_
   rotate_left 2
   ·intro w' hk
    go_simp
    first|done|(constructor<;>with_reducible rfl)|with_reducible rfl
   intro w5 hk5
   refine (HRS.out w5 (rreps_next HRR.out hk5.whole)).mono ?_
   rintro en w6 ⟨⟨v6,rfl,hr6⟩,hb6⟩
   refine ⟨_,rfl,KeepBut.of_below' hb6,?_⟩
   intro w7 hk7
   obtain ⟨p7,q7,rfl⟩:=rreps_shape hr6
   have hk57:=(hk5.trans (KeepBut.of_below' hb6:Keep w5 w6)).trans hk7
   have bF7:=kpi hk57 HBF.out;have bR7:=kpi hk57 HBR.out
   have hr7:=reps_next HR.out hk57.whole
   have hrr7:=rreps_next hr6 hk7.whole
   have hB7:=HB.out.trans (hk57.whole.mono HB.out.size)
   clear hk5 hb6 hk7 hr6 hk57 HRS HR HRR HBF HBR HB HKC HEN
   change wpList _ _ _ [_] _ _
   (try simp only [Act.put,List.setIfInBounds_toArray,List.set_cons_zero,List.set_cons_succ])
   rw [hn2] at hrr7 ⊢
   have hrW:=reps_rowR hr7 bR7 (fliC g2.x (.slice p7 n2 q7))
   have bW:=(setRow_other w7 gR gF (fliC g2.x (.slice p7 n2 q7)) (by omega)).trans bF7
   have bRW:=srh (c':=fliC g2.x (.slice p7 n2 q7)) bR7
   have hrrW:=rreps_row hrr7 bR7 (fliC g2.x (.slice p7 n2 q7))
   have hBW:=below_setRow hB7 (show w.heap.size≤gR by omega) (fliC g2.x (.slice p7 n2 q7))
   refine sb (c':=fliC g2.x (.slice p7 n2 q7)) bR7 rfl rfl rfl rfl (by kernel_rfl) ?_
   obtain ⟨W2,hW2⟩:∃W,w7.setRow gR (fliC g2.x (.slice p7 n2 q7))=W:=⟨_,rfl⟩
   rw [hW2] at hrW bW hBW bRW hrrW ⊢
   clear hW2 bF7 hr7 hB7 bR7 hrr7
   (try simp only [Act.put,List.setIfInBounds_toArray,List.set_cons_zero,List.set_cons_succ])
   have y14:=(cells15 bW).2.2.2.2.2
   have hn100:decide ((100:Int)<(n2:Int))=false:=decide_eq_false (by have:=HG2.out;omega)
   have hn0:(0:Int)≤(n2:Int):=by omega
   have HBF:=Lib.hid bW;have HBR:=Lib.hid bRW;have HR:=Lib.hid hrW;have HRR:=Lib.hid hrrW;have HB:=Lib.hid hBW;have HN2:=Lib.hid hn2
   clear bW bRW hrW hrrW hBW hn2
   go_wp2_with fail
   refine wp_letters [0,1,2,3,4,5,7] [6,8] 9 (by kernel_rfl) (by kernel_rfl) (by kernel_rfl) rfl ?_
   (apply rat;(focus (intro w' hk;have m14:=look hk y14;(iterate 5 (refine' rv ?_ rfl rfl (by go_simp;first|done|with_reducible rfl|exact rfl);try simp only [Act.put,List.setIfInBounds_toArray,List.set_cons_zero,List.set_cons_succ]));(refine' rv ?_ rfl rfl (by exact exec_cells (fliC g2.x (.slice p6 n2 q6)) (cells_of (kpi hk HBF.out)) rfl rfl (by kernel_rfl));try simp only [Act.put,List.setIfInBounds_toArray,List.set_cons_zero,List.set_cons_succ]);(refine' rv ?_ rfl rfl (by exact exec_cells (fliC g2.x (.slice p7 n2 q7)) (cells_of (kpi hk HBR.out)) rfl rfl (by kernel_rfl));try simp only [Act.put,List.setIfInBounds_toArray,List.set_cons_zero,List.set_cons_succ]);(exact rn))))
   clear y14 hn100 hn0
   refine ll_call (f:=?_) (args:=?_) rfl rfl ?_ ?_
   rotate_left 2
   ·intro w' hk
    go_simp
    first|done|(constructor<;>with_reducible rfl)|with_reducible rfl
   intro w5 hk5
   refine (HFL.out _ w5 (reps_next HR.out hk5.whole)).mono ?_
   rintro en w6 ⟨⟨v6,rfl,hr6⟩,hb6⟩
   refine ⟨_,rfl,KeepBut.of_below' hb6,?_⟩
   have hk6:=hk5.trans (KeepBut.of_below' hb6:Keep w5 w6)
   clear hk5 hb6
   (try simp only [Act.put,List.setIfInBounds_toArray,List.set_cons_zero,List.set_cons_succ])
   refine ll_call (f:=?_) (args:=?_) rfl rfl ?_ ?_
   rotate_left 2
   ·intro w' hk
    go_simp
    first|done|(constructor<;>with_reducible rfl)|with_reducible rfl
   intro w7 hk7
   refine (HSM.out v6 _ w7 (rreps_next hr6 hk7.whole) (rreps_next HRR.out (hk6.trans hk7).whole)).mono ?_
   rintro en w8 ⟨rfl,hb8⟩
   refine ⟨_,rfl,KeepBut.of_below' hb8,?_⟩
   intro w9 hk9
   have hk:=((hk6.trans hk7).trans (KeepBut.of_below' hb8:Keep w7 w8)).trans hk9
   have HBF9:=Lib.hid (kpi hk HBF.out);have HBR9:=Lib.hid (kpi hk HBR.out);have HB9:=Lib.hid (HB.out.trans (hk.whole.mono HB.out.size))
   have HR9:=Lib.hid (reps_next HR.out hk.whole);have HRR9:=Lib.hid (rreps_next HRR.out hk.whole)
   clear hk6 hk7 hb8 hk9 hk hr6 HFL HSM HBF HBR HB HR HRR
   change wpList _ _ _ [_,_] _ _
   (try simp only [Act.put,List.setIfInBounds_toArray,List.set_cons_zero,List.set_cons_succ])
   go_wp2_with fail
   go_roundw
   case rel=>exact ⟨k+1,g2,_,_,hlt,by go_num,HG.out,HG2.out,HBF9.out,HBR9.out,HR9.out,HRR9.out,HB9.out⟩
   case measure=>first|done|(simp [intOf];done)|(simp [intOf];omega)
  ·have hge:¬(k:Int)<(l.length:Int):=by omega
   obtain rfl:k=l.length:=by omega
   rw [List.take_length] at hg
   have h60:l.length≤60:=HL.out.1
   have HRN:=Lib.hid (fun v2 w hn hv2=>frun_any G l HOK.out HLE.out (by omega) (by rw [HG0.out];decide) (.slice none 0 0) v2 w hn (by rw [HG0.out];exact World.ownsRow_nil _ _ _ _) hv2)
   rw [←hg] at HRN
   have HFL:=Lib.hid (fun v w hv=>flight_any g.x g.out (by omega) v w hv)
   have HSM:=Lib.hid (fun v1 v2 w h1 h2=>same_any g.x g.out (by omega) v1 v2 w h1 h2)
   have HRR:=Lib.hid hRR;have HBR:=Lib.hid bR;have HB:=Lib.hid hB;have HN:=Lib.hid (hn.next hB)
   clear hg hRR hR bF bR hB hgk
   go_wp2_with fail
   refine wp_letters [0,1,2,3,6] [4,5,7] 8 (by kernel_rfl) (by kernel_rfl) (by kernel_rfl) rfl ?_
   (apply rat;(focus (intro w' hk;(iterate 2 (refine' rv ?_ rfl rfl (by go_simp;first|done|with_reducible rfl|exact rfl);try simp only [Act.put,List.setIfInBounds_toArray,List.set_cons_zero,List.set_cons_succ]));(refine' rc ?_ (by exact rfl) (by exact rfl) (by go_simp;first|done|(constructor<;>with_reducible rfl)|with_reducible rfl) (by exact HBG.out w' (HN.out.next hk.whole));try simp only [Act.put,List.setIfInBounds_toArray,List.set_cons_zero,List.set_cons_succ]);(refine' rv ?_ rfl rfl (by go_simp;first|done|with_reducible rfl|exact rfl);try simp only [Act.put,List.setIfInBounds_toArray,List.set_cons_zero,List.set_cons_succ]);(refine' rv ?_ rfl rfl (by exact exec_cells (fliC g.x (.slice p1 g.out.length q1)) (cells_of (kpi hk HBR.out)) rfl rfl (by kernel_rfl));try simp only [Act.put,List.setIfInBounds_toArray,List.set_cons_zero,List.set_cons_succ]);(exact rn))))
   refine ll_call (f:=?_) (args:=?_) rfl rfl ?_ ?_
   rotate_left 2
   ·intro w' hk
    go_simp
    first|done|(constructor<;>with_reducible rfl)|with_reducible rfl
   intro w4 hk4
   refine (HRN.out _ w4 (HN.out.next hk4.whole) (HV.out.next (HB.out.trans (hk4.whole.mono HB.out.size)))).mono ?_
   rintro en w5 ⟨⟨v5,rfl,hr5⟩,hb5⟩
   refine ⟨_,rfl,KeepBut.of_below' hb5,?_⟩
   have hk5:=hk4.trans (KeepBut.of_below' hb5:Keep w4 w5)
   clear hk4 hb5
   (try simp only [Act.put,List.setIfInBounds_toArray,List.set_cons_zero,List.set_cons_succ])
   refine ll_call (f:=?_) (args:=?_) rfl rfl ?_ ?_
   rotate_left 2
   ·intro w' hk
    go_simp
    first|done|(constructor<;>with_reducible rfl)|with_reducible rfl
   intro w6 hk6
   refine (HFL.out v5 w6 (reps_next hr5 hk6.whole)).mono ?_
   rintro en w7 ⟨⟨v7,rfl,hr7⟩,hb7⟩
   refine ⟨_,rfl,KeepBut.of_below' hb7,?_⟩
   have hk7:=(hk5.trans hk6).trans (KeepBut.of_below' hb7:Keep w6 w7)
   clear hk5 hk6 hb7 hr5
   (try simp only [Act.put,List.setIfInBounds_toArray,List.set_cons_zero,List.set_cons_succ])
   refine ll_call (f:=?_) (args:=?_) rfl rfl ?_ ?_
   rotate_left 2
   ·intro w' hk
    go_simp
    first|done|(constructor<;>with_reducible rfl)|with_reducible rfl
   intro w8 hk8
   refine (HSM.out v7 _ w8 (rreps_next hr7 hk8.whole) (rreps_next HRR.out (hk7.trans hk8).whole)).mono ?_
   rintro en w9 ⟨rfl,hb9⟩
   refine ⟨_,rfl,KeepBut.of_below' hb9,?_⟩
   intro w10 hk10
   have hk:=((hk7.trans hk8).trans (KeepBut.of_below' hb9:Keep w8 w9)).trans hk10
   have HB9:=Lib.hid (HB.out.trans (hk.whole.mono HB.out.size))
   clear hk7 hk8 hb9 hk10 hk hr7 HFL HSM HB HRR HRN HBR
   change wpList _ _ _ [_] _ _
   (try simp only [Act.put,List.setIfInBounds_toArray,List.set_cons_zero,List.set_cons_succ])
   go_wp2_with fail
   go_ret
   exact ⟨rfl,HB9.out⟩
end Go.Proofs.YtnaokijcggbfdaaGreatDoor
