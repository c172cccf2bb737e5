/- What the statement's proof stands on, part 44: Scr4, RFly21, RStL21. -/
import Derived.Test.YtnaokijcggbfdaaGreatDoorBm40
import Derived.Test.YtnaokijcggbfdaaGreatDoorBm43
import Derived.Test.YtnaokijcggbfdaaGreatDoorBm37
import Derived.Test.YtnaokijcggbfdaaGreatDoorBm10
set_option linter.unusedSimpArgs false
set_option linter.unusedVariables false
set_option maxRecDepth 100000
set_option maxHeartbeats 4000000
namespace Go.Proofs.YtnaokijcggbfdaaGreatDoor
open Go.RowKit Go.Shelf
attribute [local go_sem] Oper.semAt_some
theorem repC_one (r:Dw.Rep):(repC r).all (·.oneCell')=true:=by simp [repC,Value.oneCell']
theorem infoRep:(Tryz.prog.info? 89).map (fun i=>(i.zero,i.size,i.bytes))=some (some (.agg #[.int .i64 0, .int .i64 0, .int .i64 0, .bool false, .bool false, .int .i64 0, .int .i64 0, .int .i64 0]),8,56):=by kernel_rfl
theorem cells15 {w:World} {b:Nat} {x0 x1 x2 x3 x4 x5 x6 x7 x8 x9 x10 x11 x12 x13 x14:Value} {t:TypeId} {fr:Nat×Nat} (h:w.heap[b]?=some (.cells #[x0,x1,x2,x3,x4,x5,x6,x7,x8,x9,x10,x11,x12,x13,x14] t fr)):
  (w.cell? ⟨b,0,none⟩=some x0∧w.cell? ⟨b,1,none⟩=some x1∧w.cell? ⟨b,2,none⟩=some x2∧w.cell? ⟨b,3,none⟩=some x3∧w.cell? ⟨b,4,none⟩=some x4)∧
  (w.cell? ⟨b,5,none⟩=some x5∧w.cell? ⟨b,6,none⟩=some x6∧w.cell? ⟨b,7,none⟩=some x7∧w.cell? ⟨b,8,none⟩=some x8∧w.cell? ⟨b,9,none⟩=some x9∧w.cell? ⟨b,10,none⟩=some x10)∧
  w.cell? ⟨b,11,none⟩=some x11∧w.cell? ⟨b,12,none⟩=some x12∧w.cell? ⟨b,13,none⟩=some x13∧w.cell? ⟨b,14,none⟩=some x14:=by
 simp [cell_of_row _ _ _ _ _ _ h]
theorem as_ask_reset (x:Value) (w:World):(Instr.typeAssert (.iface 128 x) 20 124 true).run Tryz.prog w= .ok (.tuple #[.agg #[], .bool false]) w:=by kernel_rfl
theorem as_ask_ask (x:Value) (w:World):(Instr.typeAssert (.iface 128 x) 20 128 true).run Tryz.prog w= .ok (.tuple #[x, .bool true]) w:=by kernel_rfl
theorem as_see_reset (x:Value) (w:World):(Instr.typeAssert (.iface 130 x) 20 124 true).run Tryz.prog w= .ok (.tuple #[.agg #[], .bool false]) w:=by kernel_rfl
theorem as_see_ask (x:Value) (w:World):(Instr.typeAssert (.iface 130 x) 20 128 true).run Tryz.prog w= .ok (.tuple #[.agg #[.int .i64 0, .int .i64 0, .float .f64 0, .float .f64 0], .bool false]) w:=by kernel_rfl
theorem as_see_see (x:Value) (w:World):(Instr.typeAssert (.iface 130 x) 20 130 true).run Tryz.prog w= .ok (.tuple #[x, .bool true]) w:=by kernel_rfl
theorem as_turn_reset (x:Value) (w:World):(Instr.typeAssert (.iface 126 x) 20 124 true).run Tryz.prog w= .ok (.tuple #[.agg #[], .bool false]) w:=by kernel_rfl
theorem as_turn_ask (x:Value) (w:World):(Instr.typeAssert (.iface 126 x) 20 128 true).run Tryz.prog w= .ok (.tuple #[.agg #[.int .i64 0, .int .i64 0, .float .f64 0, .float .f64 0], .bool false]) w:=by kernel_rfl
theorem as_turn_see (x:Value) (w:World):(Instr.typeAssert (.iface 126 x) 20 130 true).run Tryz.prog w= .ok (.tuple #[.agg #[.float .f64 0, .float .f64 0, .float .f64 0], .bool false]) w:=by kernel_rfl
theorem as_turn_turn (x:Value) (w:World):(Instr.typeAssert (.iface 126 x) 20 126 true).run Tryz.prog w= .ok (.tuple #[x, .bool true]) w:=by kernel_rfl
theorem as_reset_reset (x:Value) (w:World):(Instr.typeAssert (.iface 124 x) 20 124 true).run Tryz.prog w= .ok (.tuple #[x, .bool true]) w:=by kernel_rfl
theorem as_nil_reset (w:World):(Instr.typeAssert .nilIface 20 124 true).run Tryz.prog w= .ok (.tuple #[.agg #[], .bool false]) w:=by kernel_rfl
theorem fstep_ask (f:Dw.Fli) (e:Dw.En) (h1:e.ki=1) (hf:Dw.FlOk f.x.f) (hl:Dw.legal f.x.s=true) (he:enOk e) (hln:f.out.length≤1000000) (v:Value) (w:World) (hn:NoneAt w) (hv:RepsAt w v f.out):
  Calls Tryz.prog 27 #[fliV f.x v,enV e] w fun en w'=>(∃v',en= .returned (fliV (Dw.stepF f e).x v')∧RepsAt w' v' (Dw.stepF f e).out)∧Below w.heap.size w w':=by
 have HV:=Lib.hid hv
 obtain ⟨ao,cap,rfl,hle,hnil,-⟩:=slAt_own hv
 obtain ⟨V,hV⟩:∃V,((w.alloc (.cells (fliC f.x (.slice ao f.out.length cap)) 64)).alloc (.cells (enC e) 77)).alloc (.cells Z15 64)=V:=⟨_,rfl⟩
 obtain ⟨bF,bE,bR,hB⟩:=allocs3 _ _ _ _ _ hV
 have HA:=Lib.hid (fun w=>act_any e w)
 have HX:=Lib.hid (Dw.stepF_x f e)
 have HE:=Lib.hid he
 clear hnil he
 have ha:actV e= .iface 128 (cmV e.c):=by unfold actV;rw [if_pos h1]
 have hx:Dw.stepX f.x e=Dw.commandX f.x e.c e.p:=by unfold Dw.stepX;rw [if_pos h1]
 have hE:Dw.stepE f.x e=Dw.commandE f.x e.c e.p:=by unfold Dw.stepE;rw [if_pos h1]
 have HO:=Lib.hid (show (Dw.stepF f e).out=f.out++ [Dw.repOf f.x e] by unfold Dw.stepF;rw [if_pos (by unfold Dw.isK;rw [h1];rfl)])
 have HC:=Lib.hid (fun w hn=>scommand_any f.x e.c e.p hf hl HE.out.1.1 HE.out.1.2.1 w hn)
 unfold Dw.repOf at HO
 rw [hx,hE] at HO
 rw [hx] at HX
 rw [ha] at HA
 generalize Dw.commandX f.x e.c e.p=Y at*
 generalize Dw.commandE f.x e.c e.p=E at*
 clear h1 ha hx hE hf hl
 have A0:=as_ask_reset;have A1:=as_ask_ask
 go_enter Tryz.func27,Tryz.ntmps27
 go_wp2_with (first|(refine lb bE rfl rfl rfl (by kernel_rfl) ?_))
 try rw [hV]
 clear hV
 refine cb (HA.out _) fun w1 hb=>?_
 replace bF:=kp hb bF;replace bE:=kp hb bE;replace bR:=kp hb bR;replace hB:=tr hB hb;clear hb
 obtain ⟨V2,hV2⟩:∃V,(w1.alloc (.cells #[] 124)).alloc (.cells (cmC e.c) 128)=V:=⟨_,rfl⟩
 obtain ⟨-,bA,hb⟩:=allocs2 _ _ _ _ hV2
 replace bF:=kp hb bF;replace bE:=kp hb bE;replace bR:=kp hb bR;replace hB:=tr hB hb;clear hb
 have HV2:=Lib.hid hV2
 clear hV2
 go_wp2_with (first|(refine nb rfl rfl rfl rfl (by go_simp;first|done|with_reducible rfl|exact rfl) rfl rfl (by kernel_rfl) ?_;first|rw [HV2.out]|skip)|(refine lp 31 0 (suC f.x) bF rfl rfl rfl (by kernel_rfl) (by rfl) ?_)|(refine lp 34 0 (cmC e.c) bA rfl rfl rfl (by kernel_rfl) (by rfl) ?_)|(refine lp 36 8 #[.int .i64 e.p.cut, .string ⟨e.p.mask.toArray⟩] bE rfl rfl rfl (by kernel_rfl) (by rfl) ?_))
 clear A0 A1 bA HV2
 refine cb (HC.out _ (hn.next hB)) fun w2 hb=>?_
 replace bF:=kp hb bF;replace bE:=kp hb bE;replace bR:=kp hb bR;replace hB:=tr hB hb;clear hb
 clear HC
 have bF0:=bF
 replace bF:=srh (c':=fliC Y (.slice ao f.out.length cap)) bF
 replace bE:=(setRow_other w2 w.heap.size (w.heap.size+1) (fliC Y (.slice ao f.out.length cap)) (by omega)).trans bE
 replace bR:=(setRow_other w2 w.heap.size (w.heap.size+2) (fliC Y (.slice ao f.out.length cap)) (by omega)).trans bR
 replace hB:=below_setRow hB (Nat.le_refl _) (fliC Y (.slice ao f.out.length cap))
 obtain ⟨wt,hwt⟩:∃W,w2.setRow w.heap.size (fliC Y (.slice ao f.out.length cap))=W:=⟨_,rfl⟩
 rw [hwt] at bF bE bR hB
 have HWT:=Lib.hid hwt
 clear hwt
 go_wp2_with (first|(refine sp 31 0 (suC Y) (fliC Y (.slice ao f.out.length cap)) bF0 rfl rfl rfl rfl (by kernel_rfl) (by rfl) (by rfl) ?_;rw [HWT.out]))
 clear bF0 HWT
 have hvt:=slAt_own (reps_next HV.out hB)
 obtain ⟨⟨-,-,-,-,-⟩,⟨y5,y6,y7,y8,y9,y10⟩,y11,-,-,y14⟩:=cells15 bF
 have zt:=block_lt bR
 have HF:=Lib.hid bF;have HR:=Lib.hid bR;have HB:=Lib.hid hB;have HT:=Lib.hid hvt;have HZ:=Lib.hid zt
 clear bF bR hB hvt bE zt
 go_wp2_with fail
 refine wp_letter [0,1,2,3,4,5,6,7,8,9,10,11,12,13,14,15,16] 17 18 (NewRow1 wt (repC ⟨E,Y.ph,Y.s⟩) 89) rfl (by kernel_rfl) (by kernel_rfl) rfl (fun v A B h hk=>h.keep hk) ?_
 (apply rat;(focus (intro w' hk;obtain ⟨k0,k1,k2,k3,k4,k5,k6,k7⟩:=look8 hk y5 y6 y7 y8 y9 y10 y11 y14;(iterate 8 (refine' rv ?_ rfl rfl (by go_simp;first|done|with_reducible rfl|exact rfl);try simp only [Act.put,List.setIfInBounds_toArray,List.set_cons_zero,List.set_cons_succ]));(refine' rv ?_ rfl rfl (by exact exec_full (k:=8) rfl rfl rfl rfl Tryz.underlying62 (by kernel_rfl) hle);try simp only [Act.put,List.setIfInBounds_toArray,List.set_cons_zero,List.set_cons_succ]);(iterate 8 (refine' rv ?_ rfl rfl (by go_simp;first|done|with_reducible rfl|exact rfl);try simp only [Act.put,List.setIfInBounds_toArray,List.set_cons_zero,List.set_cons_succ]));(exact rn))))
 refine ⟨rfl,sure_row1 (fun w' _=>by go_simp),?_⟩
 rintro v2 w5 hk5 ⟨b,rfl,hbs,hbc⟩
 change wpList _ _ _ [_,_,_] _ _
 (try simp only [Act.put,List.setIfInBounds_toArray,List.set_cons_zero,List.set_cons_succ])
 have bF:=kpi hk5 HF.out;have bR:=kpi hk5 HR.out;have hB:=HB.out.trans (hk5.whole.mono HB.out.size);have hvt:=HT.out.keep hk5;have zt:=HZ.out;have zt5:=hk5.size
 clear HF HR HB HT HZ hk5 y5 y6 y7 y8 y9 y10 y11 y14
 refine append_full (by rfl) (by rfl) Tryz.underlying62 infoRep rfl (by decide) (by decide) hvt (repCells_len _) hln rfl rfl hbc rfl rfl (repC_one _) ?_
 intro v3 w6 hv3 hk6
 obtain ⟨p3,q3,e3⟩:∃p q,v3= .slice p (f.out.length+1) q:=by
  obtain ⟨p,q,e,-⟩:=slAt_own hv3
  exact ⟨p,q,e⟩
 subst e3
 have bF6:=kpi hk6 bF
 have bR6:=kpi hk6 bR
 have c14:=(cells15 bF6).2.2.2.2.2
 have f14:=frozen0 bF6 14
 have bF7:(w6.setCell ⟨w.heap.size,14,none⟩ (Value.slice p3 (f.out.length+1) q3)).heap[w.heap.size]?=some (.cells (fliC Y (Value.slice p3 (f.out.length+1) q3)) 64 (0,0)):=heap_setCell_same w6 _ 14 _ _ (Value.slice p3 (f.out.length+1) q3) bF6
 have bR7:=(heap_setCell_other w6 ⟨w.heap.size,14,none⟩ (w.heap.size+2) (Value.slice p3 (f.out.length+1) q3) (by show w.heap.size+2≠w.heap.size;omega)).trans bR6
 have hB7:=(hB.trans (hk6.whole.mono hB.size)).setCell (p:=⟨w.heap.size,14,none⟩) (Nat.le_refl _) (Value.slice p3 (f.out.length+1) q3)
 have HV3:=Lib.hid hv3
 clear bF6 bR6 bF bR hB hvt hv3 hk6 hbc
 go_wp2_with (first|(refine lb bF7 rfl rfl rfl (by kernel_rfl) ?_)|(refine sb bR7 rfl rfl rfl rfl (by kernel_rfl) ?_))
 refine bodyPost_ret (rcr rfl (srh bR7) (by rfl) (by kernel_rfl)) rfl ⟨⟨(Value.slice p3 (f.out.length+1) q3),by rw [HX.out],?_⟩,below_setRow hB7 (by omega) _⟩
 rw [HO.out]
 refine reps_low (B:=w5.heap.size) ?_ List.length_append.symm
 rw [repCells_snoc]
 exact own_setRow (own_setCell HV3.out (by omega) _ _) (by omega) _
abbrev RRepsAt (w:World) (v:Value) (l:List Dw.Rep):Prop:=w.ownsRow 0 121 8 v l.length (repCells l)
theorem rreps_next {w w':World} {v:Value} {l:List Dw.Rep} (h:RRepsAt w v l) (hb:Below w.heap.size w w'):RRepsAt w' v l:=by
 obtain ⟨hl,h|⟨g,cap,cur,he,h0,hg,hr⟩⟩:=h
 ·exact ⟨hl, .inl h⟩
 ·exact ⟨hl, .inr ⟨g,cap,cur,he,h0,kp hb hg,hr⟩⟩
theorem rreps_low {w:World} {B n:Nat} {v:Value} {l:List Dw.Rep} (h:w.ownsRow B 121 8 v n (repCells l)) (hn:n=l.length):RRepsAt w v l:=by
 subst hn
 obtain ⟨hl,h|⟨g,cap,cur,he,h0,hg,hr⟩⟩:=h
 ·exact ⟨hl, .inl h⟩
 ·exact ⟨hl, .inr ⟨g,cap,cur,he,Nat.zero_le _,hg,hr⟩⟩
theorem rreps_row {w:World} {v:Value} {l:List Dw.Rep} (h:RRepsAt w v l) {g:Nat} {c0:Array Value} {fr:Nat×Nat} (hg:w.heap[g]?=some (.cells c0 71 fr)) (c:Array Value):RRepsAt (w.setRow g c) v l:=by
 obtain ⟨hl,h|⟨b,cap,cur,he,h0,hb,hr⟩⟩:=h
 ·exact ⟨hl, .inl h⟩
 ·have hne:b≠g:=by
   rintro rfl
   rw [hg] at hb
   have:=Option.some.inj hb
   injection this with _ h2 _
   exact absurd h2 (by decide)
  exact ⟨hl, .inr ⟨b,cap,cur,he,h0,(setRow_other w g b c hne).trans hb,hr⟩⟩
theorem rreps_rowF {w:World} {v:Value} {l:List Dw.Rep} (h:RRepsAt w v l) {g:Nat} {c0:Array Value} {fr:Nat×Nat} (hg:w.heap[g]?=some (.cells c0 64 fr)) (c:Array Value):RRepsAt (w.setRow g c) v l:=by
 obtain ⟨hl,h|⟨b,cap,cur,he,h0,hb,hr⟩⟩:=h
 ·exact ⟨hl, .inl h⟩
 ·have hne:b≠g:=by
   rintro rfl
   rw [hg] at hb
   have:=Option.some.inj hb
   injection this with _ h2 _
   exact absurd h2 (by decide)
  exact ⟨hl, .inr ⟨b,cap,cur,he,h0,(setRow_other w g b c hne).trans hb,hr⟩⟩
theorem reps_rowR {w:World} {v:Value} {l:List Dw.Rep} (h:RepsAt w v l) {g:Nat} {c0:Array Value} {fr:Nat×Nat} (hg:w.heap[g]?=some (.cells c0 71 fr)) (c:Array Value):RepsAt (w.setRow g c) v l:=by
 obtain ⟨hl,h|⟨b,cap,cur,he,h0,hb,hr⟩⟩:=h
 ·exact ⟨hl, .inl h⟩
 ·have hne:b≠g:=by
   rintro rfl
   rw [hg] at hb
   have:=Option.some.inj hb
   injection this with _ h2 _
   exact absurd h2 (by decide)
  exact ⟨hl, .inr ⟨b,cap,cur,he,h0,(setRow_other w g b c hne).trans hb,hr⟩⟩
theorem rreps_shape {w:World} {v:Value} {l:List Dw.Rep} (h:RRepsAt w v l):∃p q,v= .slice p l.length q:=by
 obtain ⟨p,q,e,-⟩:=slAt_own h
 exact ⟨p,q,e⟩
theorem infoRRep:(Tryz.prog.info? 121).map (fun i=>(i.zero,i.size,i.bytes))=some (some (.agg #[.int .i64 0, .int .i64 0, .int .i64 0, .bool false, .bool false, .int .i64 0, .int .i64 0, .int .i64 0]),8,56):=by kernel_rfl
theorem repCells_at:∀(l:List Dw.Rep) (j:Nat) (r:Dw.Rep) (i:Nat),l[j]?=some r→i<8→(repCells l)[j*8+i]?=(repC r).toList[i]?
 | [],j,r,i,h,_=>by simp at h
 |a::l,0,r,i,h,hi=>by
  simp at h
  subst h
  show ((repC a).toList++repCells l)[0*8+i]?=_
  rw [Nat.zero_mul,Nat.zero_add,List.getElem?_append_left (show i<(repC a).toList.length from hi)]
 |a::l,j+1,r,i,h,hi=>by
  show ((repC a).toList++repCells l)[(j+1)*8+i]?=_
  have h8:(repC a).toList.length=8:=rfl
  rw [List.getElem?_append_right (by rw [h8];omega),h8,show (j+1)*8+i-8=j*8+i by omega]
  exact repCells_at l j r i (by simpa using h) hi
theorem own_get {w:World} {B n:Nat} {e:TypeId} {ao:Option Addr} {m cap:Nat} {l:List Dw.Rep} (h:w.ownsRow B e 8 (.slice ao m cap) n (repCells l)) {k:Nat} {r:Dw.Rep} (hk:l[k]?=some r):
  ∃q,ao=some ⟨q,0,none⟩∧∀i u,(repC r).toList[i]?=some u→w.cell? ⟨q,k*8+i,none⟩=some u:=by
 have hkl:k<l.length:=(List.getElem?_eq_some_iff.1 hk).1
 obtain ⟨ao',cap',he,-,-,hc⟩:=slAt_own h
 injection he with h1 h2 h3
 subst h1
 obtain ⟨hl,⟨h0,hn⟩|⟨g,_,_,h0,_⟩⟩:=h
 ·rw [repCells_len,hn] at hl;omega
 ·injection h0 with h1
  subst h1
  refine ⟨g,rfl,fun i u hi=>?_⟩
  have hi8:i<8:=(List.getElem?_eq_some_iff.1 hi).1
  have h1:=hc _ rfl (k*8+i) u (by rw [repCells_at l k r i hk hi8];exact hi)
  rw [addr0] at h1
  exact h1
section
variable {P:Program} {ops:Array Oper} {rest:List Oper} {o:Oper} {a:Act} {w:World} {Q:Exit→Act→World→Prop} {t e:TypeId}
theorem append_owned1 (hg:o.guard=none) {s x:Operand} (hop:o.op= .call {callee:= .builtin .append,args:= #[s,x],argTypes:= #[t,t]}) {z:Value} {k bytes:Nat} (hu:P.underlying t=some (.slice e))
  (hi:(P.info? e).map (fun i=>(i.zero,i.size,i.bytes))=some (some z,k,bytes)) (hz:z.cells.size=k) (hk:0<k) (hby:bytes≤1000) {B n:Nat} {cs:List Value} {v0:Value} (how:w.ownsRow B e k v0 n cs) (hn:n≤1000000) (hBw:B≤w.heap.size)
  (hs:a.eval s=v0) {b:Nat} {c:Array Value} {T:TypeId} {fr:Nat×Nat} (hb:w.heap[b]?=some (.cells c T fr)) (hx:a.eval x= .slice (some ⟨b,0,none⟩) 1 1) (hc:c.size=k) (h1:c.all (·.oneCell')=true)
  (h:∀v' w',w'.ownsRow B e k v' (n+1) (cs++c.toList)→KeepBut (fun j=>B≤j) w w'→wpList P ops Q rest (a.put o.dst v') w'):wpList P ops Q (o::rest) a w:=by
 obtain ⟨i,hi1,hi2,hi3,hi4⟩:=info_parts hi
 refine wpList_append_own w hg s x t hop B e i z k bytes hu hi1 hi2 hi3 hi4 hz hk v0 n cs hs how ⟨b,0,none⟩ 1 1 c.toList hx (by simp [hc]) (fun j u hj=>?_) (fun u hu=>(Array.all_eq_true_iff_forall_mem.1 h1) u (by simpa using hu)) (by simp only [maxLen];omega) ?_ hBw fun v' w' ho hgr _=>h v' w' ho ((KeepBut.refl _ w).grown hgr (fun g e=>?_))
 ·rw [addr0,cell_of_row _ _ j _ _ _ hb]
  simpa using hj
 ·have:(n+1)*bytes≤1000001*1000:=Nat.mul_le_mul (by omega) hby
  omega
 ·rcases how.2 with ⟨h1,_⟩|⟨g',cap,cur,h1,h2,_⟩
  ·rw [h1] at e;cases e
  ·rw [h1] at e
   obtain rfl:g'=g:=by simpa [Value.ownBlock] using e
   exact h2
end
theorem rsu_noself (s:Dw.Su) (u v:Operand) (w:World):(do eqGuard .neq 68 u v (suV s) (suV s);binOp .neq 68 (suV s) (suV s):Sem Value).run Tryz.prog w= .ok (.bool false) w:=by
 go_simp
 first|done|simp [ba_list]
theorem rrep_noself (r:Dw.Rep) (u v:Operand) (w:World):(do eqGuard .neq 121 u v (.agg (repC r)) (.agg (repC r));binOp .neq 121 (.agg (repC r)) (.agg (repC r)):Sem Value).run Tryz.prog w= .ok (.bool false) w:=by
 go_simp
abbrev Z11:Array Value:= #[.int .i64 0, .int .i64 0, .int .i64 0, .float .f64 0, .float .f64 0, .float .f64 0, .float .f64 0, .float .f64 0, .int .i64 0, .string ⟨#[]⟩, .int .i64 0]
theorem entry_any (e:Dw.En) (w:World):
  Calls Tryz.prog 29 #[enV e] w fun en w'=>en= .returned (enV e)∧Below w.heap.size w w':=by
 obtain ⟨V,hV⟩:∃V,(w.alloc (.cells (enC e) 77)).alloc (.cells Z11 81)=V:=⟨_,rfl⟩
 obtain ⟨b0,b1,hB⟩:=allocs2 _ _ _ _ hV
 have c0:V.cell? ⟨w.heap.size,0,none⟩=some (.int .i64 e.ki):=by rw [cell_of_row _ _ 0 _ _ _ b0];rfl
 have c10:V.cell? ⟨w.heap.size,10,none⟩=some (.int .i64 e.at_):=by rw [cell_of_row _ _ 10 _ _ _ b0];rfl
 obtain ⟨ki,c,va,vb,vc,p,at_⟩:=e
 dsimp only at*
 go_enter Tryz.func29,Tryz.ntmps29
 go_wp2_with (first|(refine lp 34 1 (cmC c) b0 rfl rfl rfl (by kernel_rfl) (by rfl) ?_)|(refine lp 55 5 (smC va vb vc) b0 rfl rfl rfl (by kernel_rfl) (by rfl) ?_)|(refine lp 36 8 #[.int .i64 p.cut, .string ⟨p.mask.toArray⟩] b0 rfl rfl rfl (by kernel_rfl) (by rfl) ?_)|(refine sb (c':=enC ⟨ki,c,va,vb,vc,p,at_⟩) b1 rfl rfl rfl rfl (by kernel_rfl) ?_))
 exact bodyPost_ret (rcr rfl (srh b1) (by rfl) (by kernel_rfl)) rfl ⟨rfl,below_setRow hB (by omega) _⟩
theorem flight_any (x:Dw.Su) (l:List Dw.Rep) (hll:l.length≤1000) (v:Value) (w:World) (hv:RepsAt w v l):
  Calls Tryz.prog 26 #[fliV x v] w fun en w'=>(∃v',en= .returned (fliV x v')∧RRepsAt w' v' l)∧Below w.heap.size w w':=by
 have HV:=Lib.hid hv
 obtain ⟨ao,cap,rfl,-,-,-⟩:=slAt_own hv
 obtain ⟨V,hV⟩:∃V,((w.alloc (.cells (fliC x (.slice ao l.length cap)) 64)).alloc (.cells Z15 71)).alloc (.cells #[] 121)=V:=⟨_,rfl⟩
 obtain ⟨bF,bR,bO,hB⟩:=allocs3 _ _ _ _ _ hV
 have hown0:V.ownsRow (w.heap.size+2) 121 8 (.slice (some ⟨w.heap.size+2,0,none⟩) 0 0) 0 (repCells []):=⟨rfl, .inr ⟨_,0,#[],rfl,Nat.le_refl _,bO,Nat.le_refl _,Nat.zero_le _,rfl,rfl⟩⟩
 have zV:w.heap.size+2<V.heap.size:=block_lt bO
 clear hv bO
 have h0l:(0:Int)≤(l.length:Int):=by omega
 go_enter Tryz.func26,Tryz.ntmps26
 go_wp2_with fail
 try rw [hV]
 clear hV
 go_loopw [3,4] (fun s i wr=>∃(k:Nat) (vo:Value),k≤l.length∧i= .int .i64 k∧s=vo∧wr.ownsRow (w.heap.size+2) 121 8 vo k (repCells (l.take k))∧wr.heap[w.heap.size]?=some (.cells (fliC x (.slice ao l.length cap)) 64 (0,0))∧wr.heap[w.heap.size+1]?=some (.cells Z15 71 (0,0))∧Below w.heap.size w wr∧w.heap.size+2<wr.heap.size) (fun _ i _=>l.length-(intOf i).toNat)
 case atStart=>exact ⟨0,_,Nat.zero_le _,rfl,rfl,hown0,bF,bR,hB,zV⟩
 case round=>
  clear hown0 bF bR hB zV
  obtain ⟨k,vo,hk,rfl,rfl,hown,bF,bR,hB,zV⟩:=hrel
  have c14:=(cells15 bF).2.2.2.2.2
  by_cases hlt:k<l.length
  ·have hlt':(k:Int)<(l.length:Int):=by omega
   obtain ⟨r,hre⟩:∃r,l[k]?=some r:=⟨l[k],List.getElem?_eq_getElem hlt⟩
   obtain ⟨q,hq,hc⟩:=own_get (reps_next HV.out hB) hre
   subst hq
   have HTK:=Lib.hid (show repCells (l.take (k+1))=repCells (l.take k)++(repC r).toList by rw [List.take_add_one,hre];exact repCells_snoc _ _)
   obtain ⟨re,rp,rs⟩:=r
   have d0:wr.cell? ⟨q,k*8,none⟩=some (.int .i64 re):=hc 0 _ rfl
   have d1:wr.cell? ⟨q,k*8+1,none⟩=some (.int .i64 rp):=hc 1 _ rfl
   have d2:wr.cell? ⟨q,k*8+2,none⟩=some (.int .i64 rs.mo):=hc 2 _ rfl
   have d3:wr.cell? ⟨q,k*8+2+1,none⟩=some (.bool rs.ar):=hc 3 _ rfl
   have d4:wr.cell? ⟨q,k*8+2+2,none⟩=some (.bool rs.ho):=hc 4 _ rfl
   have d5:wr.cell? ⟨q,k*8+2+3,none⟩=some (.int .i64 rs.la):=hc 5 _ rfl
   have d6:wr.cell? ⟨q,k*8+2+4,none⟩=some (.int .i64 rs.lo):=hc 6 _ rfl
   have d7:wr.cell? ⟨q,k*8+2+5,none⟩=some (.int .i64 rs.iso):=hc 7 _ rfl
   have HO:=Lib.hid hown;have HF:=Lib.hid bF;have HR:=Lib.hid bR;have HB:=Lib.hid hB
   have hk1:k≤1000000:=by omega
   clear hown bF bR hB hc hre
   go_wp2_with fail
   refine wp_letter [0,1,2,3,4,5,6,7,8,9,10,11,12,13,14,15,16,17,18,19] 20 21 (NewRow1 wr (repC ⟨re,rp,rs⟩) 121) rfl (by kernel_rfl) (by kernel_rfl) rfl (fun v A B h hk=>h.keep hk) ?_
   (apply rat;(focus (intro w' hk;obtain ⟨m0,m1,m2,m3,m4,m5,m6,m7⟩:=look8 hk d0 d1 d2 d3 d4 d5 d6 d7;have m14:=look hk c14;(iterate 20 (refine' rv ?_ rfl rfl (by go_simp;first|done|with_reducible rfl|exact rfl);try simp only [Act.put,List.setIfInBounds_toArray,List.set_cons_zero,List.set_cons_succ]));(exact rn))))
   refine ⟨rfl,sure_row1 (fun w' _=>by go_simp),?_⟩
   rintro v2 w5 hk5 ⟨b,rfl,hbs,hbc⟩
   change wpList _ _ _ [_,_] _ _
   (try simp only [Act.put,List.setIfInBounds_toArray,List.set_cons_zero,List.set_cons_succ])
   have how5:=ownsRow_keep HO.out hk5 (fun _ _ h=>h)
   have bF5:=kpi hk5 HF.out;have bR5:=kpi hk5 HR.out;have hB5:=HB.out.trans (hk5.whole.mono HB.out.size);have zz:=hk5.size
   clear HO HF HR HB hk5 d0 d1 d2 d3 d4 d5 d6 d7 c14
   refine append_owned1 (by rfl) (by rfl) Tryz.underlying69 infoRRep rfl (by decide) (by decide) how5 hk1 (by omega) rfl hbc rfl rfl (repC_one _) ?_
   intro v3 w6 how6 hk6
   have bF6:=(hk6.block _ (block_lt bF5) (by omega)).trans bF5
   have bR6:=(hk6.block _ (block_lt bR5) (by omega)).trans bR5
   have HB6:=Lib.hid (hB5.trans (hk6.below (by omega) (fun j hj=>by omega)))
   have zz6:=hk6.size
   have HO6:=Lib.hid how6;have HF6:=Lib.hid bF6;have HR6:=Lib.hid bR6
   clear how5 bF5 bR5 hB5 hbc how6 hk6 bF6 bR6
   go_wp2_with fail
   go_roundw
   case rel=>exact ⟨k+1,_,hlt,by go_num,rfl,by rw [HTK.out];exact HO6.out,HF6.out,HR6.out,HB6.out,by omega⟩
   case measure=>first|done|(simp [intOf];done)|(simp [intOf];omega)
  ·have hge:¬(k:Int)<(l.length:Int):=by omega
   obtain rfl:k=l.length:=by omega
   rw [List.take_length] at hown
   obtain ⟨po,qo,evo,-,-,-⟩:=slAt_own hown
   subst evo
   have HB:=Lib.hid hB;have HO:=Lib.hid hown
   obtain ⟨V3,hV3⟩:∃V,wr.alloc (.cells (suC x) 68)=V:=⟨_,rfl⟩
   have bX:V3.heap[wr.heap.size]?=some (.cells (suC x) 68):=by rw [←hV3];exact han _ _
   have hb:Below wr.heap.size wr V3:=by rw [←hV3];exact (Below.refl _ wr).alloc (Nat.le_refl _) _
   have bF3:=kp hb bF;have bR3:=kp hb bR;have HB3:=Lib.hid (tr HB.out hb)
   have HRR:=Lib.hid (rreps_next (rreps_low HO.out rfl) hb)
   have HV3:=Lib.hid hV3
   have cF:=(cells15 bF).2.2.1
   clear hB hown hk hV3 hb HB HO bR
   go_wp2_with (first|(refine lp 25 0 (flC x.f) bF rfl rfl rfl (by kernel_rfl) (by rfl) ?_)|(refine lp 27 5 (stC x.s) bF rfl rfl rfl (by kernel_rfl) (by rfl) ?_)|(refine lp 29 12 #[.int .i64 x.vo, .int .i64 x.n] bF rfl rfl rfl (by kernel_rfl) (by rfl) ?_)|(refine nb (c:=suC x) rfl rfl rfl rfl (by go_simp;first|done|with_reducible rfl|exact rfl) rfl rfl (by kernel_rfl) ?_;rw [HV3.out])|(refine lb bX rfl rfl rfl (by kernel_rfl) ?_)|(refine sb (c':=fliC x (.slice po l.length qo)) bR3 rfl rfl rfl rfl (by kernel_rfl) ?_))
   refine bodyPost_ret (rcr rfl (srh bR3) (by rfl) (by kernel_rfl)) rfl ⟨⟨_,rfl,?_⟩,below_setRow HB3.out (by omega) _⟩
   exact rreps_row HRR.out bR3 _
theorem same_any (x:Dw.Su) (l:List Dw.Rep) (hll:l.length≤1000) (v1 v2:Value) (w:World) (h1:RRepsAt w v1 l) (h2:RRepsAt w v2 l):
  Calls Tryz.prog 25 #[fliV x v1,fliV x v2] w fun en w'=>en= .returned (.bool true)∧Below w.heap.size w w':=by
 have H1:=Lib.hid h1;have H2:=Lib.hid h2
 obtain ⟨p1,q1,rfl⟩:=rreps_shape h1
 obtain ⟨p2,q2,rfl⟩:=rreps_shape h2
 obtain ⟨V,hV⟩:∃V,(w.alloc (.cells (fliC x (.slice p1 l.length q1)) 71)).alloc (.cells (fliC x (.slice p2 l.length q2)) 71)=V:=⟨_,rfl⟩
 obtain ⟨bA,bB,hB⟩:=allocs2 _ _ _ _ hV
 clear h1 h2
 have h0l:(0:Int)≤(l.length:Int):=by omega
 have cA:=(cells15 bA).2.2.2.2.2
 have cB:=(cells15 bB).2.2.2.2.2
 have HSN:=Lib.hid (fun u v w=>rsu_noself x u v w)
 have HBA:=Lib.hid bA;have HBB:=Lib.hid bB
 go_enter Tryz.func25,Tryz.ntmps25
 go_wp2_with (first|(refine lp 68 0 (suC x) HBA.out rfl rfl rfl (by kernel_rfl) (by rfl) ?_)|(refine lp 68 0 (suC x) HBB.out rfl rfl rfl (by kernel_rfl) (by rfl) ?_)|(refine bno (HSN.out _ _ _) rfl rfl rfl rfl ?_))
 clear HBA HBB bA bB
 go_loopw [5] (fun i wr=>∃k:Nat,k≤l.length∧i= .int .i64 k∧Keep V wr) (fun i _=>l.length-(intOf i).toNat)
 case atStart=>exact ⟨0,Nat.zero_le _,rfl,KeepBut.refl _ _⟩
 case round=>
  obtain ⟨k,hk,rfl,hkv⟩:=hrel
  have dA:=look hkv cA
  have dB:=look hkv cB
  by_cases hlt:k<l.length
  ·have hlt':(k:Int)<(l.length:Int):=by omega
   obtain ⟨r,hre⟩:∃r,l[k]?=some r:=⟨l[k],List.getElem?_eq_getElem hlt⟩
   have hBk:=hB.trans (hkv.whole.mono hB.size)
   obtain ⟨g1,e1,hc1⟩:=own_get (rreps_next H1.out hBk) hre
   obtain ⟨g2,e2,hc2⟩:=own_get (rreps_next H2.out hBk) hre
   subst e1;subst e2
   have HK:=Lib.hid hkv
   clear hre hkv hBk
   go_wp2_with fail
   refine wp_pure [0,1,2,3,4,5,6,7,8,9,10] 11 (by kernel_rfl) (by kernel_rfl) rfl ?_
   (apply rat;(focus (intro w' hk;obtain ⟨m1,m2⟩:=look2 hk dA dB;(iterate 4 (refine' rv ?_ rfl rfl (by go_simp;first|done|with_reducible rfl|exact rfl);try simp only [Act.put,List.setIfInBounds_toArray,List.set_cons_zero,List.set_cons_succ]));(refine' rv ?_ rfl rfl (by exact exec_cells (b:=g1) (off:=k*8) (repC r) (fun i u hi=>look hk (hc1 i u hi)) rfl rfl (by kernel_rfl));try simp only [Act.put,List.setIfInBounds_toArray,List.set_cons_zero,List.set_cons_succ]);(iterate 4 (refine' rv ?_ rfl rfl (by go_simp;first|done|with_reducible rfl|exact rfl);try simp only [Act.put,List.setIfInBounds_toArray,List.set_cons_zero,List.set_cons_succ]));(refine' rv ?_ rfl rfl (by exact exec_cells (b:=g2) (off:=k*8) (repC r) (fun i u hi=>look hk (hc2 i u hi)) rfl rfl (by kernel_rfl));try simp only [Act.put,List.setIfInBounds_toArray,List.set_cons_zero,List.set_cons_succ]);(refine' rv ?_ rfl rfl (by exact exec_bin rfl rfl rfl (rrep_noself r _ _ w'));try simp only [Act.put,List.setIfInBounds_toArray,List.set_cons_zero,List.set_cons_succ]);(exact rn))))
   intro w9 hk9
   simp only [List.drop_succ_cons,List.drop_zero]
   have HK9:=Lib.hid (HK.out.trans hk9)
   clear hc1 hc2 hk9 dA dB HK
   go_wp2_with fail
   go_roundw
   case rel=>exact ⟨k+1,hlt,by go_num,HK9.out⟩
   case measure=>first|done|(simp [intOf];done)|(simp [intOf];omega)
  ·have hge:¬(k:Int)<(l.length:Int):=by omega
   have HBk:=Lib.hid (hB.trans (hkv.whole.mono hB.size))
   clear hkv
   go_wp2_with fail
   go_ret
   exact ⟨rfl,HBk.out⟩
theorem own_mono {w:World} {B C:Nat} {e:TypeId} {k:Nat} {v:Value} {n:Nat} {xs:List Value} (h:w.ownsRow C e k v n xs) (hB:B≤C):w.ownsRow B e k v n xs:=by
 obtain ⟨hl,h|⟨g,cap,cur,he,h0,hr⟩⟩:=h
 ·exact ⟨hl, .inl h⟩
 ·exact ⟨hl, .inr ⟨g,cap,cur,he,Nat.le_trans hB h0,hr⟩⟩
theorem exec_copy {P:Program} {w:World} {o:Oper} {a:Act} {t e:TypeId} {s x:Operand} (hop:o.op= .call {callee:= .builtin .append,args:= #[s,x],argTypes:= #[t,t]}) {z:Value} {k bytes:Nat} (hu:P.underlying t=some (.slice e))
  (hi:(P.info? e).map (fun i=>(i.zero,i.size,i.bytes))=some (some z,k,bytes)) (hz:z.cells.size=k) (hk:0<k) (hby:bytes≤1000) {n:Nat} {cs:List Value} {vb:Value} (hvb:w.ownsRow 0 e k vb n cs) (hn:n≤1000000)
  {b0 B:Nat} (hb0:w.heap[b0]?=some (.cells #[] e (0,0))) (hB:B≤b0) (hs:a.eval s= .slice (some ⟨b0,0,none⟩) 0 0) (hx:a.eval x=vb):
  ∃v w',(execOp a.eval o).run P w= .ok (.value v) w'∧w'.ownsRow B e k v n cs∧Keep w w':=by
 obtain ⟨i,hi1,hi2,hi3,hi4⟩:=info_parts hi
 have hown0:w.ownsRow B e k (.slice (some ⟨b0,0,none⟩) 0 0) 0 []:=⟨by simp, .inr ⟨b0,0,#[],rfl,hB,hb0,Nat.le_refl _,Nat.zero_le _,by simp,by simp⟩⟩
 have hlt:=block_lt hb0
 obtain ⟨ao,cap,he,-,hnil,hcell⟩:=slAt_own hvb
 obtain ⟨hl,hsh⟩:=hvb
 by_cases h0:n=0
 ·subst h0
  obtain rfl:cs= []:=List.eq_nil_of_length_eq_zero (by simpa using hl)
  rcases hsh with ⟨rfl,-⟩|⟨g,cap',cur,rfl,-⟩
  ·have hrun:=run_append_owned_none (P:=P) w B t o.type e i k hu hi1 _ 0 [] hown0
   exact ⟨_,w,by simp [execOp,hop,resolve,invoke,builtin,hs,hx,hrun,Result.andThen],hown0,KeepBut.refl _ _⟩
  ·have hrun:=run_append_room_cells (P:=P) w t o.type e i hu hi1 b0 0 0 0 ⟨g,0,none⟩ 0 cap' [] (by simp) (by simp) (by simp) (Nat.le_refl _) (by simp) (by simp)
   exact ⟨_,w,by simp [execOp,hop,resolve,invoke,builtin,hs,hx,hrun,Result.andThen,World.setCells],hown0,KeepBut.refl _ _⟩
 ·subst he
  cases ao with
  |none=>exact absurd (hnil rfl) h0
  |some b=>
   have hb2:(0+n)*bytes≤140737488355328:=by
    have:(0+n)*bytes≤1000001*1000:=Nat.mul_le_mul (by omega) hby
    omega
   obtain ⟨v',w',hrun,r1,r2⟩:=run_append_arg_grows (P:=P) w t o.type e i z k bytes hu hi1 hi2 hi3 hi4 hz hk ⟨b0,0,none⟩ 0 0 [] (by simp) (fun j u h=>by simp at h) b n cap cs hl (hcell b rfl) (by omega) (by simp only [maxLen];omega) hb2
   rw [Nat.zero_add,List.nil_append] at r1
   exact ⟨v',w',by simp [execOp,hop,resolve,invoke,builtin,hs,hx,hrun,Result.andThen],own_mono r1 (by omega),(KeepBut.refl _ w).grown r2 (fun _ h=>by cases h)⟩
section
variable {P:Program} {R:Exit→Act→World→Prop} {l:List Oper} {w:World} {k:Nat} {ls:List Nat} {a:Act} {o om:Oper} {tops:List Oper} {lo:Nat} {Z:Obj} {F:Nat→Value}
theorem lf_copy (ho:l[k]?=some o) (hw:Region.wanted o (yielded l.toArray a.tmps)=true) {t e:TypeId} {s x:Operand} (hop:o.op= .call {callee:= .builtin .append,args:= #[s,x],argTypes:= #[t,t]}) {z:Value} {kk bytes:Nat} (hu:P.underlying t=some (.slice e))
  (hi:(P.info? e).map (fun i=>(i.zero,i.size,i.bytes))=some (some z,kk,bytes)) (hz:z.cells.size=kk) (hk:0<kk) (hby:bytes≤1000) {n:Nat} {cs:List Value} {vb:Value} {b0 B:Nat} (hs:a.eval s= .slice (some ⟨b0,0,none⟩) 0 0) (hx:a.eval x=vb) (hn:n≤1000000) (hB:B≤b0)
  (hb0:w.heap[b0]?=some (.cells #[] e (0,0))) (hvb:w.ownsRow 0 e kk vb n cs) (h:∀w' v w'',Keep w w'→w''.ownsRow B e kk v n cs→Keep w' w''→LF P l.toArray R tops om lo Z F ls (a.put o.dst v) w''):LF P l.toArray R tops om lo Z F (k::ls) a w:=
 lf_value ho hw fun w' hk'=>by
  obtain ⟨v,w'',h1,h2,h3⟩:=exec_copy (P:=P) (w:=w') (a:=a) (o:=o) hop hu hi hz hk hby (ownsRow_keep hvb hk' (fun _ _ h=>h)) hn (kpi hk' hb0) hB hs hx
  exact ⟨v,w'',h1,h3,h w' v w'' hk' h2 h3⟩
end
end Go.Proofs.YtnaokijcggbfdaaGreatDoor
