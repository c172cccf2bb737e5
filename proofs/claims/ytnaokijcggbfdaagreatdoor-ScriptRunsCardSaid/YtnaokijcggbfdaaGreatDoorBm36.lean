/- What the statement's proof stands on, part 36: RPlan, RFresh, RNext, RRead, RPlan11, RPut12. -/
import Derived.Test.YtnaokijcggbfdaaGreatDoorBm26
import Derived.Test.YtnaokijcggbfdaaGreatDoorBm28
import Derived.Test.YtnaokijcggbfdaaGreatDoorBm11
import Derived.Test.YtnaokijcggbfdaaGreatDoorBm23
import Derived.Test.YtnaokijcggbfdaaGreatDoorBm24
set_option linter.unusedSimpArgs false
set_option linter.unusedVariables false
set_option maxRecDepth 100000
set_option maxHeartbeats 4000000
namespace Go.Proofs.YtnaokijcggbfdaaGreatDoor
open Go.RowKit Go.Shelf
attribute [local go_sem] Oper.semAt_some
theorem rops_of_cells {w:World} {b cap:Nat} {l m:List Dw.Op} {t:TypeId} {fr:Nat×Nat} (h:w.heap[b]?=some (.cells (opsCells (m++l)).toArray t fr)):ROps w (.slice (some ⟨b,m.length*4,none⟩) l.length cap) l:=by
 refine ⟨b,m.length*4,cap,_,_,_,rfl,h,fun j o ho=>?_⟩
 have ho':(m++l)[m.length+j]?=some o:=by rw [List.getElem?_append_right (by omega),Nat.add_sub_cancel_left];exact ho
 have key:∀r,r<4→(opsCells (m++l)).toArray[m.length*4+j*4+r]?=(opC o).toList[r]?:=by
  intro r hr
  rw [List.getElem?_toArray,←opsCells_get (m++l) (m.length+j) r o ho' hr]
  congr 1
  omega
 exact ⟨key 0 (by decide),key 1 (by decide),key 2 (by decide),key 3 (by decide)⟩
theorem rappend11_any (b s q d:Nat) (hs:s≤12) (hq:q<18446744073709551616) (hd:d<18446744073709551616) (w:World):
  Calls Tryz.prog 187 #[.int .i64 b, .int .i64 s, .int .u64 q, .int .u64 d] w fun e w'=>(∃v,e= .returned v∧ROps w' v (Dw.appendOps b s q d))∧Below w.heap.size w w':=by
 have H1:=Lib.hid (fun w=>rat5_any s hs w)
 have H2:=Lib.hid (fun w=>rbody_any 2 q d (by decide) hq hd w)
 have H3:=Lib.hid (fun w=>rmark5_any s hs w)
 have hB:=Below.refl w.heap.size w
 clear hq hd
 go_enter Tryz.func187,Tryz.ntmps187
 go_wp2_with fail
 refine cb (H1.out _) fun w1 hb=>?_
 replace hB:=tr hB hb
 clear hb
 go_wp2_with fail
 refine cb (H2.out _) fun w2 hb=>?_
 replace hB:=tr hB hb
 clear hb
 go_wp2_with fail
 refine cb (H3.out _) fun w3 hb=>?_
 replace hB:=tr hB hb
 clear hb
 go_wp2_with fail
 refine cb (rmark_any _) fun w4 hb=>?_
 replace hB:=tr hB hb
 clear hb
 have hC:=han w4 (.cells (opsCells ([]++Dw.appendOps b s q d)).toArray 286)
 have hB2:=hB.alloc hB.size (.cells (opsCells ([]++Dw.appendOps b s q d)).toArray 286)
 have HR:=Lib.hid (rops_of_cells (m:= []) (cap:=2) hC)
 have HB:=Lib.hid hB2
 clear hC hB2 hB
 go_wp2_with fail
 go_ret
 exact ⟨⟨_,rfl,HR.out⟩,HB.out⟩
theorem rfreshT (b g q d:Nat) (hg:g<18446744073709551616) (hq:q<18446744073709551616) (hd:d<18446744073709551616) (w:World):
  Calls Tryz.prog 209 #[.int .i64 b, .bool true, .int .u64 g, .int .u64 q, .int .u64 d] w fun e w'=>(∃v,e= .returned v∧ROps w' v (Dw.freshOps b true g q d))∧Below w.heap.size w w':=by
 have H3:=Lib.hid (fun w=>rbody_any 3 q d (by decide) hq hd w)
 have H1:=Lib.hid (fun w=>rbody_any 1 g 0 (by decide) hg (by decide) w)
 clear hg hq hd
 go_enter Tryz.func209,Tryz.ntmps209
 go_wp2_with fail
 refine wp_letterM [0,4,5,6,7,8,9,10,11,12,13,14,15,16,17,18,19,20,21,22] 1 [2,3] 23 (some 13) (NewRow w #[.int .u8 0, .int .u8 0] 5) rfl rfl (by kernel_rfl) (by kernel_rfl) (by kernel_rfl) rfl (fun v A B h hk=>h.keep hk) ?_
 (apply rat;(focus (intro w' hk;(iterate 7 (refine' rv ?_ rfl rfl (by go_simp;first|done|with_reducible rfl|exact rfl);try simp only [Act.put,List.setIfInBounds_toArray,List.set_cons_zero,List.set_cons_succ]));(refine' rc ?_ (by exact rfl) (by exact rfl) (by go_simp;first|done|(constructor<;>with_reducible rfl)|with_reducible rfl) (by exact H3.out w');try simp only [Act.put,List.setIfInBounds_toArray,List.set_cons_zero,List.set_cons_succ]);(iterate 2 (refine' rv ?_ rfl rfl (by go_simp;first|done|with_reducible rfl|exact rfl);try simp only [Act.put,List.setIfInBounds_toArray,List.set_cons_zero,List.set_cons_succ]));(refine' rc ?_ (by exact rfl) (by exact rfl) (by go_simp;first|done|(constructor<;>with_reducible rfl)|with_reducible rfl) (by exact rmark_any w');try simp only [Act.put,List.setIfInBounds_toArray,List.set_cons_zero,List.set_cons_succ]);(iterate 4 (refine' rv ?_ rfl rfl (by go_simp;first|done|with_reducible rfl|exact rfl);try simp only [Act.put,List.setIfInBounds_toArray,List.set_cons_zero,List.set_cons_succ]));(refine' rc ?_ (by exact rfl) (by exact rfl) (by go_simp;first|done|(constructor<;>with_reducible rfl)|with_reducible rfl) (by exact H1.out w');try simp only [Act.put,List.setIfInBounds_toArray,List.set_cons_zero,List.set_cons_succ]);(iterate 2 (refine' rv ?_ rfl rfl (by go_simp;first|done|with_reducible rfl|exact rfl);try simp only [Act.put,List.setIfInBounds_toArray,List.set_cons_zero,List.set_cons_succ]));(refine' rc ?_ (by exact rfl) (by exact rfl) (by go_simp;first|done|(constructor<;>with_reducible rfl)|with_reducible rfl) (by exact rmark_any w');try simp only [Act.put,List.setIfInBounds_toArray,List.set_cons_zero,List.set_cons_succ]);(refine' rv ?_ rfl rfl (by go_simp;first|done|with_reducible rfl|exact rfl);try simp only [Act.put,List.setIfInBounds_toArray,List.set_cons_zero,List.set_cons_succ]);(exact rn))))
 refine ⟨rfl,sure_row (fun w' _=>by go_simp),?_⟩
 rintro v W2 hk2 ⟨x,rfl,hx,hxc⟩
 simp only [List.setIfInBounds_toArray,List.set_cons_zero,List.set_cons_succ,List.size_toArray,List.length_cons,List.length_nil,Nat.zero_add]
 have kc:∀w',Keep W2 w'→(convert 135 9 (.slice (some ⟨x,0,none⟩) 2 2)).run Tryz.prog w'= .ok (.string ⟨([0,0]:List UInt8).toArray⟩) w':=fun w' hk'=>by
  have hbc':=kpi hk' hxc
  exact run_convert_bytes_back (P:=Tryz.prog) w' 135 9 5 ⟨x,0,none⟩ 2 [0,0] Tryz.underlying135 Tryz.underlying5 Tryz.underlying9 (fun j hj=>by
   rw [addr_add,cell_of_row _ _ j _ _ _ hbc']
   have hj2:j<2:=hj
   rcases (by omega:j=0∨j=1) with rfl|rfl
   ·rfl
   ·rfl)
 have KC:=Lib.hid kc
 clear kc
 (refine pl_value (v:=?_) rfl rfl ?_ ?_;rotate_left 1;(focus (intro w' hk;have kc':=KC.out w' hk;go_simp;(first|done|with_reducible rfl|exact rfl)));(try simp only [Act.put,List.setIfInBounds_toArray,List.set_cons_zero,List.set_cons_succ]))
 (refine pl_value (v:=?_) rfl rfl ?_ ?_;rotate_left 1;(focus (intro w' hk;go_simp;(first|done|with_reducible rfl|exact rfl)));(try simp only [Act.put,List.setIfInBounds_toArray,List.set_cons_zero,List.set_cons_succ]))
 refine pl_nil ?_
 intro w3 hk3 _
 simp only [List.drop_succ_cons,List.drop_zero]
 have hB:=(hk2.trans hk3).whole
 have hC:=han w3 (.cells (opsCells ([]++(Dw.killOp b::Dw.freshTail b g q d))).toArray 286)
 have hB2:=hB.alloc hB.size (.cells (opsCells ([]++(Dw.killOp b::Dw.freshTail b g q d))).toArray 286)
 have HR:=Lib.hid (fun cap=>rops_of_cells (m:= []) (l:=Dw.killOp b::Dw.freshTail b g q d) (cap:=cap) hC)
 have HB:=Lib.hid hB2
 clear hC hB2 hB hk2 hk3 hxc KC
 go_wp2_with fail
 go_ret
 exact ⟨⟨_,rfl,HR.out _⟩,HB.out⟩
theorem rfreshF (b g q d:Nat) (hg:g<18446744073709551616) (hq:q<18446744073709551616) (hd:d<18446744073709551616) (w:World):
  Calls Tryz.prog 209 #[.int .i64 b, .bool false, .int .u64 g, .int .u64 q, .int .u64 d] w fun e w'=>(∃v,e= .returned v∧ROps w' v (Dw.freshOps b false g q d))∧Below w.heap.size w w':=by
 have H3:=Lib.hid (fun w=>rbody_any 3 q d (by decide) hq hd w)
 have H1:=Lib.hid (fun w=>rbody_any 1 g 0 (by decide) hg (by decide) w)
 clear hg hq hd
 go_enter Tryz.func209,Tryz.ntmps209
 go_wp2_with fail
 refine wp_letterM [0,4,5,6,7,8,9,10,11,12,13,14,15,16,17,18,19,20,21,22] 1 [2,3] 23 (some 13) (NewRow w #[.int .u8 0, .int .u8 0] 5) rfl rfl (by kernel_rfl) (by kernel_rfl) (by kernel_rfl) rfl (fun v A B h hk=>h.keep hk) ?_
 (apply rat;(focus (intro w' hk;(iterate 7 (refine' rv ?_ rfl rfl (by go_simp;first|done|with_reducible rfl|exact rfl);try simp only [Act.put,List.setIfInBounds_toArray,List.set_cons_zero,List.set_cons_succ]));(refine' rc ?_ (by exact rfl) (by exact rfl) (by go_simp;first|done|(constructor<;>with_reducible rfl)|with_reducible rfl) (by exact H3.out w');try simp only [Act.put,List.setIfInBounds_toArray,List.set_cons_zero,List.set_cons_succ]);(iterate 2 (refine' rv ?_ rfl rfl (by go_simp;first|done|with_reducible rfl|exact rfl);try simp only [Act.put,List.setIfInBounds_toArray,List.set_cons_zero,List.set_cons_succ]));(refine' rc ?_ (by exact rfl) (by exact rfl) (by go_simp;first|done|(constructor<;>with_reducible rfl)|with_reducible rfl) (by exact rmark_any w');try simp only [Act.put,List.setIfInBounds_toArray,List.set_cons_zero,List.set_cons_succ]);(iterate 4 (refine' rv ?_ rfl rfl (by go_simp;first|done|with_reducible rfl|exact rfl);try simp only [Act.put,List.setIfInBounds_toArray,List.set_cons_zero,List.set_cons_succ]));(refine' rc ?_ (by exact rfl) (by exact rfl) (by go_simp;first|done|(constructor<;>with_reducible rfl)|with_reducible rfl) (by exact H1.out w');try simp only [Act.put,List.setIfInBounds_toArray,List.set_cons_zero,List.set_cons_succ]);(iterate 2 (refine' rv ?_ rfl rfl (by go_simp;first|done|with_reducible rfl|exact rfl);try simp only [Act.put,List.setIfInBounds_toArray,List.set_cons_zero,List.set_cons_succ]));(refine' rc ?_ (by exact rfl) (by exact rfl) (by go_simp;first|done|(constructor<;>with_reducible rfl)|with_reducible rfl) (by exact rmark_any w');try simp only [Act.put,List.setIfInBounds_toArray,List.set_cons_zero,List.set_cons_succ]);(refine' rv ?_ rfl rfl (by go_simp;first|done|with_reducible rfl|exact rfl);try simp only [Act.put,List.setIfInBounds_toArray,List.set_cons_zero,List.set_cons_succ]);(exact rn))))
 refine ⟨rfl,sure_row (fun w' _=>by go_simp),?_⟩
 rintro v W2 hk2 ⟨x,rfl,hx,hxc⟩
 simp only [List.setIfInBounds_toArray,List.set_cons_zero,List.set_cons_succ,List.size_toArray,List.length_cons,List.length_nil,Nat.zero_add]
 have kc:∀w',Keep W2 w'→(convert 135 9 (.slice (some ⟨x,0,none⟩) 2 2)).run Tryz.prog w'= .ok (.string ⟨([0,0]:List UInt8).toArray⟩) w':=fun w' hk'=>by
  have hbc':=kpi hk' hxc
  exact run_convert_bytes_back (P:=Tryz.prog) w' 135 9 5 ⟨x,0,none⟩ 2 [0,0] Tryz.underlying135 Tryz.underlying5 Tryz.underlying9 (fun j hj=>by
   rw [addr_add,cell_of_row _ _ j _ _ _ hbc']
   have hj2:j<2:=hj
   rcases (by omega:j=0∨j=1) with rfl|rfl
   ·rfl
   ·rfl)
 have KC:=Lib.hid kc
 clear kc
 (refine pl_value (v:=?_) rfl rfl ?_ ?_;rotate_left 1;(focus (intro w' hk;have kc':=KC.out w' hk;go_simp;(first|done|with_reducible rfl|exact rfl)));(try simp only [Act.put,List.setIfInBounds_toArray,List.set_cons_zero,List.set_cons_succ]))
 (refine pl_value (v:=?_) rfl rfl ?_ ?_;rotate_left 1;(focus (intro w' hk;go_simp;(first|done|with_reducible rfl|exact rfl)));(try simp only [Act.put,List.setIfInBounds_toArray,List.set_cons_zero,List.set_cons_succ]))
 refine pl_nil ?_
 intro w3 hk3 _
 simp only [List.drop_succ_cons,List.drop_zero]
 have hB:=(hk2.trans hk3).whole
 have hC:=han w3 (.cells (opsCells ([Dw.killOp b]++(Dw.freshTail b g q d))).toArray 286)
 have hB2:=hB.alloc hB.size (.cells (opsCells ([Dw.killOp b]++(Dw.freshTail b g q d))).toArray 286)
 have HR:=Lib.hid (fun cap=>rops_of_cells (m:= [Dw.killOp b]) (l:=Dw.freshTail b g q d) (cap:=cap) hC)
 have HB:=Lib.hid hB2
 clear hC hB2 hB hk2 hk3 hxc KC
 go_wp2_with fail
 go_ret
 exact ⟨⟨_,rfl,HR.out _⟩,HB.out⟩
theorem rfresh11_any (b g q d:Nat) (kill:Bool) (hg:g<18446744073709551616) (hq:q<18446744073709551616) (hd:d<18446744073709551616) (w:World):
  Calls Tryz.prog 209 #[.int .i64 b, .bool kill, .int .u64 g, .int .u64 q, .int .u64 d] w fun e w'=>(∃v,e= .returned v∧ROps w' v (Dw.freshOps b kill g q d))∧Below w.heap.size w w':=by
 cases kill
 ·exact rfreshF b g q d hg hq hd w
 ·exact rfreshT b g q d hg hq hd w
theorem rfreshPA (f:Dw.Fl) (hl:(f.a).length≤400) (g q d:Nat) (hg:g<18446744073709551616) (hq:q<18446744073709551616) (hd:d<18446744073709551616) (w:World):
  Calls Tryz.prog 185 #[flV f, .int .i64 0, .int .u64 g, .int .u64 q, .int .u64 d] w fun e w'=>(∃v,e= .returned v∧ROps w' v (Dw.freshF f 0 g q d))∧Below w.heap.size w w':=by
 have HS:=Lib.hid (fun w=>rstate_any (f.a) hl 0 0 rfl (by decide) w)
 have HF:=Lib.hid (fun kill w=>rfresh11_any 0 g q d kill hg hq hd w)
 have HE:=Lib.hid (show Dw.freshF f 0 g q d=Dw.freshOps 0 (decide (Dw.state (f.a) 0=2)) g q d from rfl)
 have hB:=(Below.refl w.heap.size w).alloc (Nat.le_refl _) (.cells (flashC f.a f.b f.e0 f.e1 f.li) 66)
 have hF:=han w (.cells (flashC f.a f.b f.e0 f.e1 f.li) 66)
 obtain ⟨c0,c1,c2,c3,c4⟩:=cells5 hF
 clear hg hq hd
 generalize Dw.state (f.a) 0=st at*
 go_enter Tryz.func185,Tryz.ntmps185
 go_wp2_with fail
 refine cb (HS.out _) fun w1 hb=>?_
 replace hB:=tr hB hb
 clear hb
 clear c0 c1 c2 c3 c4 hF
 have hk:((st:Int)==2)=decide (st=2):=by rw [Bool.eq_iff_iff,beq_iff_eq,decide_eq_true_iff];omega
 generalize decide (st=2)=kill at*
 go_wp2_with fail
 refine (HF.out kill _).mono ?_
 rintro e w2 ⟨⟨v,rfl,hv⟩,hb⟩
 replace hB:=tr hB hb
 clear hb hk
 go_wp2_with fail
 go_ret
 exact ⟨⟨_,rfl,by rw [HE.out];exact hv⟩,hB⟩
theorem rfreshPB (f:Dw.Fl) (hl:(f.b).length≤400) (g q d:Nat) (hg:g<18446744073709551616) (hq:q<18446744073709551616) (hd:d<18446744073709551616) (w:World):
  Calls Tryz.prog 185 #[flV f, .int .i64 1, .int .u64 g, .int .u64 q, .int .u64 d] w fun e w'=>(∃v,e= .returned v∧ROps w' v (Dw.freshF f 1 g q d))∧Below w.heap.size w w':=by
 have HS:=Lib.hid (fun w=>rstate_any (f.b) hl 0 0 rfl (by decide) w)
 have HF:=Lib.hid (fun kill w=>rfresh11_any 1 g q d kill hg hq hd w)
 have HE:=Lib.hid (show Dw.freshF f 1 g q d=Dw.freshOps 1 (decide (Dw.state (f.b) 0=2)) g q d from rfl)
 have hB:=(Below.refl w.heap.size w).alloc (Nat.le_refl _) (.cells (flashC f.a f.b f.e0 f.e1 f.li) 66)
 have hF:=han w (.cells (flashC f.a f.b f.e0 f.e1 f.li) 66)
 obtain ⟨c0,c1,c2,c3,c4⟩:=cells5 hF
 clear hg hq hd
 generalize Dw.state (f.b) 0=st at*
 go_enter Tryz.func185,Tryz.ntmps185
 go_wp2_with fail
 refine cb (HS.out _) fun w1 hb=>?_
 replace hB:=tr hB hb
 clear hb
 clear c0 c1 c2 c3 c4 hF
 have hk:((st:Int)==2)=decide (st=2):=by rw [Bool.eq_iff_iff,beq_iff_eq,decide_eq_true_iff];omega
 generalize decide (st=2)=kill at*
 go_wp2_with fail
 refine (HF.out kill _).mono ?_
 rintro e w2 ⟨⟨v,rfl,hv⟩,hb⟩
 replace hB:=tr hB hb
 clear hb hk
 go_wp2_with fail
 go_ret
 exact ⟨⟨_,rfl,by rw [HE.out];exact hv⟩,hB⟩
theorem rfreshP_any (f:Dw.Fl) (hf:Dw.FlOk f) (k:Nat) (hk:k<2) (g q d:Nat) (hg:g<18446744073709551616) (hq:q<18446744073709551616) (hd:d<18446744073709551616) (w:World):
  Calls Tryz.prog 185 #[flV f, .int .i64 k, .int .u64 g, .int .u64 q, .int .u64 d] w fun e w'=>(∃v,e= .returned v∧ROps w' v (Dw.freshF f k g q d))∧Below w.heap.size w w':=by
 rcases (by omega:k=0∨k=1) with rfl|rfl
 ·exact rfreshPA f hf.a g q d hg hq hd w
 ·exact rfreshPB f hf.b g q d hg hq hd w
theorem rnext_any (s:List UInt8) (hs:s.length≤400) (w:World):
  Calls Tryz.prog 186 #[.string ⟨s.toArray⟩] w fun e w'=>e= .returned (.int .i64 ((Dw.next s:Nat):Int))∧Below w.heap.size w w':=by
 have hle:=Dw.slots_le s.length
 have HIS:=Lib.hid (fun n j=> @Dw.next_is s n j)
 have HZ:=Lib.hid (fun n=> @Dw.next_zero s n)
 have HZ0:=Lib.hid (show Dw.slots s.length=0→Dw.next s=0 from fun h=>by unfold Dw.next Dw.tz Dw.states;rw [h];rfl)
 have HSL:=Lib.hid (fun w=>rslots_any s.length w)
 have HST:=Lib.hid (fun (i:Nat) hi w=>rstate_any s hs (i:Int) i rfl hi w)
 generalize hn:Dw.slots s.length=n at*
 have Hn:=Lib.hid hn;clear hn
 have hB:=Below.refl w.heap.size w
 go_enter Tryz.func186,Tryz.ntmps186
 go_wp2_with fail
 refine cb (HSL.out _) fun w1 hb=>?_
 replace hB:=tr hB hb
 clear hb
 go_wp2_with fail
 go_loopw [4,5] (fun x i wr=>∃k j:Nat,k≤n∧i= .int .i64 ((k+1:Nat):Int)∧x= .int .i64 j∧1≤j∧j≤k+1∧(∀t,j≤t→t≤k→Dw.state s t=0)∧(j=1∨Dw.state s (j-1)≠0)∧Below w.heap.size w wr) (fun _ i _=>n+1-(intOf i).toNat)
 case atStart=>exact ⟨0,1,Nat.zero_le _,rfl,rfl,Nat.le_refl _,Nat.le_refl _,fun t h1 h2=>absurd h1 (by omega), .inl rfl,hB⟩
 case round=>
  clear hB
  obtain ⟨k,j,hk,rfl,rfl,hj1,hjk,hz,hp,hB⟩:=hrel
  have HZZ:=Lib.hid hz;have HP:=Lib.hid hp
  clear hz hp
  by_cases hlt:k<n
  ·have h1:((k+1:Nat):Int)≤(n:Int):=by omega
   have h1':(k:Int)+1≤(n:Int):=by omega
   go_wp2_with fail
   refine cb (HST.out (k+1) (by omega) _) fun w2 hb=>?_
   replace hB:=tr hB hb
   clear hb
   generalize hst:Dw.state s (k+1)=st at*
   have HST1:=Lib.hid hst;clear hst
   by_cases h0:st=0
   ·subst h0
    go_wp2_with fail
    go_roundw
    case rel=>exact ⟨k+1,j,hlt,by go_num,rfl,hj1,by omega,fun t ht1 ht2=>by
     by_cases e:t=k+1
     ·rw [e,HST1.out]
     ·exact HZZ.out t ht1 (by omega),HP.out,hB⟩
    case measure=>simp [intOf];omega
   ·have h0':((st:Int)==0)=false:=by rw [beq_eq_false_iff_ne];omega
    go_wp2_with fail
    go_roundw
    case rel=>exact ⟨k+1,k+2,hlt,by go_num,by go_num,by omega,by omega,fun t ht1 ht2=>absurd ht1 (by omega), .inr (by rw [show k+2-1=k+1 from rfl,HST1.out];exact h0),hB⟩
    case measure=>simp [intOf];omega
  ·obtain rfl:k=n:=by omega
   have h1:¬((k+1:Nat):Int)≤(k:Int):=by omega
   have h1':¬(k:Int)+1≤(k:Int):=by omega
   by_cases hj:k<j
   ·have h2:(k:Int)<(j:Int):=by omega
    have hfin:Dw.next s=0:=by
     rcases Nat.eq_zero_or_pos k with e|e
     ·exact HZ0.out e
     ·refine HZ.out k rfl e ?_
      rcases HP.out with h|h
      ·omega
      ·rwa [show j-1=k by omega] at h
    have HF:=Lib.hid hfin
    clear hfin
    go_wp2_with fail
    go_ret
    exact ⟨by rw [HF.out];rfl,hB⟩
   ·have h2:¬(k:Int)<(j:Int):=by omega
    have HF:=Lib.hid (HIS.out k j rfl hj1 (by omega) HZZ.out HP.out)
    go_wp2_with fail
    go_ret
    exact ⟨by rw [HF.out];rfl,hB⟩
theorem rbank_walk (f:Dw.Fl) (sa sb:Bool) (ga gb:Nat) (ea eb:Int) (r:Int) (hr:r=(if sa=true∧sb=true∧ga<gb then 1 else if sa=true then 0 else if sb=true then 1 else-1)) (w:World)
  (h1:∀w,Calls Tryz.prog 159 #[.string ⟨f.a.toArray⟩] w fun e w'=>e= .returned (.bool sa)∧Below w.heap.size w w')
  (h2:∀w,Calls Tryz.prog 159 #[.string ⟨f.b.toArray⟩] w fun e w'=>e= .returned (.bool sb)∧Below w.heap.size w w')
  (h3:∀w,Calls Tryz.prog 126 #[.string ⟨f.a.toArray⟩] w fun e w'=>e= .returned (.tuple #[.int .u64 (ga:Int), .int .i64 ea])∧Below w.heap.size w w')
  (h4:∀w,Calls Tryz.prog 126 #[.string ⟨f.b.toArray⟩] w fun e w'=>e= .returned (.tuple #[.int .u64 (gb:Int), .int .i64 eb])∧Below w.heap.size w w'):
  Calls Tryz.prog 125 #[flV f] w fun e w'=>e= .returned (.int .i64 r)∧Below w.heap.size w w':=by
 have H1:=Lib.hid h1;have H2:=Lib.hid h2;have H3:=Lib.hid h3;have H4:=Lib.hid h4;have HR:=Lib.hid hr
 clear h1 h2 h3 h4 hr
 have hB:=(Below.refl w.heap.size w).alloc (Nat.le_refl _) (.cells (flashC f.a f.b f.e0 f.e1 f.li) 66)
 have hF:=han w (.cells (flashC f.a f.b f.e0 f.e1 f.li) 66)
 obtain ⟨c0,c1,c2,c3,c4⟩:=cells5 hF
 go_enter Tryz.func125,Tryz.ntmps125
 go_wp2_with fail
 refine cb (H1.out _) fun w1 hb=>?_
 replace hF:=kp hb hF
 replace hB:=tr hB hb
 clear hb
 clear c0 c1 c2 c3 c4
 obtain ⟨c0,c1,c2,c3,c4⟩:=cells5 hF
 go_wp2_with fail
 refine cb (H2.out _) fun w2 hb=>?_
 replace hF:=kp hb hF
 replace hB:=tr hB hb
 clear hb
 clear c0 c1 c2 c3 c4
 obtain ⟨c0,c1,c2,c3,c4⟩:=cells5 hF
 go_wp2_with fail
 refine cb (H3.out _) fun w3 hb=>?_
 replace hF:=kp hb hF
 replace hB:=tr hB hb
 clear hb
 clear c0 c1 c2 c3 c4
 obtain ⟨c0,c1,c2,c3,c4⟩:=cells5 hF
 go_wp2_with fail
 refine cb (H4.out _) fun w4 hb=>?_
 replace hF:=kp hb hF
 replace hB:=tr hB hb
 clear hb
 clear c0 c1 c2 c3 c4 hF
 by_cases hg:ga<gb
 ·have hg':(ga:Int)<(gb:Int):=by omega
  cases sa<;>cases sb<;>(go_wp2_with fail;go_ret;exact ⟨by rw [HR.out];simp [hg],hB⟩)
 ·have hg':¬(ga:Int)<(gb:Int):=by omega
  cases sa<;>cases sb<;>(go_wp2_with fail;go_ret;exact ⟨by rw [HR.out];simp [hg],hB⟩)
theorem rbank10_any (f:Dw.Fl) (ha:f.a.length≤400) (hb:f.b.length≤400) (w:World):
  Calls Tryz.prog 125 #[flV f] w fun e w'=>e= .returned (.int .i64 (Dw.best f.a f.b).bank)∧Below w.heap.size w w':=by
 refine cb (rbank_walk f _ _ _ _ _ _ _ rfl w (fun w=>rsound_any f.a ha w) (fun w=>rsound_any f.b hb w) (fun w=>rgen_any f.a ha w) (fun w=>rgen_any f.b hb w)) fun w1 hb1=>?_
 refine ⟨ret_int ?_,hb1⟩
 rcases Dw.bank_five f.a f.b with ⟨h1,h2,h3⟩|⟨h1,h2,h3⟩|⟨h1,h2,h3,h4⟩|⟨h1,h2,h3⟩|⟨h1,h2,h3,h4⟩<;>rw [h1,h2,h3]
 ·simp
 ·simp
 ·rw [if_neg (by omega),if_pos rfl]
 ·simp
 ·rw [if_pos ⟨rfl,rfl,h4⟩]
theorem rreadA (f:Dw.Fl) (g q d k:Nat) (ea el:Int) (w:World)
  (h1:∀w,Calls Tryz.prog 125 #[flV f] w fun e w'=>e= .returned (.int .i64 0)∧Below w.heap.size w w')
  (h2:∀w,Calls Tryz.prog 126 #[.string ⟨(f.a).toArray⟩] w fun e w'=>e= .returned (.tuple #[.int .u64 (g:Int), .int .i64 ea])∧Below w.heap.size w w')
  (h3:∀w,Calls Tryz.prog 127 #[.string ⟨(f.a).toArray⟩] w fun e w'=>e= .returned (.tuple #[.agg #[.int .i64 k, .int .u64 q, .int .u64 d], .int .i64 el])∧Below w.heap.size w w'):
  Calls Tryz.prog 90 #[flV f] w fun e w'=>e= .returned (.tuple #[.agg #[.int .i64 0, .int .u64 g, .int .u64 q, .int .u64 d], .int .i64 0])∧Below w.heap.size w w':=by
 have H1:=Lib.hid h1;have H2:=Lib.hid h2;have H3:=Lib.hid h3
 clear h1 h2 h3
 have hB:=((Below.refl w.heap.size w).alloc (Nat.le_refl _) (.cells (flashC f.a f.b f.e0 f.e1 f.li) 66)).alloc (by simp) (.cells #[.int .i64 0, .int .u64 0, .int .u64 0, .int .u64 0] 165)
 have hF:=heap_alloc2_old w (.cells (flashC f.a f.b f.e0 f.e1 f.li) 66) (.cells #[.int .i64 0, .int .u64 0, .int .u64 0, .int .u64 0] 165)
 have hS:=heap_alloc2_new w (.cells (flashC f.a f.b f.e0 f.e1 f.li) 66) (.cells #[.int .i64 0, .int .u64 0, .int .u64 0, .int .u64 0] 165)
 obtain ⟨c0,c1,c2,c3,c4⟩:=cells5 hF
 go_enter Tryz.func90,Tryz.ntmps90
 go_wp2_with fail
 refine cb (H1.out _) fun w1 hb=>?_
 replace hF:=kp hb hF
 replace hS:=kp hb hS
 replace hB:=tr hB hb
 clear hb
 clear c0 c1 c2 c3 c4
 obtain ⟨c0,c1,c2,c3,c4⟩:=cells5 hF
 go_wp2_with fail
 refine cb (H2.out _) fun w2 hb=>?_
 replace hF:=kp hb hF
 replace hS:=kp hb hS
 replace hB:=tr hB hb
 clear hb
 clear c0 c1 c2 c3 c4
 obtain ⟨c0,c1,c2,c3,c4⟩:=cells5 hF
 go_wp2_with fail
 refine cb (H3.out _) fun w3 hb=>?_
 replace hF:=kp hb hF
 replace hS:=kp hb hS
 replace hB:=tr hB hb
 clear hb
 clear c0 c1 c2 c3 c4 hF
 have hS2:=hao w3 (.cells #[.int .i64 k, .int .u64 q, .int .u64 d] 218) hS
 have hB2:=hB.alloc hB.size (.cells #[.int .i64 k, .int .u64 q, .int .u64 d] 218)
 have HS:=Lib.hid hS2;have HB:=Lib.hid hB2
 clear hS hS2 hB hB2
 go_wp2_with (first|(refine sb HS.out rfl rfl rfl rfl (by kernel_rfl) ?_))
 refine bodyPost_ret (rct rfl (srh HS.out) (by rfl) (by kernel_rfl)) rfl ⟨?_,below_setRow HB.out (by omega) _⟩
 rfl
theorem rreadB (f:Dw.Fl) (g q d k:Nat) (ea el:Int) (w:World)
  (h1:∀w,Calls Tryz.prog 125 #[flV f] w fun e w'=>e= .returned (.int .i64 1)∧Below w.heap.size w w')
  (h2:∀w,Calls Tryz.prog 126 #[.string ⟨(f.b).toArray⟩] w fun e w'=>e= .returned (.tuple #[.int .u64 (g:Int), .int .i64 ea])∧Below w.heap.size w w')
  (h3:∀w,Calls Tryz.prog 127 #[.string ⟨(f.b).toArray⟩] w fun e w'=>e= .returned (.tuple #[.agg #[.int .i64 k, .int .u64 q, .int .u64 d], .int .i64 el])∧Below w.heap.size w w'):
  Calls Tryz.prog 90 #[flV f] w fun e w'=>e= .returned (.tuple #[.agg #[.int .i64 1, .int .u64 g, .int .u64 q, .int .u64 d], .int .i64 0])∧Below w.heap.size w w':=by
 have H1:=Lib.hid h1;have H2:=Lib.hid h2;have H3:=Lib.hid h3
 clear h1 h2 h3
 have hB:=((Below.refl w.heap.size w).alloc (Nat.le_refl _) (.cells (flashC f.a f.b f.e0 f.e1 f.li) 66)).alloc (by simp) (.cells #[.int .i64 0, .int .u64 0, .int .u64 0, .int .u64 0] 165)
 have hF:=heap_alloc2_old w (.cells (flashC f.a f.b f.e0 f.e1 f.li) 66) (.cells #[.int .i64 0, .int .u64 0, .int .u64 0, .int .u64 0] 165)
 have hS:=heap_alloc2_new w (.cells (flashC f.a f.b f.e0 f.e1 f.li) 66) (.cells #[.int .i64 0, .int .u64 0, .int .u64 0, .int .u64 0] 165)
 obtain ⟨c0,c1,c2,c3,c4⟩:=cells5 hF
 go_enter Tryz.func90,Tryz.ntmps90
 go_wp2_with fail
 refine cb (H1.out _) fun w1 hb=>?_
 replace hF:=kp hb hF
 replace hS:=kp hb hS
 replace hB:=tr hB hb
 clear hb
 clear c0 c1 c2 c3 c4
 obtain ⟨c0,c1,c2,c3,c4⟩:=cells5 hF
 go_wp2_with fail
 refine cb (H2.out _) fun w2 hb=>?_
 replace hF:=kp hb hF
 replace hS:=kp hb hS
 replace hB:=tr hB hb
 clear hb
 clear c0 c1 c2 c3 c4
 obtain ⟨c0,c1,c2,c3,c4⟩:=cells5 hF
 go_wp2_with fail
 refine cb (H3.out _) fun w3 hb=>?_
 replace hF:=kp hb hF
 replace hS:=kp hb hS
 replace hB:=tr hB hb
 clear hb
 clear c0 c1 c2 c3 c4 hF
 have hS2:=hao w3 (.cells #[.int .i64 k, .int .u64 q, .int .u64 d] 218) hS
 have hB2:=hB.alloc hB.size (.cells #[.int .i64 k, .int .u64 q, .int .u64 d] 218)
 have HS:=Lib.hid hS2;have HB:=Lib.hid hB2
 clear hS hS2 hB hB2
 go_wp2_with (first|(refine sb HS.out rfl rfl rfl rfl (by kernel_rfl) ?_))
 refine bodyPost_ret (rct rfl (srh HS.out) (by rfl) (by kernel_rfl)) rfl ⟨?_,below_setRow HB.out (by omega) _⟩
 rfl
theorem rreadN (f:Dw.Fl) (w:World)
  (h1:∀w,Calls Tryz.prog 125 #[flV f] w fun e w'=>e= .returned (.int .i64 (-1))∧Below w.heap.size w w'):
  Calls Tryz.prog 90 #[flV f] w fun e w'=>e= .returned (.tuple #[.agg #[.int .i64 0, .int .u64 0, .int .u64 0, .int .u64 0], .int .i64 10])∧Below w.heap.size w w':=by
 have H1:=Lib.hid h1
 clear h1
 have hB:=((Below.refl w.heap.size w).alloc (Nat.le_refl _) (.cells (flashC f.a f.b f.e0 f.e1 f.li) 66)).alloc (by simp) (.cells #[.int .i64 0, .int .u64 0, .int .u64 0, .int .u64 0] 165)
 have hF:=heap_alloc2_old w (.cells (flashC f.a f.b f.e0 f.e1 f.li) 66) (.cells #[.int .i64 0, .int .u64 0, .int .u64 0, .int .u64 0] 165)
 have hS:=heap_alloc2_new w (.cells (flashC f.a f.b f.e0 f.e1 f.li) 66) (.cells #[.int .i64 0, .int .u64 0, .int .u64 0, .int .u64 0] 165)
 obtain ⟨c0,c1,c2,c3,c4⟩:=cells5 hF
 go_enter Tryz.func90,Tryz.ntmps90
 go_wp2_with fail
 refine cb (H1.out _) fun w1 hb=>?_
 replace hF:=kp hb hF
 replace hS:=kp hb hS
 replace hB:=tr hB hb
 clear hb
 clear c0 c1 c2 c3 c4 hF
 have HS:=Lib.hid hS;have HB:=Lib.hid hB
 clear hS hB
 go_wp2_with (first|(refine sb HS.out rfl rfl rfl rfl (by kernel_rfl) ?_))
 refine bodyPost_ret (rct rfl (srh HS.out) (by rfl) (by kernel_rfl)) rfl ⟨?_,below_setRow HB.out (by omega) _⟩
 rfl
theorem rread_any (f:Dw.Fl) (ha:f.a.length≤400) (hb:f.b.length≤400) (w:World):
  Calls Tryz.prog 90 #[flV f] w fun e w'=>e= .returned (.tuple #[psV (Dw.readS f.a f.b), .int .i64 (Dw.readE f.a f.b)])∧Below w.heap.size w w':=by
 have hbk:=fun w=>rbank10_any f ha hb w
 rcases Dw.bank_five f.a f.b with ⟨h1,h2,h3⟩|⟨h1,h2,h3⟩|⟨h1,h2,h3,h4⟩|⟨h1,h2,h3⟩|⟨h1,h2,h3,h4⟩<;>rw [h1] at hbk
 ·obtain ⟨r1,r2⟩:=Dw.rdN f.a f.b h2 h3
  rw [r1,r2]
  exact rreadN f w hbk
 ·obtain ⟨r1,r2⟩:=Dw.rd0 f.a f.b h2 (.inl h3)
  rw [r1,r2]
  exact rreadA f _ _ _ _ _ _ w hbk (fun w=>rgen_any f.a ha w) (fun w=>rlast_any f.a ha w)
 ·obtain ⟨r1,r2⟩:=Dw.rd0 f.a f.b h2 (.inr h4)
  rw [r1,r2]
  exact rreadA f _ _ _ _ _ _ w hbk (fun w=>rgen_any f.a ha w) (fun w=>rlast_any f.a ha w)
 ·obtain ⟨r1,r2⟩:=Dw.rd1 f.a f.b h2 (.inl h3)
  rw [r1,r2]
  exact rreadB f _ _ _ _ _ _ w hbk (fun w=>rgen_any f.b hb w) (fun w=>rlast_any f.b hb w)
 ·obtain ⟨r1,r2⟩:=Dw.rd1 f.a f.b h2 (.inr h4)
  rw [r1,r2]
  exact rreadB f _ _ _ _ _ _ w hbk (fun w=>rgen_any f.b hb w) (fun w=>rlast_any f.b hb w)
theorem rother10_any (N:Int) (n:Nat) (hN:N=(n:Int)) (w:World):
  Calls Tryz.prog 188 #[.int .i64 N] w fun e w'=>e= .returned (.int .i64 (Dw.other n:Nat))∧Below w.heap.size w w':=by
 subst hN
 by_cases h:n=0
 ·subst h
  go_enter Tryz.func188,Tryz.ntmps188
  go_wp2_with fail
  go_ret
  exact ⟨rfl,Below.refl _ _⟩
 ·have h1:((n:Int)==0)=false:=by rw [beq_eq_false_iff_ne];omega
  have H:=Lib.hid (show Dw.other n=0 from by unfold Dw.other;rw [if_neg h])
  clear h
  go_enter Tryz.func188,Tryz.ntmps188
  go_wp2_with fail
  go_ret
  exact ⟨by rw [H.out];rfl,Below.refl _ _⟩
theorem slots_inj {m n:Nat} (h:0<Dw.slots m):Dw.slots m=Dw.slots n↔m=n:=by
 refine ⟨fun e=>?_,fun e=>by rw [e]⟩
 obtain ⟨e1,_⟩:=Dw.slots_pos h
 obtain ⟨e2,_⟩:=Dw.slots_pos (show 0<Dw.slots n by omega)
 omega
theorem reven10_any (f:Dw.Fl) (w:World):
  Calls Tryz.prog 184 #[flV f] w fun e w'=>e= .returned (.bool (Dw.even f.a f.b))∧Below w.heap.size w w':=by
 have HS:=Lib.hid (@slots_inj f.a.length f.b.length)
 have HE:=Lib.hid (show Dw.even f.a f.b=decide (0<Dw.slots f.a.length∧Dw.slots f.a.length=Dw.slots f.b.length) from rfl)
 have HR:=Lib.hid (fun w=>rslots_any f.a.length w)
 have hle:=Dw.slots_le f.a.length
 have hB:=(Below.refl w.heap.size w).alloc (Nat.le_refl _) (.cells (flashC f.a f.b f.e0 f.e1 f.li) 66)
 have hF:=han w (.cells (flashC f.a f.b f.e0 f.e1 f.li) 66)
 obtain ⟨c0,c1,c2,c3,c4⟩:=cells5 hF
 generalize Dw.slots f.a.length=n at*
 go_enter Tryz.func184,Tryz.ntmps184
 go_wp2_with fail
 refine cb (HR.out _) fun w1 hb=>?_
 replace hF:=kp hb hF
 replace hB:=tr hB hb
 clear hb
 clear c0 c1 c2 c3 c4
 obtain ⟨c0,c1,c2,c3,c4⟩:=cells5 hF
 by_cases h:0<n
 ·have h':(0:Int)<(n:Int):=by omega
  have HS2:=Lib.hid (HS.out h)
  clear HS
  by_cases he:f.a.length=f.b.length
  ·have hb:((f.a.length:Int)==(f.b.length:Int))=true:=by rw [beq_iff_eq];omega
   have HE2:=Lib.hid (And.intro h he)
   clear h he
   go_wp2_with fail
   go_ret
   exact ⟨by rw [HE.out,←HS2.out.mpr HE2.out.2];simp [HE2.out.1],hB⟩
  ·have hb:((f.a.length:Int)==(f.b.length:Int))=false:=by rw [beq_eq_false_iff_ne];omega
   have HE2:=Lib.hid (And.intro h he)
   clear h he
   go_wp2_with fail
   go_ret
   exact ⟨by rw [HE.out];simp [HS2.out,HE2.out.2],hB⟩
 ·have h':¬(0:Int)<(n:Int):=by omega
  have HN:=Lib.hid h
  clear h
  go_wp2_with fail
  go_ret
  exact ⟨by rw [HE.out];simp [HN.out],hB⟩
def RPl (w:World) (v:Value) (l:List Dw.Op):Prop:=(l= []∧v= .slice none 0 0)∨(0<l.length∧ROps w v l)
theorem rpl_fresh {w:World} {v:Value} {f:Dw.Fl} {b g q d:Nat} (h:ROps w v (Dw.freshF f b g q d)):RPl w v (Dw.freshF f b g q d):= .inr ⟨by unfold Dw.freshF;rw [Dw.fresh_len];split<;>omega,h⟩
theorem rpl_append {w:World} {v:Value} {b j q d:Nat} (h:ROps w v (Dw.appendOps b j q d)):RPl w v (Dw.appendOps b j q d):= .inr ⟨Nat.zero_lt_succ _,h⟩
theorem rplanSA (f:Dw.Fl) (hf:Dw.FlOk f) (d:Nat) (hd:d<18446744073709551616) (g q d0:Nat) (hg:g<18446744073709551616) (hq:q<18446744073709551616) (hev:Dw.even f.a f.b=true) (r1:Dw.readS f.a f.b=⟨0,g,q,d0⟩) (r2:Dw.readE f.a f.b=0) (w:World):
  Calls Tryz.prog 164 #[flV f, .int .u64 d] w fun e w'=>(∃v,e= .returned (.tuple #[v, .int .i64 (Dw.plan f d).2])∧RPl w' v (Dw.plan f d).1)∧Below w.heap.size w w':=by
 have HP:=Lib.hid (show Dw.plan f d=if q=18446744073709551615 then ([],11) else if 0<Dw.next (f.a) then (Dw.appendOps 0 (Dw.next (f.a)) (q+1) d,0) else if g=18446744073709551615 then ([],11) else if Dw.wornB f 1=true then ([],4) else (Dw.freshF f 1 (g+1) (q+1) d,0) from by
  unfold Dw.plan
  rw [if_neg (by rw [hev];decide),if_neg (by rw [r2];decide),r1]
  rfl)
 obtain ⟨q1,hq1⟩:∃q1:Nat,q1=(q+1)%18446744073709551616:=⟨_,rfl⟩
 obtain ⟨g1,hg1⟩:∃g1:Nat,g1=(g+1)%18446744073709551616:=⟨_,rfl⟩
 have hq1l:q1<18446744073709551616:=by omega
 have hg1l:g1<18446744073709551616:=by omega
 have hw1:IntKind.u64.wrap ((q:Int)+1)=(q1:Int):=by rw [show IntKind.u64.wrap ((q:Int)+1)=((q:Int)+1)%18446744073709551616 from by simp [IntKind.wrap,IntKind.bits,IntKind.signed]];omega
 have hw2:((q:Int)+1)%18446744073709551616=(q1:Int):=by omega
 have hw3:IntKind.u64.wrap ((g:Int)+1)=(g1:Int):=by rw [show IntKind.u64.wrap ((g:Int)+1)=((g:Int)+1)%18446744073709551616 from by simp [IntKind.wrap,IntKind.bits,IntKind.signed]];omega
 have hw4:((g:Int)+1)%18446744073709551616=(g1:Int):=by omega
 have Hq1:=Lib.hid hq1;have Hg1:=Lib.hid hg1;have Hq:=Lib.hid hq;have Hg:=Lib.hid hg;have Hq1l:=Lib.hid hq1l;have Hg1l:=Lib.hid hg1l
 have HEV:=Lib.hid (fun w=>reven10_any f w)
 rw [hev] at HEV
 have HRD:=Lib.hid (fun w=>rread_any f hf.a hf.b w)
 rw [r1,r2] at HRD
 have HNX:=Lib.hid (fun w=>rnext_any (f.a) (by first|exact hf.a|exact hf.b) w)
 have HAP:=Lib.hid (fun s (hs:s≤12) w=>rappend11_any 0 s q1 d hs Hq1l.out hd w)
 have HFR:=Lib.hid (fun w=>rfreshP_any f hf 1 (by decide) g1 q1 d Hg1l.out Hq1l.out hd w)
 have hns:=Dw.next_le (f.a)
 have HWO:=Lib.hid (show Dw.wornB f 1=decide (f.li≤f.e1) from rfl)
 clear hq1 hg1 hq hg hq1l hg1l hd hev r1 r2 hf
 have hB:=(Below.refl w.heap.size w).alloc (Nat.le_refl _) (.cells (flashC f.a f.b f.e0 f.e1 f.li) 66)
 have hF:=han w (.cells (flashC f.a f.b f.e0 f.e1 f.li) 66)
 obtain ⟨c0,c1,c2,c3,c4⟩:=cells5 hF
 go_enter Tryz.func164,Tryz.ntmps164
 go_wp2_with fail
 refine cb (HEV.out _) fun w1 hb=>?_
 replace hF:=kp hb hF
 replace hB:=tr hB hb
 clear hb
 clear c0 c1 c2 c3 c4
 obtain ⟨c0,c1,c2,c3,c4⟩:=cells5 hF
 go_wp2_with fail
 refine cb (HRD.out _) fun w2 hb=>?_
 replace hF:=kp hb hF
 replace hB:=tr hB hb
 clear hb
 clear c0 c1 c2 c3 c4
 have hz2:=hB.size
 have hA:=han w2 (.cells #[.int .i64 0, .int .u64 g, .int .u64 q, .int .u64 d0] 165)
 replace hF:=hao w2 (.cells #[.int .i64 0, .int .u64 g, .int .u64 q, .int .u64 d0] 165) hF
 replace hB:=hB.alloc hB.size (.cells #[.int .i64 0, .int .u64 g, .int .u64 q, .int .u64 d0] 165)
 obtain ⟨c0,c1,c2,c3,c4⟩:=cells5 hF
 obtain ⟨a0,a1,a2,a3⟩:=cells4 hA
 have HF:=Lib.hid hF;have HA:=Lib.hid hA;have HB:=Lib.hid hB
 clear hF hA hB
 by_cases e1:q=18446744073709551615
 ·have HE:=Lib.hid (show Dw.plan f d=([],11) from by rw [HP.out,if_pos e1])
  have b1:((q:Int)==18446744073709551615)=true:=by rw [beq_iff_eq];omega
  clear e1 HP
  go_wp2_with fail
  refine bodyPost_ret (results_tmp2 rfl _ _ _) rfl ?_
  rw [HE.out]
  exact ⟨⟨_,rfl, .inl ⟨rfl,rfl⟩⟩,HB.out⟩
 ·have b1:((q:Int)==18446744073709551615)=false:=by rw [beq_eq_false_iff_ne];omega
  have hq1e:q1=q+1:=by have:=Hq1.out;have:=Hq.out;omega
  have hp2:=HP.out.trans (if_neg e1)
  rw [←hq1e] at hp2
  have HP2:=Lib.hid hp2
  clear HP e1 hq1e hp2
  go_wp2_with fail
  generalize w2.alloc _=W at*
  generalize w2.heap.size=ga at*
  refine cb (HNX.out _) fun w3 hb=>?_
  have hF:=kp hb HF.out
  have hA:=kp hb HA.out
  have hB:=HB.out.trans (hb.mono HB.out.size)
  clear hb HF HA HB c0 c1 c2 c3 c4 a0 a1 a2 a3 HNX
  generalize Dw.next (f.a)=nx at*
  obtain ⟨c0,c1,c2,c3,c4⟩:=cells5 hF
  obtain ⟨a0,a1,a2,a3⟩:=cells4 hA
  have HF:=Lib.hid hF;have HA:=Lib.hid hA;have HB:=Lib.hid hB
  clear hF hA hB
  by_cases e2:0<nx
  ·have HE:=Lib.hid (HP2.out.trans (if_pos e2))
   clear HP2
   have b2:(0:Int)<(nx:Int):=by omega
   go_wp2_with fail
   refine (HAP.out nx (by omega) _).mono ?_
   rintro e w4 ⟨⟨v,rfl,hv⟩,hb⟩
   have hB:=HB.out.trans (hb.mono HB.out.size)
   clear hb HB HF HA c0 c1 c2 c3 c4 a0 a1 a2 a3
   go_wp2_with fail
   refine bodyPost_ret (results_tmp2 rfl _ _ _) rfl ?_
   rw [HE.out]
   exact ⟨⟨_,rfl,rpl_append hv⟩,hB⟩
  ·have b2:¬(0:Int)<(nx:Int):=by omega
   have HP3:=Lib.hid (HP2.out.trans (if_neg e2))
   clear e2 HP2
   go_wp2_with fail
   refine cb (rother10_any _ 0 rfl _) fun w4 hb=>?_
   rw [show Dw.other 0=1 from rfl]
   have hF:=kp hb HF.out
   have hA:=kp hb HA.out
   have hB:=HB.out.trans (hb.mono HB.out.size)
   clear hb HF HA HB c0 c1 c2 c3 c4 a0 a1 a2 a3
   obtain ⟨c0,c1,c2,c3,c4⟩:=cells5 hF
   obtain ⟨a0,a1,a2,a3⟩:=cells4 hA
   have HF:=Lib.hid hF;have HA:=Lib.hid hA;have HB:=Lib.hid hB
   clear hF hA hB
   by_cases e3:g=18446744073709551615
   ·have b3:((g:Int)==18446744073709551615)=true:=by rw [beq_iff_eq];omega
    have HE:=Lib.hid (HP3.out.trans (if_pos e3))
    clear e3 HP3
    go_wp2_with fail
    refine bodyPost_ret (results_tmp2 rfl _ _ _) rfl ?_
    rw [HE.out]
    exact ⟨⟨_,rfl, .inl ⟨rfl,rfl⟩⟩,HB.out⟩
   ·have b3:((g:Int)==18446744073709551615)=false:=by rw [beq_eq_false_iff_ne];omega
    have hg1e:g1=g+1:=by have:=Hg1.out;have:=Hg.out;omega
    have hp4:=HP3.out.trans (if_neg e3)
    rw [←hg1e,HWO.out] at hp4
    have HP4:=Lib.hid hp4
    clear e3 hg1e HP3 hp4 HWO
    generalize hfr:Dw.freshF f 1 g1 q1 d=fr at*
    have Hfr:=Lib.hid hfr
    clear hfr
    go_wp2_with fail
    refine wp_pure [0,1,2,3,4,5,6] 7 (by kernel_rfl) (by kernel_rfl) rfl ?_
    (apply rat;(focus (intro w' hk;obtain ⟨k3,k4⟩:=look2 hk c3 c4;repeat' (first|exact rn|((first|refine' rv ?_ rfl rfl (by go_simp;first|done|with_reducible rfl|exact rfl)|refine' rs ?_ rfl rfl);try simp only [Act.put,List.setIfInBounds_toArray,List.set_cons_zero,List.set_cons_succ])))))
    intro w5 hk5
    simp only [List.drop_succ_cons,List.drop_zero]
    have hF:=kpi hk5 HF.out
    have hA:=kpi hk5 HA.out
    have hB:=HB.out.trans (hk5.whole.mono HB.out.size)
    clear hk5 HF HA HB c0 c1 c2 c3 c4 a0 a1 a2 a3
    obtain ⟨c0,c1,c2,c3,c4⟩:=cells5 hF
    obtain ⟨a0,a1,a2,a3⟩:=cells4 hA
    have HF:=Lib.hid hF;have HA:=Lib.hid hA;have HB:=Lib.hid hB
    clear hF hA hB
    by_cases hwo:f.li≤f.e1
    ·have HE:=Lib.hid (HP4.out.trans (if_pos (decide_eq_true hwo)))
     clear HP4
     go_wp2_with fail
     refine bodyPost_ret (results_tmp2 rfl _ _ _) rfl ?_
     rw [HE.out]
     exact ⟨⟨_,rfl, .inl ⟨rfl,rfl⟩⟩,HB.out⟩
    ·have HE:=Lib.hid (HP4.out.trans (if_neg (by rw [decide_eq_false hwo];decide)))
     clear HP4
     go_wp2_with fail
     refine (HFR.out _).mono ?_
     rintro e w6 ⟨⟨v,rfl,hv⟩,hb⟩
     have hB:=HB.out.trans (hb.mono HB.out.size)
     clear hb HB HF HA c0 c1 c2 c3 c4 a0 a1 a2 a3
     go_wp2_with fail
     refine bodyPost_ret (results_tmp2 rfl _ _ _) rfl ?_
     rw [←Hfr.out] at hv
     rw [HE.out,←Hfr.out]
     exact ⟨⟨_,rfl,rpl_fresh hv⟩,hB⟩
theorem rplanSB (f:Dw.Fl) (hf:Dw.FlOk f) (d:Nat) (hd:d<18446744073709551616) (g q d0:Nat) (hg:g<18446744073709551616) (hq:q<18446744073709551616) (hev:Dw.even f.a f.b=true) (r1:Dw.readS f.a f.b=⟨1,g,q,d0⟩) (r2:Dw.readE f.a f.b=0) (w:World):
  Calls Tryz.prog 164 #[flV f, .int .u64 d] w fun e w'=>(∃v,e= .returned (.tuple #[v, .int .i64 (Dw.plan f d).2])∧RPl w' v (Dw.plan f d).1)∧Below w.heap.size w w':=by
 have HP:=Lib.hid (show Dw.plan f d=if q=18446744073709551615 then ([],11) else if 0<Dw.next (f.b) then (Dw.appendOps 1 (Dw.next (f.b)) (q+1) d,0) else if g=18446744073709551615 then ([],11) else if Dw.wornB f 0=true then ([],4) else (Dw.freshF f 0 (g+1) (q+1) d,0) from by
  unfold Dw.plan
  rw [if_neg (by rw [hev];decide),if_neg (by rw [r2];decide),r1]
  rfl)
 obtain ⟨q1,hq1⟩:∃q1:Nat,q1=(q+1)%18446744073709551616:=⟨_,rfl⟩
 obtain ⟨g1,hg1⟩:∃g1:Nat,g1=(g+1)%18446744073709551616:=⟨_,rfl⟩
 have hq1l:q1<18446744073709551616:=by omega
 have hg1l:g1<18446744073709551616:=by omega
 have hw1:IntKind.u64.wrap ((q:Int)+1)=(q1:Int):=by rw [show IntKind.u64.wrap ((q:Int)+1)=((q:Int)+1)%18446744073709551616 from by simp [IntKind.wrap,IntKind.bits,IntKind.signed]];omega
 have hw2:((q:Int)+1)%18446744073709551616=(q1:Int):=by omega
 have hw3:IntKind.u64.wrap ((g:Int)+1)=(g1:Int):=by rw [show IntKind.u64.wrap ((g:Int)+1)=((g:Int)+1)%18446744073709551616 from by simp [IntKind.wrap,IntKind.bits,IntKind.signed]];omega
 have hw4:((g:Int)+1)%18446744073709551616=(g1:Int):=by omega
 have Hq1:=Lib.hid hq1;have Hg1:=Lib.hid hg1;have Hq:=Lib.hid hq;have Hg:=Lib.hid hg;have Hq1l:=Lib.hid hq1l;have Hg1l:=Lib.hid hg1l
 have HEV:=Lib.hid (fun w=>reven10_any f w)
 rw [hev] at HEV
 have HRD:=Lib.hid (fun w=>rread_any f hf.a hf.b w)
 rw [r1,r2] at HRD
 have HNX:=Lib.hid (fun w=>rnext_any (f.b) (by first|exact hf.a|exact hf.b) w)
 have HAP:=Lib.hid (fun s (hs:s≤12) w=>rappend11_any 1 s q1 d hs Hq1l.out hd w)
 have HFR:=Lib.hid (fun w=>rfreshP_any f hf 0 (by decide) g1 q1 d Hg1l.out Hq1l.out hd w)
 have hns:=Dw.next_le (f.b)
 have HWO:=Lib.hid (show Dw.wornB f 0=decide (f.li≤f.e0) from rfl)
 clear hq1 hg1 hq hg hq1l hg1l hd hev r1 r2 hf
 have hB:=(Below.refl w.heap.size w).alloc (Nat.le_refl _) (.cells (flashC f.a f.b f.e0 f.e1 f.li) 66)
 have hF:=han w (.cells (flashC f.a f.b f.e0 f.e1 f.li) 66)
 obtain ⟨c0,c1,c2,c3,c4⟩:=cells5 hF
 go_enter Tryz.func164,Tryz.ntmps164
 go_wp2_with fail
 refine cb (HEV.out _) fun w1 hb=>?_
 replace hF:=kp hb hF
 replace hB:=tr hB hb
 clear hb
 clear c0 c1 c2 c3 c4
 obtain ⟨c0,c1,c2,c3,c4⟩:=cells5 hF
 go_wp2_with fail
 refine cb (HRD.out _) fun w2 hb=>?_
 replace hF:=kp hb hF
 replace hB:=tr hB hb
 clear hb
 clear c0 c1 c2 c3 c4
 have hz2:=hB.size
 have hA:=han w2 (.cells #[.int .i64 1, .int .u64 g, .int .u64 q, .int .u64 d0] 165)
 replace hF:=hao w2 (.cells #[.int .i64 1, .int .u64 g, .int .u64 q, .int .u64 d0] 165) hF
 replace hB:=hB.alloc hB.size (.cells #[.int .i64 1, .int .u64 g, .int .u64 q, .int .u64 d0] 165)
 obtain ⟨c0,c1,c2,c3,c4⟩:=cells5 hF
 obtain ⟨a0,a1,a2,a3⟩:=cells4 hA
 have HF:=Lib.hid hF;have HA:=Lib.hid hA;have HB:=Lib.hid hB
 clear hF hA hB
 by_cases e1:q=18446744073709551615
 ·have HE:=Lib.hid (show Dw.plan f d=([],11) from by rw [HP.out,if_pos e1])
  have b1:((q:Int)==18446744073709551615)=true:=by rw [beq_iff_eq];omega
  clear e1 HP
  go_wp2_with fail
  refine bodyPost_ret (results_tmp2 rfl _ _ _) rfl ?_
  rw [HE.out]
  exact ⟨⟨_,rfl, .inl ⟨rfl,rfl⟩⟩,HB.out⟩
 ·have b1:((q:Int)==18446744073709551615)=false:=by rw [beq_eq_false_iff_ne];omega
  have hq1e:q1=q+1:=by have:=Hq1.out;have:=Hq.out;omega
  have hp2:=HP.out.trans (if_neg e1)
  rw [←hq1e] at hp2
  have HP2:=Lib.hid hp2
  clear HP e1 hq1e hp2
  go_wp2_with fail
  generalize w2.alloc _=W at*
  generalize w2.heap.size=ga at*
  refine cb (HNX.out _) fun w3 hb=>?_
  have hF:=kp hb HF.out
  have hA:=kp hb HA.out
  have hB:=HB.out.trans (hb.mono HB.out.size)
  clear hb HF HA HB c0 c1 c2 c3 c4 a0 a1 a2 a3 HNX
  generalize Dw.next (f.b)=nx at*
  obtain ⟨c0,c1,c2,c3,c4⟩:=cells5 hF
  obtain ⟨a0,a1,a2,a3⟩:=cells4 hA
  have HF:=Lib.hid hF;have HA:=Lib.hid hA;have HB:=Lib.hid hB
  clear hF hA hB
  by_cases e2:0<nx
  ·have HE:=Lib.hid (HP2.out.trans (if_pos e2))
   clear HP2
   have b2:(0:Int)<(nx:Int):=by omega
   go_wp2_with fail
   refine (HAP.out nx (by omega) _).mono ?_
   rintro e w4 ⟨⟨v,rfl,hv⟩,hb⟩
   have hB:=HB.out.trans (hb.mono HB.out.size)
   clear hb HB HF HA c0 c1 c2 c3 c4 a0 a1 a2 a3
   go_wp2_with fail
   refine bodyPost_ret (results_tmp2 rfl _ _ _) rfl ?_
   rw [HE.out]
   exact ⟨⟨_,rfl,rpl_append hv⟩,hB⟩
  ·have b2:¬(0:Int)<(nx:Int):=by omega
   have HP3:=Lib.hid (HP2.out.trans (if_neg e2))
   clear e2 HP2
   go_wp2_with fail
   refine cb (rother10_any _ 1 rfl _) fun w4 hb=>?_
   rw [show Dw.other 1=0 from rfl]
   have hF:=kp hb HF.out
   have hA:=kp hb HA.out
   have hB:=HB.out.trans (hb.mono HB.out.size)
   clear hb HF HA HB c0 c1 c2 c3 c4 a0 a1 a2 a3
   obtain ⟨c0,c1,c2,c3,c4⟩:=cells5 hF
   obtain ⟨a0,a1,a2,a3⟩:=cells4 hA
   have HF:=Lib.hid hF;have HA:=Lib.hid hA;have HB:=Lib.hid hB
   clear hF hA hB
   by_cases e3:g=18446744073709551615
   ·have b3:((g:Int)==18446744073709551615)=true:=by rw [beq_iff_eq];omega
    have HE:=Lib.hid (HP3.out.trans (if_pos e3))
    clear e3 HP3
    go_wp2_with fail
    refine bodyPost_ret (results_tmp2 rfl _ _ _) rfl ?_
    rw [HE.out]
    exact ⟨⟨_,rfl, .inl ⟨rfl,rfl⟩⟩,HB.out⟩
   ·have b3:((g:Int)==18446744073709551615)=false:=by rw [beq_eq_false_iff_ne];omega
    have hg1e:g1=g+1:=by have:=Hg1.out;have:=Hg.out;omega
    have hp4:=HP3.out.trans (if_neg e3)
    rw [←hg1e,HWO.out] at hp4
    have HP4:=Lib.hid hp4
    clear e3 hg1e HP3 hp4 HWO
    generalize hfr:Dw.freshF f 0 g1 q1 d=fr at*
    have Hfr:=Lib.hid hfr
    clear hfr
    go_wp2_with fail
    refine wp_pure [0,1,2,3,4,5,6] 7 (by kernel_rfl) (by kernel_rfl) rfl ?_
    (apply rat;(focus (intro w' hk;obtain ⟨k2,k4⟩:=look2 hk c2 c4;repeat' (first|exact rn|((first|refine' rv ?_ rfl rfl (by go_simp;first|done|with_reducible rfl|exact rfl)|refine' rs ?_ rfl rfl);try simp only [Act.put,List.setIfInBounds_toArray,List.set_cons_zero,List.set_cons_succ])))))
    intro w5 hk5
    simp only [List.drop_succ_cons,List.drop_zero]
    have hF:=kpi hk5 HF.out
    have hA:=kpi hk5 HA.out
    have hB:=HB.out.trans (hk5.whole.mono HB.out.size)
    clear hk5 HF HA HB c0 c1 c2 c3 c4 a0 a1 a2 a3
    obtain ⟨c0,c1,c2,c3,c4⟩:=cells5 hF
    obtain ⟨a0,a1,a2,a3⟩:=cells4 hA
    have HF:=Lib.hid hF;have HA:=Lib.hid hA;have HB:=Lib.hid hB
    clear hF hA hB
    by_cases hwo:f.li≤f.e0
    ·have HE:=Lib.hid (HP4.out.trans (if_pos (decide_eq_true hwo)))
     clear HP4
     go_wp2_with fail
     refine bodyPost_ret (results_tmp2 rfl _ _ _) rfl ?_
     rw [HE.out]
     exact ⟨⟨_,rfl, .inl ⟨rfl,rfl⟩⟩,HB.out⟩
    ·have HE:=Lib.hid (HP4.out.trans (if_neg (by rw [decide_eq_false hwo];decide)))
     clear HP4
     go_wp2_with fail
     refine (HFR.out _).mono ?_
     rintro e w6 ⟨⟨v,rfl,hv⟩,hb⟩
     have hB:=HB.out.trans (hb.mono HB.out.size)
     clear hb HB HF HA c0 c1 c2 c3 c4 a0 a1 a2 a3
     go_wp2_with fail
     refine bodyPost_ret (results_tmp2 rfl _ _ _) rfl ?_
     rw [←Hfr.out] at hv
     rw [HE.out,←Hfr.out]
     exact ⟨⟨_,rfl,rpl_fresh hv⟩,hB⟩
theorem rplan_any (f:Dw.Fl) (hf:Dw.FlOk f) (d:Nat) (hd:d<18446744073709551616) (w:World):
  Calls Tryz.prog 164 #[flV f, .int .u64 d] w fun e w'=>(∃v,e= .returned (.tuple #[v, .int .i64 (Dw.plan f d).2])∧RPl w' v (Dw.plan f d).1)∧Below w.heap.size w w':=by
 have hB:=(Below.refl w.heap.size w).alloc (Nat.le_refl _) (.cells (flashC f.a f.b f.e0 f.e1 f.li) 66)
 have hF:=han w (.cells (flashC f.a f.b f.e0 f.e1 f.li) 66)
 obtain ⟨c0,c1,c2,c3,c4⟩:=cells5 hF
 have HEV:=Lib.hid (fun w=>reven10_any f w)
 cases hev:Dw.even f.a f.b with
 |false=>
  have HE:=Lib.hid (show Dw.plan f d=([],1) from by unfold Dw.plan;rw [if_pos hev])
  rw [hev] at HEV
  clear hev
  go_enter Tryz.func164,Tryz.ntmps164
  go_wp2_with fail
  refine cb (HEV.out _) fun w1 hb=>?_
  replace hF:=kp hb hF
  replace hB:=tr hB hb
  clear hb
  clear c0 c1 c2 c3 c4
  go_wp2_with fail
  refine bodyPost_ret (results_tmp2 rfl _ _ _) rfl ?_
  rw [HE.out]
  exact ⟨⟨_,rfl, .inl ⟨rfl,rfl⟩⟩,hB⟩
 |true=>
  rcases Dw.read_two f.a f.b with ⟨r1,r2,_⟩|⟨k,hk,g,q,d0,hg,hq,_,r1,r2⟩
  ·have HP:=Lib.hid (show Dw.plan f d=if f.e0<f.li then (Dw.freshF f 0 1 1 d,0) else if f.e1<f.li then (Dw.freshF f 1 1 1 d,0) else ([],4) from by
    unfold Dw.plan
    rw [if_neg (by rw [hev];decide),if_pos (by rw [r2];decide)]
    unfold Dw.wornB
    by_cases h0:f.e0<f.li
    ·rw [if_pos (decide_eq_false (by show ¬f.li≤f.e0;omega)),if_pos h0]
    ·rw [if_neg (by rw [decide_eq_true (show f.li≤f.er 0 from by show f.li≤f.e0;omega)];decide),if_neg h0]
     by_cases h1:f.e1<f.li
     ·rw [if_pos (decide_eq_false (by show ¬f.li≤f.e1;omega)),if_pos h1]
     ·rw [if_neg (by rw [decide_eq_true (show f.li≤f.er 1 from by show f.li≤f.e1;omega)];decide),if_neg h1])
   rw [hev] at HEV
   have HRD:=Lib.hid (fun w=>rread_any f hf.a hf.b w)
   rw [r1,r2,show Dw.psZero=⟨0,0,0,0⟩ from rfl] at HRD
   have HFR:=Lib.hid (fun k hk w=>rfreshP_any f hf k hk 1 1 d (by decide) (by decide) hd w)
   clear hev r1 r2 hf hd
   go_enter Tryz.func164,Tryz.ntmps164
   go_wp2_with fail
   refine cb (HEV.out _) fun w1 hb=>?_
   replace hF:=kp hb hF
   replace hB:=tr hB hb
   clear hb
   clear c0 c1 c2 c3 c4
   obtain ⟨c0,c1,c2,c3,c4⟩:=cells5 hF
   go_wp2_with fail
   refine cb (HRD.out _) fun w2 hb=>?_
   replace hF:=kp hb hF
   replace hB:=tr hB hb
   clear hb
   clear c0 c1 c2 c3 c4
   have hA:=han w2 (.cells #[.int .i64 0, .int .u64 0, .int .u64 0, .int .u64 0] 165)
   replace hF:=hao w2 (.cells #[.int .i64 0, .int .u64 0, .int .u64 0, .int .u64 0] 165) hF
   replace hB:=hB.alloc hB.size (.cells #[.int .i64 0, .int .u64 0, .int .u64 0, .int .u64 0] 165)
   clear hA
   obtain ⟨c0,c1,c2,c3,c4⟩:=cells5 hF
   have HB:=Lib.hid hB
   clear hF hB
   by_cases h0:f.e0<f.li
   ·have HE:=Lib.hid (HP.out.trans (if_pos h0))
    clear HP
    go_wp2_with fail
    refine (HFR.out 0 (by decide) _).mono ?_
    rintro e w6 ⟨⟨v,rfl,hv⟩,hb⟩
    have hB:=HB.out.trans (hb.mono HB.out.size)
    clear hb HB c0 c1 c2 c3 c4
    go_wp2_with fail
    refine bodyPost_ret (results_tmp2 rfl _ _ _) rfl ?_
    rw [HE.out]
    exact ⟨⟨_,rfl,rpl_fresh hv⟩,hB⟩
   ·by_cases h1:f.e1<f.li
    ·have HE:=Lib.hid (HP.out.trans ((if_neg h0).trans (if_pos h1)))
     clear HP
     go_wp2_with fail
     refine (HFR.out 1 (by decide) _).mono ?_
     rintro e w6 ⟨⟨v,rfl,hv⟩,hb⟩
     have hB:=HB.out.trans (hb.mono HB.out.size)
     clear hb HB c0 c1 c2 c3 c4
     go_wp2_with fail
     refine bodyPost_ret (results_tmp2 rfl _ _ _) rfl ?_
     rw [HE.out]
     exact ⟨⟨_,rfl,rpl_fresh hv⟩,hB⟩
    ·have HE:=Lib.hid (HP.out.trans ((if_neg h0).trans (if_neg h1)))
     clear HP
     go_wp2_with fail
     refine bodyPost_ret (results_tmp2 rfl _ _ _) rfl ?_
     rw [HE.out]
     exact ⟨⟨_,rfl, .inl ⟨rfl,rfl⟩⟩,HB.out⟩
  ·rcases (by omega:k=0∨k=1) with rfl|rfl
   ·exact rplanSA f hf d hd g q d0 hg hq hev r1 r2 w
   ·exact rplanSB f hf d hd g q d0 hg hq hev r1 r2 w
theorem rpl_len {w:World} {v:Value} {l:List Dw.Op} (h:RPl w v l):∃s c,v= .slice s l.length c:=by
 rcases h with ⟨rfl,rfl⟩|⟨_,b,off,cap,c,t,fr,rfl,_⟩
 ·exact ⟨_,_,rfl⟩
 ·exact ⟨_,_,rfl⟩
theorem rput12_any (f:Dw.Fl) (hf:Dw.FlOk f) (s:Dw.Stp) (hd:s.data<18446744073709551616) (hm:s.mask.length≤100000) (w:World):
  Calls Tryz.prog 132 #[flV f,stpV s] w fun e w'=>e= .returned (putV f s)∧Below w.heap.size w w':=by
 obtain ⟨V,hV⟩:∃V,((w.alloc (.cells (flashC f.a f.b f.e0 f.e1 f.li) 66)).alloc (.cells (stpC s) 225)).alloc (.cells (flashC [] [] 0 0 0) 66)=V:=⟨_,rfl⟩
 obtain ⟨vz,vB,b0,b1,b2⟩:=alloc3 w _ _ _ V hV
 obtain ⟨c0,c1,c2,c3,c4⟩:=cells5 b0
 obtain ⟨s0,s1,s2⟩:=cells3 b1
 obtain ⟨data,cut,m⟩:=s
 dsimp only at*
 go_enter Tryz.func132,Tryz.ntmps132
 go_wp2_with fail
 refine (rplan_any f hf data hd _).mono ?_
 rintro e w1 ⟨⟨v,rfl,own⟩,hb⟩
 replace b0:=kp hb b0
 replace b1:=kp hb b1
 replace b2:=kp hb b2
 replace vB:=tr vB hb
 clear hb hV c0 c1 c2 c3 c4 s0 s1 s2
 obtain ⟨c0,c1,c2,c3,c4⟩:=cells5 b0
 obtain ⟨s0,s1,s2⟩:=cells3 b1
 by_cases hpe:(Dw.plan f data).2=0
 ·obtain ⟨L,hlen,hok,hpos,hle⟩:=Dw.plan_ok hf hpe
  have hat:ROps w1 v (Dw.plan f data).1:=by rcases own with ⟨h,_⟩|⟨_,h⟩;(rw [h] at hpos;exact absurd hpos (Nat.lt_irrefl _));exact h
  have hgok:=(Dw.play_ok cut m _ f 0 hf hlen hok).1
  have HP:=Lib.hid (rplay2_any f hf _ (by omega) hok v cut m hm w1 hat)
  have HE:=Lib.hid (show putV f ⟨data,cut,m⟩= .tuple #[flV (Dw.playL f (Dw.plan f data).1 0 cut m).1, .bool (Dw.ackB f ⟨data,cut,m⟩), .int .i64 0] from if_pos hpe)
  have HA0:=Lib.hid (show Dw.ackB f ⟨data,cut,m⟩=(decide ((Dw.playL f (Dw.plan f data).1 0 cut m).2=(Dw.plan f data).1.length)&&(decide (Dw.readE (Dw.playL f (Dw.plan f data).1 0 cut m).1.a (Dw.playL f (Dw.plan f data).1 0 cut m).1.b=0)&&decide ((Dw.readS (Dw.playL f (Dw.plan f data).1 0 cut m).1.a (Dw.playL f (Dw.plan f data).1 0 cut m).1.b).data=data))) from rfl)
  obtain ⟨ob,off,cap,oc,ot,ofr,rfl,_,_⟩:=hat
  rw [hpe]
  clear own hpe hok hpos hle hlen hm
  generalize (Dw.plan f data).1.length=len at*
  generalize Dw.playL f (Dw.plan f data).1 0 cut m=R at*
  obtain ⟨g,n⟩:=R
  dsimp only at*
  go_wp2_with fail
  refine cb HP.out fun w2 hb=>?_
  replace b1:=kp hb b1
  replace b2:=kp hb b2
  replace vB:=tr vB hb
  clear hb c0 c1 c2 c3 c4 s0 s1 s2 b0
  have b9:=han w2 (.cells (flashC g.a g.b g.e0 g.e1 g.li) 66)
  replace b1:=hao w2 (.cells (flashC g.a g.b g.e0 g.e1 g.li) 66) b1
  replace b2:=hao w2 (.cells (flashC g.a g.b g.e0 g.e1 g.li) 66) b2
  replace vB:=vB.alloc vB.size (.cells (flashC g.a g.b g.e0 g.e1 g.li) 66)
  obtain ⟨W2,hW2⟩:∃W2,w2.alloc (.cells (flashC g.a g.b g.e0 g.e1 g.li) 66)=W2:=⟨_,rfl⟩
  rw [hW2] at b1 b2 b9 vB
  obtain ⟨e0,e1,e2,e3,e4⟩:=cells5 b9
  go_wp2_with fail
  refine cb (rread_any g hgok.a hgok.b _) fun w3 hb=>?_
  replace b1:=kp hb b1
  replace b2:=kp hb b2
  replace b9:=kp hb b9
  replace vB:=tr vB hb
  clear hb e0 e1 e2 e3 e4 hW2
  have hg11:=block_lt b2
  have hE2:=Dw.readE_two g.a g.b
  obtain ⟨⟨pb,pg,pq,pd⟩,hS⟩:∃p,Dw.readS g.a g.b=p:=⟨_,rfl⟩
  obtain ⟨pe,hE⟩:∃p,Dw.readE g.a g.b=p:=⟨_,rfl⟩
  have HA1:=HA0.out
  rw [hS,hE] at HA1
  rw [hE] at hE2
  rw [hS,hE]
  have HA1:=Lib.hid HA1
  clear HA0 hS hE
  replace b1:=hao w3 (.cells #[.int .i64 pb, .int .u64 pg, .int .u64 pq, .int .u64 pd] 165) b1
  replace b2:=hao w3 (.cells #[.int .i64 pb, .int .u64 pg, .int .u64 pq, .int .u64 pd] 165) b2
  replace b9:=hao w3 (.cells #[.int .i64 pb, .int .u64 pg, .int .u64 pq, .int .u64 pd] 165) b9
  have b11:=han w3 (.cells #[.int .i64 pb, .int .u64 pg, .int .u64 pq, .int .u64 pd] 165)
  replace vB:=vB.alloc vB.size (.cells #[.int .i64 pb, .int .u64 pg, .int .u64 pq, .int .u64 pd] 165)
  obtain ⟨e0,e1,e2,e3,e4⟩:=cells5 b9
  obtain ⟨q0,q1,q2,q3⟩:=cells4 b11
  obtain ⟨s0,s1,s2⟩:=cells3 b1
  obtain ⟨gs,hgs⟩:∃gs,w3.heap.size=gs:=⟨_,rfl⟩
  rw [hgs] at q0 q1 q2 q3 b11 hg11
  by_cases h1:n=len
  ·have hb1:((n:Int)==(len:Int))=true:=by rw [h1,beq_self_eq_true]
   rcases hE2 with rfl|rfl
   ·have HA:=Lib.hid (HA1.out.trans (by rw [h1,decide_eq_true rfl,decide_eq_true rfl,Bool.true_and,Bool.true_and]))
    clear HA1 h1
    go_wp2_with fail
    generalize w3.alloc _=W3 at*
    refine RT.wp_letter (fun k=>k=w.heap.size+2) (fun k=>decide (14≤k)) [0,1,2,3,4,5,6,7,8,9,10,11,12,13,14,15,16,17,18,19] 20 21 (RT.Stored W3 (w.heap.size+2) (flashC g.a g.b g.e0 g.e1 g.li) 66) rfl (by kernel_rfl) (by kernel_rfl) rfl (fun A B h hk=>h.keep hk) ?_
    (apply RT.rat;(focus (intro w' w'' hk hk2;obtain ⟨k0,k1,k2,k3,k4⟩:=look5 hk e0 e1 e2 e3 e4;have l5:=(hk2.cell (lt_of_cell q3) (fun h=>absurd (show gs=w.heap.size+2 from h) (by omega))).trans q3;have l7:=(hk2.cell (lt_of_cell s0) (fun h=>absurd (show w.heap.size+1=w.heap.size+2 from h) (by omega))).trans s0;repeat' (first|exact RT.rn|((first|refine' RT.rv ?_ rfl rfl rfl (by go_simp;first|done|with_reducible rfl|exact rfl)|refine' RT.rl ?_ rfl rfl rfl (by go_simp;first|done|with_reducible rfl|exact rfl)|refine' RT.rs ?_ rfl rfl);try simp only [Act.put,List.setIfInBounds_toArray,List.set_cons_zero,List.set_cons_succ])))))
    refine RT.pl_nil ⟨rfl,RT.stb b2 rfl rfl rfl (by kernel_rfl),?_⟩
    rintro w5 ⟨hk5,b5⟩
    simp only [List.drop_succ_cons,List.drop_zero]
    replace vB:=vB.trans (hk5.below vB.size (fun g hg=>by omega))
    go_wp2_with fail
    refine bodyPost_ret (rct2 rfl b5 (by rfl) (by kernel_rfl)) rfl ⟨?_,vB⟩
    rw [HE.out,HA.out]
    exact congrArg (fun b=>Ending.returned (.tuple #[flV g, .bool b, .int .i64 0])) (beq_nat pd data)
   ·have HA:=Lib.hid (HA1.out.trans (show _=false from by rw [decide_eq_false (show ¬(10:Int)=0 by decide),Bool.false_and,Bool.and_false]))
    clear HA1 h1
    go_wp2_with fail
    generalize w3.alloc _=W3 at*
    refine RT.wp_letter (fun k=>k=w.heap.size+2) (fun k=>decide (14≤k)) [0,1,2,3,4,5,6,7,8,9,10,11,12,13,14,15,16,17,18,19] 20 21 (RT.Stored W3 (w.heap.size+2) (flashC g.a g.b g.e0 g.e1 g.li) 66) rfl (by kernel_rfl) (by kernel_rfl) rfl (fun A B h hk=>h.keep hk) ?_
    (apply RT.rat;(focus (intro w' w'' hk hk2;obtain ⟨k0,k1,k2,k3,k4⟩:=look5 hk e0 e1 e2 e3 e4;have l5:=(hk2.cell (lt_of_cell q3) (fun h=>absurd (show gs=w.heap.size+2 from h) (by omega))).trans q3;have l7:=(hk2.cell (lt_of_cell s0) (fun h=>absurd (show w.heap.size+1=w.heap.size+2 from h) (by omega))).trans s0;repeat' (first|exact RT.rn|((first|refine' RT.rv ?_ rfl rfl rfl (by go_simp;first|done|with_reducible rfl|exact rfl)|refine' RT.rl ?_ rfl rfl rfl (by go_simp;first|done|with_reducible rfl|exact rfl)|refine' RT.rs ?_ rfl rfl);try simp only [Act.put,List.setIfInBounds_toArray,List.set_cons_zero,List.set_cons_succ])))))
    refine RT.pl_nil ⟨rfl,RT.stb b2 rfl rfl rfl (by kernel_rfl),?_⟩
    rintro w5 ⟨hk5,b5⟩
    simp only [List.drop_succ_cons,List.drop_zero]
    replace vB:=vB.trans (hk5.below vB.size (fun g hg=>by omega))
    go_wp2_with fail
    refine bodyPost_ret (rct2 rfl b5 (by rfl) (by kernel_rfl)) rfl ⟨?_,vB⟩
    rw [HE.out,HA.out]
    rfl
  ·have hb1:((n:Int)==(len:Int))=false:=by rw [beq_eq_false_iff_ne];omega
   have HA:=Lib.hid (HA1.out.trans (show _=false from by rw [decide_eq_false h1,Bool.false_and]))
   clear HA1 h1 hE2
   go_wp2_with fail
   generalize w3.alloc _=W3 at*
   refine RT.wp_letter (fun k=>k=w.heap.size+2) (fun k=>decide (14≤k)) [0,1,2,3,4,5,6,7,8,9,10,11,12,13,14,15,16,17,18,19] 20 21 (RT.Stored W3 (w.heap.size+2) (flashC g.a g.b g.e0 g.e1 g.li) 66) rfl (by kernel_rfl) (by kernel_rfl) rfl (fun A B h hk=>h.keep hk) ?_
   (apply RT.rat;(focus (intro w' w'' hk hk2;obtain ⟨k0,k1,k2,k3,k4⟩:=look5 hk e0 e1 e2 e3 e4;have l5:=(hk2.cell (lt_of_cell q3) (fun h=>absurd (show gs=w.heap.size+2 from h) (by omega))).trans q3;have l7:=(hk2.cell (lt_of_cell s0) (fun h=>absurd (show w.heap.size+1=w.heap.size+2 from h) (by omega))).trans s0;repeat' (first|exact RT.rn|((first|refine' RT.rv ?_ rfl rfl rfl (by go_simp;first|done|with_reducible rfl|exact rfl)|refine' RT.rl ?_ rfl rfl rfl (by go_simp;first|done|with_reducible rfl|exact rfl)|refine' RT.rs ?_ rfl rfl);try simp only [Act.put,List.setIfInBounds_toArray,List.set_cons_zero,List.set_cons_succ])))))
   refine RT.pl_nil ⟨rfl,RT.stb b2 rfl rfl rfl (by kernel_rfl),?_⟩
   rintro w5 ⟨hk5,b5⟩
   simp only [List.drop_succ_cons,List.drop_zero]
   replace vB:=vB.trans (hk5.below vB.size (fun g hg=>by omega))
   go_wp2_with fail
   refine bodyPost_ret (rct2 rfl b5 (by rfl) (by kernel_rfl)) rfl ⟨?_,vB⟩
   rw [HE.out,HA.out]
   rfl
 ·have hneb:((Dw.plan f data).2==0)=false:=by rw [beq_eq_false_iff_ne];exact hpe
  obtain ⟨sl,cp,rfl⟩:=rpl_len own
  have HE:=Lib.hid (show putV f ⟨data,cut,m⟩= .tuple #[flV f, .bool false, .int .i64 (Dw.plan f data).2] from if_neg hpe)
  have HB2:=Lib.hid b2
  clear own b0 b1 b2
  generalize (Dw.plan f data).2=er at*
  generalize (Dw.plan f data).1.length=ln at*
  go_wp2_with (first|(refine sb HB2.out rfl rfl rfl rfl (by kernel_rfl) ?_))
  refine bodyPost_ret (rct2 rfl (srh HB2.out) (by rfl) (by kernel_rfl)) rfl ⟨?_,below_setRow vB (by omega) _⟩
  rw [HE.out]
  rfl
end Go.Proofs.YtnaokijcggbfdaaGreatDoor
