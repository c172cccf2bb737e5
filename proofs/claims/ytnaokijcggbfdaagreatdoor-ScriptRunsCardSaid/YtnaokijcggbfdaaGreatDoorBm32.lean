/- What the statement's proof stands on, part 32: Res, Res2, Res3, RSt2. -/
import Derived.Test.YtnaokijcggbfdaaGreatDoorBm26
import Derived.Test.YtnaokijcggbfdaaGreatDoorBm9
set_option linter.unusedSimpArgs false
set_option linter.unusedVariables false
set_option maxRecDepth 100000
set_option maxHeartbeats 4000000
namespace Go.Proofs.YtnaokijcggbfdaaGreatDoor
open Go.RowKit Go.Shelf
attribute [local go_sem] Oper.semAt_some
theorem rmode_any (m:Int) (w:World):
  Calls Tryz.prog 114 #[.int .i64 m] w fun e w'=>e= .returned (.bool (decide (0≤m∧m≤5)))∧Below w.heap.size w w':=by
 by_cases h1:0≤m
 ·by_cases h2:m≤5
  ·rw [decide_eq_true ⟨h1,h2⟩]
   go_enter Tryz.func114,Tryz.ntmps114
   go_wp2_with fail
   go_ret
   exact ⟨rfl,Below.refl _ _⟩
  ·rw [decide_eq_false (fun h=>h2 h.2)]
   go_enter Tryz.func114,Tryz.ntmps114
   go_wp2_with fail
   go_ret
   exact ⟨rfl,Below.refl _ _⟩
 ·rw [decide_eq_false (fun h=>h1 h.1)]
  go_enter Tryz.func114,Tryz.ntmps114
  go_wp2_with fail
  go_ret
  exact ⟨rfl,Below.refl _ _⟩
theorem rneeds_any (m:Int) (w:World):
  Calls Tryz.prog 47 #[.int .i64 m] w fun e w'=>e= .returned (.int .i64 (Dw.needsI m))∧Below w.heap.size w w':=by
 have hn:∀m,Dw.needsI m=if m=1∨m=5 then 1 else if m=2∨m=4 then 2 else if m=3 then 3 else 0:=fun _=>rfl
 have HN:=Lib.hid hn
 clear hn
 go_enter Tryz.func47,Tryz.ntmps47
 go_wp2_with fail
 all_goals
  go_ret
  refine ⟨?_,Below.refl _ _⟩
  rw [HN.out]
  first|rfl|exact ret_int (by simp_all)|exact ret_int (by split<;>omega)
theorem rhome_any (m:Int) (w:World):
  Calls Tryz.prog 78 #[.int .i64 m] w fun e w'=>e= .returned (.bool (Dw.homeB m))∧Below w.heap.size w w':=by
 by_cases h1:m=3
 ·subst h1
  go_enter Tryz.func78,Tryz.ntmps78
  go_wp2_with fail
  go_ret
  exact ⟨rfl,Below.refl _ _⟩
 ·by_cases h2:m=4
  ·subst h2
   go_enter Tryz.func78,Tryz.ntmps78
   go_wp2_with fail
   go_ret
   exact ⟨rfl,Below.refl _ _⟩
  ·have HN:=Lib.hid (show Dw.homeB m=false from by unfold Dw.homeB;rw [decide_eq_false h1,decide_eq_false h2];rfl)
   have h3:(m==3)=false:=by simpa using h1
   have h4:(m==4)=false:=by simpa using h2
   go_enter Tryz.func78,Tryz.ntmps78
   go_wp2_with fail
   go_ret
   exact ⟨by rw [HN.out];rfl,Below.refl _ _⟩
theorem rfly_any (m:Int) (w:World):
  Calls Tryz.prog 95 #[.int .i64 m] w fun e w'=>e= .returned (.bool (Dw.flyB m))∧Below w.heap.size w w':=by
 by_cases h:0≤m∧m≤5
 ·have HF:=Lib.hid (show Dw.flyB m=!decide (m=0) from by unfold Dw.flyB;rw [decide_eq_true h,Bool.true_and])
  have HM:=Lib.hid (fun w=>rmode_any m w)
  rw [decide_eq_true h] at HM
  clear h
  go_enter Tryz.func95,Tryz.ntmps95
  go_wp2_with fail
  refine cb (HM.out _) fun w1 hb=>?_
  go_wp2_with fail
  go_ret
  refine ⟨?_,hb⟩
  rw [HF.out]
  first|rfl|exact ret_bool (by simp)|exact ret_bool (by rw [Bool.eq_iff_iff];simp)
 ·have HF:=Lib.hid (show Dw.flyB m=false from by unfold Dw.flyB;rw [decide_eq_false h,Bool.false_and])
  have HM:=Lib.hid (fun w=>rmode_any m w)
  rw [decide_eq_false h] at HM
  clear h
  go_enter Tryz.func95,Tryz.ntmps95
  go_wp2_with fail
  refine cb (HM.out _) fun w1 hb=>?_
  go_wp2_with fail
  go_ret
  refine ⟨?_,hb⟩
  rw [HF.out]
  rfl
theorem and1 (k:Int) (h:0≤k∧k≤15):bits .and .i64 k 1=k%2:=by
 rcases ones_cases k h with rfl|rfl|rfl|rfl|rfl|rfl|rfl|rfl|rfl|rfl|rfl|rfl|rfl|rfl|rfl|rfl<;>decide+kernel
def soundUp (k:Int):Nat→Int
 |0=>0
 |1=>(if k%2=0 then 1 else 0)
 |2=>(if k%2=0 then 1 else 0)+(if k/2%2=0 then 1 else 0)
 |3=>(if k%2=0 then 1 else 0)+(if k/2%2=0 then 1 else 0)+(if k/4%2=0 then 1 else 0)
 |_=>Dw.soundN k
theorem sup_all:∀(k:Fin 16) (j:Fin 4),(((k.val:Nat):Int)/2^j.val%2=0→wrap64 (soundUp ((k.val:Nat):Int) j.val+1)=soundUp ((k.val:Nat):Int) (j.val+1))∧(((k.val:Nat):Int)/2^j.val%2≠0→soundUp ((k.val:Nat):Int) j.val=soundUp ((k.val:Nat):Int) (j.val+1)):=by decide+kernel
theorem sup_hit (k:Int) (h:0≤k∧k≤15) (j:Nat) (hj:j<4) (hz:k/2^j%2=0):wrap64 (soundUp k j+1)=soundUp k (j+1):=by
 have:=(sup_all ⟨k.toNat,by omega⟩ ⟨j,hj⟩).1
 rw [show ((k.toNat:Nat):Int)=k from by omega] at this
 exact this hz
theorem sup_miss (k:Int) (h:0≤k∧k≤15) (j:Nat) (hj:j<4) (hz:¬k/2^j%2=0):soundUp k j=soundUp k (j+1):=by
 have:=(sup_all ⟨k.toNat,by omega⟩ ⟨j,hj⟩).2
 rw [show ((k.toNat:Nat):Int)=k from by omega] at this
 exact this hz
theorem rsens_any (s:Dw.St) (h:0≤s.iso∧s.iso≤15) (w:World):
  Calls Tryz.prog 45 #[stV s] w fun e w'=>e= .returned (.int .i64 (Dw.soundN s.iso))∧Below w.heap.size w w':=by
 obtain ⟨mo,ar,ho,la,lo,k⟩:=s
 have hB0:=(Below.refl w.heap.size w).alloc (Nat.le_refl _) (.cells (stC ⟨mo,ar,ho,la,lo,k⟩) 42)
 have hC0:=han w (.cells (stC ⟨mo,ar,ho,la,lo,k⟩) 42)
 obtain ⟨c0,c1,c2,c3,c4,c5⟩:=cells6 hC0
 have h':0≤k∧k≤15:=h
 have HH:=Lib.hid h'
 clear h h' hC0
 go_enter Tryz.func45,Tryz.ntmps45
 go_wp2_with fail
 generalize w.alloc _=W at*
 go_loopw [3,4] (fun n i wr=>∃j:Nat,j≤4∧i= .int .i64 j∧n= .int .i64 (soundUp k j)∧wr=W) (fun _ i _=>4-(intOf i).toNat)
 case atStart=>exact ⟨0,Nat.zero_le _,rfl,rfl,rfl⟩
 case round=>
  obtain ⟨j,hj,rfl,rfl,rfl⟩:=hrel
  have h':=HH.out
  rcases (by omega:j=0∨j=1∨j=2∨j=3∨j=4) with rfl|rfl|rfl|rfl|rfl
  ·have hb1:bits .and .i64 (k) 1=k%2:=and1 _ (by omega)
   by_cases hz:k%2=0
   ·rw [hz] at hb1
    go_wp2_with fail
    exact ⟨⟨1,by decide,rfl,int_val (sup_hit k HH.out 0 (by decide) (by show k/1%2=0;omega)),trivial⟩,by simp [intOf]⟩
   ·have hz1:k%2=1:=by omega
    rw [hz1] at hb1
    go_wp2_with fail
    exact ⟨⟨1,by decide,rfl,int_val (sup_miss k HH.out 0 (by decide) (by show ¬k/1%2=0;omega)),trivial⟩,by simp [intOf]⟩
  ·have hb1:bits .and .i64 (k/2) 1=k/2%2:=and1 _ (by omega)
   by_cases hz:k/2%2=0
   ·rw [hz] at hb1
    go_wp2_with fail
    exact ⟨⟨2,by decide,rfl,int_val (sup_hit k HH.out 1 (by decide) (by show k/2%2=0;omega)),trivial⟩,by simp [intOf]⟩
   ·have hz1:k/2%2=1:=by omega
    rw [hz1] at hb1
    go_wp2_with fail
    exact ⟨⟨2,by decide,rfl,int_val (sup_miss k HH.out 1 (by decide) (by show ¬k/2%2=0;omega)),trivial⟩,by simp [intOf]⟩
  ·have hb1:bits .and .i64 (k/4) 1=k/4%2:=and1 _ (by omega)
   by_cases hz:k/4%2=0
   ·rw [hz] at hb1
    go_wp2_with fail
    exact ⟨⟨3,by decide,rfl,int_val (sup_hit k HH.out 2 (by decide) (by show k/4%2=0;omega)),trivial⟩,by simp [intOf]⟩
   ·have hz1:k/4%2=1:=by omega
    rw [hz1] at hb1
    go_wp2_with fail
    exact ⟨⟨3,by decide,rfl,int_val (sup_miss k HH.out 2 (by decide) (by show ¬k/4%2=0;omega)),trivial⟩,by simp [intOf]⟩
  ·have hb1:bits .and .i64 (k/8) 1=k/8%2:=and1 _ (by omega)
   by_cases hz:k/8%2=0
   ·rw [hz] at hb1
    go_wp2_with fail
    exact ⟨⟨4,by decide,rfl,int_val (sup_hit k HH.out 3 (by decide) (by show k/8%2=0;omega)),trivial⟩,by simp [intOf]⟩
   ·have hz1:k/8%2=1:=by omega
    rw [hz1] at hb1
    go_wp2_with fail
    exact ⟨⟨4,by decide,rfl,int_val (sup_miss k HH.out 3 (by decide) (by show ¬k/8%2=0;omega)),trivial⟩,by simp [intOf]⟩
  ·go_wp2_with fail
   go_ret
   exact ⟨rfl,hB0⟩
theorem safe_any (s:Dw.St) (h:0≤s.iso∧s.iso≤15) (w:World):
  Calls Tryz.prog 88 #[stV s] w fun e w'=>e= .returned (.int .i64 (Dw.safeI s))∧Below w.heap.size w w':=by
 have hB:=(Below.refl w.heap.size w).alloc (Nat.le_refl _) (.cells (stC s) 27)
 have hC0:=han w (.cells (stC s) 27)
 have HS:=Lib.hid (fun w=>sound_any s h w)
 have HN:=Lib.hid (fun w=>needs_any s.mo w)
 have HF:=Lib.hid (fun w=>fly_any s.mo w)
 have HH:=Lib.hid (fun w=>home_any s.mo w)
 have H2:=Lib.hid (fun w=>needs_any 2 w)
 rw [show Dw.needsI 2=2 from rfl] at H2
 have HR:=Lib.hid (show Dw.safeI s=if Dw.flyB s.mo&&(s.ho||!Dw.homeB s.mo)&&decide (Dw.needsI s.mo≤Dw.soundN s.iso) then s.mo else if 2≤Dw.soundN s.iso then 2 else 5 from rfl)
 generalize Dw.safeI s=R at*
 generalize Dw.needsI s.mo=nM at*
 generalize Dw.soundN s.iso=nS at*
 generalize Dw.flyB s.mo=bF at*
 generalize Dw.homeB s.mo=bH at*
 obtain ⟨mo,ar,ho,la,lo,iso⟩:=s
 obtain ⟨c0,c1,c2,c3,c4,c5⟩:=cells6 hC0
 have HC:=Lib.hid hC0
 clear hC0 h
 go_enter Tryz.func88,Tryz.ntmps88
 go_wp2_with (first|(refine lb HC.out rfl rfl rfl (by kernel_rfl) ?_))
 go_wp2_with fail
 refine cb (HS.out _) fun w1 hb=>?_
 have hC:=kp hb HC.out
 replace hB:=tr hB hb
 clear hb HC c0 c1 c2 c3 c4 c5
 obtain ⟨c0,c1,c2,c3,c4,c5⟩:=cells6 hC
 have HC:=Lib.hid hC
 clear hC
 go_wp2_with fail
 refine cb (HF.out _) fun w2 hb=>?_
 have hC:=kp hb HC.out
 replace hB:=tr hB hb
 clear hb HC c0 c1 c2 c3 c4 c5
 obtain ⟨c0,c1,c2,c3,c4,c5⟩:=cells6 hC
 have HC:=Lib.hid hC
 clear hC
 cases bF
 ·go_wp2_with fail
  refine cb (H2.out _) fun w3 hb=>?_
  have hC:=kp hb HC.out
  replace hB:=tr hB hb
  clear hb HC c0 c1 c2 c3 c4 c5
  obtain ⟨c0,c1,c2,c3,c4,c5⟩:=cells6 hC
  have HC:=Lib.hid hC
  clear hC
  by_cases h2:2≤nS
  ·have h3:¬nS<2:=by omega
   go_wp2_with fail
   go_ret
   exact ⟨ret_int (by rw [HR.out];first|(simp [*];done)|(split<;>rename_i q<;>simp at q<;>(try split)<;>omega)),hB⟩
  ·have h3:nS<2:=by omega
   go_wp2_with fail
   go_ret
   exact ⟨ret_int (by rw [HR.out];first|(simp [*];done)|(split<;>rename_i q<;>simp at q<;>(try split)<;>omega)),hB⟩
 ·go_wp2_with fail
  refine cb (HN.out _) fun w3 hb=>?_
  have hC:=kp hb HC.out
  replace hB:=tr hB hb
  clear hb HC c0 c1 c2 c3 c4 c5
  obtain ⟨c0,c1,c2,c3,c4,c5⟩:=cells6 hC
  have HC:=Lib.hid hC
  clear hC
  by_cases hn:nM≤nS
  ·cases ho
   ·go_wp2_with fail
    refine cb (HH.out _) fun w4 hb=>?_
    have hC:=kp hb HC.out
    replace hB:=tr hB hb
    clear hb HC c0 c1 c2 c3 c4 c5
    obtain ⟨c0,c1,c2,c3,c4,c5⟩:=cells6 hC
    have HC:=Lib.hid hC
    clear hC
    cases bH
    ·go_wp2_with fail
     go_ret
     exact ⟨ret_int (by rw [HR.out];first|(simp [*];done)|(split<;>rename_i q<;>simp at q<;>(try split)<;>omega)),hB⟩
    ·go_wp2_with fail
     refine cb (H2.out _) fun w5 hb=>?_
     have hC:=kp hb HC.out
     replace hB:=tr hB hb
     clear hb HC c0 c1 c2 c3 c4 c5
     obtain ⟨c0,c1,c2,c3,c4,c5⟩:=cells6 hC
     have HC:=Lib.hid hC
     clear hC
     by_cases h2:2≤nS
     ·have h3:¬nS<2:=by omega
      go_wp2_with fail
      go_ret
      exact ⟨ret_int (by rw [HR.out];first|(simp [*];done)|(split<;>rename_i q<;>simp at q<;>(try split)<;>omega)),hB⟩
     ·have h3:nS<2:=by omega
      go_wp2_with fail
      go_ret
      exact ⟨ret_int (by rw [HR.out];first|(simp [*];done)|(split<;>rename_i q<;>simp at q<;>(try split)<;>omega)),hB⟩
   ·go_wp2_with fail
    go_ret
    exact ⟨ret_int (by rw [HR.out];first|(simp [*];done)|(split<;>rename_i q<;>simp at q<;>(try split)<;>omega)),hB⟩
  ·go_wp2_with fail
   refine cb (H2.out _) fun w5 hb=>?_
   have hC:=kp hb HC.out
   replace hB:=tr hB hb
   clear hb HC c0 c1 c2 c3 c4 c5
   obtain ⟨c0,c1,c2,c3,c4,c5⟩:=cells6 hC
   have HC:=Lib.hid hC
   clear hC
   by_cases h2:2≤nS
   ·have h3:¬nS<2:=by omega
    go_wp2_with fail
    go_ret
    exact ⟨ret_int (by rw [HR.out];first|(simp [*];done)|(split<;>rename_i q<;>simp at q<;>(try split)<;>omega)),hB⟩
   ·have h3:nS<2:=by omega
    go_wp2_with fail
    go_ret
    exact ⟨ret_int (by rw [HR.out];first|(simp [*];done)|(split<;>rename_i q<;>simp at q<;>(try split)<;>omega)),hB⟩
theorem rsafe_any (s:Dw.St) (h:0≤s.iso∧s.iso≤15) (w:World):
  Calls Tryz.prog 68 #[stV s] w fun e w'=>e= .returned (.int .i64 (Dw.safeI s))∧Below w.heap.size w w':=by
 have hB:=(Below.refl w.heap.size w).alloc (Nat.le_refl _) (.cells (stC s) 42)
 have hC0:=han w (.cells (stC s) 42)
 have HS:=Lib.hid (fun w=>rsens_any s h w)
 have HN:=Lib.hid (fun w=>rneeds_any s.mo w)
 have HF:=Lib.hid (fun w=>rfly_any s.mo w)
 have HH:=Lib.hid (fun w=>rhome_any s.mo w)
 have HR:=Lib.hid (show Dw.safeI s=if Dw.flyB s.mo&&(s.ho||!Dw.homeB s.mo)&&decide (Dw.needsI s.mo≤Dw.soundN s.iso) then s.mo else if 2≤Dw.soundN s.iso then 2 else 5 from rfl)
 generalize Dw.safeI s=R at*
 generalize Dw.needsI s.mo=nM at*
 generalize Dw.soundN s.iso=nS at*
 generalize Dw.flyB s.mo=bF at*
 generalize Dw.homeB s.mo=bH at*
 obtain ⟨mo,ar,ho,la,lo,iso⟩:=s
 obtain ⟨c0,c1,c2,c3,c4,c5⟩:=cells6 hC0
 have HC:=Lib.hid hC0
 clear hC0 h
 go_enter Tryz.func68,Tryz.ntmps68
 go_wp2_with (first|(refine lb HC.out rfl rfl rfl (by kernel_rfl) ?_))
 go_wp2_with fail
 refine cb (HS.out _) fun w1 hb=>?_
 have hC:=kp hb HC.out
 replace hB:=tr hB hb
 clear hb HC c0 c1 c2 c3 c4 c5
 obtain ⟨c0,c1,c2,c3,c4,c5⟩:=cells6 hC
 have HC:=Lib.hid hC
 clear hC
 by_cases h2:2≤nS
 all_goals
  go_wp2_with fail
  refine cb (HF.out _) fun w2 hb=>?_
  have hC:=kp hb HC.out
  replace hB:=tr hB hb
  clear hb HC c0 c1 c2 c3 c4 c5
  obtain ⟨c0,c1,c2,c3,c4,c5⟩:=cells6 hC
  have HC:=Lib.hid hC
  clear hC
  cases bF
  ·go_wp2_with fail
   go_ret
   exact ⟨ret_int (by rw [HR.out];first|(simp [*];done)|(split<;>rename_i q<;>simp at q<;>(try split)<;>omega)),hB⟩
  ·cases ho
   ·go_wp2_with fail
    refine cb (HH.out _) fun w4 hb=>?_
    have hC:=kp hb HC.out
    replace hB:=tr hB hb
    clear hb HC c0 c1 c2 c3 c4 c5
    obtain ⟨c0,c1,c2,c3,c4,c5⟩:=cells6 hC
    have HC:=Lib.hid hC
    clear hC
    cases bH
    ·go_wp2_with fail
     refine cb (HN.out _) fun w3 hb=>?_
     have hC:=kp hb HC.out
     replace hB:=tr hB hb
     clear hb HC c0 c1 c2 c3 c4 c5
     obtain ⟨c0,c1,c2,c3,c4,c5⟩:=cells6 hC
     have HC:=Lib.hid hC
     clear hC
     by_cases hn:nM≤nS
     ·go_wp2_with fail
      go_ret
      exact ⟨ret_int (by rw [HR.out];first|(simp [*];done)|(split<;>rename_i q<;>simp at q<;>(try split)<;>omega)),hB⟩
     ·go_wp2_with fail
      go_ret
      exact ⟨ret_int (by rw [HR.out];first|(simp [*];done)|(split<;>rename_i q<;>simp at q<;>(try split)<;>omega)),hB⟩
    ·go_wp2_with fail
     go_ret
     exact ⟨ret_int (by rw [HR.out];first|(simp [*];done)|(split<;>rename_i q<;>simp at q<;>(try split)<;>omega)),hB⟩
   ·go_wp2_with fail
    refine cb (HN.out _) fun w3 hb=>?_
    have hC:=kp hb HC.out
    replace hB:=tr hB hb
    clear hb HC c0 c1 c2 c3 c4 c5
    obtain ⟨c0,c1,c2,c3,c4,c5⟩:=cells6 hC
    have HC:=Lib.hid hC
    clear hC
    by_cases hn:nM≤nS
    ·go_wp2_with fail
     go_ret
     exact ⟨ret_int (by rw [HR.out];first|(simp [*];done)|(split<;>rename_i q<;>simp at q<;>(try split)<;>omega)),hB⟩
    ·go_wp2_with fail
     go_ret
     exact ⟨ret_int (by rw [HR.out];first|(simp [*];done)|(split<;>rename_i q<;>simp at q<;>(try split)<;>omega)),hB⟩
abbrev Z6:Array Value:= #[.int .i64 0, .bool false, .bool false, .int .i64 0, .int .i64 0, .int .i64 0]
theorem resolve_any (s:Dw.St) (h:0≤s.iso∧s.iso≤15) (v:Int) (w:World):
  Calls Tryz.prog 56 #[stV s, .int .i64 v] w fun e w'=>e= .returned (stV (Dw.resolveS s v))∧Below w.heap.size w w':=by
 have HS:=Lib.hid (fun w=>safe_any s h w)
 obtain ⟨V,hV⟩:∃V,(w.alloc (.cells (stC s) 27)).alloc (.cells Z6 27)=V:=⟨_,rfl⟩
 have b0:V.heap[w.heap.size]?=some (.cells (stC s) 27):=by rw [←hV];exact heap_alloc2_old _ _ _
 have b1:V.heap[w.heap.size+1]?=some (.cells Z6 27):=by rw [←hV];exact heap_alloc2_new _ _ _
 have hB:Below w.heap.size w V:=by rw [←hV];exact ((Below.refl _ w).alloc (Nat.le_refl _) _).alloc (by simp) _
 by_cases h2:v=2
 ·subst h2
  go_enter Tryz.func56,Tryz.ntmps56
  go_wp2_with (first|(refine lb b0 rfl rfl rfl (by kernel_rfl) ?_)|(refine sb b0 rfl rfl rfl rfl (by kernel_rfl) ?_))
  refine cb (HS.out _) fun w1 hb=>?_
  replace b0:=kp hb b0
  replace b1:=kp hb b1
  replace hB:=tr hB hb
  clear hb hV
  have q0:=heap_setCell_same w1 w.heap.size 1 _ _ (.bool true) b0
  change _=some (Obj.cells (stC {s with ar:=true}) _ _) at q0
  have r0:=(heap_setCell_other w1 ⟨w.heap.size,1,none⟩ (w.heap.size+1) (.bool true) (by simp)).trans b1
  have hB0:=hB.setCell (p:=⟨w.heap.size,1,none⟩) (by simp) (.bool true)
  have q1:=heap_setCell_same _ w.heap.size 0 _ _ (.int .i64 (Dw.safeI s)) q0
  change _=some (Obj.cells (stC {s with mo:=Dw.safeI s,ar:=true}) _ _) at q1
  have r1:=(heap_setCell_other _ ⟨w.heap.size,0,none⟩ (w.heap.size+1) (.int .i64 (Dw.safeI s)) (by simp)).trans r0
  have hB1:=hB0.setCell (p:=⟨w.heap.size,0,none⟩) (by simp) (.int .i64 (Dw.safeI s))
  obtain ⟨W2,hW2⟩:∃W2,(w1.setCell ⟨w.heap.size,1,none⟩ (.bool true)).setCell ⟨w.heap.size,0,none⟩ (.int .i64 (Dw.safeI s))=W2:=⟨_,rfl⟩
  rw [hW2] at q1 r1 hB1
  obtain ⟨c0,c1,-⟩:=cells6 b0
  obtain ⟨d0,d1,-⟩:=cells6 q0
  have z0:=frozen0 b0 1
  have z1:=frozen0 q0 0
  go_wp2_with (first|(refine lb q1 rfl rfl rfl (by kernel_rfl) ?_)|(refine sb q1 rfl rfl rfl rfl (by kernel_rfl) ?_)|(refine lb r1 rfl rfl rfl (by kernel_rfl) ?_)|(refine sb r1 rfl rfl rfl rfl (by kernel_rfl) ?_))
  exact bodyPost_ret (rcr rfl (srh r1) (by rfl) (by kernel_rfl)) rfl ⟨rfl,below_setRow hB1 (by omega) _⟩
 ·by_cases h1:v=1
  ·subst h1
   have q0:=heap_setCell_same V w.heap.size 1 _ _ (.bool false) b0
   change _=some (Obj.cells (stC {s with ar:=false}) _ _) at q0
   have r0:=(heap_setCell_other V ⟨w.heap.size,1,none⟩ (w.heap.size+1) (.bool false) (by simp)).trans b1
   have hB0:=hB.setCell (p:=⟨w.heap.size,1,none⟩) (by simp) (.bool false)
   have q1:=heap_setCell_same _ w.heap.size 0 _ _ (.int .i64 0) q0
   change _=some (Obj.cells (stC {s with mo:=0,ar:=false}) _ _) at q1
   have r1:=(heap_setCell_other _ ⟨w.heap.size,0,none⟩ (w.heap.size+1) (.int .i64 0) (by simp)).trans r0
   have hB1:=hB0.setCell (p:=⟨w.heap.size,0,none⟩) (by simp) (.int .i64 0)
   obtain ⟨W2,hW2⟩:∃W2,(V.setCell ⟨w.heap.size,1,none⟩ (.bool false)).setCell ⟨w.heap.size,0,none⟩ (.int .i64 0)=W2:=⟨_,rfl⟩
   rw [hW2] at q1 r1 hB1
   obtain ⟨c0,c1,-⟩:=cells6 b0
   obtain ⟨d0,d1,-⟩:=cells6 q0
   have z0:=frozen0 b0 1
   have z1:=frozen0 q0 0
   go_enter Tryz.func56,Tryz.ntmps56
   go_wp2_with (first|(refine lb q1 rfl rfl rfl (by kernel_rfl) ?_)|(refine sb q1 rfl rfl rfl rfl (by kernel_rfl) ?_)|(refine lb r1 rfl rfl rfl (by kernel_rfl) ?_)|(refine sb r1 rfl rfl rfl rfl (by kernel_rfl) ?_))
   exact bodyPost_ret (rcr rfl (srh r1) (by rfl) (by kernel_rfl)) rfl ⟨rfl,below_setRow hB1 (by omega) _⟩
  ·have hr:Dw.resolveS s v=s:=by unfold Dw.resolveS;rw [if_neg h2,if_neg h1]
   have HR:=Lib.hid hr
   clear hr
   have h2':(v==2)=false:=by simpa using h2
   have h1':(v==1)=false:=by simpa using h1
   go_enter Tryz.func56,Tryz.ntmps56
   go_wp2_with (first|(refine lb b0 rfl rfl rfl (by kernel_rfl) ?_)|(refine sb b0 rfl rfl rfl rfl (by kernel_rfl) ?_)|(refine lb b1 rfl rfl rfl (by kernel_rfl) ?_)|(refine sb b1 rfl rfl rfl rfl (by kernel_rfl) ?_))
   exact bodyPost_ret (rcr rfl (srh b1) (by rfl) (by kernel_rfl)) rfl ⟨by rw [HR.out],below_setRow hB (by omega) _⟩
theorem rresolve_any (s:Dw.St) (h:0≤s.iso∧s.iso≤15) (v:Int) (w:World):
  Calls Tryz.prog 35 #[stV s, .int .i64 v] w fun e w'=>e= .returned (stV (Dw.resolveS s v))∧Below w.heap.size w w':=by
 have HS:=Lib.hid (fun w=>rsafe_any s h w)
 obtain ⟨V,hV⟩:∃V,(w.alloc (.cells (stC s) 42)).alloc (.cells Z6 42)=V:=⟨_,rfl⟩
 have b0:V.heap[w.heap.size]?=some (.cells (stC s) 42):=by rw [←hV];exact heap_alloc2_old _ _ _
 have b1:V.heap[w.heap.size+1]?=some (.cells Z6 42):=by rw [←hV];exact heap_alloc2_new _ _ _
 have hB:Below w.heap.size w V:=by rw [←hV];exact ((Below.refl _ w).alloc (Nat.le_refl _) _).alloc (by simp) _
 by_cases h2:v=2
 ·subst h2
  go_enter Tryz.func35,Tryz.ntmps35
  go_wp2_with (first|(refine lb b0 rfl rfl rfl (by kernel_rfl) ?_)|(refine sb b0 rfl rfl rfl rfl (by kernel_rfl) ?_))
  refine cb (HS.out _) fun w1 hb=>?_
  replace b0:=kp hb b0
  replace b1:=kp hb b1
  replace hB:=tr hB hb
  clear hb hV
  have q0:=heap_setCell_same w1 w.heap.size 0 _ _ (.int .i64 (Dw.safeI s)) b0
  change _=some (Obj.cells (stC {s with mo:=Dw.safeI s}) _ _) at q0
  have r0:=(heap_setCell_other w1 ⟨w.heap.size,0,none⟩ (w.heap.size+1) (.int .i64 (Dw.safeI s)) (by simp)).trans b1
  have hB0:=hB.setCell (p:=⟨w.heap.size,0,none⟩) (by simp) (.int .i64 (Dw.safeI s))
  have q1:=heap_setCell_same _ w.heap.size 1 _ _ (.bool true) q0
  change _=some (Obj.cells (stC {s with mo:=Dw.safeI s,ar:=true}) _ _) at q1
  have r1:=(heap_setCell_other _ ⟨w.heap.size,1,none⟩ (w.heap.size+1) (.bool true) (by simp)).trans r0
  have hB1:=hB0.setCell (p:=⟨w.heap.size,1,none⟩) (by simp) (.bool true)
  obtain ⟨W2,hW2⟩:∃W2,(w1.setCell ⟨w.heap.size,0,none⟩ (.int .i64 (Dw.safeI s))).setCell ⟨w.heap.size,1,none⟩ (.bool true)=W2:=⟨_,rfl⟩
  rw [hW2] at q1 r1 hB1
  obtain ⟨c0,c1,-⟩:=cells6 b0
  obtain ⟨d0,d1,-⟩:=cells6 q0
  have z0:=frozen0 b0 0
  have z1:=frozen0 q0 1
  go_wp2_with (first|(refine lb q1 rfl rfl rfl (by kernel_rfl) ?_)|(refine sb q1 rfl rfl rfl rfl (by kernel_rfl) ?_)|(refine lb r1 rfl rfl rfl (by kernel_rfl) ?_)|(refine sb r1 rfl rfl rfl rfl (by kernel_rfl) ?_))
  exact bodyPost_ret (rcr rfl (srh r1) (by rfl) (by kernel_rfl)) rfl ⟨rfl,below_setRow hB1 (by omega) _⟩
 ·by_cases h1:v=1
  ·subst h1
   have q0:=heap_setCell_same V w.heap.size 0 _ _ (.int .i64 0) b0
   change _=some (Obj.cells (stC {s with mo:=0}) _ _) at q0
   have r0:=(heap_setCell_other V ⟨w.heap.size,0,none⟩ (w.heap.size+1) (.int .i64 0) (by simp)).trans b1
   have hB0:=hB.setCell (p:=⟨w.heap.size,0,none⟩) (by simp) (.int .i64 0)
   have q1:=heap_setCell_same _ w.heap.size 1 _ _ (.bool false) q0
   change _=some (Obj.cells (stC {s with mo:=0,ar:=false}) _ _) at q1
   have r1:=(heap_setCell_other _ ⟨w.heap.size,1,none⟩ (w.heap.size+1) (.bool false) (by simp)).trans r0
   have hB1:=hB0.setCell (p:=⟨w.heap.size,1,none⟩) (by simp) (.bool false)
   obtain ⟨W2,hW2⟩:∃W2,(V.setCell ⟨w.heap.size,0,none⟩ (.int .i64 0)).setCell ⟨w.heap.size,1,none⟩ (.bool false)=W2:=⟨_,rfl⟩
   rw [hW2] at q1 r1 hB1
   obtain ⟨c0,c1,-⟩:=cells6 b0
   obtain ⟨d0,d1,-⟩:=cells6 q0
   have z0:=frozen0 b0 0
   have z1:=frozen0 q0 1
   go_enter Tryz.func35,Tryz.ntmps35
   go_wp2_with (first|(refine lb q1 rfl rfl rfl (by kernel_rfl) ?_)|(refine sb q1 rfl rfl rfl rfl (by kernel_rfl) ?_)|(refine lb r1 rfl rfl rfl (by kernel_rfl) ?_)|(refine sb r1 rfl rfl rfl rfl (by kernel_rfl) ?_))
   exact bodyPost_ret (rcr rfl (srh r1) (by rfl) (by kernel_rfl)) rfl ⟨rfl,below_setRow hB1 (by omega) _⟩
  ·have hr:Dw.resolveS s v=s:=by unfold Dw.resolveS;rw [if_neg h2,if_neg h1]
   have HR:=Lib.hid hr
   clear hr
   have h2':(v==2)=false:=by simpa using h2
   have h1':(v==1)=false:=by simpa using h1
   go_enter Tryz.func35,Tryz.ntmps35
   go_wp2_with (first|(refine lb b0 rfl rfl rfl (by kernel_rfl) ?_)|(refine sb b0 rfl rfl rfl rfl (by kernel_rfl) ?_)|(refine lb b1 rfl rfl rfl (by kernel_rfl) ?_)|(refine sb b1 rfl rfl rfl rfl (by kernel_rfl) ?_))
   exact bodyPost_ret (rcr rfl (srh b1) (by rfl) (by kernel_rfl)) rfl ⟨by rw [HR.out],below_setRow hB (by omega) _⟩
theorem getFrom_eq:∀(b:List UInt8) (n:Nat),Dw.getFrom n b=n*256^b.length+Dw.getFrom 0 b
 | [],n=>by simp [Dw.getFrom]
 |x::l,n=>by
  have h1:Dw.getFrom n (x::l)=Dw.getFrom (n*256+x.toNat) l:=rfl
  have h2:Dw.getFrom 0 (x::l)=Dw.getFrom (0*256+x.toNat) l:=rfl
  rw [h1,h2,getFrom_eq l (n*256+x.toNat),getFrom_eq l (0*256+x.toNat),List.length_cons,Nat.pow_succ,Nat.zero_mul,Nat.zero_add,Nat.add_mul,Nat.mul_assoc,Nat.mul_comm 256,Nat.add_assoc]
theorem get_append (a b:List UInt8):Dw.get (a++b)=Dw.get a*256^b.length+Dw.get b:=by
 unfold Dw.get
 rw [←getFrom_eq]
 exact List.foldl_append
theorem get_pack (F I NA NB:Nat) (hF:F<256) (hI:I<256):Dw.get ([UInt8.ofNat F,UInt8.ofNat I]++Dw.put 3 NA++Dw.put 3 NB)=F*72057594037927936+I*281474976710656+NA%16777216*16777216+NB%16777216:=by
 rw [get_append,get_append,Dw.put_length,Dw.put_length,Dw.get_put,Dw.get_put,show Dw.get [UInt8.ofNat F,UInt8.ofNat I]=F*256+I from by
  show (0*256+(UInt8.ofNat F).toNat)*256+(UInt8.ofNat I).toNat=_
  rw [UInt8.toNat_ofNat',UInt8.toNat_ofNat'];omega]
 omega
theorem rpack_any (s:Dw.St) (h:Dw.legal s=true) (w:World):
  Calls Tryz.prog 131 #[stV s] w fun e w'=>e= .returned (.int .u64 (Dw.pack s:Nat))∧Below w.heap.size w w':=by
 obtain ⟨⟨m0,m1,i0,i1⟩,_⟩:=(Dw.legal_iff s).1 h
 have hF:Dw.firstN s<32:=Dw.firstN_lt h
 have HP:=Lib.hid (show Dw.get ([UInt8.ofNat (Dw.firstN s),UInt8.ofNat s.iso.toNat]++Dw.put 3 (s.la%18446744073709551616).toNat++Dw.put 3 (s.lo%18446744073709551616).toNat)=Dw.pack s from by
  rw [get_pack _ _ _ _ (by omega) (by omega),m24_u64,m24_u64];unfold Dw.pack;rw [if_pos h])
 have HL:=Lib.hid (fun w=>rlegal_any s w)
 rw [h] at HL
 have HF:=Lib.hid (show ((Dw.firstN s:Nat):Int)=s.mo+(if s.ar then 8 else 0)+(if s.ho then 16 else 0) from by unfold Dw.firstN;cases s.ar<;>cases s.ho<;>simp<;>omega)
 have wA:=u64_nat s.la;have wB:=u64_nat s.lo
 have HP1:=Lib.hid (fun w=>rput3_any (s.la%18446744073709551616).toNat (by omega) w)
 have HP2:=Lib.hid (fun w=>rput3_any (s.lo%18446744073709551616).toNat (by omega) w)
 have l1:(Dw.put 3 (s.la%18446744073709551616).toNat).length=3:=Dw.put_length 3 _
 have l2:(Dw.put 3 (s.lo%18446744073709551616).toNat).length=3:=Dw.put_length 3 _
 have hI8:IntKind.u8.wrap s.iso=(((UInt8.ofNat s.iso.toNat).toNat:Nat):Int):=by rw [IntKind.wrap_u8',UInt8.toNat_ofNat'];omega
 have hF8:IntKind.u8.wrap ((Dw.firstN s:Nat):Int)=(((UInt8.ofNat (Dw.firstN s)).toNat:Nat):Int):=by rw [IntKind.wrap_u8',UInt8.toNat_ofNat'];omega
 have hB0:=(Below.refl w.heap.size w).alloc (Nat.le_refl _) (.cells (stC s) 42)
 have hC0:=han w (.cells (stC s) 42)
 have HW:=Lib.hid (fun (L:List UInt8) (hl:L.length≤8) w=>rget_any ⟨L.toArray⟩ (by show L.toArray.size≤8;simpa using hl) w)
 generalize Dw.pack s=PK at*
 generalize Dw.put 3 (s.la%18446744073709551616).toNat=Q at*
 generalize Dw.put 3 (s.lo%18446744073709551616).toNat=D at*
 generalize (s.la%18446744073709551616).toNat=NA at*
 generalize (s.lo%18446744073709551616).toNat=NB at*
 generalize UInt8.ofNat (Dw.firstN s)=fb at*
 generalize UInt8.ofNat s.iso.toNat=ib at*
 generalize ((Dw.firstN s:Nat):Int)=FI at*
 obtain ⟨mo,ar,ho,la,lo,iso⟩:=s
 obtain ⟨c0,c1,c2,c3,c4,c5⟩:=cells6 hC0
 have j1:wrap64 (mo+8)=mo+8:=IntWalk.wrap64_in _ (by dsimp only at*;omega)
 have j2:wrap64 (mo+16)=mo+16:=IntWalk.wrap64_in _ (by dsimp only at*;omega)
 have j3:wrap64 (mo+8+16)=mo+8+16:=IntWalk.wrap64_in _ (by dsimp only at*;omega)
 have j4:IntKind.i64.wrap (mo+8)=mo+8:=IntWalk.i64_in _ (by dsimp only at*;omega)
 have j5:IntKind.i64.wrap (mo+16)=mo+16:=IntWalk.i64_in _ (by dsimp only at*;omega)
 have j6:IntKind.i64.wrap (mo+8+16)=mo+8+16:=IntWalk.i64_in _ (by dsimp only at*;omega)
 have HA:=Lib.hid wA;have HB:=Lib.hid wB;have HF8:=Lib.hid hF8;have HI8:=Lib.hid hI8
 clear wA wB hF8 hI8 h m0 m1 i0 i1 hF
 cases ar<;>cases ho
 ·have HE:=Lib.hid (show mo=FI from by have:=HF.out;simp at this;omega)
  clear HF
  go_enter Tryz.func131,Tryz.ntmps131
  go_wp2_with (first|(refine lb hC0 rfl rfl rfl (by kernel_rfl) ?_))
  refine cb (HL.out _) fun w1 hb=>?_
  replace hC0:=kp hb hC0
  have hB1:=tr hB0 hb
  clear hb c0 c1 c2 c3 c4 c5 hB0
  obtain ⟨c0,c1,c2,c3,c4,c5⟩:=cells6 hC0
  go_wp2_with fail
  rw [HE.out]
  clear HE HL j1 j2 j3 j4 j5 j6
  refine wp_letterM [0,1,2,3,4,7,8,9,10,12,13,14,15] 5 [6,11,16,17] 18 (some 22) (NewRow w1 #[.int .u8 ((fb.toNat:Nat):Int), .int .u8 ((ib.toNat:Nat):Int)] 5) rfl rfl (by kernel_rfl) (by kernel_rfl) (by kernel_rfl) rfl (fun v A B h hk=>h.keep hk) ?_
  (apply rat;(focus (intro w' hk;obtain ⟨x3,x4,x5⟩:=look3 hk c3 c4 c5;have e1:=HA.out;have e2:=HB.out;have e3:=HF8.out;have e4:=HI8.out;(iterate 8 (refine' rv ?_ rfl rfl (by go_simp;first|done|with_reducible rfl|exact rfl);try simp only [Act.put,List.setIfInBounds_toArray,List.set_cons_zero,List.set_cons_succ]));(refine' rc ?_ (by exact rfl) (by exact rfl) (by go_simp;first|done|(constructor<;>with_reducible rfl)|with_reducible rfl) (by exact HP1.out w');try simp only [Act.put,List.setIfInBounds_toArray,List.set_cons_zero,List.set_cons_succ]);(iterate 3 (refine' rv ?_ rfl rfl (by go_simp;first|done|with_reducible rfl|exact rfl);try simp only [Act.put,List.setIfInBounds_toArray,List.set_cons_zero,List.set_cons_succ]));(refine' rc ?_ (by exact rfl) (by exact rfl) (by go_simp;first|done|(constructor<;>with_reducible rfl)|with_reducible rfl) (by exact HP2.out w');try simp only [Act.put,List.setIfInBounds_toArray,List.set_cons_zero,List.set_cons_succ]);(exact rn))))
  refine ⟨rfl,sure_row (fun w' _=>by go_simp),?_⟩
  rintro v W2 hk2 ⟨b,rfl,hb,hbc⟩
  simp only [List.setIfInBounds_toArray,List.set_cons_zero,List.set_cons_succ,List.size_toArray,List.length_cons,List.length_nil,Nat.zero_add]
  have kc:∀w',Keep W2 w'→(convert 135 9 (.slice (some ⟨b,0,none⟩) 2 2)).run Tryz.prog w'= .ok (.string ⟨([fb,ib]:List UInt8).toArray⟩) w':=fun w' hk'=>by
   have hbc':=kpi hk' hbc
   exact run_convert_bytes_back (P:=Tryz.prog) w' 135 9 5 ⟨b,0,none⟩ 2 [fb,ib] Tryz.underlying135 Tryz.underlying5 Tryz.underlying9 (fun j hj=>by
    rw [addr_add,cell_of_row _ _ j _ _ _ hbc']
    have hj2:j<2:=hj
    rcases (by omega:j=0∨j=1) with rfl|rfl
    ·rfl
    ·rfl)
  have KC:=Lib.hid kc
  clear kc
  have HPO:=Lib.hid HP.out
  generalize hSS:([fb,ib]:List UInt8)=SS at*
  have hS2:SS.length=2:=by rw [←hSS];rfl
  clear hSS HP
  have j1:¬9223372036854775807<SS.length+Q.length:=by omega
  have j2:¬9223372036854775807<SS.length+Q.length+D.length:=by omega
  obtain ⟨L8,hL8⟩:∃L,SS++Q++D=L:=⟨_,rfl⟩
  have x1:((⟨SS.toArray⟩:ByteArray)++⟨Q.toArray⟩++⟨D.toArray⟩)=⟨L8.toArray⟩:=by rw [bs_append,bs_append,hL8]
  have X1:=Lib.hid x1
  clear x1
  have HG:=Lib.hid (fun w=>HW.out L8 (by rw [←hL8];simp;omega) w)
  have HL8:=Lib.hid hL8
  clear hL8
  repeat' (first|(refine pl_value (v:=?_) rfl rfl ?_ ?_;rotate_left 1;(focus (intro w' hk;have kc':=KC.out w' hk;go_simp;(first|done|with_reducible rfl|exact rfl)));(try simp only [Act.put,List.setIfInBounds_toArray,List.set_cons_zero,List.set_cons_succ]))|(refine pl_value (v:=?_) rfl rfl ?_ ?_;rotate_left 1;(focus (intro w' hk;go_simp;(first|done|with_reducible rfl|exact rfl)));(try simp only [Act.put,List.setIfInBounds_toArray,List.set_cons_zero,List.set_cons_succ])))
  rw [X1.out]
  (refine pl_call (v:=?_) (f:=?_) (args:=?_) rfl rfl ?_ ?_ ?_;rotate_left 3;(focus (intro w' hk;go_simp;(first|done|(constructor<;>with_reducible rfl)|with_reducible rfl)));(focus (intro w' hk;exact HG.out w'));(try simp only [Act.put,List.setIfInBounds_toArray,List.set_cons_zero,List.set_cons_succ]))
  refine pl_nil ?_
  intro w3 hk3 _
  simp only [List.drop_succ_cons,List.drop_zero]
  have hB3:=hB1.trans ((hk2.trans hk3).whole.mono hB1.size)
  clear hk2 hk3 hbc hB1 KC c0 c1 c2 c3 c4 c5 j1 j2 HP1 HP2 HG HW
  go_wp2_with fail
  go_ret
  refine ⟨?_,hB3⟩
  show _=Ending.returned (.int .u64 ((PK:Nat):Int))
  rw [←HPO.out,HL8.out]
  rfl
 ·have HE:=Lib.hid (show mo+16=FI from by have:=HF.out;simp at this;omega)
  clear HF
  go_enter Tryz.func131,Tryz.ntmps131
  go_wp2_with (first|(refine lb hC0 rfl rfl rfl (by kernel_rfl) ?_))
  refine cb (HL.out _) fun w1 hb=>?_
  replace hC0:=kp hb hC0
  have hB1:=tr hB0 hb
  clear hb c0 c1 c2 c3 c4 c5 hB0
  obtain ⟨c0,c1,c2,c3,c4,c5⟩:=cells6 hC0
  go_wp2_with fail
  rw [HE.out]
  clear HE HL j1 j2 j3 j4 j5 j6
  refine wp_letterM [0,1,2,3,4,7,8,9,10,12,13,14,15] 5 [6,11,16,17] 18 (some 22) (NewRow w1 #[.int .u8 ((fb.toNat:Nat):Int), .int .u8 ((ib.toNat:Nat):Int)] 5) rfl rfl (by kernel_rfl) (by kernel_rfl) (by kernel_rfl) rfl (fun v A B h hk=>h.keep hk) ?_
  (apply rat;(focus (intro w' hk;obtain ⟨x3,x4,x5⟩:=look3 hk c3 c4 c5;have e1:=HA.out;have e2:=HB.out;have e3:=HF8.out;have e4:=HI8.out;(iterate 8 (refine' rv ?_ rfl rfl (by go_simp;first|done|with_reducible rfl|exact rfl);try simp only [Act.put,List.setIfInBounds_toArray,List.set_cons_zero,List.set_cons_succ]));(refine' rc ?_ (by exact rfl) (by exact rfl) (by go_simp;first|done|(constructor<;>with_reducible rfl)|with_reducible rfl) (by exact HP1.out w');try simp only [Act.put,List.setIfInBounds_toArray,List.set_cons_zero,List.set_cons_succ]);(iterate 3 (refine' rv ?_ rfl rfl (by go_simp;first|done|with_reducible rfl|exact rfl);try simp only [Act.put,List.setIfInBounds_toArray,List.set_cons_zero,List.set_cons_succ]));(refine' rc ?_ (by exact rfl) (by exact rfl) (by go_simp;first|done|(constructor<;>with_reducible rfl)|with_reducible rfl) (by exact HP2.out w');try simp only [Act.put,List.setIfInBounds_toArray,List.set_cons_zero,List.set_cons_succ]);(exact rn))))
  refine ⟨rfl,sure_row (fun w' _=>by go_simp),?_⟩
  rintro v W2 hk2 ⟨b,rfl,hb,hbc⟩
  simp only [List.setIfInBounds_toArray,List.set_cons_zero,List.set_cons_succ,List.size_toArray,List.length_cons,List.length_nil,Nat.zero_add]
  have kc:∀w',Keep W2 w'→(convert 135 9 (.slice (some ⟨b,0,none⟩) 2 2)).run Tryz.prog w'= .ok (.string ⟨([fb,ib]:List UInt8).toArray⟩) w':=fun w' hk'=>by
   have hbc':=kpi hk' hbc
   exact run_convert_bytes_back (P:=Tryz.prog) w' 135 9 5 ⟨b,0,none⟩ 2 [fb,ib] Tryz.underlying135 Tryz.underlying5 Tryz.underlying9 (fun j hj=>by
    rw [addr_add,cell_of_row _ _ j _ _ _ hbc']
    have hj2:j<2:=hj
    rcases (by omega:j=0∨j=1) with rfl|rfl
    ·rfl
    ·rfl)
  have KC:=Lib.hid kc
  clear kc
  have HPO:=Lib.hid HP.out
  generalize hSS:([fb,ib]:List UInt8)=SS at*
  have hS2:SS.length=2:=by rw [←hSS];rfl
  clear hSS HP
  have j1:¬9223372036854775807<SS.length+Q.length:=by omega
  have j2:¬9223372036854775807<SS.length+Q.length+D.length:=by omega
  obtain ⟨L8,hL8⟩:∃L,SS++Q++D=L:=⟨_,rfl⟩
  have x1:((⟨SS.toArray⟩:ByteArray)++⟨Q.toArray⟩++⟨D.toArray⟩)=⟨L8.toArray⟩:=by rw [bs_append,bs_append,hL8]
  have X1:=Lib.hid x1
  clear x1
  have HG:=Lib.hid (fun w=>HW.out L8 (by rw [←hL8];simp;omega) w)
  have HL8:=Lib.hid hL8
  clear hL8
  repeat' (first|(refine pl_value (v:=?_) rfl rfl ?_ ?_;rotate_left 1;(focus (intro w' hk;have kc':=KC.out w' hk;go_simp;(first|done|with_reducible rfl|exact rfl)));(try simp only [Act.put,List.setIfInBounds_toArray,List.set_cons_zero,List.set_cons_succ]))|(refine pl_value (v:=?_) rfl rfl ?_ ?_;rotate_left 1;(focus (intro w' hk;go_simp;(first|done|with_reducible rfl|exact rfl)));(try simp only [Act.put,List.setIfInBounds_toArray,List.set_cons_zero,List.set_cons_succ])))
  rw [X1.out]
  (refine pl_call (v:=?_) (f:=?_) (args:=?_) rfl rfl ?_ ?_ ?_;rotate_left 3;(focus (intro w' hk;go_simp;(first|done|(constructor<;>with_reducible rfl)|with_reducible rfl)));(focus (intro w' hk;exact HG.out w'));(try simp only [Act.put,List.setIfInBounds_toArray,List.set_cons_zero,List.set_cons_succ]))
  refine pl_nil ?_
  intro w3 hk3 _
  simp only [List.drop_succ_cons,List.drop_zero]
  have hB3:=hB1.trans ((hk2.trans hk3).whole.mono hB1.size)
  clear hk2 hk3 hbc hB1 KC c0 c1 c2 c3 c4 c5 j1 j2 HP1 HP2 HG HW
  go_wp2_with fail
  go_ret
  refine ⟨?_,hB3⟩
  show _=Ending.returned (.int .u64 ((PK:Nat):Int))
  rw [←HPO.out,HL8.out]
  rfl
 ·have HE:=Lib.hid (show mo+8=FI from by have:=HF.out;simp at this;omega)
  clear HF
  go_enter Tryz.func131,Tryz.ntmps131
  go_wp2_with (first|(refine lb hC0 rfl rfl rfl (by kernel_rfl) ?_))
  refine cb (HL.out _) fun w1 hb=>?_
  replace hC0:=kp hb hC0
  have hB1:=tr hB0 hb
  clear hb c0 c1 c2 c3 c4 c5 hB0
  obtain ⟨c0,c1,c2,c3,c4,c5⟩:=cells6 hC0
  go_wp2_with fail
  rw [HE.out]
  clear HE HL j1 j2 j3 j4 j5 j6
  refine wp_letterM [0,1,2,3,4,7,8,9,10,12,13,14,15] 5 [6,11,16,17] 18 (some 22) (NewRow w1 #[.int .u8 ((fb.toNat:Nat):Int), .int .u8 ((ib.toNat:Nat):Int)] 5) rfl rfl (by kernel_rfl) (by kernel_rfl) (by kernel_rfl) rfl (fun v A B h hk=>h.keep hk) ?_
  (apply rat;(focus (intro w' hk;obtain ⟨x3,x4,x5⟩:=look3 hk c3 c4 c5;have e1:=HA.out;have e2:=HB.out;have e3:=HF8.out;have e4:=HI8.out;(iterate 8 (refine' rv ?_ rfl rfl (by go_simp;first|done|with_reducible rfl|exact rfl);try simp only [Act.put,List.setIfInBounds_toArray,List.set_cons_zero,List.set_cons_succ]));(refine' rc ?_ (by exact rfl) (by exact rfl) (by go_simp;first|done|(constructor<;>with_reducible rfl)|with_reducible rfl) (by exact HP1.out w');try simp only [Act.put,List.setIfInBounds_toArray,List.set_cons_zero,List.set_cons_succ]);(iterate 3 (refine' rv ?_ rfl rfl (by go_simp;first|done|with_reducible rfl|exact rfl);try simp only [Act.put,List.setIfInBounds_toArray,List.set_cons_zero,List.set_cons_succ]));(refine' rc ?_ (by exact rfl) (by exact rfl) (by go_simp;first|done|(constructor<;>with_reducible rfl)|with_reducible rfl) (by exact HP2.out w');try simp only [Act.put,List.setIfInBounds_toArray,List.set_cons_zero,List.set_cons_succ]);(exact rn))))
  refine ⟨rfl,sure_row (fun w' _=>by go_simp),?_⟩
  rintro v W2 hk2 ⟨b,rfl,hb,hbc⟩
  simp only [List.setIfInBounds_toArray,List.set_cons_zero,List.set_cons_succ,List.size_toArray,List.length_cons,List.length_nil,Nat.zero_add]
  have kc:∀w',Keep W2 w'→(convert 135 9 (.slice (some ⟨b,0,none⟩) 2 2)).run Tryz.prog w'= .ok (.string ⟨([fb,ib]:List UInt8).toArray⟩) w':=fun w' hk'=>by
   have hbc':=kpi hk' hbc
   exact run_convert_bytes_back (P:=Tryz.prog) w' 135 9 5 ⟨b,0,none⟩ 2 [fb,ib] Tryz.underlying135 Tryz.underlying5 Tryz.underlying9 (fun j hj=>by
    rw [addr_add,cell_of_row _ _ j _ _ _ hbc']
    have hj2:j<2:=hj
    rcases (by omega:j=0∨j=1) with rfl|rfl
    ·rfl
    ·rfl)
  have KC:=Lib.hid kc
  clear kc
  have HPO:=Lib.hid HP.out
  generalize hSS:([fb,ib]:List UInt8)=SS at*
  have hS2:SS.length=2:=by rw [←hSS];rfl
  clear hSS HP
  have j1:¬9223372036854775807<SS.length+Q.length:=by omega
  have j2:¬9223372036854775807<SS.length+Q.length+D.length:=by omega
  obtain ⟨L8,hL8⟩:∃L,SS++Q++D=L:=⟨_,rfl⟩
  have x1:((⟨SS.toArray⟩:ByteArray)++⟨Q.toArray⟩++⟨D.toArray⟩)=⟨L8.toArray⟩:=by rw [bs_append,bs_append,hL8]
  have X1:=Lib.hid x1
  clear x1
  have HG:=Lib.hid (fun w=>HW.out L8 (by rw [←hL8];simp;omega) w)
  have HL8:=Lib.hid hL8
  clear hL8
  repeat' (first|(refine pl_value (v:=?_) rfl rfl ?_ ?_;rotate_left 1;(focus (intro w' hk;have kc':=KC.out w' hk;go_simp;(first|done|with_reducible rfl|exact rfl)));(try simp only [Act.put,List.setIfInBounds_toArray,List.set_cons_zero,List.set_cons_succ]))|(refine pl_value (v:=?_) rfl rfl ?_ ?_;rotate_left 1;(focus (intro w' hk;go_simp;(first|done|with_reducible rfl|exact rfl)));(try simp only [Act.put,List.setIfInBounds_toArray,List.set_cons_zero,List.set_cons_succ])))
  rw [X1.out]
  (refine pl_call (v:=?_) (f:=?_) (args:=?_) rfl rfl ?_ ?_ ?_;rotate_left 3;(focus (intro w' hk;go_simp;(first|done|(constructor<;>with_reducible rfl)|with_reducible rfl)));(focus (intro w' hk;exact HG.out w'));(try simp only [Act.put,List.setIfInBounds_toArray,List.set_cons_zero,List.set_cons_succ]))
  refine pl_nil ?_
  intro w3 hk3 _
  simp only [List.drop_succ_cons,List.drop_zero]
  have hB3:=hB1.trans ((hk2.trans hk3).whole.mono hB1.size)
  clear hk2 hk3 hbc hB1 KC c0 c1 c2 c3 c4 c5 j1 j2 HP1 HP2 HG HW
  go_wp2_with fail
  go_ret
  refine ⟨?_,hB3⟩
  show _=Ending.returned (.int .u64 ((PK:Nat):Int))
  rw [←HPO.out,HL8.out]
  rfl
 ·have HE:=Lib.hid (show mo+8+16=FI from by have:=HF.out;simp at this;omega)
  clear HF
  go_enter Tryz.func131,Tryz.ntmps131
  go_wp2_with (first|(refine lb hC0 rfl rfl rfl (by kernel_rfl) ?_))
  refine cb (HL.out _) fun w1 hb=>?_
  replace hC0:=kp hb hC0
  have hB1:=tr hB0 hb
  clear hb c0 c1 c2 c3 c4 c5 hB0
  obtain ⟨c0,c1,c2,c3,c4,c5⟩:=cells6 hC0
  go_wp2_with fail
  rw [HE.out]
  clear HE HL j1 j2 j3 j4 j5 j6
  refine wp_letterM [0,1,2,3,4,7,8,9,10,12,13,14,15] 5 [6,11,16,17] 18 (some 22) (NewRow w1 #[.int .u8 ((fb.toNat:Nat):Int), .int .u8 ((ib.toNat:Nat):Int)] 5) rfl rfl (by kernel_rfl) (by kernel_rfl) (by kernel_rfl) rfl (fun v A B h hk=>h.keep hk) ?_
  (apply rat;(focus (intro w' hk;obtain ⟨x3,x4,x5⟩:=look3 hk c3 c4 c5;have e1:=HA.out;have e2:=HB.out;have e3:=HF8.out;have e4:=HI8.out;(iterate 8 (refine' rv ?_ rfl rfl (by go_simp;first|done|with_reducible rfl|exact rfl);try simp only [Act.put,List.setIfInBounds_toArray,List.set_cons_zero,List.set_cons_succ]));(refine' rc ?_ (by exact rfl) (by exact rfl) (by go_simp;first|done|(constructor<;>with_reducible rfl)|with_reducible rfl) (by exact HP1.out w');try simp only [Act.put,List.setIfInBounds_toArray,List.set_cons_zero,List.set_cons_succ]);(iterate 3 (refine' rv ?_ rfl rfl (by go_simp;first|done|with_reducible rfl|exact rfl);try simp only [Act.put,List.setIfInBounds_toArray,List.set_cons_zero,List.set_cons_succ]));(refine' rc ?_ (by exact rfl) (by exact rfl) (by go_simp;first|done|(constructor<;>with_reducible rfl)|with_reducible rfl) (by exact HP2.out w');try simp only [Act.put,List.setIfInBounds_toArray,List.set_cons_zero,List.set_cons_succ]);(exact rn))))
  refine ⟨rfl,sure_row (fun w' _=>by go_simp),?_⟩
  rintro v W2 hk2 ⟨b,rfl,hb,hbc⟩
  simp only [List.setIfInBounds_toArray,List.set_cons_zero,List.set_cons_succ,List.size_toArray,List.length_cons,List.length_nil,Nat.zero_add]
  have kc:∀w',Keep W2 w'→(convert 135 9 (.slice (some ⟨b,0,none⟩) 2 2)).run Tryz.prog w'= .ok (.string ⟨([fb,ib]:List UInt8).toArray⟩) w':=fun w' hk'=>by
   have hbc':=kpi hk' hbc
   exact run_convert_bytes_back (P:=Tryz.prog) w' 135 9 5 ⟨b,0,none⟩ 2 [fb,ib] Tryz.underlying135 Tryz.underlying5 Tryz.underlying9 (fun j hj=>by
    rw [addr_add,cell_of_row _ _ j _ _ _ hbc']
    have hj2:j<2:=hj
    rcases (by omega:j=0∨j=1) with rfl|rfl
    ·rfl
    ·rfl)
  have KC:=Lib.hid kc
  clear kc
  have HPO:=Lib.hid HP.out
  generalize hSS:([fb,ib]:List UInt8)=SS at*
  have hS2:SS.length=2:=by rw [←hSS];rfl
  clear hSS HP
  have j1:¬9223372036854775807<SS.length+Q.length:=by omega
  have j2:¬9223372036854775807<SS.length+Q.length+D.length:=by omega
  obtain ⟨L8,hL8⟩:∃L,SS++Q++D=L:=⟨_,rfl⟩
  have x1:((⟨SS.toArray⟩:ByteArray)++⟨Q.toArray⟩++⟨D.toArray⟩)=⟨L8.toArray⟩:=by rw [bs_append,bs_append,hL8]
  have X1:=Lib.hid x1
  clear x1
  have HG:=Lib.hid (fun w=>HW.out L8 (by rw [←hL8];simp;omega) w)
  have HL8:=Lib.hid hL8
  clear hL8
  repeat' (first|(refine pl_value (v:=?_) rfl rfl ?_ ?_;rotate_left 1;(focus (intro w' hk;have kc':=KC.out w' hk;go_simp;(first|done|with_reducible rfl|exact rfl)));(try simp only [Act.put,List.setIfInBounds_toArray,List.set_cons_zero,List.set_cons_succ]))|(refine pl_value (v:=?_) rfl rfl ?_ ?_;rotate_left 1;(focus (intro w' hk;go_simp;(first|done|with_reducible rfl|exact rfl)));(try simp only [Act.put,List.setIfInBounds_toArray,List.set_cons_zero,List.set_cons_succ])))
  rw [X1.out]
  (refine pl_call (v:=?_) (f:=?_) (args:=?_) rfl rfl ?_ ?_ ?_;rotate_left 3;(focus (intro w' hk;go_simp;(first|done|(constructor<;>with_reducible rfl)|with_reducible rfl)));(focus (intro w' hk;exact HG.out w'));(try simp only [Act.put,List.setIfInBounds_toArray,List.set_cons_zero,List.set_cons_succ]))
  refine pl_nil ?_
  intro w3 hk3 _
  simp only [List.drop_succ_cons,List.drop_zero]
  have hB3:=hB1.trans ((hk2.trans hk3).whole.mono hB1.size)
  clear hk2 hk3 hbc hB1 KC c0 c1 c2 c3 c4 c5 j1 j2 HP1 HP2 HG HW
  go_wp2_with fail
  go_ret
  refine ⟨?_,hB3⟩
  show _=Ending.returned (.int .u64 ((PK:Nat):Int))
  rw [←HPO.out,HL8.out]
  rfl
end Go.Proofs.YtnaokijcggbfdaaGreatDoor
