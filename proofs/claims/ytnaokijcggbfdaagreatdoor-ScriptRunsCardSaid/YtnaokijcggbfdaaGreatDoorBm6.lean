/- What the statement's proof stands on, part 6: Blank. -/
import Derived.Test.YtnaokijcggbfdaaGreatDoorBm4
import Derived.Lib.Bytealg
set_option linter.unusedSimpArgs false
set_option linter.unusedVariables false
set_option maxRecDepth 100000
set_option maxHeartbeats 4000000
namespace Go.Proofs.YtnaokijcggbfdaaGreatDoor
open Go.RowKit Go.Shelf
attribute [local go_sem] Oper.semAt_some
theorem beq_nat (a b:Nat):((a:Int)==(b:Int))=decide (a=b):=by rw [Bool.eq_iff_iff,beq_iff_eq,decide_eq_true_iff];omega
namespace Dw
def blankB (l:List UInt8):Bool:=decide (l.count 255=l.length)
end Dw
theorem count_any (s:ByteArray) (w:World):
  Calls Tryz.prog 230 #[.string s, .string ⟨#[255]⟩] w fun e w'=>e= .returned (.int .i64 ((s.data.toList.count 255:Nat):Int))∧Below w.heap.size w w':=by
 go_enter Tryz.func230,Tryz.ntmps230
 go_wp2_with fail
 rw [run_callFunc_extern Tryz.func233 (by kernel_rfl) (by kernel_rfl) (by kernel_rfl) (e:=Extern.BytealgCount.count) (by kernel_rfl),Lib.run_countString]
 simp only [Result.andThen]
 rw [Oper.upon_value]
 go_wp2_with fail
 go_ret
 exact ⟨rfl,Below.refl _ _⟩
theorem blank_any (s:ByteArray) (w:World):
  Calls Tryz.prog 221 #[.string s] w fun e w'=>e= .returned (.bool (Dw.blankB s.data.toList))∧Below w.heap.size w w':=by
 have Hl:=Lib.hid (show s.data.toList.length=s.size from by simp)
 go_enter Tryz.func221,Tryz.ntmps221
 go_wp2_with fail
 refine cb (count_any _ _) fun w1 hb1=>?_
 go_wp2_with fail
 go_ret
 refine ⟨ret_bool ?_,hb1⟩
 unfold Dw.blankB
 rw [Hl.out]
 simpa using beq_nat (s.data.toList.count 255) s.size
theorem str_beq (a b:ByteArray):(a.toList==b.toList)=decide (a=b):=by
 rw [ByteArray.toList_eq,ByteArray.toList_eq,Bool.eq_iff_iff,beq_iff_eq,decide_eq_true_iff]
 exact ⟨fun h=>ByteArray.ext (Array.toList_inj.1 h),fun h=>by rw [h]⟩
def allFF (n:Nat):ByteArray:=⟨(List.replicate n 255).toArray⟩
theorem allFF_succ (n:Nat):allFF n++⟨#[255]⟩=allFF (n+1):=by
 apply ByteArray.ext
 apply Array.toList_inj.1
 simp only [allFF,ByteArray.data_append,Array.toList_append]
 exact (List.replicate_succ' ..).symm
theorem allFF_size (n:Nat):(allFF n).size=n:=by simp [allFF,ByteArray.size]
theorem eq_allFF (s:ByteArray):s=allFF s.size↔s.data.toList.count 255=s.size:=by
 rw [show s.size=s.data.toList.length from by simp,List.count_eq_length]
 constructor
 ·intro h b hb
  rw [h] at hb
  simp [allFF] at hb
  exact hb.2.symm
 ·intro h
  apply ByteArray.ext
  apply Array.toList_inj.1
  simp only [allFF]
  exact List.eq_replicate_of_mem (fun b hb=>(h b hb).symm)
theorem rblankN_any (n:Nat) (hn:n≤100000) (w:World):
  Calls Tryz.prog 92 #[.int .i64 n] w fun e w'=>e= .returned (.string (allFF n))∧Below w.heap.size w w':=by
 go_enter Tryz.func92,Tryz.ntmps92
 go_wp2_with fail
 go_loopw [3,4] (fun c i wr=>∃k:Nat,k≤n∧i= .int .i64 k∧c= .string (allFF k)∧wr=w) (fun _ i _=>n-(intOf i).toNat)
 case atStart=>exact ⟨0,Nat.zero_le _,rfl,rfl,rfl⟩
 case round=>
  obtain ⟨k,hk,rfl,rfl,rfl⟩:=hrel
  have Hst:=Lib.hid (allFF_succ k)
  have Hsz:=allFF_size k
  generalize hss:allFF k=s at*
  have Hss:=Lib.hid hss;clear hss
  by_cases hlt:k<n
  ·go_wp2_with fail
   go_roundw
   case rel=>exact ⟨k+1,by omega,by go_num,by rw [←Hst.out],trivial⟩
   case measure=>simp [intOf];omega
  ·obtain rfl:k=n:=by omega
   go_wp2_with fail
   go_ret
   exact ⟨by rw [Hss.out];rfl,Below.refl _ _⟩
theorem rblank_any (s:ByteArray) (hs:s.size≤100000) (w:World):
  Calls Tryz.prog 205 #[.string s] w fun e w'=>e= .returned (.bool (Dw.blankB s.data.toList))∧Below w.heap.size w w':=by
 have Hl:=Lib.hid (show s.data.toList.length=s.size from by simp)
 have He:=Lib.hid (eq_allFF s)
 go_enter Tryz.func205,Tryz.ntmps205
 go_wp2_with fail
 refine cb (rblankN_any _ hs _) fun w1 hb1=>?_
 go_wp2_with fail
 go_ret
 refine ⟨ret_bool ?_,hb1⟩
 unfold Dw.blankB
 rw [Hl.out]
 exact (str_beq s (allFF s.size)).trans (decide_eq_decide.2 He.out)
end Go.Proofs.YtnaokijcggbfdaaGreatDoor
