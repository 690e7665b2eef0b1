/- Joined texts: Each, FrmW. -/
import Derived.Test.YtncnnbmeacpboaaGreatDoorN12
import Derived.Test.YtncnnbmeacpboaaGreatDoorN06
import Derived.Test.YtncnnbmeacpboaaGreatDoorChecked
set_option maxHeartbeats 1000000
set_option maxRecDepth 100000
set_option linter.unusedVariables false
set_option linter.unusedSimpArgs false
/- school.each over each kind of element. Printed by gen_each.py. -/
namespace Go.Proofs.YtncnnbmeacpboaaGreatDoor
open Go.RowKit Go.Chalk
attribute [local go_sem] Oper.semAt_some
theorem neq_nil_Lsn (nf:Nat) (w:World):(binOp .neq 157 (.func (.func nf) #[] #[]) .nilFunc).run Tryz.prog w=.ok (.bool true) w:=by kernel_rfl
theorem each_Lsn (n:Nat) (nm:Nat->Bs) (y1:Nat->SlA) (n1:Nat->Nat) (y2:Nat->SlA) (n2:Nat->Nat) (sa:SlA) (nf:Nat) (D:Nat->Prop) (w:World) (hsl:SlAt D sa.a sa.b sa.o n)
  (hc:∀ j,j<n->w.cell? ⟨sa.b,sa.o+j*3,none⟩=some (.string ⟨(nm j).toArray⟩)/\w.cell? ⟨sa.b,sa.o+j*3+1,none⟩=some (.slice (y1 j).a (n1 j) (y1 j).cap)/\w.cell? ⟨sa.b,sa.o+j*3+2,none⟩=some (.slice (y2 j).a (n2 j) (y2 j).cap))
  (hnm:∀ j,j<n->∀ W,Calls Tryz.prog nf #[.agg #[.string ⟨(nm j).toArray⟩,.slice (y1 j).a (n1 j) (y1 j).cap,.slice (y2 j).a (n2 j) (y2 j).cap]] W fun e w'=>e=.returned (.string ⟨(nm j).toArray⟩)/\Below W.heap.size W w')
  (hent:∀ (args:Array Value) (w:World),(callFunc nf args).run Tryz.prog w=.ok (.enter nf args) w) (hmax:n<=2000000) :
  IterG Tryz.prog 91 (fun l=>#[.slice sa.a n sa.cap,.func (.func nf) #[] #[],.func (.yield l) #[] #[]]) n (fun i=>#[.int .i64 i,.string ⟨(nm i).toArray⟩]) D w:=by
 intro l J Jx T W hAg hD hT hJ hJx hY h0
 have B0:=Between.start (J:=J) h0
 have HB:=Lh B0
 have hnn:=neq_nil_Lsn nf
 have HY:=Lh hY
 have HJ:=Lh hJ
 have HJX:=Lh hJx
 have HD:=Lh hD
 have HT:=Lh hT
 have HAG:=Lh hAg
 have HC:=Lh hc
 have HNM:=Lh hnm
 clear hY hJ hJx hD hT hAg hc hnm h0 B0
 refine (callsIn_wide (n:=0)).1 (callsIn_of_wp Tryz.func91 rfl trivial ?_ rfl)
 simp only [Tryz.ntmps91,List.size_toArray,List.length_cons,List.length_nil,Nat.reduceAdd,Nat.reduceSub,Array.replicate_succ,Array.replicate_zero,List.push_toArray,List.append_toArray,List.nil_append,List.cons_append]
 gi_wp2_with fail
 gi_loopw [11] (fun i wr=>∃ (j:Nat) (T1:Nat->Prop),j<=n/\i=.int .i64 j/\Hid (Between J T T1 W wr j)) (fun i _=>n - (intOf i).toNat)
 case atStart=>exact ⟨0,T,Nat.zero_le _,rfl,HB⟩
 case round =>
  obtain ⟨j,T1,hj,rfl,HR⟩:=hrel
  clear HB
  by_cases hlt:j<n
  ·obtain ⟨q0,q1,q2⟩:=HC.out j hlt
   obtain ⟨hsa,hDb⟩:=hsl (by omega)
   have hag:Agree D w wr:=HAG.out.trans (HR.out.agree HD.out)
   have e0:=(cell_agree hag (a:=⟨sa.b,sa.o+j*3,none⟩) hDb).trans q0
   have e1:=(cell_agree hag (a:=⟨sa.b,sa.o+j*3+1,none⟩) hDb).trans q1
   have e2:=(cell_agree hag (a:=⟨sa.b,sa.o+j*3+2,none⟩) hDb).trans q2
   rw [hsa]
   clear hag q0 q1 q2
   gi_wp2_with fail
   refine ⟨trivial,rfl,(callsIn_wide.2 (HNM.out j hlt _)).mono ?_⟩
   rintro e w1 ⟨rfl,hb1⟩
   have hb0:=Below.ahead hb1 (by simp)
   have HR1:=Lh (HR.out.own HJ.out hb0)
   obtain ⟨fn,tmps,assign,body,hy,hR⟩:=HY.out j T1 w1 hlt HR1.out.inv (HR1.out.lt HT.out)
   have HRR:=Lh hR
   clear hb0 hb1 hR
   gi_wp2_with fail
   refine ⟨rfl,HRR.out.mono ?_⟩
   rintro e W2 ⟨T2,he,hm,⟨rfl,hj2⟩ | ⟨rfl,hj2⟩⟩
   ·have HR2:=Lh (HR1.out.round he hm hj2)
    clear he hm hj2
    gi_wp2_with fail
    exact ⟨⟨j+1,T2,by omega,by go_num,HR2⟩,by simp [intOf];omega⟩
   ·have HP:=Lh (HR1.out.stop hlt he hm hj2 (v:=.tuple #[]))
    clear he hm hj2
    gi_wp2_with fail
    go_end0
    exact HP.out
  ·obtain rfl:j=n:=by omega
   have HP:=Lh (HR.out.done (Jx:=Jx) (v:=.tuple #[]))
   gi_wp2_with fail
   go_end0
   exact HP.out

theorem neq_nil_Slt (nf:Nat) (w:World):(binOp .neq 159 (.func (.func nf) #[] #[]) .nilFunc).run Tryz.prog w=.ok (.bool true) w:=by kernel_rfl
theorem each_Slt (n:Nat) (nm:Nat->Bs) (z1:Nat->Int) (z2:Nat->Int) (sa:SlA) (nf:Nat) (D:Nat->Prop) (w:World) (hsl:SlAt D sa.a sa.b sa.o n)
  (hc:∀ j,j<n->w.cell? ⟨sa.b,sa.o+j*3,none⟩=some (.string ⟨(nm j).toArray⟩)/\w.cell? ⟨sa.b,sa.o+j*3+1,none⟩=some (.int .i64 (z1 j))/\w.cell? ⟨sa.b,sa.o+j*3+2,none⟩=some (.int .i64 (z2 j)))
  (hnm:∀ j,j<n->∀ W,Calls Tryz.prog nf #[.agg #[.string ⟨(nm j).toArray⟩,.int .i64 (z1 j),.int .i64 (z2 j)]] W fun e w'=>e=.returned (.string ⟨(nm j).toArray⟩)/\Below W.heap.size W w')
  (hent:∀ (args:Array Value) (w:World),(callFunc nf args).run Tryz.prog w=.ok (.enter nf args) w) (hmax:n<=2000000) :
  IterG Tryz.prog 93 (fun l=>#[.slice sa.a n sa.cap,.func (.func nf) #[] #[],.func (.yield l) #[] #[]]) n (fun i=>#[.int .i64 i,.string ⟨(nm i).toArray⟩]) D w:=by
 intro l J Jx T W hAg hD hT hJ hJx hY h0
 have B0:=Between.start (J:=J) h0
 have HB:=Lh B0
 have hnn:=neq_nil_Slt nf
 have HY:=Lh hY
 have HJ:=Lh hJ
 have HJX:=Lh hJx
 have HD:=Lh hD
 have HT:=Lh hT
 have HAG:=Lh hAg
 have HC:=Lh hc
 have HNM:=Lh hnm
 clear hY hJ hJx hD hT hAg hc hnm h0 B0
 refine (callsIn_wide (n:=0)).1 (callsIn_of_wp Tryz.func93 rfl trivial ?_ rfl)
 simp only [Tryz.ntmps93,List.size_toArray,List.length_cons,List.length_nil,Nat.reduceAdd,Nat.reduceSub,Array.replicate_succ,Array.replicate_zero,List.push_toArray,List.append_toArray,List.nil_append,List.cons_append]
 gi_wp2_with fail
 gi_loopw [11] (fun i wr=>∃ (j:Nat) (T1:Nat->Prop),j<=n/\i=.int .i64 j/\Hid (Between J T T1 W wr j)) (fun i _=>n - (intOf i).toNat)
 case atStart=>exact ⟨0,T,Nat.zero_le _,rfl,HB⟩
 case round =>
  obtain ⟨j,T1,hj,rfl,HR⟩:=hrel
  clear HB
  by_cases hlt:j<n
  ·obtain ⟨q0,q1,q2⟩:=HC.out j hlt
   obtain ⟨hsa,hDb⟩:=hsl (by omega)
   have hag:Agree D w wr:=HAG.out.trans (HR.out.agree HD.out)
   have e0:=(cell_agree hag (a:=⟨sa.b,sa.o+j*3,none⟩) hDb).trans q0
   have e1:=(cell_agree hag (a:=⟨sa.b,sa.o+j*3+1,none⟩) hDb).trans q1
   have e2:=(cell_agree hag (a:=⟨sa.b,sa.o+j*3+2,none⟩) hDb).trans q2
   rw [hsa]
   clear hag q0 q1 q2
   gi_wp2_with fail
   refine ⟨trivial,rfl,(callsIn_wide.2 (HNM.out j hlt _)).mono ?_⟩
   rintro e w1 ⟨rfl,hb1⟩
   have hb0:=Below.ahead hb1 (by simp)
   have HR1:=Lh (HR.out.own HJ.out hb0)
   obtain ⟨fn,tmps,assign,body,hy,hR⟩:=HY.out j T1 w1 hlt HR1.out.inv (HR1.out.lt HT.out)
   have HRR:=Lh hR
   clear hb0 hb1 hR
   gi_wp2_with fail
   refine ⟨rfl,HRR.out.mono ?_⟩
   rintro e W2 ⟨T2,he,hm,⟨rfl,hj2⟩ | ⟨rfl,hj2⟩⟩
   ·have HR2:=Lh (HR1.out.round he hm hj2)
    clear he hm hj2
    gi_wp2_with fail
    exact ⟨⟨j+1,T2,by omega,by go_num,HR2⟩,by simp [intOf];omega⟩
   ·have HP:=Lh (HR1.out.stop hlt he hm hj2 (v:=.tuple #[]))
    clear he hm hj2
    gi_wp2_with fail
    go_end0
    exact HP.out
  ·obtain rfl:j=n:=by omega
   have HP:=Lh (HR.out.done (Jx:=Jx) (v:=.tuple #[]))
   gi_wp2_with fail
   go_end0
   exact HP.out

theorem neq_nil_Rom (nf:Nat) (w:World):(binOp .neq 161 (.func (.func nf) #[] #[]) .nilFunc).run Tryz.prog w=.ok (.bool true) w:=by kernel_rfl
theorem each_Rom (n:Nat) (nm:Nat->Bs) (z1:Nat->Int) (z2:Nat->Int) (y3:Nat->SlA) (n3:Nat->Nat) (sa:SlA) (nf:Nat) (D:Nat->Prop) (w:World) (hsl:SlAt D sa.a sa.b sa.o n)
  (hc:∀ j,j<n->w.cell? ⟨sa.b,sa.o+j*4,none⟩=some (.string ⟨(nm j).toArray⟩)/\w.cell? ⟨sa.b,sa.o+j*4+1,none⟩=some (.int .i64 (z1 j))/\w.cell? ⟨sa.b,sa.o+j*4+2,none⟩=some (.int .i64 (z2 j))/\w.cell? ⟨sa.b,sa.o+j*4+3,none⟩=some (.slice (y3 j).a (n3 j) (y3 j).cap))
  (hnm:∀ j,j<n->∀ W,Calls Tryz.prog nf #[.agg #[.string ⟨(nm j).toArray⟩,.int .i64 (z1 j),.int .i64 (z2 j),.slice (y3 j).a (n3 j) (y3 j).cap]] W fun e w'=>e=.returned (.string ⟨(nm j).toArray⟩)/\Below W.heap.size W w')
  (hent:∀ (args:Array Value) (w:World),(callFunc nf args).run Tryz.prog w=.ok (.enter nf args) w) (hmax:n<=2000000) :
  IterG Tryz.prog 95 (fun l=>#[.slice sa.a n sa.cap,.func (.func nf) #[] #[],.func (.yield l) #[] #[]]) n (fun i=>#[.int .i64 i,.string ⟨(nm i).toArray⟩]) D w:=by
 intro l J Jx T W hAg hD hT hJ hJx hY h0
 have B0:=Between.start (J:=J) h0
 have HB:=Lh B0
 have hnn:=neq_nil_Rom nf
 have HY:=Lh hY
 have HJ:=Lh hJ
 have HJX:=Lh hJx
 have HD:=Lh hD
 have HT:=Lh hT
 have HAG:=Lh hAg
 have HC:=Lh hc
 have HNM:=Lh hnm
 clear hY hJ hJx hD hT hAg hc hnm h0 B0
 refine (callsIn_wide (n:=0)).1 (callsIn_of_wp Tryz.func95 rfl trivial ?_ rfl)
 simp only [Tryz.ntmps95,List.size_toArray,List.length_cons,List.length_nil,Nat.reduceAdd,Nat.reduceSub,Array.replicate_succ,Array.replicate_zero,List.push_toArray,List.append_toArray,List.nil_append,List.cons_append]
 gi_wp2_with fail
 gi_loopw [11] (fun i wr=>∃ (j:Nat) (T1:Nat->Prop),j<=n/\i=.int .i64 j/\Hid (Between J T T1 W wr j)) (fun i _=>n - (intOf i).toNat)
 case atStart=>exact ⟨0,T,Nat.zero_le _,rfl,HB⟩
 case round =>
  obtain ⟨j,T1,hj,rfl,HR⟩:=hrel
  clear HB
  by_cases hlt:j<n
  ·obtain ⟨q0,q1,q2,q3⟩:=HC.out j hlt
   obtain ⟨hsa,hDb⟩:=hsl (by omega)
   have hag:Agree D w wr:=HAG.out.trans (HR.out.agree HD.out)
   have e0:=(cell_agree hag (a:=⟨sa.b,sa.o+j*4,none⟩) hDb).trans q0
   have e1:=(cell_agree hag (a:=⟨sa.b,sa.o+j*4+1,none⟩) hDb).trans q1
   have e2:=(cell_agree hag (a:=⟨sa.b,sa.o+j*4+2,none⟩) hDb).trans q2
   have e3:=(cell_agree hag (a:=⟨sa.b,sa.o+j*4+3,none⟩) hDb).trans q3
   rw [hsa]
   clear hag q0 q1 q2 q3
   gi_wp2_with fail
   refine ⟨trivial,rfl,(callsIn_wide.2 (HNM.out j hlt _)).mono ?_⟩
   rintro e w1 ⟨rfl,hb1⟩
   have hb0:=Below.ahead hb1 (by simp)
   have HR1:=Lh (HR.out.own HJ.out hb0)
   obtain ⟨fn,tmps,assign,body,hy,hR⟩:=HY.out j T1 w1 hlt HR1.out.inv (HR1.out.lt HT.out)
   have HRR:=Lh hR
   clear hb0 hb1 hR
   gi_wp2_with fail
   refine ⟨rfl,HRR.out.mono ?_⟩
   rintro e W2 ⟨T2,he,hm,⟨rfl,hj2⟩ | ⟨rfl,hj2⟩⟩
   ·have HR2:=Lh (HR1.out.round he hm hj2)
    clear he hm hj2
    gi_wp2_with fail
    exact ⟨⟨j+1,T2,by omega,by go_num,HR2⟩,by simp [intOf];omega⟩
   ·have HP:=Lh (HR1.out.stop hlt he hm hj2 (v:=.tuple #[]))
    clear he hm hj2
    gi_wp2_with fail
    go_end0
    exact HP.out
  ·obtain rfl:j=n:=by omega
   have HP:=Lh (HR.out.done (Jx:=Jx) (v:=.tuple #[]))
   gi_wp2_with fail
   go_end0
   exact HP.out

theorem neq_nil_Psn (nf:Nat) (w:World):(binOp .neq 163 (.func (.func nf) #[] #[]) .nilFunc).run Tryz.prog w=.ok (.bool true) w:=by kernel_rfl
theorem each_Psn (n:Nat) (nm:Nat->Bs) (y1:Nat->SlA) (n1:Nat->Nat) (sa:SlA) (nf:Nat) (D:Nat->Prop) (w:World) (hsl:SlAt D sa.a sa.b sa.o n)
  (hc:∀ j,j<n->w.cell? ⟨sa.b,sa.o+j*2,none⟩=some (.string ⟨(nm j).toArray⟩)/\w.cell? ⟨sa.b,sa.o+j*2+1,none⟩=some (.slice (y1 j).a (n1 j) (y1 j).cap))
  (hnm:∀ j,j<n->∀ W,Calls Tryz.prog nf #[.agg #[.string ⟨(nm j).toArray⟩,.slice (y1 j).a (n1 j) (y1 j).cap]] W fun e w'=>e=.returned (.string ⟨(nm j).toArray⟩)/\Below W.heap.size W w')
  (hent:∀ (args:Array Value) (w:World),(callFunc nf args).run Tryz.prog w=.ok (.enter nf args) w) (hmax:n<=2000000) :
  IterG Tryz.prog 97 (fun l=>#[.slice sa.a n sa.cap,.func (.func nf) #[] #[],.func (.yield l) #[] #[]]) n (fun i=>#[.int .i64 i,.string ⟨(nm i).toArray⟩]) D w:=by
 intro l J Jx T W hAg hD hT hJ hJx hY h0
 have B0:=Between.start (J:=J) h0
 have HB:=Lh B0
 have hnn:=neq_nil_Psn nf
 have HY:=Lh hY
 have HJ:=Lh hJ
 have HJX:=Lh hJx
 have HD:=Lh hD
 have HT:=Lh hT
 have HAG:=Lh hAg
 have HC:=Lh hc
 have HNM:=Lh hnm
 clear hY hJ hJx hD hT hAg hc hnm h0 B0
 refine (callsIn_wide (n:=0)).1 (callsIn_of_wp Tryz.func97 rfl trivial ?_ rfl)
 simp only [Tryz.ntmps97,List.size_toArray,List.length_cons,List.length_nil,Nat.reduceAdd,Nat.reduceSub,Array.replicate_succ,Array.replicate_zero,List.push_toArray,List.append_toArray,List.nil_append,List.cons_append]
 gi_wp2_with fail
 gi_loopw [11] (fun i wr=>∃ (j:Nat) (T1:Nat->Prop),j<=n/\i=.int .i64 j/\Hid (Between J T T1 W wr j)) (fun i _=>n - (intOf i).toNat)
 case atStart=>exact ⟨0,T,Nat.zero_le _,rfl,HB⟩
 case round =>
  obtain ⟨j,T1,hj,rfl,HR⟩:=hrel
  clear HB
  by_cases hlt:j<n
  ·obtain ⟨q0,q1⟩:=HC.out j hlt
   obtain ⟨hsa,hDb⟩:=hsl (by omega)
   have hag:Agree D w wr:=HAG.out.trans (HR.out.agree HD.out)
   have e0:=(cell_agree hag (a:=⟨sa.b,sa.o+j*2,none⟩) hDb).trans q0
   have e1:=(cell_agree hag (a:=⟨sa.b,sa.o+j*2+1,none⟩) hDb).trans q1
   rw [hsa]
   clear hag q0 q1
   gi_wp2_with fail
   refine ⟨trivial,rfl,(callsIn_wide.2 (HNM.out j hlt _)).mono ?_⟩
   rintro e w1 ⟨rfl,hb1⟩
   have hb0:=Below.ahead hb1 (by simp)
   have HR1:=Lh (HR.out.own HJ.out hb0)
   obtain ⟨fn,tmps,assign,body,hy,hR⟩:=HY.out j T1 w1 hlt HR1.out.inv (HR1.out.lt HT.out)
   have HRR:=Lh hR
   clear hb0 hb1 hR
   gi_wp2_with fail
   refine ⟨rfl,HRR.out.mono ?_⟩
   rintro e W2 ⟨T2,he,hm,⟨rfl,hj2⟩ | ⟨rfl,hj2⟩⟩
   ·have HR2:=Lh (HR1.out.round he hm hj2)
    clear he hm hj2
    gi_wp2_with fail
    exact ⟨⟨j+1,T2,by omega,by go_num,HR2⟩,by simp [intOf];omega⟩
   ·have HP:=Lh (HR1.out.stop hlt he hm hj2 (v:=.tuple #[]))
    clear he hm hj2
    gi_wp2_with fail
    go_end0
    exact HP.out
  ·obtain rfl:j=n:=by omega
   have HP:=Lh (HR.out.done (Jx:=Jx) (v:=.tuple #[]))
   gi_wp2_with fail
   go_end0
   exact HP.out

theorem neq_nil_Grp (nf:Nat) (w:World):(binOp .neq 165 (.func (.func nf) #[] #[]) .nilFunc).run Tryz.prog w=.ok (.bool true) w:=by kernel_rfl
theorem each_Grp (n:Nat) (nm:Nat->Bs) (z1:Nat->Int) (sa:SlA) (nf:Nat) (D:Nat->Prop) (w:World) (hsl:SlAt D sa.a sa.b sa.o n)
  (hc:∀ j,j<n->w.cell? ⟨sa.b,sa.o+j*2,none⟩=some (.string ⟨(nm j).toArray⟩)/\w.cell? ⟨sa.b,sa.o+j*2+1,none⟩=some (.int .i64 (z1 j)))
  (hnm:∀ j,j<n->∀ W,Calls Tryz.prog nf #[.agg #[.string ⟨(nm j).toArray⟩,.int .i64 (z1 j)]] W fun e w'=>e=.returned (.string ⟨(nm j).toArray⟩)/\Below W.heap.size W w')
  (hent:∀ (args:Array Value) (w:World),(callFunc nf args).run Tryz.prog w=.ok (.enter nf args) w) (hmax:n<=2000000) :
  IterG Tryz.prog 99 (fun l=>#[.slice sa.a n sa.cap,.func (.func nf) #[] #[],.func (.yield l) #[] #[]]) n (fun i=>#[.int .i64 i,.string ⟨(nm i).toArray⟩]) D w:=by
 intro l J Jx T W hAg hD hT hJ hJx hY h0
 have B0:=Between.start (J:=J) h0
 have HB:=Lh B0
 have hnn:=neq_nil_Grp nf
 have HY:=Lh hY
 have HJ:=Lh hJ
 have HJX:=Lh hJx
 have HD:=Lh hD
 have HT:=Lh hT
 have HAG:=Lh hAg
 have HC:=Lh hc
 have HNM:=Lh hnm
 clear hY hJ hJx hD hT hAg hc hnm h0 B0
 refine (callsIn_wide (n:=0)).1 (callsIn_of_wp Tryz.func99 rfl trivial ?_ rfl)
 simp only [Tryz.ntmps99,List.size_toArray,List.length_cons,List.length_nil,Nat.reduceAdd,Nat.reduceSub,Array.replicate_succ,Array.replicate_zero,List.push_toArray,List.append_toArray,List.nil_append,List.cons_append]
 gi_wp2_with fail
 gi_loopw [11] (fun i wr=>∃ (j:Nat) (T1:Nat->Prop),j<=n/\i=.int .i64 j/\Hid (Between J T T1 W wr j)) (fun i _=>n - (intOf i).toNat)
 case atStart=>exact ⟨0,T,Nat.zero_le _,rfl,HB⟩
 case round =>
  obtain ⟨j,T1,hj,rfl,HR⟩:=hrel
  clear HB
  by_cases hlt:j<n
  ·obtain ⟨q0,q1⟩:=HC.out j hlt
   obtain ⟨hsa,hDb⟩:=hsl (by omega)
   have hag:Agree D w wr:=HAG.out.trans (HR.out.agree HD.out)
   have e0:=(cell_agree hag (a:=⟨sa.b,sa.o+j*2,none⟩) hDb).trans q0
   have e1:=(cell_agree hag (a:=⟨sa.b,sa.o+j*2+1,none⟩) hDb).trans q1
   rw [hsa]
   clear hag q0 q1
   gi_wp2_with fail
   refine ⟨trivial,rfl,(callsIn_wide.2 (HNM.out j hlt _)).mono ?_⟩
   rintro e w1 ⟨rfl,hb1⟩
   have hb0:=Below.ahead hb1 (by simp)
   have HR1:=Lh (HR.out.own HJ.out hb0)
   obtain ⟨fn,tmps,assign,body,hy,hR⟩:=HY.out j T1 w1 hlt HR1.out.inv (HR1.out.lt HT.out)
   have HRR:=Lh hR
   clear hb0 hb1 hR
   gi_wp2_with fail
   refine ⟨rfl,HRR.out.mono ?_⟩
   rintro e W2 ⟨T2,he,hm,⟨rfl,hj2⟩ | ⟨rfl,hj2⟩⟩
   ·have HR2:=Lh (HR1.out.round he hm hj2)
    clear he hm hj2
    gi_wp2_with fail
    exact ⟨⟨j+1,T2,by omega,by go_num,HR2⟩,by simp [intOf];omega⟩
   ·have HP:=Lh (HR1.out.stop hlt he hm hj2 (v:=.tuple #[]))
    clear he hm hj2
    gi_wp2_with fail
    go_end0
    exact HP.out
  ·obtain rfl:j=n:=by omega
   have HP:=Lh (HR.out.done (Jx:=Jx) (v:=.tuple #[]))
   gi_wp2_with fail
   go_end0
   exact HP.out

end Go.Proofs.YtncnnbmeacpboaaGreatDoor
/- formula.walk, formula.all: the nodes of a formula, one behind the other. -/
namespace Go.Chalk
open Go.RowKit
def WalkPost (J Jx:Nat->(Nat->Prop)->World->Prop) (T:Nat->Prop) (W:World) (c m:Nat) (e:Ending) (W':World):Prop :=
 ∃ T',Ext T T' W W'/\Mod T W W'/\((e=.returned (.bool true)/\J (c+m) T' W')∨(e=.returned (.bool false)/\∃ i,0<i/\i<=c+m/\Jx i T' W'))
def WalkG (P:Program) (g:Nat) (v:Value) (m:Nat) (cells:Nat->Value) (D:Nat->Prop) (w:World):Prop :=
 ∀ (l c N:Nat) (J Jx:Nat->(Nat->Prop)->World->Prop) (T:Nat->Prop) (W:World),
  Agree D w W->(∀ k,D k->k<W.heap.size/\¬ T k)->(∀ k,T k->k<W.heap.size)->N<=W.heap.size->Stab N J->Stab N Jx ->
  (∀ i T1 W1,i<m->J (c+i) T1 W1->(∀ k,T1 k->k<W1.heap.size)->YieldAt Fence.wide 0 P l #[cells i] W1 (RoundPost J Jx T1 W1 (c+i))) ->
  J c T W->Calls P g #[v,.func (.yield l) #[] #[]] W (WalkPost J Jx T W c m)
def noSl:SlA:=⟨none,0,0,0⟩
def ndV (p:Frm×FrmA):Value:=.agg (p.2.cells p.1).toArray
def ndAt (ns:List (Frm×FrmA)) (i:Nat):Frm×FrmA:=ns[i]?.getD (.mk 0 [] 0 [] [] [],⟨noSl,noSl,noSl⟩)
structure WBet (J:Nat->(Nat->Prop)->World->Prop) (T T1:Nat->Prop) (W Wr:World) (j:Nat):Prop where
 ext:Ext T T1 W Wr
 mod:Mod T W Wr
 inv:J j T1 Wr
theorem WBet.lt {J:Nat->(Nat->Prop)->World->Prop} {T T1:Nat->Prop} {W Wr:World} {j:Nat} (h:WBet J T T1 W Wr j) (hT:∀ k,T k->k<W.heap.size):∀ k,T1 k->k<Wr.heap.size:=h.ext.lt h.mod.size hT
theorem WBet.round {J J2:Nat->(Nat->Prop)->World->Prop} {T T1 T2:Nat->Prop} {W Wr W2:World} {j j2:Nat} (h:WBet J T T1 W Wr j) (he:Ext T1 T2 Wr W2) (hm:Mod T1 Wr W2) (hj:J2 j2 T2 W2):WBet J2 T T2 W W2 j2 :=
 ⟨h.ext.trans he h.mod.size hm.size,h.mod.ext hm h.ext,hj⟩
theorem WBet.own {J:Nat->(Nat->Prop)->World->Prop} {T T1:Nat->Prop} {W Wr W':World} {j N:Nat} (h:WBet J T T1 W Wr j) (hN:N<=W.heap.size) (hJ:Stab N J) (hb:Below Wr.heap.size Wr W'):WBet J T T1 W W' j:=by
 have hs:=h.mod.size
 refine ⟨fun k hk=>?_,h.mod.trans (Mod.of_below (S:=fun _=>False) hb) (fun _ _ h=>h.elim),hJ _ _ _ _ _ h.inv (Mod.of_below (S:=fun _=>False) hb) (fun _ h=>h.elim)⟩
 rcases h.ext k hk with g | g
 ·exact .inl g
 ·exact .inr ⟨g.1,by have:=hb.size;omega⟩
end Go.Chalk
namespace Go.Proofs.YtncnnbmeacpboaaGreatDoor
open Go.RowKit Go.Chalk
attribute [local go_sem] Oper.semAt_some
theorem nodesL_eq:∀ l:List Frm,nodesL l=(l.map nodesF).flatten
 | []=>rfl
 | f :: r=>by rw [nodesL,nodesL_eq r];rfl
theorem ndAt_succ (p:Frm×FrmA) (nss:List (List (Frm×FrmA))) (j i:Nat) (hj:j<nss.length) (hi:i<(nss[j]).length):ndAt (p :: nss.flatten) (1+offs nss j+i)=ndAt nss[j] i:=by
 unfold ndAt
 rw [show 1+offs nss j+i=(offs nss j+i)+1 from by omega,List.getElem?_cons_succ,offs_get nss j i hj hi,List.getElem?_eq_getElem hi]
theorem fwalk1 (f:Frm) (x:FrmA) (w:World) (F:Nat->Prop) (hx:FrmIn w F f x) (hmax:f.l.length<=2000000) (nss:List (List (Frm×FrmA))) (hnl:nss.length=f.l.length)
  (hns:∀ (j:Nat) (hj:j<nss.length) (hj':j<f.l.length) (y:FrmA),CellsAt w x.l.b (x.l.o+j*6) (y.cells f.l[j])->WalkG Tryz.prog 155 (ndV (f.l[j],y)) (nss[j]).length (fun i=>ndV (ndAt nss[j] i)) F w) :
  WalkG Tryz.prog 155 (ndV (f,x)) ((f,x) :: nss.flatten).length (fun i=>ndV (ndAt ((f,x) :: nss.flatten) i)) F w:=by
 intro l c N J Jx T W hAg hD hT hN hJ hJx hY h0
 have B1:WBet J T T W (W.alloc (.cells (x.cells f).toArray 64)) c:=(⟨Ext.refl _ _ _,Chalk.Mod.refl _ _,h0⟩:WBet J T T W W c).own hN hJ ((Below.refl _ _).alloc (Nat.le_refl _) _)
 have hbx:(W.alloc (.cells (x.cells f).toArray 64)).heap[W.heap.size]?=some (.cells (x.cells f).toArray 64 (0,0)):=boxed (B:=W.heap.size+1) (Below.refl _ _) (by omega)
 have hy0:=hY 0 T (W.alloc (.cells (x.cells f).toArray 64)) (by simp) B1.inv (B1.lt hT)
 have HIN:=Lh (fun j (hj:j<f.l.length)=>hx.l.frm j hj)
 have HSL:=Lh hx.l.at_
 obtain ⟨fn,tmps,assign,body,hy,hR⟩:=hy0
 simp only [show ndAt ((f,x) :: nss.flatten) 0=(f,x) from rfl] at hy
 have HRR:=Lh hR
 have HY:=Lh hY
 have HJ:=Lh hJ
 have HJX:=Lh hJx
 have HD:=Lh hD
 have HT:=Lh hT
 have HAG:=Lh hAg
 have HNS:=Lh hns
 have HB1:=Lh (aI B1 hbx)
 clear hY hJ hJx hD hT hAg h0 hR hns hx B1 hbx
 obtain ⟨kind,name,n,terms,binds,fl⟩:=f
 simp only [ndV,FrmA.cells,SlA.val,Frm.kind,Frm.name,Frm.n,Frm.terms,Frm.binds,Frm.l] at *
 refine (callsIn_wide (n:=0)).1 (callsIn_of_wp Tryz.func155 rfl trivial ?_ rfl)
 simp only [Tryz.ntmps155,List.size_toArray,List.length_cons,List.length_nil,Nat.reduceAdd,Nat.reduceSub,Array.replicate_succ,Array.replicate_zero,List.push_toArray,List.append_toArray,List.nil_append,List.cons_append]
 gi_wp2_with fail
 refine ⟨rfl,HRR.out.mono ?_⟩
 rintro e W2 ⟨T1,he,hm,⟨rfl,hj⟩ | ⟨rfl,hj⟩⟩
 rotate_left
 ·have HH:=Lh (HB1.out.1.round he hm hj)
  clear he hm hj
  gi_wp2_with fail
  go_ret
  exact ⟨T1,HH.out.ext,HH.out.mod,.inr ⟨rfl,c+1,by omega,by omega,HH.out.inv⟩⟩
 ·have hj':J (c+(1+offs nss 0)) T1 W2:=by simpa [offs] using hj
  have B2:=Lh (HB1.out.1.round he hm hj')
  have hbx2:=heap_kept HB1.out.2 hm (fun h=>by have:=HT.out _ h;omega)
  have q5:W2.cell? ⟨W.heap.size,5,none⟩=some (.slice x.l.a fl.length x.l.cap):=cH hbx2 rfl
  clear he hm hj hj' hbx2 hy
  gi_wp2_with fail
  gi_loopw [14] (fun i wr=>∃ (j:Nat) (T1:Nat->Prop),j<=fl.length/\i=.int .i64 j/\Hid (WBet J T T1 W wr (c+(1+offs nss j)))) (fun i _=>fl.length - (intOf i).toNat)
  case atStart=>exact ⟨0,T1,Nat.zero_le _,rfl,B2⟩
  case round =>
   obtain ⟨j,T1,hj,rfl,HR⟩:=hrel
   clear B2 q5
   by_cases hlt:j<fl.length
   ·obtain ⟨y,_,hy2⟩:=HIN.out j hlt
    have hjn:j<nss.length:=by omega
    have HNJ:=Lh (HNS.out j hjn hlt y hy2)
    obtain ⟨hxa,hFb⟩:=HSL.out (by rw [List.length_map];omega)
    have hag:Agree F w wr:=HAG.out.trans (HR.out.mod.agree HD.out)
    have hys:=(hy2.agree hag hFb).six
    obtain ⟨e0,e1,e2,e3,e4,e5⟩:=hys
    have HAR:=Lh hag
    have hole:=offs_le nss (j+1) (by omega)
    have hoff:=offs_succ nss j hjn
    have HO:=Lh (aI hole hoff)
    have HB3:=Lh (HR.out.own hN HJ.out ((Below.refl _ _).alloc (Nat.le_refl _) (.cells (y.cells fl[j]).toArray 64)))
    have hCL:=HNJ.out l (c+(1+offs nss j)) N J Jx T1 (wr.alloc (.cells (y.cells fl[j]).toArray 64)) (hag.trans (agree_of_below ((Below.refl wr.heap.size wr).alloc (Nat.le_refl _) _) |>.mono (fun k hk=>by have:=(HD.out k hk).1;have:=HR.out.mod.size;omega)))
     (fun k hk=>⟨by have:=(HD.out k hk).1;have:=HB3.out.mod.size;omega,HB3.out.ext.not (HD.out k hk).1 (HD.out k hk).2⟩) (HB3.out.lt HT.out) (by have:=HB3.out.mod.size;omega) HJ.out HJX.out
     (fun i T2 W3 hi hJ2 hT2=>by
      have:=HY.out (1+offs nss j+i) T2 W3 (by rw [List.length_cons];omega) (by rw [show c+(1+offs nss j+i)=c+(1+offs nss j)+i from by omega];exact hJ2) hT2
      rw [ndAt_succ _ nss j i hjn hi,show c+(1+offs nss j+i)=c+(1+offs nss j)+i from by omega] at this
      exact this) HB3.out.inv
    have HCL:=Lh hCL
    rw [hxa]
    clear hag hole hoff hy2 hFb hCL HNJ
    generalize hfe:fl[j]=fe at HCL HB3 e0 e1 e2 e3 e4 e5
    obtain ⟨kind1,name1,n1,terms1,binds1,fl1⟩:=fe
    simp only [ndV,FrmA.cells,SlA.val,Frm.kind,Frm.name,Frm.n,Frm.terms,Frm.binds,Frm.l] at HCL HB3 e0 e1 e2 e3 e4 e5
    clear hfe
    gi_wp2_with fail
    refine ⟨trivial,rfl,(callsIn_wide.2 HCL.out).mono ?_⟩
    rintro e W3 ⟨T3,he3,hm3,⟨rfl,hj3⟩ | ⟨rfl,i,hi0,him,hj3⟩⟩
    ·have HR2:=Lh (HB3.out.round he3 hm3 hj3)
     rw [show c+(1+offs nss j)+(nss[j]).length=c+(1+offs nss (j+1)) from by rw [HO.out.2];omega] at HR2
     clear he3 hm3 hj3
     gi_wp2_with fail
     exact ⟨⟨j+1,T3,by omega,by go_num,HR2⟩,by simp [intOf];omega⟩
    ·have HX:=Lh (HB3.out.round he3 hm3 hj3)
     clear he3 hm3 hj3
     gi_wp2_with fail
     go_ret
     exact ⟨T3,HX.out.ext,HX.out.mod,.inr ⟨rfl,i,hi0,by have:=HO.out;omega,HX.out.inv⟩⟩
   ·obtain rfl:j=fl.length:=by omega
    gi_wp2_with fail
    go_ret
    refine ⟨T1,HR.out.ext,HR.out.mod,.inl ⟨rfl,?_⟩⟩
    have:=HR.out.inv
    rw [<- hnl,offs_all] at this
    rwa [Nat.add_comm nss.flatten.length]

theorem fwalk_any (n:Nat):∀ (f:Frm) (x:FrmA) (w:World) (F:Nat->Prop),f.size<=n->f.size<=2000000->FrmIn w F f x ->
  ∃ ns:List (Frm×FrmA),ns.map (·.1)=nodesF f/\(∀ p∈ns,FrmIn w F p.1 p.2)/\WalkG Tryz.prog 155 (ndV (f,x)) ns.length (fun i=>ndV (ndAt ns i)) F w:=by
 induction n with
 | zero=>intro f _ _ _ h;have:=f.size_pos;omega
 | succ n ih =>
  intro f x w F hn hs hx
  have hsz:f.size=1+fsizes f.l:=by cases f;simp [Frm.size,Frm.l]
  have hll:=length_le_fsizes f.l
  obtain ⟨nss,hnl,hns⟩:=exists_list (m:=f.l.length) (α:=List (Frm×FrmA)) (Q:=fun (j:Nat) (ns:List (Frm×FrmA))=>∃ hj:j<f.l.length,ns.map (·.1)=nodesF f.l[j]/\(∀ p∈ns,FrmIn w F p.1 p.2) /\
    ∀ (y:FrmA),CellsAt w x.l.b (x.l.o+j*6) (y.cells f.l[j])->WalkG Tryz.prog 155 (ndV (f.l[j],y)) ns.length (fun i=>ndV (ndAt ns i)) F w) (fun j hj=>by
    obtain ⟨y,h1,h2⟩:=hx.l.frm j hj
    have:=size_le_fsizes f.l j hj
    obtain ⟨ns,g1,g2,g3⟩:=ih f.l[j] y w F (by omega) (by omega) h1
    refine ⟨ns,hj,g1,g2,fun y' h'=>?_⟩
    have e:ndV (f.l[j],y')=ndV (f.l[j],y):=by
     have a:=h2.six
     have b:=h'.six
     unfold ndV
     simp only [FrmA.cells]
     rw [a.2.2.2.1,a.2.2.2.2.1,a.2.2.2.2.2] at b
     simp only [Option.some.injEq] at b
     rw [b.2.2.2.1,b.2.2.2.2.1,b.2.2.2.2.2]
    rw [e];exact g3)
  refine ⟨(f,x) :: nss.flatten,?_,?_,?_⟩
  ·rw [List.map_cons,List.map_flatten]
   have:nss.map (List.map (·.1))=f.l.map nodesF:=by
    apply List.ext_getElem (by simp [hnl])
    intro j h1 h2
    simp at h1 h2
    obtain ⟨_,h,_⟩:=hns j h1
    simpa using h
   rw [this,<- nodesL_eq]
   cases f;simp [nodesF,Frm.l]
  ·intro p hp
   rcases List.mem_cons.1 hp with rfl | hp
   ·exact hx
   ·obtain ⟨ns,hns',hp⟩:=List.mem_flatten.1 hp
    obtain ⟨j,hj,rfl⟩:=List.mem_iff_getElem.1 hns'
    obtain ⟨_,_,h,_⟩:=hns j hj
    exact h p hp
  ·exact fwalk1 f x w F hx (by omega) nss hnl (fun j hj hj' y hy=>by obtain ⟨_,_,_,h⟩:=hns j hj;exact h y hy)
theorem all_any (f:Frm) (x:FrmA) (w:World) :
  Calls Tryz.prog 116 #[.agg (x.cells f).toArray] w fun e w'=>e=.returned (.func (.func 154) #[] #[.pointer (some ⟨w.heap.size,0,none⟩)])/\w.alloc (.cells (x.cells f).toArray 64)=w':=by
 have hmf:∀ (fn:Fn) (first cap:Array Value) (w:World),(Instr.makeFunc fn first cap).run Tryz.prog w=.ok (.func fn first cap) w:=fun _ _ _ _=>rfl
 simp only [FrmA.cells,SlA.val]
 go_enter Tryz.func116,Tryz.ntmps116
 go_wp2_with fail
 go_ret
 exact ⟨rfl,rfl⟩
theorem all_iter (f:Frm) (x:FrmA) (ns:List (Frm×FrmA)) (w:World) (F:Nat->Prop) (hW:WalkG Tryz.prog 155 (ndV (f,x)) ns.length (fun i=>ndV (ndAt ns i)) F w) (W0:World) (tb:Nat) (hag:Agree F w W0)
  (htb:W0.heap[tb]?=some (.cells (x.cells f).toArray 64 (0,0))):Iter Tryz.prog 154 #[.pointer (some ⟨tb,0,none⟩)] ns.length (fun i=>#[ndV (ndAt ns i)]) (fun k=>F k∨k=tb) W0:=by
 intro l J Jx T W hAg hD hT hJ hJx hY h0
 have htbW:W.heap[tb]?=some (.cells (x.cells f).toArray 64 (0,0)):=(hAg tb (.inr rfl)).trans htb
 have hCL:=hW l 0 W.heap.size J Jx T W (hag.trans (hAg.mono (fun k hk=>.inl hk))) (fun k hk=>hD k (.inl hk)) hT (Nat.le_refl _) hJ hJx (fun i T1 W1 hi hj ht=>by
  have:=hY i T1 W1 hi (by rwa [Nat.zero_add] at hj) ht
  rwa [Nat.zero_add]) h0
 have HCL:=Lh hCL
 clear hW hCL hY hJ hJx hAg hD hT h0 htb hag
 obtain ⟨kind,name,n,terms,binds,fl⟩:=f
 simp only [ndV,FrmA.cells,SlA.val,Frm.kind,Frm.name,Frm.n,Frm.terms,Frm.binds,Frm.l] at *
 have q0:W.cell? ⟨tb,0,none⟩=some (.int .i64 kind):=cH htbW rfl
 have q1:W.cell? ⟨tb,1,none⟩=some (.string ⟨name.toArray⟩):=cH htbW rfl
 have q2:W.cell? ⟨tb,2,none⟩=some (.int .i64 n):=cH htbW rfl
 have q3:W.cell? ⟨tb,3,none⟩=some (.slice x.t.a terms.length x.t.cap):=cH htbW rfl
 have q4:W.cell? ⟨tb,4,none⟩=some (.slice x.b.a binds.length x.b.cap):=cH htbW rfl
 have q5:W.cell? ⟨tb,5,none⟩=some (.slice x.l.a fl.length x.l.cap):=cH htbW rfl
 clear htbW
 show Calls Tryz.prog 154 #[.func (.yield l) #[] #[],.pointer (some ⟨tb,0,none⟩)] W _
 refine (callsIn_wide (n:=0)).1 (callsIn_of_wp Tryz.func154 rfl trivial ?_ rfl)
 simp only [Tryz.ntmps154,List.size_toArray,List.length_cons,List.length_nil,Nat.reduceAdd,Nat.reduceSub,Array.replicate_succ,Array.replicate_zero,List.push_toArray,List.append_toArray,List.nil_append,List.cons_append]
 gi_wp2_with fail
 refine ⟨trivial,rfl,(callsIn_wide.2 HCL.out).mono ?_⟩
 rintro e W3 ⟨T3,he3,hm3,h⟩
 have HH:=Lh (aI he3 (aI hm3 h))
 clear he3 hm3
 rcases h with ⟨rfl,_⟩ | ⟨rfl,_⟩
 ·gi_wp2_with fail
  go_end0
  obtain ⟨he,hm,h⟩:=HH.out
  refine ⟨⟨_,rfl⟩,T3,he,hm,?_⟩
  rcases h with ⟨_,h⟩ | ⟨h,_⟩
  ·exact .inl (by rwa [Nat.zero_add] at h)
  ·cases h
 ·gi_wp2_with fail
  go_end0
  obtain ⟨he,hm,h⟩:=HH.out
  refine ⟨⟨_,rfl⟩,T3,he,hm,?_⟩
  rcases h with ⟨h,_⟩ | ⟨_,i,h1,h2,h3⟩
  ·cases h
  ·exact .inr ⟨i,h1,by omega,h3⟩
end Go.Proofs.YtncnnbmeacpboaaGreatDoor
