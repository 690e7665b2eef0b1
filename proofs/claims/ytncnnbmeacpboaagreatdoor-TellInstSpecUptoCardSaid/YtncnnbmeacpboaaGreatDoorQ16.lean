/- Parts of the proof. -/
import Derived.Test.YtncnnbmeacpboaaGreatDoorQ12
import Derived.Test.YtncnnbmeacpboaaGreatDoorQ06
import Derived.Test.YtncnnbmeacpboaaGreatDoorChecked
set_option maxHeartbeats 1000000
set_option maxRecDepth 100000
set_option linter.unusedVariables false
set_option linter.unusedSimpArgs false
namespace Go.Proofs.YtncnnbmeacpboaaGreatDoor
open Go.RowKit Go.aa
attribute [local go_sem] Oper.semAt_some
variable {J:Nat->(Nat->Prop)->World->Prop} {T T1:Nat->Prop} {W Wr:World} {j:Nat}
theorem BJ(nf:Nat)(w:World):(binOp .neq 157 (.func (.func nf) #[] #[]) .nilFunc).run Tryz.prog w=.ok (.bool true) w:=by kernel_rfl
theorem Ki(n:Nat)(nm:Nat->Bs)(y1:Nat->aK)(n1:Nat->Nat)(y2:Nat->aK)(n2:Nat->Nat)(sa:aK)(nf:Nat)(D:Nat->Prop)(w:World)(hsl:gT D sa.a sa.b sa.o n)(hc:∀j,j<n->w.cell? ⟨sa.b,sa.o+j*3,none⟩=some (.string ⟨(nm j).toArray⟩)/\w.cell? ⟨sa.b,sa.o+j*3+1,none⟩=some (.slice (y1 j).a (n1 j) (y1 j).cap)/\w.cell? ⟨sa.b,sa.o+j*3+2,none⟩=some (.slice (y2 j).a (n2 j) (y2 j).cap))(hnm:∀j,j<n->∀W,Calls Tryz.prog nf #[.agg #[.string ⟨(nm j).toArray⟩,.slice (y1 j).a (n1 j) (y1 j).cap,.slice (y2 j).a (n2 j) (y2 j).cap]] W fun e w'=>e=.returned (.string ⟨(nm j).toArray⟩)/\Below W.heap.size W w')(hent:∀(args:Array Value) (w:World),(callFunc nf args).run Tryz.prog w=.ok (.enter nf args) w)(hmax:n<=2000000):
  j6 Tryz.prog 91 (fun l=>#[.slice sa.a n sa.cap,.func (.func nf) #[] #[],.func (.yield l) #[] #[]]) n (fun i=>#[.int .i64 i,.string ⟨(nm i).toArray⟩]) D w:=by
 intro l J Jx T W sK hD hT hJ hJx hY h0;have B0:=Between.start (J:=J) h0;have HB:=Lh B0;have hnn:=BJ nf;have HY:=Lh hY;have HJ:=Lh hJ;have Rp:=Lh hJx;have HD:=Lh hD;have HT:=Lh hT;have JB:=Lh sK;have HC:=Lh hc;have ow:=Lh hnm;clear hY hJ hJx hD hT sK hc hnm h0 B0;refine(callsIn_wide (n:=0)).1 (callsIn_of_wp Tryz.func91 rfl trivial ?_ rfl);simp only[Tryz.ntmps91,List.size_toArray,List.length_cons,List.length_nil,Nat.reduceAdd,Nat.reduceSub,Array.replicate_succ,Array.replicate_zero,List.push_toArray,List.append_toArray,List.nil_append,List.cons_append]
 gi_wp2_with fail
 gi_loopw [11] (fun i wr=>∃(j:Nat) (T1:Nat->Prop),j<=n/\i=.int .i64 j/\Hid (Between J T T1 W wr j)) (fun i _=>n-(intOf i).toNat)
 case atStart=>exact⟨0,T,Nat.zero_le _,rfl,HB⟩
 case round=>
  obtain⟨j,T1,hj,rfl,HR⟩:=hrel;clear HB;by_cases hlt:j<n
  ·obtain⟨q0,q1,q2⟩:=HC.out j hlt;obtain⟨hsa,Ag⟩:=hsl (by omega);have hag:Agree D w wr:=JB.out.trans (HR.out.agree HD.out);have e0:=(cB hag (a:=⟨sa.b,sa.o+j*3,none⟩) Ag).trans q0;have e1:=(cB hag (a:=⟨sa.b,sa.o+j*3+1,none⟩) Ag).trans q1;have e2:=(cB hag (a:=⟨sa.b,sa.o+j*3+2,none⟩) Ag).trans q2;rw[hsa];clear hag q0 q1 q2
   gi_wp2_with fail
   refine⟨trivial,rfl,(callsIn_wide.2 (ow.out j hlt _)).mono ?_⟩;rintro e w1 ⟨rfl,hb1⟩;have hb0:=Below.ahead hb1 (by simp);have HR1:=Lh (HR.out.own HJ.out hb0);obtain⟨fn,tmps,assign,body,hy,hR⟩:=HY.out j T1 w1 hlt HR1.out.inv (HR1.out.lt HT.out);have HRR:=Lh hR;clear hb0 hb1 hR
   gi_wp2_with fail
   refine⟨rfl,HRR.out.mono ?_⟩;rintro e W2 ⟨T2,he,hm,⟨rfl,hj2⟩|⟨rfl,hj2⟩⟩
   ·have HR2:=Lh (HR1.out.round he hm hj2);clear he hm hj2
    gi_wp2_with fail
    exact⟨⟨j+1,T2,by omega,by go_num,HR2⟩,by simp[intOf];omega⟩
   ·have HP:=Lh (HR1.out.stop hlt he hm hj2 (v:=.tuple #[]));clear he hm hj2
    gi_wp2_with fail
    go_end0;exact HP.out
  ·obtain rfl:j=n:=by omega
   have HP:=Lh (HR.out.done (Jx:=Jx) (v:=.tuple #[]))
   gi_wp2_with fail
   go_end0;exact HP.out
theorem BM(nf:Nat)(w:World):(binOp .neq 159 (.func (.func nf) #[] #[]) .nilFunc).run Tryz.prog w=.ok (.bool true) w:=by kernel_rfl
theorem Kl(n:Nat)(nm:Nat->Bs)(z1:Nat->Int)(z2:Nat->Int)(sa:aK)(nf:Nat)(D:Nat->Prop)(w:World)(hsl:gT D sa.a sa.b sa.o n)(hc:∀j,j<n->w.cell? ⟨sa.b,sa.o+j*3,none⟩=some (.string ⟨(nm j).toArray⟩)/\w.cell? ⟨sa.b,sa.o+j*3+1,none⟩=some (.int .i64 (z1 j))/\w.cell? ⟨sa.b,sa.o+j*3+2,none⟩=some (.int .i64 (z2 j)))(hnm:∀j,j<n->∀W,Calls Tryz.prog nf #[.agg #[.string ⟨(nm j).toArray⟩,.int .i64 (z1 j),.int .i64 (z2 j)]] W fun e w'=>e=.returned (.string ⟨(nm j).toArray⟩)/\Below W.heap.size W w')(hent:∀(args:Array Value) (w:World),(callFunc nf args).run Tryz.prog w=.ok (.enter nf args) w)(hmax:n<=2000000):
  j6 Tryz.prog 93 (fun l=>#[.slice sa.a n sa.cap,.func (.func nf) #[] #[],.func (.yield l) #[] #[]]) n (fun i=>#[.int .i64 i,.string ⟨(nm i).toArray⟩]) D w:=by
 intro l J Jx T W sK hD hT hJ hJx hY h0;have B0:=Between.start (J:=J) h0;have HB:=Lh B0;have hnn:=BM nf;have HY:=Lh hY;have HJ:=Lh hJ;have Rp:=Lh hJx;have HD:=Lh hD;have HT:=Lh hT;have JB:=Lh sK;have HC:=Lh hc;have ow:=Lh hnm;clear hY hJ hJx hD hT sK hc hnm h0 B0;refine(callsIn_wide (n:=0)).1 (callsIn_of_wp Tryz.func93 rfl trivial ?_ rfl);simp only[Tryz.ntmps93,List.size_toArray,List.length_cons,List.length_nil,Nat.reduceAdd,Nat.reduceSub,Array.replicate_succ,Array.replicate_zero,List.push_toArray,List.append_toArray,List.nil_append,List.cons_append]
 gi_wp2_with fail
 gi_loopw [11] (fun i wr=>∃(j:Nat) (T1:Nat->Prop),j<=n/\i=.int .i64 j/\Hid (Between J T T1 W wr j)) (fun i _=>n-(intOf i).toNat)
 case atStart=>exact⟨0,T,Nat.zero_le _,rfl,HB⟩
 case round=>
  obtain⟨j,T1,hj,rfl,HR⟩:=hrel;clear HB;by_cases hlt:j<n
  ·obtain⟨q0,q1,q2⟩:=HC.out j hlt;obtain⟨hsa,Ag⟩:=hsl (by omega);have hag:Agree D w wr:=JB.out.trans (HR.out.agree HD.out);have e0:=(cB hag (a:=⟨sa.b,sa.o+j*3,none⟩) Ag).trans q0;have e1:=(cB hag (a:=⟨sa.b,sa.o+j*3+1,none⟩) Ag).trans q1;have e2:=(cB hag (a:=⟨sa.b,sa.o+j*3+2,none⟩) Ag).trans q2;rw[hsa];clear hag q0 q1 q2
   gi_wp2_with fail
   refine⟨trivial,rfl,(callsIn_wide.2 (ow.out j hlt _)).mono ?_⟩;rintro e w1 ⟨rfl,hb1⟩;have hb0:=Below.ahead hb1 (by simp);have HR1:=Lh (HR.out.own HJ.out hb0);obtain⟨fn,tmps,assign,body,hy,hR⟩:=HY.out j T1 w1 hlt HR1.out.inv (HR1.out.lt HT.out);have HRR:=Lh hR;clear hb0 hb1 hR
   gi_wp2_with fail
   refine⟨rfl,HRR.out.mono ?_⟩;rintro e W2 ⟨T2,he,hm,⟨rfl,hj2⟩|⟨rfl,hj2⟩⟩
   ·have HR2:=Lh (HR1.out.round he hm hj2);clear he hm hj2
    gi_wp2_with fail
    exact⟨⟨j+1,T2,by omega,by go_num,HR2⟩,by simp[intOf];omega⟩
   ·have HP:=Lh (HR1.out.stop hlt he hm hj2 (v:=.tuple #[]));clear he hm hj2
    gi_wp2_with fail
    go_end0;exact HP.out
  ·obtain rfl:j=n:=by omega
   have HP:=Lh (HR.out.done (Jx:=Jx) (v:=.tuple #[]))
   gi_wp2_with fail
   go_end0;exact HP.out
theorem BL(nf:Nat)(w:World):(binOp .neq 161 (.func (.func nf) #[] #[]) .nilFunc).run Tryz.prog w=.ok (.bool true) w:=by kernel_rfl
theorem Kk(n:Nat)(nm:Nat->Bs)(z1:Nat->Int)(z2:Nat->Int)(y3:Nat->aK)(n3:Nat->Nat)(sa:aK)(nf:Nat)(D:Nat->Prop)(w:World)(hsl:gT D sa.a sa.b sa.o n)(hc:∀j,j<n->w.cell? ⟨sa.b,sa.o+j*4,none⟩=some (.string ⟨(nm j).toArray⟩)/\w.cell? ⟨sa.b,sa.o+j*4+1,none⟩=some (.int .i64 (z1 j))/\w.cell? ⟨sa.b,sa.o+j*4+2,none⟩=some (.int .i64 (z2 j))/\w.cell? ⟨sa.b,sa.o+j*4+3,none⟩=some (.slice (y3 j).a (n3 j) (y3 j).cap))(hnm:∀j,j<n->∀W,Calls Tryz.prog nf #[.agg #[.string ⟨(nm j).toArray⟩,.int .i64 (z1 j),.int .i64 (z2 j),.slice (y3 j).a (n3 j) (y3 j).cap]] W fun e w'=>e=.returned (.string ⟨(nm j).toArray⟩)/\Below W.heap.size W w')(hent:∀(args:Array Value) (w:World),(callFunc nf args).run Tryz.prog w=.ok (.enter nf args) w)(hmax:n<=2000000):
  j6 Tryz.prog 95 (fun l=>#[.slice sa.a n sa.cap,.func (.func nf) #[] #[],.func (.yield l) #[] #[]]) n (fun i=>#[.int .i64 i,.string ⟨(nm i).toArray⟩]) D w:=by
 intro l J Jx T W sK hD hT hJ hJx hY h0;have B0:=Between.start (J:=J) h0;have HB:=Lh B0;have hnn:=BL nf;have HY:=Lh hY;have HJ:=Lh hJ;have Rp:=Lh hJx;have HD:=Lh hD;have HT:=Lh hT;have JB:=Lh sK;have HC:=Lh hc;have ow:=Lh hnm;clear hY hJ hJx hD hT sK hc hnm h0 B0;refine(callsIn_wide (n:=0)).1 (callsIn_of_wp Tryz.func95 rfl trivial ?_ rfl);simp only[Tryz.ntmps95,List.size_toArray,List.length_cons,List.length_nil,Nat.reduceAdd,Nat.reduceSub,Array.replicate_succ,Array.replicate_zero,List.push_toArray,List.append_toArray,List.nil_append,List.cons_append]
 gi_wp2_with fail
 gi_loopw [11] (fun i wr=>∃(j:Nat) (T1:Nat->Prop),j<=n/\i=.int .i64 j/\Hid (Between J T T1 W wr j)) (fun i _=>n-(intOf i).toNat)
 case atStart=>exact⟨0,T,Nat.zero_le _,rfl,HB⟩
 case round=>
  obtain⟨j,T1,hj,rfl,HR⟩:=hrel;clear HB;by_cases hlt:j<n
  ·obtain⟨q0,q1,q2,q3⟩:=HC.out j hlt;obtain⟨hsa,Ag⟩:=hsl (by omega);have hag:Agree D w wr:=JB.out.trans (HR.out.agree HD.out);have e0:=(cB hag (a:=⟨sa.b,sa.o+j*4,none⟩) Ag).trans q0;have e1:=(cB hag (a:=⟨sa.b,sa.o+j*4+1,none⟩) Ag).trans q1;have e2:=(cB hag (a:=⟨sa.b,sa.o+j*4+2,none⟩) Ag).trans q2;have e3:=(cB hag (a:=⟨sa.b,sa.o+j*4+3,none⟩) Ag).trans q3;rw[hsa];clear hag q0 q1 q2 q3
   gi_wp2_with fail
   refine⟨trivial,rfl,(callsIn_wide.2 (ow.out j hlt _)).mono ?_⟩;rintro e w1 ⟨rfl,hb1⟩;have hb0:=Below.ahead hb1 (by simp);have HR1:=Lh (HR.out.own HJ.out hb0);obtain⟨fn,tmps,assign,body,hy,hR⟩:=HY.out j T1 w1 hlt HR1.out.inv (HR1.out.lt HT.out);have HRR:=Lh hR;clear hb0 hb1 hR
   gi_wp2_with fail
   refine⟨rfl,HRR.out.mono ?_⟩;rintro e W2 ⟨T2,he,hm,⟨rfl,hj2⟩|⟨rfl,hj2⟩⟩
   ·have HR2:=Lh (HR1.out.round he hm hj2);clear he hm hj2
    gi_wp2_with fail
    exact⟨⟨j+1,T2,by omega,by go_num,HR2⟩,by simp[intOf];omega⟩
   ·have HP:=Lh (HR1.out.stop hlt he hm hj2 (v:=.tuple #[]));clear he hm hj2
    gi_wp2_with fail
    go_end0;exact HP.out
  ·obtain rfl:j=n:=by omega
   have HP:=Lh (HR.out.done (Jx:=Jx) (v:=.tuple #[]))
   gi_wp2_with fail
   go_end0;exact HP.out
theorem BK(nf:Nat)(w:World):(binOp .neq 163 (.func (.func nf) #[] #[]) .nilFunc).run Tryz.prog w=.ok (.bool true) w:=by kernel_rfl
theorem Kj(n:Nat)(nm:Nat->Bs)(y1:Nat->aK)(n1:Nat->Nat)(sa:aK)(nf:Nat)(D:Nat->Prop)(w:World)(hsl:gT D sa.a sa.b sa.o n)(hc:∀j,j<n->w.cell? ⟨sa.b,sa.o+j*2,none⟩=some (.string ⟨(nm j).toArray⟩)/\w.cell? ⟨sa.b,sa.o+j*2+1,none⟩=some (.slice (y1 j).a (n1 j) (y1 j).cap))(hnm:∀j,j<n->∀W,Calls Tryz.prog nf #[.agg #[.string ⟨(nm j).toArray⟩,.slice (y1 j).a (n1 j) (y1 j).cap]] W fun e w'=>e=.returned (.string ⟨(nm j).toArray⟩)/\Below W.heap.size W w')(hent:∀(args:Array Value) (w:World),(callFunc nf args).run Tryz.prog w=.ok (.enter nf args) w)(hmax:n<=2000000):
  j6 Tryz.prog 97 (fun l=>#[.slice sa.a n sa.cap,.func (.func nf) #[] #[],.func (.yield l) #[] #[]]) n (fun i=>#[.int .i64 i,.string ⟨(nm i).toArray⟩]) D w:=by
 intro l J Jx T W sK hD hT hJ hJx hY h0;have B0:=Between.start (J:=J) h0;have HB:=Lh B0;have hnn:=BK nf;have HY:=Lh hY;have HJ:=Lh hJ;have Rp:=Lh hJx;have HD:=Lh hD;have HT:=Lh hT;have JB:=Lh sK;have HC:=Lh hc;have ow:=Lh hnm;clear hY hJ hJx hD hT sK hc hnm h0 B0;refine(callsIn_wide (n:=0)).1 (callsIn_of_wp Tryz.func97 rfl trivial ?_ rfl);simp only[Tryz.ntmps97,List.size_toArray,List.length_cons,List.length_nil,Nat.reduceAdd,Nat.reduceSub,Array.replicate_succ,Array.replicate_zero,List.push_toArray,List.append_toArray,List.nil_append,List.cons_append]
 gi_wp2_with fail
 gi_loopw [11] (fun i wr=>∃(j:Nat) (T1:Nat->Prop),j<=n/\i=.int .i64 j/\Hid (Between J T T1 W wr j)) (fun i _=>n-(intOf i).toNat)
 case atStart=>exact⟨0,T,Nat.zero_le _,rfl,HB⟩
 case round=>
  obtain⟨j,T1,hj,rfl,HR⟩:=hrel;clear HB;by_cases hlt:j<n
  ·obtain⟨q0,q1⟩:=HC.out j hlt;obtain⟨hsa,Ag⟩:=hsl (by omega);have hag:Agree D w wr:=JB.out.trans (HR.out.agree HD.out);have e0:=(cB hag (a:=⟨sa.b,sa.o+j*2,none⟩) Ag).trans q0;have e1:=(cB hag (a:=⟨sa.b,sa.o+j*2+1,none⟩) Ag).trans q1;rw[hsa];clear hag q0 q1
   gi_wp2_with fail
   refine⟨trivial,rfl,(callsIn_wide.2 (ow.out j hlt _)).mono ?_⟩;rintro e w1 ⟨rfl,hb1⟩;have hb0:=Below.ahead hb1 (by simp);have HR1:=Lh (HR.out.own HJ.out hb0);obtain⟨fn,tmps,assign,body,hy,hR⟩:=HY.out j T1 w1 hlt HR1.out.inv (HR1.out.lt HT.out);have HRR:=Lh hR;clear hb0 hb1 hR
   gi_wp2_with fail
   refine⟨rfl,HRR.out.mono ?_⟩;rintro e W2 ⟨T2,he,hm,⟨rfl,hj2⟩|⟨rfl,hj2⟩⟩
   ·have HR2:=Lh (HR1.out.round he hm hj2);clear he hm hj2
    gi_wp2_with fail
    exact⟨⟨j+1,T2,by omega,by go_num,HR2⟩,by simp[intOf];omega⟩
   ·have HP:=Lh (HR1.out.stop hlt he hm hj2 (v:=.tuple #[]));clear he hm hj2
    gi_wp2_with fail
    go_end0;exact HP.out
  ·obtain rfl:j=n:=by omega
   have HP:=Lh (HR.out.done (Jx:=Jx) (v:=.tuple #[]))
   gi_wp2_with fail
   go_end0;exact HP.out
theorem BI(nf:Nat)(w:World):(binOp .neq 165 (.func (.func nf) #[] #[]) .nilFunc).run Tryz.prog w=.ok (.bool true) w:=by kernel_rfl
theorem Kh(n:Nat)(nm:Nat->Bs)(z1:Nat->Int)(sa:aK)(nf:Nat)(D:Nat->Prop)(w:World)(hsl:gT D sa.a sa.b sa.o n)(hc:∀j,j<n->w.cell? ⟨sa.b,sa.o+j*2,none⟩=some (.string ⟨(nm j).toArray⟩)/\w.cell? ⟨sa.b,sa.o+j*2+1,none⟩=some (.int .i64 (z1 j)))(hnm:∀j,j<n->∀W,Calls Tryz.prog nf #[.agg #[.string ⟨(nm j).toArray⟩,.int .i64 (z1 j)]] W fun e w'=>e=.returned (.string ⟨(nm j).toArray⟩)/\Below W.heap.size W w')(hent:∀(args:Array Value) (w:World),(callFunc nf args).run Tryz.prog w=.ok (.enter nf args) w)(hmax:n<=2000000):
  j6 Tryz.prog 99 (fun l=>#[.slice sa.a n sa.cap,.func (.func nf) #[] #[],.func (.yield l) #[] #[]]) n (fun i=>#[.int .i64 i,.string ⟨(nm i).toArray⟩]) D w:=by
 intro l J Jx T W sK hD hT hJ hJx hY h0;have B0:=Between.start (J:=J) h0;have HB:=Lh B0;have hnn:=BI nf;have HY:=Lh hY;have HJ:=Lh hJ;have Rp:=Lh hJx;have HD:=Lh hD;have HT:=Lh hT;have JB:=Lh sK;have HC:=Lh hc;have ow:=Lh hnm;clear hY hJ hJx hD hT sK hc hnm h0 B0;refine(callsIn_wide (n:=0)).1 (callsIn_of_wp Tryz.func99 rfl trivial ?_ rfl);simp only[Tryz.ntmps99,List.size_toArray,List.length_cons,List.length_nil,Nat.reduceAdd,Nat.reduceSub,Array.replicate_succ,Array.replicate_zero,List.push_toArray,List.append_toArray,List.nil_append,List.cons_append]
 gi_wp2_with fail
 gi_loopw [11] (fun i wr=>∃(j:Nat) (T1:Nat->Prop),j<=n/\i=.int .i64 j/\Hid (Between J T T1 W wr j)) (fun i _=>n-(intOf i).toNat)
 case atStart=>exact⟨0,T,Nat.zero_le _,rfl,HB⟩
 case round=>
  obtain⟨j,T1,hj,rfl,HR⟩:=hrel;clear HB;by_cases hlt:j<n
  ·obtain⟨q0,q1⟩:=HC.out j hlt;obtain⟨hsa,Ag⟩:=hsl (by omega);have hag:Agree D w wr:=JB.out.trans (HR.out.agree HD.out);have e0:=(cB hag (a:=⟨sa.b,sa.o+j*2,none⟩) Ag).trans q0;have e1:=(cB hag (a:=⟨sa.b,sa.o+j*2+1,none⟩) Ag).trans q1;rw[hsa];clear hag q0 q1
   gi_wp2_with fail
   refine⟨trivial,rfl,(callsIn_wide.2 (ow.out j hlt _)).mono ?_⟩;rintro e w1 ⟨rfl,hb1⟩;have hb0:=Below.ahead hb1 (by simp);have HR1:=Lh (HR.out.own HJ.out hb0);obtain⟨fn,tmps,assign,body,hy,hR⟩:=HY.out j T1 w1 hlt HR1.out.inv (HR1.out.lt HT.out);have HRR:=Lh hR;clear hb0 hb1 hR
   gi_wp2_with fail
   refine⟨rfl,HRR.out.mono ?_⟩;rintro e W2 ⟨T2,he,hm,⟨rfl,hj2⟩|⟨rfl,hj2⟩⟩
   ·have HR2:=Lh (HR1.out.round he hm hj2);clear he hm hj2
    gi_wp2_with fail
    exact⟨⟨j+1,T2,by omega,by go_num,HR2⟩,by simp[intOf];omega⟩
   ·have HP:=Lh (HR1.out.stop hlt he hm hj2 (v:=.tuple #[]));clear he hm hj2
    gi_wp2_with fail
    go_end0;exact HP.out
  ·obtain rfl:j=n:=by omega
   have HP:=Lh (HR.out.done (Jx:=Jx) (v:=.tuple #[]))
   gi_wp2_with fail
   go_end0;exact HP.out
end Go.Proofs.YtncnnbmeacpboaaGreatDoor
namespace Go.aa
open Go.RowKit
variable {J:Nat->(Nat->Prop)->World->Prop} {T T1:Nat->Prop} {W Wr:World} {j:Nat}
def JU(J Jx:Nat->(Nat->Prop)->World->Prop)(T:Nat->Prop)(W:World)(c m:Nat)(e:Ending)(W':World):Prop:=
 ∃T',Ext T T' W W'/\Mod T W W'/\((e=.returned (.bool true)/\J (c+m) T' W')∨(e=.returned (.bool false)/\∃i,0<i/\i<=c+m/\Jx i T' W'))
def Az(P:Program)(g:Nat)(v:Value)(m:Nat)(cells:Nat->Value)(D:Nat->Prop)(w:World):Prop:=
 ∀(l c N:Nat) (J Jx:Nat->(Nat->Prop)->World->Prop) (T:Nat->Prop) (W:World),
  Agree D w W->(∀k,D k->k<W.heap.size/\¬T k)->(∀k,T k->k<W.heap.size)->N<=W.heap.size->nD N J->nD N Jx->
  (∀i T1 W1,i<m->J (c+i) T1 W1->(∀k,T1 k->k<W1.heap.size)->YieldAt Fence.wide 0 P l #[cells i] W1 (jA J Jx T1 W1 (c+i)))->
  J c T W->Calls P g #[v,.func (.yield l) #[] #[]] W (JU J Jx T W c m)
def vR:aK:=⟨none,0,0,0⟩
def gB(p:ae×aC):Value:=.agg (p.2.cells p.1).toArray
def jV(ns:List (ae×aC))(i:Nat):ae×aC:=ns[i]?.getD (.mk 0 [] 0 [] [] [],⟨vR,vR,vR⟩)
structure uK (J:Nat->(Nat->Prop)->World->Prop) (T T1:Nat->Prop) (W Wr:World) (j:Nat):Prop where
 ext:Ext T T1 W Wr
 mod:Mod T W Wr
 inv:J j T1 Wr
theorem uK.lt{J:Nat->(Nat->Prop)->World->Prop}{T T1:Nat->Prop}{W Wr:World}{j:Nat}(h:uK J T T1 W Wr j)(hT:∀k,T k->k<W.heap.size):∀k,T1 k->k<Wr.heap.size:=h.ext.lt h.mod.size hT
theorem uK.round{J2:Nat->(Nat->Prop)->World->Prop}{T2:Nat->Prop}{W2:World}{j2:Nat}(h:uK J T T1 W Wr j)(he:Ext T1 T2 Wr W2)(hm:Mod T1 Wr W2)(hj:J2 j2 T2 W2):uK J2 T T2 W W2 j2:=
 ⟨h.ext.trans he h.mod.size hm.size,h.mod.ext hm h.ext,hj⟩
theorem uK.own{W':World}{N:Nat}(h:uK J T T1 W Wr j)(hN:N<=W.heap.size)(hJ:nD N J)(hb:Below Wr.heap.size Wr W'):uK J T T1 W W' j:=by
 have hs:=h.mod.size;refine⟨fun k hk=>?_,h.mod.trans (Mod.of_below (S:=fun _=>False) hb) (fun _ _ h=>h.elim),hJ _ _ _ _ _ h.inv (Mod.of_below (S:=fun _=>False) hb) (fun _ h=>h.elim)⟩;rcases h.ext k hk with g|g
 ·exact .inl g
 ·exact .inr ⟨g.1,by have:=hb.size;omega⟩
end Go.aa
namespace Go.Proofs.YtncnnbmeacpboaaGreatDoor
open Go.RowKit Go.aa
attribute [local go_sem] Oper.semAt_some
variable {J:Nat->(Nat->Prop)->World->Prop} {T T1:Nat->Prop} {W Wr:World} {j:Nat}
theorem oH:∀l:List ae,dU l=(l.map aJ).flatten
 |[]=>rfl
 |f::r=>by rw[dU,oH r];rfl
theorem Hz(p:ae×aC)(iT:List (List (ae×aC)))(j i:Nat)(hj:j<iT.length)(hi:i<(iT[j]).length):jV (p::iT.flatten) (1+jm iT j+i)=jV iT[j] i:=by
 unfold jV;rw[show 1+jm iT j+i=(jm iT j+i)+1 from by omega,List.getElem?_cons_succ,BQ iT j i hj hi,List.getElem?_eq_getElem hi]
theorem Qy(f:ae)(x:aC)(w:World)(F:Nat->Prop)(hx:aB w F f x)(hmax:f.l.length<=2000000)(iT:List (List (ae×aC)))(hnl:iT.length=f.l.length)(hns:∀(j:Nat) (hj:j<iT.length) (hj':j<f.l.length) (y:aC),ay w x.l.b (x.l.o+j*6) (y.cells f.l[j])->Az Tryz.prog 155 (gB (f.l[j],y)) (iT[j]).length (fun i=>gB (jV iT[j] i)) F w):
  Az Tryz.prog 155 (gB (f,x)) ((f,x)::iT.flatten).length (fun i=>gB (jV ((f,x)::iT.flatten) i)) F w:=by
 intro l c N J Jx T W sK hD hT hN hJ hJx hY h0;have B1:uK J T T W (W.alloc (.cells (x.cells f).toArray 64)) c:=(⟨Ext.refl _ _ _,aa.Mod.refl _ _,h0⟩:uK J T T W W c).own hN hJ ((Below.refl _ _).alloc (Nat.le_refl _) _);have hbx:(W.alloc (.cells (x.cells f).toArray 64)).heap[W.heap.size]?=some (.cells (x.cells f).toArray 64 (0,0)):=boxed (B:=W.heap.size+1) (Below.refl _ _) (by omega);have hy0:=hY 0 T (W.alloc (.cells (x.cells f).toArray 64)) (by simp) B1.inv (B1.lt hT);have Jp:=Lh (fun j (hj:j<f.l.length)=>hx.l.qK j hj);have uF:=Lh hx.l.at_;obtain⟨fn,tmps,assign,body,hy,hR⟩:=hy0;simp only[show jV ((f,x)::iT.flatten) 0=(f,x) from rfl] at hy;have HRR:=Lh hR;have HY:=Lh hY;have HJ:=Lh hJ;have Rp:=Lh hJx;have HD:=Lh hD;have HT:=Lh hT;have JB:=Lh sK;have kM:=Lh hns;have HB1:=Lh (aI B1 hbx);clear hY hJ hJx hD hT sK h0 hR hns hx B1 hbx;obtain⟨kind,name,n,terms,binds,fl⟩:=f;simp only[gB,aC.cells,aK.val,ae.kind,ae.name,ae.n,ae.terms,ae.binds,ae.l] at*;refine(callsIn_wide (n:=0)).1 (callsIn_of_wp Tryz.func155 rfl trivial ?_ rfl);simp only[Tryz.ntmps155,List.size_toArray,List.length_cons,List.length_nil,Nat.reduceAdd,Nat.reduceSub,Array.replicate_succ,Array.replicate_zero,List.push_toArray,List.append_toArray,List.nil_append,List.cons_append]
 gi_wp2_with fail
 refine⟨rfl,HRR.out.mono ?_⟩;rintro e W2 ⟨T1,he,hm,⟨rfl,hj⟩|⟨rfl,hj⟩⟩;rotate_left
 ·have HH:=Lh (HB1.out.1.round he hm hj);clear he hm hj
  gi_wp2_with fail
  go_ret;exact⟨T1,HH.out.ext,HH.out.mod,.inr ⟨rfl,c+1,by omega,by omega,HH.out.inv⟩⟩
 ·have hj':J (c+(1+jm iT 0)) T1 W2:=by simpa[jm] using hj
  have B2:=Lh (HB1.out.1.round he hm hj');have lC:=av HB1.out.2 hm (fun h=>by have:=HT.out _ h;omega);have q5:W2.cell? ⟨W.heap.size,5,none⟩=some (.slice x.l.a fl.length x.l.cap):=cH lC rfl;clear he hm hj hj' lC hy
  gi_wp2_with fail
  gi_loopw [14] (fun i wr=>∃(j:Nat) (T1:Nat->Prop),j<=fl.length/\i=.int .i64 j/\Hid (uK J T T1 W wr (c+(1+jm iT j)))) (fun i _=>fl.length-(intOf i).toNat)
  case atStart=>exact⟨0,T1,Nat.zero_le _,rfl,B2⟩
  case round=>
   obtain⟨j,T1,hj,rfl,HR⟩:=hrel;clear B2 q5;by_cases hlt:j<fl.length
   ·obtain⟨y,_,hy2⟩:=Jp.out j hlt;have hjn:j<iT.length:=by omega
    have Nb:=Lh (kM.out j hjn hlt y hy2);obtain⟨hxa,kg⟩:=uF.out (by rw[List.length_map];omega);have hag:Agree F w wr:=JB.out.trans (HR.out.mod.agree HD.out);have hys:=(hy2.agree hag kg).six;obtain⟨e0,e1,e2,e3,e4,e5⟩:=hys;have HAR:=Lh hag;have hole:=OH iT (j+1) (by omega);have hoff:=yx iT j hjn;have HO:=Lh (aI hole hoff);have HB3:=Lh (HR.out.own hN HJ.out ((Below.refl _ _).alloc (Nat.le_refl _) (.cells (y.cells fl[j]).toArray 64)));have SK:=Nb.out l (c+(1+jm iT j)) N J Jx T1 (wr.alloc (.cells (y.cells fl[j]).toArray 64)) (hag.trans (ag ((Below.refl wr.heap.size wr).alloc (Nat.le_refl _) _) |>.mono (fun k hk=>by have:=(HD.out k hk).1;have:=HR.out.mod.size;omega)))
     (fun k hk=>⟨by have:=(HD.out k hk).1;have:=HB3.out.mod.size;omega,HB3.out.ext.not (HD.out k hk).1 (HD.out k hk).2⟩) (HB3.out.lt HT.out) (by have:=HB3.out.mod.size;omega) HJ.out Rp.out
     (fun i T2 W3 hi hJ2 VK=>by
      have:=HY.out (1+jm iT j+i) T2 W3 (by rw[List.length_cons];omega) (by rw[show c+(1+jm iT j+i)=c+(1+jm iT j)+i from by omega];exact hJ2) VK;rw[Hz _ iT j i hjn hi,show c+(1+jm iT j+i)=c+(1+jm iT j)+i from by omega] at this;exact this) HB3.out.inv
    have fZ:=Lh SK;rw[hxa];clear hag hole hoff hy2 kg SK Nb;generalize hfe:fl[j]=fe at fZ HB3 e0 e1 e2 e3 e4 e5;obtain⟨mU,mV,n1,jX,jR,Jv⟩:=fe;simp only[gB,aC.cells,aK.val,ae.kind,ae.name,ae.n,ae.terms,ae.binds,ae.l] at fZ HB3 e0 e1 e2 e3 e4 e5;clear hfe
    gi_wp2_with fail
    refine⟨trivial,rfl,(callsIn_wide.2 fZ.out).mono ?_⟩;rintro e W3 ⟨T3,xZ,xy,⟨rfl,RI⟩|⟨rfl,i,hi0,him,RI⟩⟩
    ·have HR2:=Lh (HB3.out.round xZ xy RI);rw[show c+(1+jm iT j)+(iT[j]).length=c+(1+jm iT (j+1)) from by rw[HO.out.2];omega] at HR2;clear xZ xy RI
     gi_wp2_with fail
     exact⟨⟨j+1,T3,by omega,by go_num,HR2⟩,by simp[intOf];omega⟩
    ·have HX:=Lh (HB3.out.round xZ xy RI);clear xZ xy RI
     gi_wp2_with fail
     go_ret;exact⟨T3,HX.out.ext,HX.out.mod,.inr ⟨rfl,i,hi0,by have:=HO.out;omega,HX.out.inv⟩⟩
   ·obtain rfl:j=fl.length:=by omega
    gi_wp2_with fail
    go_ret;refine⟨T1,HR.out.ext,HR.out.mod,.inl ⟨rfl,?_⟩⟩;have:=HR.out.inv;rw[<-hnl,BP] at this
    rwa [Nat.add_comm iT.flatten.length]
theorem xX(n:Nat):∀(f:ae) (x:aC) (w:World) (F:Nat->Prop),f.size<=n->f.size<=2000000->aB w F f x->
  ∃ns:List (ae×aC),ns.map (·.1)=aJ f/\(∀p∈ns,aB w F p.1 p.2)/\Az Tryz.prog 155 (gB (f,x)) ns.length (fun i=>gB (jV ns i)) F w:=by
 induction n with
 |zero=>intro f _ _ _ h;have:=f.size_pos;omega
 |succ n ih=>
  intro f x w F hn hs hx;have hsz:f.size=1+bF f.l:=by cases f;simp[ae.size,ae.l]
  have hll:=di f.l;obtain⟨iT,hnl,hns⟩:=Bc (m:=f.l.length) (α:=List (ae×aC)) (Q:=fun(j:Nat) (ns:List (ae×aC))=>∃hj:j<f.l.length,ns.map (·.1)=aJ f.l[j]/\(∀p∈ns,aB w F p.1 p.2)/\
    ∀(y:aC),ay w x.l.b (x.l.o+j*6) (y.cells f.l[j])->Az Tryz.prog 155 (gB (f.l[j],y)) ns.length (fun i=>gB (jV ns i)) F w) (fun j hj=>by
    obtain⟨y,h1,h2⟩:=hx.l.qK j hj;have:=aT f.l j hj;obtain⟨ns,g1,g2,g3⟩:=ih f.l[j] y w F (by omega) (by omega) h1;refine⟨ns,hj,g1,g2,fun y' h'=>?_⟩;have e:gB (f.l[j],y')=gB (f.l[j],y):=by
     have a:=h2.six;have b:=h'.six;unfold gB;simp only[aC.cells];rw[a.2.2.2.1,a.2.2.2.2.1,a.2.2.2.2.2] at b;simp only[Option.some.injEq] at b;rw[b.2.2.2.1,b.2.2.2.2.1,b.2.2.2.2.2]
    rw[e];exact g3)
  refine⟨(f,x)::iT.flatten,?_,?_,?_⟩
  ·rw[List.map_cons,List.map_flatten];have:iT.map (List.map (·.1))=f.l.map aJ:=by
    apply List.ext_getElem (by simp[hnl]);intro j h1 h2;simp at h1 h2;obtain⟨_,h,_⟩:=hns j h1;simpa using h
   rw[this,<-oH];cases f;simp[aJ,ae.l]
  ·intro p hp;rcases List.mem_cons.1 hp with rfl|hp
   ·exact hx
   ·obtain⟨ns,V7,hp⟩:=List.mem_flatten.1 hp;obtain⟨j,hj,rfl⟩:=List.mem_iff_getElem.1 V7;obtain⟨_,_,h,_⟩:=hns j hj;exact h p hp
  ·exact Qy f x w F hx (by omega) iT hnl (fun j hj hj' y hy=>by obtain⟨_,_,_,h⟩:=hns j hj;exact h y hy)
theorem Fw(f:ae)(x:aC)(w:World):
  Calls Tryz.prog 116 #[.agg (x.cells f).toArray] w fun e w'=>e=.returned (.func (.func 154) #[] #[.pointer (some ⟨w.heap.size,0,none⟩)])/\w.alloc (.cells (x.cells f).toArray 64)=w':=by
 have Od:∀(fn:Fn) (first cap:Array Value) (w:World),(Instr.makeFunc fn first cap).run Tryz.prog w=.ok (.func fn first cap) w:=fun _ _ _ _=>rfl;simp only[aC.cells,aK.val];go_enter Tryz.func116,Tryz.ntmps116;go_wp2_with fail;go_ret;exact⟨rfl,rfl⟩
theorem AB(f:ae)(x:aC)(ns:List (ae×aC))(w:World)(F:Nat->Prop)(hW:Az Tryz.prog 155 (gB (f,x)) ns.length (fun i=>gB (jV ns i)) F w)(W0:World)(tb:Nat)(hag:Agree F w W0)(htb:W0.heap[tb]?=some (.cells (x.cells f).toArray 64 (0,0))):Iter Tryz.prog 154 #[.pointer (some ⟨tb,0,none⟩)] ns.length (fun i=>#[gB (jV ns i)]) (fun k=>F k∨k=tb) W0:=by
 intro l J Jx T W sK hD hT hJ hJx hY h0;have DR:W.heap[tb]?=some (.cells (x.cells f).toArray 64 (0,0)):=(sK tb (.inr rfl)).trans htb;have SK:=hW l 0 W.heap.size J Jx T W (hag.trans (sK.mono (fun k hk=>.inl hk))) (fun k hk=>hD k (.inl hk)) hT (Nat.le_refl _) hJ hJx (fun i T1 W1 hi hj ht=>by
  have:=hY i T1 W1 hi (by rwa [Nat.zero_add] at hj) ht
  rwa [Nat.zero_add]) h0
 have fZ:=Lh SK;clear hW SK hY hJ hJx sK hD hT h0 htb hag;obtain⟨kind,name,n,terms,binds,fl⟩:=f;simp only[gB,aC.cells,aK.val,ae.kind,ae.name,ae.n,ae.terms,ae.binds,ae.l] at*;have q0:W.cell? ⟨tb,0,none⟩=some (.int .i64 kind):=cH DR rfl;have q1:W.cell? ⟨tb,1,none⟩=some (.string ⟨name.toArray⟩):=cH DR rfl;have q2:W.cell? ⟨tb,2,none⟩=some (.int .i64 n):=cH DR rfl;have q3:W.cell? ⟨tb,3,none⟩=some (.slice x.t.a terms.length x.t.cap):=cH DR rfl;have q4:W.cell? ⟨tb,4,none⟩=some (.slice x.b.a binds.length x.b.cap):=cH DR rfl;have q5:W.cell? ⟨tb,5,none⟩=some (.slice x.l.a fl.length x.l.cap):=cH DR rfl;clear DR;show Calls Tryz.prog 154 #[.func (.yield l) #[] #[],.pointer (some ⟨tb,0,none⟩)] W _;refine(callsIn_wide (n:=0)).1 (callsIn_of_wp Tryz.func154 rfl trivial ?_ rfl);simp only[Tryz.ntmps154,List.size_toArray,List.length_cons,List.length_nil,Nat.reduceAdd,Nat.reduceSub,Array.replicate_succ,Array.replicate_zero,List.push_toArray,List.append_toArray,List.nil_append,List.cons_append]
 gi_wp2_with fail
 refine⟨trivial,rfl,(callsIn_wide.2 fZ.out).mono ?_⟩;rintro e W3 ⟨T3,xZ,xy,h⟩;have HH:=Lh (aI xZ (aI xy h));clear xZ xy;rcases h with⟨rfl,_⟩|⟨rfl,_⟩
 ·gi_wp2_with fail
  go_end0;obtain⟨he,hm,h⟩:=HH.out;refine⟨⟨_,rfl⟩,T3,he,hm,?_⟩;rcases h with⟨_,h⟩|⟨h,_⟩
  ·exact .inl (by rwa [Nat.zero_add] at h)
  ·cases h
 ·gi_wp2_with fail
  go_end0;obtain⟨he,hm,h⟩:=HH.out;refine⟨⟨_,rfl⟩,T3,he,hm,?_⟩;rcases h with⟨h,_⟩|⟨_,i,h1,h2,h3⟩
  ·cases h
  ·exact .inr ⟨i,h1,by omega,h3⟩
end Go.Proofs.YtncnnbmeacpboaaGreatDoor
