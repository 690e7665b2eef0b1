/- Parts of the proof. -/
import Derived.Test.YtncnnbmeacpboaaGreatDoorQ16
import Derived.Stop.RegionWithIn
import Derived.Lib.ItoaNum
set_option maxHeartbeats 1000000
set_option maxRecDepth 100000
set_option linter.unusedVariables false
set_option linter.unusedSimpArgs false
namespace Go.Proofs.YtncnnbmeacpboaaGreatDoor
open Go.RowKit Go.aa
attribute [local go_sem] Oper.semAt_some
theorem LK(s:Bs)(y1 y2:aK)(n1 n2:Nat)(w:World):Calls Tryz.prog 92 #[.agg #[.string ⟨s.toArray⟩,.slice y1.a n1 y1.cap,.slice y2.a n2 y2.cap]] w fun e w'=>e=.returned (.string ⟨s.toArray⟩)/\Below w.heap.size w w':=by
 go_enter Tryz.func92,Tryz.ntmps92;go_wp2_with fail;go_ret;exact⟨rfl,(Below.refl _ _).alloc (Nat.le_refl _) _⟩
theorem LQ(s:Bs)(z1 z2:Int)(w:World):Calls Tryz.prog 94 #[.agg #[.string ⟨s.toArray⟩,.int .i64 z1,.int .i64 z2]] w fun e w'=>e=.returned (.string ⟨s.toArray⟩)/\Below w.heap.size w w':=by
 go_enter Tryz.func94,Tryz.ntmps94;go_wp2_with fail;go_ret;exact⟨rfl,(Below.refl _ _).alloc (Nat.le_refl _) _⟩
theorem LP(s:Bs)(z1 z2:Int)(y3:aK)(n3:Nat)(w:World):Calls Tryz.prog 96 #[.agg #[.string ⟨s.toArray⟩,.int .i64 z1,.int .i64 z2,.slice y3.a n3 y3.cap]] w fun e w'=>e=.returned (.string ⟨s.toArray⟩)/\Below w.heap.size w w':=by
 go_enter Tryz.func96,Tryz.ntmps96;go_wp2_with fail;go_ret;exact⟨rfl,(Below.refl _ _).alloc (Nat.le_refl _) _⟩
theorem LM(s:Bs)(y1:aK)(n1:Nat)(w:World):Calls Tryz.prog 98 #[.agg #[.string ⟨s.toArray⟩,.slice y1.a n1 y1.cap]] w fun e w'=>e=.returned (.string ⟨s.toArray⟩)/\Below w.heap.size w w':=by
 go_enter Tryz.func98,Tryz.ntmps98;go_wp2_with fail;go_ret;exact⟨rfl,(Below.refl _ _).alloc (Nat.le_refl _) _⟩
theorem LJ(s:Bs)(z1:Int)(w:World):Calls Tryz.prog 100 #[.agg #[.string ⟨s.toArray⟩,.int .i64 z1]] w fun e w'=>e=.returned (.string ⟨s.toArray⟩)/\Below w.heap.size w w':=by
 go_enter Tryz.func100,Tryz.ntmps100;go_wp2_with fail;go_ret;exact⟨rfl,(Below.refl _ _).alloc (Nat.le_refl _) _⟩
theorem FT(word:ByteArray)(f:Fn)(c1 c2:Array Value)(w:World):Calls Tryz.prog 102 #[.string word,.func f c1 c2] w fun e w'=>e=.returned (.func (.func 145) #[] #[.pointer (some ⟨w.heap.size+1,0,none⟩),.pointer (some ⟨w.heap.size,0,none⟩)])/\(w.alloc (.cells #[.string word] 9)).alloc (.cells #[.func f c1 c2] 155)=w':=by
 have Od:∀(fn:Fn) (first cap:Array Value) (w:World),(Instr.makeFunc fn first cap).run Tryz.prog w=.ok (.func fn first cap) w:=fun _ _ _ _=>rfl;go_enter Tryz.func102,Tryz.ntmps102;go_wp2_with fail;go_ret;exact⟨rfl,rfl⟩
theorem Ml(i:Nat)(s0:ByteArray)(word ds:Bs)(l yb wb:Nat)(w:World)(R:Bool->World->Prop)(Bl:∀W,Calls Tryz.prog 89 #[.int .i64 i] W fun e w'=>e=.returned (.string ⟨ds.toArray⟩)/\W=w')(h1:w.cell? ⟨yb,0,none⟩=some (.func (.yield l) #[] #[]))(h2:w.cell? ⟨wb,0,none⟩=some (.string ⟨word.toArray⟩))(hw:word.length<=100)(hds:ds.length<=100)(hY:YieldAt Fence.wide 0 Tryz.prog l #[.int .i64 i,.string ⟨(word++ds).toArray⟩] w.drew (fun e W'=>∃b,e=.returned (.bool b)/\R b W')):
  Calls Tryz.prog 145 #[.int .i64 i,.string s0,.pointer (some ⟨yb,0,none⟩),.pointer (some ⟨wb,0,none⟩)] w fun e W'=>∃b,e=.returned (.bool b)/\R b W':=by
 obtain⟨fn,tmps,assign,body,hy,hR⟩:=hY;have HR:=Lh hR;have HI:=Lh Bl;have Zz:∀W,(Op.stringOp .add ⟨word.toArray⟩ ⟨ds.toArray⟩).run Tryz.prog W=.ok (.string ⟨(word++ds).toArray⟩) W:=fun W=>run_string_add_lists W word ds (by omega) (by omega);clear hR Bl;refine(callsIn_wide (n:=0)).1 (callsIn_of_wp Tryz.func145 rfl trivial ?_ rfl);simp only[Tryz.ntmps145,List.size_toArray,List.length_cons,List.length_nil,Nat.reduceAdd,Nat.reduceSub,Array.replicate_succ,Array.replicate_zero,List.push_toArray,List.append_toArray,List.nil_append,List.cons_append]
 gi_wp2_with fail
 gi_region_with (first|(refine⟨trivial,rfl,(callsIn_wide.2 (HI.out _)).mono ?_⟩;rintro e w' ⟨rfl,rfl⟩)|(refine⟨rfl,HR.out.mono ?_⟩;rintro e W2 ⟨b,rfl,hr⟩)|fail)
 all_goals
  gi_wp2_with fail
  go_ret;exact⟨_,rfl,hr⟩
theorem zG(w:World):(binOp .neq 199 .nilFunc .nilFunc).run Tryz.prog w=.ok (.bool false) w:=by kernel_rfl
def yX(J Jx:Nat->(Nat->Prop)->World->Prop)(T:Nat->Prop)(W:World)(i:Nat)(b:Bool)(W':World):Prop:=
 ∃T',Ext T T' W W'/\aa.Mod T W W'/\((b=true/\J (i+1) T' W')∨(b=false/\Jx (i+1) T' W'))
theorem yX.of{J Jx:Nat->(Nat->Prop)->World->Prop}{T:Nat->Prop}{W:World}{i:Nat}{e:Ending}{W':World}(h:jA J Jx T W i e W'):∃b,e=.returned (.bool b)/\yX J Jx T W i b W':=by
 obtain⟨T',h1,h2,⟨rfl,h3⟩|⟨rfl,h3⟩⟩:=h
 ·exact⟨true,rfl,T',h1,h2,.inl ⟨rfl,h3⟩⟩
 ·exact⟨false,rfl,T',h1,h2,.inr ⟨rfl,h3⟩⟩
theorem GH(n:Nat)(hn:n<=10)(sb l yb wb:Nat)(word:Bs)(ds:Nat->Bs)(hw:word.length<=100)(hds:∀i,i<n->(ds i).length<=100)(Bl:∀i,i<n->∀W,Calls Tryz.prog 89 #[.int .i64 i] W fun e w'=>e=.returned (.string ⟨(ds i).toArray⟩)/\W=w')(J Jx:Nat->(Nat->Prop)->World->Prop)(T:Nat->Prop)(W:World)(h1:W.heap[yb]?=some (.cells #[.func (.yield l) #[] #[]] 155 (0,0)))(h2:W.heap[wb]?=some (.cells #[.string ⟨word.toArray⟩] 9 (0,0)))(g1:¬T yb)(g2:¬T wb)(hT:∀k,T k->k<W.heap.size)(hJ:nD W.heap.size J)(hJx:nD W.heap.size Jx)(hY:∀i T1 W1,i<n->J i T1 W1->(∀k,T1 k->k<W1.heap.size)->YieldAt Fence.wide 0 Tryz.prog l #[.int .i64 i,.string ⟨(word++ds i).toArray⟩] W1 (jA J Jx T1 W1 i))(h0:J 0 T W):
  Calls Tryz.prog 101 #[.slice (some ⟨sb,0,none⟩) n n,.nilFunc,.func (.func 145) #[] #[.pointer (some ⟨yb,0,none⟩),.pointer (some ⟨wb,0,none⟩)]] W (kN J Jx T W n):=by
 have hent:∀(args:Array Value) (w:World),(callFunc 145 args).run Tryz.prog w=.ok (.enter 145 args) w:=enters_of Tryz.func145 (by kernel_rfl) rfl;have HB:=Lh (Between.start (J:=J) h0);have hnn:=zG;have HY:=Lh hY;have HJ:=Lh hJ;have HT:=Lh hT;have HI:=Lh Bl;have HD:=Lh hds;have Aq:=Lh (aI h1 h2);clear hY hJ hJx hT Bl hds h1 h2 h0;refine(callsIn_wide (n:=0)).1 (callsIn_of_wp Tryz.func101 rfl trivial ?_ rfl);simp only[Tryz.ntmps101,List.size_toArray,List.length_cons,List.length_nil,Nat.reduceAdd,Nat.reduceSub,Array.replicate_succ,Array.replicate_zero,List.push_toArray,List.append_toArray,List.nil_append,List.cons_append]
 gi_wp2_with fail
 gi_loopw [11] (fun i wr=>∃(j:Nat) (T1:Nat->Prop),j<=n/\i=.int .i64 j/\Hid (Between J T T1 W wr j)) (fun i _=>n-(intOf i).toNat)
 case atStart=>exact⟨0,T,Nat.zero_le _,rfl,HB⟩
 case round=>
  obtain⟨j,T1,hj,rfl,HR⟩:=hrel;clear HB;by_cases hlt:j<n
  ·have hb1:Below wr.heap.size wr (wr.alloc (.cells #[] 167)).drew:=((Below.refl _ _).alloc (Nat.le_refl _) _).drew;have HR1:=Lh (HR.out.own HJ.out hb1);have hy1:=(HY.out j T1 _ hlt HR1.out.inv (HR1.out.lt HT.out)).mono (R':=fun e W'=>∃b,e=.returned (.bool b)/\yX J Jx T1 (wr.alloc (.cells #[] 167)).drew j b W') (fun e W' h=>yX.of h);have q1:wr.heap[yb]?=_:=av Aq.out.1 HR.out.mod g1;have q2:wr.heap[wb]?=_:=av Aq.out.2 HR.out.mod g2;have p1:(wr.alloc (.cells #[] 167)).cell? ⟨yb,0,none⟩=some (.func (.yield l) #[] #[]):=cH ((Below.heap_alloc _ _ _ (gS q1).1).trans q1) rfl;have p2:(wr.alloc (.cells #[] 167)).cell? ⟨wb,0,none⟩=some (.string ⟨word.toArray⟩):=cH ((Below.heap_alloc _ _ _ (gS q2).1).trans q2) rfl;have HC:=Lh (Ml j ⟨#[]⟩ word (ds j) l yb wb _ _ (HI.out j hlt) p1 p2 hw (HD.out j hlt) hy1);clear hb1 hy1 q1 q2 p1 p2
   gi_wp2_with fail
   refine⟨trivial,rfl,(callsIn_wide.2 HC.out).mono ?_⟩;rintro e W2 ⟨b,rfl,T2,he,hm,⟨rfl,hj2⟩|⟨rfl,hj2⟩⟩
   ·have HR2:=Lh (HR1.out.round he hm hj2);clear he hm hj2
    gi_wp2_with fail
    exact⟨⟨j+1,T2,by omega,by go_num,HR2⟩,by simp[intOf];omega⟩
   ·have HP:=Lh (HR1.out.stop hlt he hm hj2 (v:=.tuple #[]));clear he hm hj2
    gi_wp2_with fail
    go_end0;exact HP.out
  ·obtain rfl:j=n:=by omega
   have HP:=Lh (HR.out.done (Jx:=Jx) (v:=.tuple #[]))
   gi_wp2_with fail
   go_end0;exact HP.out
end Go.Proofs.YtncnnbmeacpboaaGreatDoor
