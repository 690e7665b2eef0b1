/- Joined texts: RXj, RXg, RXk, RXl, PWPrints. -/
import Derived.Test.YtpmalchlecnjbaaGreatDoorLCPrints74
import Derived.Test.YtpmalchlecnjbaaGreatDoorU39
import Derived.Test.YtpmalchlecnjbaaGreatDoorLCPrints73
import Derived.Test.YtpmalchlecnjbaaGreatDoorLCPrints72
import Derived.Test.YtpmalchlecnjbaaGreatDoorU41
set_option maxHeartbeats 8000000
set_option maxRecDepth 100000
set_option linter.unusedVariables false
set_option linter.unusedSimpArgs false
/- The reference's form: a rule's head is well-formed. (written by tools/gen_rxj.py) -/
namespace Go.Proofs.YtpmalchlecnjbaaGreatDoor
open Go.RowKit Go.Chalk
attribute [local go_sem] Oper.semAt_some
theorem rform_hard (nm:Bs) (wt:Int) (ea:List Bnd) (bo:Frm) (x:RulA) (w:World) (hx:RulIn w (·<w.heap.size) ⟨nm,true,wt,ea,bo⟩ x) (hnm:nm.length<=4000000) (hen:ea.length<=2000000) (hes:∀ b∈ea,b.name.length<=4000000) :
  Calls Tryz.prog 63 #[.agg #[.string ⟨nm.toArray⟩,.bool true,.int .i64 wt,.slice x.each.a ea.length x.each.cap,.int .i64 bo.kind,.string ⟨bo.name.toArray⟩,.int .i64 bo.n,.slice x.body.t.a bo.terms.length x.body.t.cap,.slice x.body.b.a bo.binds.length x.body.b.cap,.slice x.body.l.a bo.l.length x.body.l.cap]] w fun e w'=>e=.returned (.bool (wholeR ⟨nm,true,wt,ea,bo⟩))/\Below w.heap.size w w':=by
 obtain ⟨W0,hW0⟩:∃ W0,W0=w.alloc (.cells #[.string ⟨nm.toArray⟩,.bool true,.int .i64 wt,.slice x.each.a ea.length x.each.cap,.int .i64 bo.kind,.string ⟨bo.name.toArray⟩,.int .i64 bo.n,.slice x.body.t.a bo.terms.length x.body.t.cap,.slice x.body.b.a bo.binds.length x.body.b.cap,.slice x.body.l.a bo.l.length x.body.l.cap] 64):=⟨_,rfl⟩
 obtain ⟨B,hB⟩:∃ B,B=w.heap.size:=⟨_,rfl⟩
 have hb0:Below w.heap.size w W0:=by rw [hW0];exact below_new _ _
 have hk:=heap_alloc_new w (.cells #[.string ⟨nm.toArray⟩,.bool true,.int .i64 wt,.slice x.each.a ea.length x.each.cap,.int .i64 bo.kind,.string ⟨bo.name.toArray⟩,.int .i64 bo.n,.slice x.body.t.a bo.terms.length x.body.t.cap,.slice x.body.b.a bo.binds.length x.body.b.cap,.slice x.body.l.a bo.l.length x.body.l.cap] 64)
 rw [<- hW0,<- hB] at hk
 have HB0:=Lh hb0
 have HW:=Lh (aI hW0 hB)
 have HC:Hid (∀ W,Below W0.heap.size W0 W->W.cell? ⟨B,0,none⟩=some (.string ⟨nm.toArray⟩)/\W.cell? ⟨B,1,none⟩=some (.bool true)/\W.cell? ⟨B,2,none⟩=some (.int .i64 wt)/\W.cell? ⟨B,3,none⟩=some (.slice x.each.a ea.length x.each.cap)/\W.cell? ⟨B,4,none⟩=some (.int .i64 bo.kind)/\W.cell? ⟨B,5,none⟩=some (.string ⟨bo.name.toArray⟩)/\W.cell? ⟨B,6,none⟩=some (.int .i64 bo.n)/\W.cell? ⟨B,7,none⟩=some (.slice x.body.t.a bo.terms.length x.body.t.cap)/\W.cell? ⟨B,8,none⟩=some (.slice x.body.b.a bo.binds.length x.body.b.cap)/\W.cell? ⟨B,9,none⟩=some (.slice x.body.l.a bo.l.length x.body.l.cap)):=Lh (fun W hW=>by
  have k1:=(hW.block B (gS hk).1).trans hk
  exact ⟨cH k1 rfl,cH k1 rfl,cH k1 rfl,cH k1 rfl,cH k1 rfl,cH k1 rfl,cH k1 rfl,cH k1 rfl,cH k1 rfl,cH k1 rfl⟩)
 have HNM:=Lh (fun W=>rname_any nm W (by omega))
 obtain ⟨R,hR⟩:∃ R,R=wholeR ⟨nm,true,wt,ea,bo⟩:=⟨_,rfl⟩
 rw [<- hR]
 rw [wholeR] at hR
 simp only [if_true,Bool.false_eq_true,if_false] at hR
 generalize nameB nm=b at hR HNM
 have HR:=Lh hR
 clear hW0 hB hk hb0 hR
 go_enter Tryz.func63,Tryz.ntmps63
 go_wp2_with fail
 rw [<- HW.out.1,<- HW.out.2]
 refine (HNM.out _).mono ?_
 rintro e w1 ⟨rfl,hb1⟩
 have H1:=Lh hb1
 obtain ⟨p0,p1,p2,p3,p4,p5,p6,p7,p8,p9⟩:=HC.out w1 H1.out
 clear hb1
 have D1:=Lh (HB0.out.trans (H1.out.mono HB0.out.size))
 cases b
 ·have hR:=HR.out
  simp only [Bool.false_and] at hR
  subst hR
  clear HR
  go_wp2_with fail
  go_ret
  exact ⟨rfl,D1.out⟩
 by_cases hw0:wt=0
 rotate_left
 ·have z1:(wt==0)=false:=by simpa using hw0
  have z2:(wt != 0)=true:=by simpa using hw0
  have hR:=HR.out
  have hz:(decide (0<=wt)&&decide (wt<=0))=false:=by rw [Bool.and_eq_false_iff];simp only [decide_eq_false_iff_not];omega
  rw [Bool.true_and,hz,Bool.false_and,Bool.false_and] at hR
  subst hR
  clear HR
  go_wp2_with fail
  go_ret
  exact ⟨rfl,D1.out⟩
 subst hw0
 by_cases h6:6<ea.length
 ·have z6:decide ((6:Int)<(ea.length:Int))=true:=by simp;omega
  have hR:=HR.out
  simp only [Bool.true_and,show decide ((0:Int)<=0)=true from rfl] at hR
  rw [decide_eq_false (show ¬ ea.length<=6 by omega),Bool.false_and] at hR
  subst hR
  clear HR
  go_wp2_with fail
  go_ret
  exact ⟨rfl,D1.out⟩
 have z6:decide ((6:Int)<(ea.length:Int))=false:=by simp;omega
 have hR:=HR.out
 simp only [Bool.true_and,show decide ((0:Int)<=0)=true from rfl] at hR
 rw [decide_eq_true (show ea.length<=6 by omega),Bool.true_and] at hR
 clear HR
 have HR:=Lh hR
 obtain ⟨g1,_,_,g4,_⟩:=SlIn.flat Bnd.flatT hx.each
 have HG:=Lh (aI g1 g4)
 have HES:=Lh (fun (j:Nat) (hj:j<ea.length)=>hes _ (List.getElem_mem hj))
 have HNX:Hid (∀ j (h:j<ea.length),(ea[j] |> fun b=>nameB b.name&&decide (1<=b.sort)&&decide (b.sort<=7))=false->R=false):=Lh (fun j h h2=>by rw [hR];exact List.all_eq_false.2 ⟨_,List.getElem_mem h,by simpa using h2⟩)
 have HTK:Hid (∀ j (h:j<ea.length),(ea.take (j+1)).all (fun b=>nameB b.name&&decide (1<=b.sort)&&decide (b.sort<=7))=((ea.take j).all (fun b=>nameB b.name&&decide (1<=b.sort)&&decide (b.sort<=7))&&(nameB ea[j].name&&decide (1<=ea[j].sort)&&decide (ea[j].sort<=7)))):=Lh (fun j h=>by rw [List.take_succ_eq_append_getElem h,List.all_append];simp)
 clear hx g1 g4 hes hR
 go_wp2_with fail
 go_loopw [42] (fun i wr=>∃ j:Nat,j<=ea.length/\i=.int .i64 j/\Hid ((ea.take j).all (fun b=>nameB b.name&&decide (1<=b.sort)&&decide (b.sort<=7))=true)/\Hid (Below w.heap.size w wr)) (fun i _=>ea.length - (intOf i).toNat)
 case atStart=>exact ⟨0,Nat.zero_le _,rfl,Lh rfl,D1⟩
 case round =>
  obtain ⟨j,hj,rfl,HA,HB⟩:=hrel
  by_cases hlt:j<ea.length
  ·obtain ⟨hza,hzb⟩:=HG.out.1 (by omega)
   obtain ⟨q0,q1⟩:=(HG.out.2.below HB.out (fun _=>hzb)).two j hlt rfl
   have hnx:=HNX.out j hlt
   have htk:=HTK.out j hlt
   have hbn:=HES.out j hlt
   rw [HA.out,Bool.true_and] at htk
   rw [hza]
   clear hza hzb
   generalize ea[j]=bb at *
   obtain ⟨bn,bs⟩:=bb
   simp only at q0 q1 hnx htk hbn
   obtain ⟨W1,hW1⟩:∃ W1,W1=wr.alloc (.cells #[.string ⟨bn.toArray⟩,.int .i64 bs] 74):=⟨_,rfl⟩
   obtain ⟨B2,hB2⟩:∃ B2,B2=wr.heap.size:=⟨_,rfl⟩
   have hk:=heap_alloc_new wr (.cells #[.string ⟨bn.toArray⟩,.int .i64 bs] 74)
   rw [<- hW1,<- hB2] at hk
   have hb1:Below wr.heap.size wr W1:=by rw [hW1];exact below_new _ _
   have H2:=Lh (HB.out.trans (hb1.mono HB.out.size))
   have HK2:=Lh hk
   have HW1:=Lh (aI hW1 hB2)
   have HN2:=Lh (fun W=>rname_any bn W (by omega))
   generalize nameB bn=nb at hnx htk HN2
   clear hk hb1 hW1 hB2
   go_wp2_with fail
   rw [<- HW1.out.1,<- HW1.out.2]
   refine (HN2.out _).mono ?_
   rintro e w2 ⟨rfl,hb2⟩
   have k2:=(hb2.block B2 (gS HK2.out).1).trans HK2.out
   have D2:=Lh (H2.out.trans (hb2.mono H2.out.size))
   have r1:w2.cell? ⟨B2,1,none⟩=some (.int .i64 bs):=cH k2 rfl
   clear hb2 k2
   cases nb
   ·have hR:=hnx (by simp)
    subst hR
    clear hnx htk
    go_wp2_with fail
    go_ret
    exact ⟨rfl,D2.out⟩
   by_cases hs1:bs<1
   ·have y1:decide (bs<1)=true:=decide_eq_true hs1
    have hR:=hnx (by rw [decide_eq_false (show ¬ 1<=bs by omega)];simp)
    subst hR
    clear hnx htk
    go_wp2_with fail
    go_ret
    exact ⟨rfl,D2.out⟩
   have y1:decide (bs<1)=false:=decide_eq_false hs1
   by_cases hs2:7<bs
   ·have y2:decide (7<bs)=true:=decide_eq_true hs2
    have hR:=hnx (by rw [decide_eq_false (show ¬ bs<=7 by omega)];simp)
    subst hR
    clear hnx htk
    go_wp2_with fail
    go_ret
    exact ⟨rfl,D2.out⟩
   have y2:decide (7<bs)=false:=decide_eq_false hs2
   have HTK2:=Lh (htk.trans (by rw [decide_eq_true (show 1<=bs by omega),decide_eq_true (show bs<=7 by omega)];all_goals rfl))
   clear hnx htk
   go_wp2_with fail
   exact ⟨⟨j+1,by omega,by go_num,HTK2,D2⟩,by simp [intOf];omega⟩
  ·have hjn:j=ea.length:=by omega
   have ha:=HA.out
   rw [hjn,List.take_length,<- HR.out] at ha
   subst ha
   have hbd:=HB.out
   clear HA HR hjn
   go_wp2_with fail
   go_ret
   exact ⟨rfl,hbd⟩
theorem rform_soft (nm:Bs) (wt:Int) (ea:List Bnd) (bo:Frm) (x:RulA) (w:World) (hx:RulIn w (·<w.heap.size) ⟨nm,false,wt,ea,bo⟩ x) (hnm:nm.length<=4000000) (hen:ea.length<=2000000) (hes:∀ b∈ea,b.name.length<=4000000) :
  Calls Tryz.prog 63 #[.agg #[.string ⟨nm.toArray⟩,.bool false,.int .i64 wt,.slice x.each.a ea.length x.each.cap,.int .i64 bo.kind,.string ⟨bo.name.toArray⟩,.int .i64 bo.n,.slice x.body.t.a bo.terms.length x.body.t.cap,.slice x.body.b.a bo.binds.length x.body.b.cap,.slice x.body.l.a bo.l.length x.body.l.cap]] w fun e w'=>e=.returned (.bool (wholeR ⟨nm,false,wt,ea,bo⟩))/\Below w.heap.size w w':=by
 obtain ⟨W0,hW0⟩:∃ W0,W0=w.alloc (.cells #[.string ⟨nm.toArray⟩,.bool false,.int .i64 wt,.slice x.each.a ea.length x.each.cap,.int .i64 bo.kind,.string ⟨bo.name.toArray⟩,.int .i64 bo.n,.slice x.body.t.a bo.terms.length x.body.t.cap,.slice x.body.b.a bo.binds.length x.body.b.cap,.slice x.body.l.a bo.l.length x.body.l.cap] 64):=⟨_,rfl⟩
 obtain ⟨B,hB⟩:∃ B,B=w.heap.size:=⟨_,rfl⟩
 have hb0:Below w.heap.size w W0:=by rw [hW0];exact below_new _ _
 have hk:=heap_alloc_new w (.cells #[.string ⟨nm.toArray⟩,.bool false,.int .i64 wt,.slice x.each.a ea.length x.each.cap,.int .i64 bo.kind,.string ⟨bo.name.toArray⟩,.int .i64 bo.n,.slice x.body.t.a bo.terms.length x.body.t.cap,.slice x.body.b.a bo.binds.length x.body.b.cap,.slice x.body.l.a bo.l.length x.body.l.cap] 64)
 rw [<- hW0,<- hB] at hk
 have HB0:=Lh hb0
 have HW:=Lh (aI hW0 hB)
 have HC:Hid (∀ W,Below W0.heap.size W0 W->W.cell? ⟨B,0,none⟩=some (.string ⟨nm.toArray⟩)/\W.cell? ⟨B,1,none⟩=some (.bool false)/\W.cell? ⟨B,2,none⟩=some (.int .i64 wt)/\W.cell? ⟨B,3,none⟩=some (.slice x.each.a ea.length x.each.cap)/\W.cell? ⟨B,4,none⟩=some (.int .i64 bo.kind)/\W.cell? ⟨B,5,none⟩=some (.string ⟨bo.name.toArray⟩)/\W.cell? ⟨B,6,none⟩=some (.int .i64 bo.n)/\W.cell? ⟨B,7,none⟩=some (.slice x.body.t.a bo.terms.length x.body.t.cap)/\W.cell? ⟨B,8,none⟩=some (.slice x.body.b.a bo.binds.length x.body.b.cap)/\W.cell? ⟨B,9,none⟩=some (.slice x.body.l.a bo.l.length x.body.l.cap)):=Lh (fun W hW=>by
  have k1:=(hW.block B (gS hk).1).trans hk
  exact ⟨cH k1 rfl,cH k1 rfl,cH k1 rfl,cH k1 rfl,cH k1 rfl,cH k1 rfl,cH k1 rfl,cH k1 rfl,cH k1 rfl,cH k1 rfl⟩)
 have HNM:=Lh (fun W=>rname_any nm W (by omega))
 obtain ⟨R,hR⟩:∃ R,R=wholeR ⟨nm,false,wt,ea,bo⟩:=⟨_,rfl⟩
 rw [<- hR]
 rw [wholeR] at hR
 simp only [if_true,Bool.false_eq_true,if_false] at hR
 generalize nameB nm=b at hR HNM
 have HR:=Lh hR
 clear hW0 hB hk hb0 hR
 go_enter Tryz.func63,Tryz.ntmps63
 go_wp2_with fail
 rw [<- HW.out.1,<- HW.out.2]
 refine (HNM.out _).mono ?_
 rintro e w1 ⟨rfl,hb1⟩
 have H1:=Lh hb1
 obtain ⟨p0,p1,p2,p3,p4,p5,p6,p7,p8,p9⟩:=HC.out w1 H1.out
 clear hb1
 have D1:=Lh (HB0.out.trans (H1.out.mono HB0.out.size))
 cases b
 ·have hR:=HR.out
  simp only [Bool.false_and] at hR
  subst hR
  clear HR
  go_wp2_with fail
  go_ret
  exact ⟨rfl,D1.out⟩
 by_cases hw1:wt<1
 ·have z1:decide (wt<1)=true:=decide_eq_true hw1
  have hR:=HR.out
  rw [Bool.true_and,decide_eq_false (show ¬ 1<=wt by omega),Bool.false_and,Bool.false_and,Bool.false_and] at hR
  subst hR
  clear HR
  go_wp2_with fail
  go_ret
  exact ⟨rfl,D1.out⟩
 have z1:decide (wt<1)=false:=decide_eq_false hw1
 by_cases hw2:1000<wt
 ·have z2:decide (1000<wt)=true:=decide_eq_true hw2
  have hR:=HR.out
  rw [Bool.true_and,decide_eq_true (show 1<=wt by omega),Bool.true_and,decide_eq_false (show ¬ wt<=1000 by omega),Bool.false_and,Bool.false_and] at hR
  subst hR
  clear HR
  go_wp2_with fail
  go_ret
  exact ⟨rfl,D1.out⟩
 have z2:decide (1000<wt)=false:=decide_eq_false hw2
 by_cases h6:6<ea.length
 ·have z6:decide ((6:Int)<(ea.length:Int))=true:=by simp;omega
  have hR:=HR.out
  rw [Bool.true_and,decide_eq_true (show 1<=wt by omega),decide_eq_true (show wt<=1000 by omega),Bool.true_and,Bool.true_and] at hR
  rw [decide_eq_false (show ¬ ea.length<=6 by omega),Bool.false_and] at hR
  subst hR
  clear HR
  go_wp2_with fail
  go_ret
  exact ⟨rfl,D1.out⟩
 have z6:decide ((6:Int)<(ea.length:Int))=false:=by simp;omega
 have hR:=HR.out
 rw [Bool.true_and,decide_eq_true (show 1<=wt by omega),decide_eq_true (show wt<=1000 by omega),Bool.true_and,Bool.true_and] at hR
 rw [decide_eq_true (show ea.length<=6 by omega),Bool.true_and] at hR
 clear HR
 have HR:=Lh hR
 obtain ⟨g1,_,_,g4,_⟩:=SlIn.flat Bnd.flatT hx.each
 have HG:=Lh (aI g1 g4)
 have HES:=Lh (fun (j:Nat) (hj:j<ea.length)=>hes _ (List.getElem_mem hj))
 have HNX:Hid (∀ j (h:j<ea.length),(ea[j] |> fun b=>nameB b.name&&decide (1<=b.sort)&&decide (b.sort<=7))=false->R=false):=Lh (fun j h h2=>by rw [hR];exact List.all_eq_false.2 ⟨_,List.getElem_mem h,by simpa using h2⟩)
 have HTK:Hid (∀ j (h:j<ea.length),(ea.take (j+1)).all (fun b=>nameB b.name&&decide (1<=b.sort)&&decide (b.sort<=7))=((ea.take j).all (fun b=>nameB b.name&&decide (1<=b.sort)&&decide (b.sort<=7))&&(nameB ea[j].name&&decide (1<=ea[j].sort)&&decide (ea[j].sort<=7)))):=Lh (fun j h=>by rw [List.take_succ_eq_append_getElem h,List.all_append];simp)
 clear hx g1 g4 hes hR
 go_wp2_with fail
 go_loopw [42] (fun i wr=>∃ j:Nat,j<=ea.length/\i=.int .i64 j/\Hid ((ea.take j).all (fun b=>nameB b.name&&decide (1<=b.sort)&&decide (b.sort<=7))=true)/\Hid (Below w.heap.size w wr)) (fun i _=>ea.length - (intOf i).toNat)
 case atStart=>exact ⟨0,Nat.zero_le _,rfl,Lh rfl,D1⟩
 case round =>
  obtain ⟨j,hj,rfl,HA,HB⟩:=hrel
  by_cases hlt:j<ea.length
  ·obtain ⟨hza,hzb⟩:=HG.out.1 (by omega)
   obtain ⟨q0,q1⟩:=(HG.out.2.below HB.out (fun _=>hzb)).two j hlt rfl
   have hnx:=HNX.out j hlt
   have htk:=HTK.out j hlt
   have hbn:=HES.out j hlt
   rw [HA.out,Bool.true_and] at htk
   rw [hza]
   clear hza hzb
   generalize ea[j]=bb at *
   obtain ⟨bn,bs⟩:=bb
   simp only at q0 q1 hnx htk hbn
   obtain ⟨W1,hW1⟩:∃ W1,W1=wr.alloc (.cells #[.string ⟨bn.toArray⟩,.int .i64 bs] 74):=⟨_,rfl⟩
   obtain ⟨B2,hB2⟩:∃ B2,B2=wr.heap.size:=⟨_,rfl⟩
   have hk:=heap_alloc_new wr (.cells #[.string ⟨bn.toArray⟩,.int .i64 bs] 74)
   rw [<- hW1,<- hB2] at hk
   have hb1:Below wr.heap.size wr W1:=by rw [hW1];exact below_new _ _
   have H2:=Lh (HB.out.trans (hb1.mono HB.out.size))
   have HK2:=Lh hk
   have HW1:=Lh (aI hW1 hB2)
   have HN2:=Lh (fun W=>rname_any bn W (by omega))
   generalize nameB bn=nb at hnx htk HN2
   clear hk hb1 hW1 hB2
   go_wp2_with fail
   rw [<- HW1.out.1,<- HW1.out.2]
   refine (HN2.out _).mono ?_
   rintro e w2 ⟨rfl,hb2⟩
   have k2:=(hb2.block B2 (gS HK2.out).1).trans HK2.out
   have D2:=Lh (H2.out.trans (hb2.mono H2.out.size))
   have r1:w2.cell? ⟨B2,1,none⟩=some (.int .i64 bs):=cH k2 rfl
   clear hb2 k2
   cases nb
   ·have hR:=hnx (by simp)
    subst hR
    clear hnx htk
    go_wp2_with fail
    go_ret
    exact ⟨rfl,D2.out⟩
   by_cases hs1:bs<1
   ·have y1:decide (bs<1)=true:=decide_eq_true hs1
    have hR:=hnx (by rw [decide_eq_false (show ¬ 1<=bs by omega)];simp)
    subst hR
    clear hnx htk
    go_wp2_with fail
    go_ret
    exact ⟨rfl,D2.out⟩
   have y1:decide (bs<1)=false:=decide_eq_false hs1
   by_cases hs2:7<bs
   ·have y2:decide (7<bs)=true:=decide_eq_true hs2
    have hR:=hnx (by rw [decide_eq_false (show ¬ bs<=7 by omega)];simp)
    subst hR
    clear hnx htk
    go_wp2_with fail
    go_ret
    exact ⟨rfl,D2.out⟩
   have y2:decide (7<bs)=false:=decide_eq_false hs2
   have HTK2:=Lh (htk.trans (by rw [decide_eq_true (show 1<=bs by omega),decide_eq_true (show bs<=7 by omega)];all_goals rfl))
   clear hnx htk
   go_wp2_with fail
   exact ⟨⟨j+1,by omega,by go_num,HTK2,D2⟩,by simp [intOf];omega⟩
  ·have hjn:j=ea.length:=by omega
   have ha:=HA.out
   rw [hjn,List.take_length,<- HR.out] at ha
   subst ha
   have hbd:=HB.out
   clear HA HR hjn
   go_wp2_with fail
   go_ret
   exact ⟨rfl,hbd⟩
end Go.Proofs.YtpmalchlecnjbaaGreatDoor
/- The reference's one: the canonical text of a rule. (written by tools/gen_rxg.py) -/
namespace Go.Proofs.YtpmalchlecnjbaaGreatDoor
open Go.RowKit Go.Chalk
attribute [local go_sem] Oper.semAt_some bs_app
theorem rone_hard (nm:Bs) (m:Nat) (ea:List Bnd) (bo:Frm) (x:RulA) (w:World) (hx:RulIn w (·<w.heap.size) ⟨nm,true,(m:Int),ea,bo⟩ x) (hnm:nm.length<=64) (hm:m<=1099511627776) (he:ea.length<=6) (heo:ea.all bndOk=true) (hw:wf bo) (hsz:bo.size<=2000000) :
  Calls Tryz.prog 62 #[.agg #[.string ⟨nm.toArray⟩,.bool true,.int .i64 (m:Int),.slice x.each.a ea.length x.each.cap,.int .i64 bo.kind,.string ⟨bo.name.toArray⟩,.int .i64 bo.n,.slice x.body.t.a bo.terms.length x.body.t.cap,.slice x.body.b.a bo.binds.length x.body.b.cap,.slice x.body.l.a bo.l.length x.body.l.cap]] w fun e w'=>e=.returned (.string ⟨(txtRule ⟨nm,true,(m:Int),ea,bo⟩).toArray⟩)/\Below w.heap.size w w':=by
 obtain ⟨W0,hW0⟩:∃ W0,W0=w.alloc (.cells #[.string ⟨nm.toArray⟩,.bool true,.int .i64 (m:Int),.slice x.each.a ea.length x.each.cap,.int .i64 bo.kind,.string ⟨bo.name.toArray⟩,.int .i64 bo.n,.slice x.body.t.a bo.terms.length x.body.t.cap,.slice x.body.b.a bo.binds.length x.body.b.cap,.slice x.body.l.a bo.l.length x.body.l.cap] 64):=⟨_,rfl⟩
 obtain ⟨B,hB⟩:∃ B,B=w.heap.size:=⟨_,rfl⟩
 have hb0:Below w.heap.size w W0:=by rw [hW0];exact below_new _ _
 have hk:=heap_alloc_new w (.cells #[.string ⟨nm.toArray⟩,.bool true,.int .i64 (m:Int),.slice x.each.a ea.length x.each.cap,.int .i64 bo.kind,.string ⟨bo.name.toArray⟩,.int .i64 bo.n,.slice x.body.t.a bo.terms.length x.body.t.cap,.slice x.body.b.a bo.binds.length x.body.b.cap,.slice x.body.l.a bo.l.length x.body.l.cap] 64)
 rw [<- hW0,<- hB] at hk
 have HB0:=Lh hb0
 have HW:=Lh (aI hW0 hB)
 have hLB:∀ W,Below W0.heap.size W0 W->Below w.heap.size w W:=fun W hW=>hb0.trans (hW.mono hb0.size)
 have htl:=txtF_len bo hw
 have hbl:=txtBinds_len heo he
 have HTX:Hid (∀ W,Below W0.heap.size W0 W->Calls Tryz.prog 46 #[.agg #[.int .i64 bo.kind,.string ⟨bo.name.toArray⟩,.int .i64 bo.n,.slice x.body.t.a bo.terms.length x.body.t.cap,.slice x.body.b.a bo.binds.length x.body.b.cap,.slice x.body.l.a bo.l.length x.body.l.cap]] W fun e w'=>e=.returned (.string ⟨(txtF bo).toArray⟩)/\Below W.heap.size W w'):=Lh (fun W hW=>rtext_any bo hw x.body W (hx.body.later (hLB W hW) (hLB W hW).size) (by omega))
 have HBN:=Lh (fun (W:World) (hW:Below W0.heap.size W0 W)=>rbinds7_any ea x.each W ((SlIn.agree hx.each (agree_of_below (hLB W hW))).mono (fun k hk=>Nat.lt_of_lt_of_le hk (hLB W hW).size)) he heo)
 have HDG:=Lh (fun (W:World) (_:Below W0.heap.size W0 W)=>rdigits_any m m W (Nat.le_refl _) (by omega))
 have hdl:=dec_len m m (Nat.le_refl _)
 obtain ⟨R,hR⟩:∃ R,R=txtRule ⟨nm,true,(m:Int),ea,bo⟩:=⟨_,rfl⟩
 rw [<- hR]
 rw [txtRule,txtHead] at hR
 simp only [decI,Int.toNat_natCast,if_true,Bool.false_eq_true,if_false] at hR
 generalize txtF bo=a0 at hR htl HTX
 generalize txtBinds ea=b0 at hR hbl HBN
 generalize Lib.decDigits m=d0 at hR hdl HDG
 obtain ⟨s1,hs1⟩:∃ s1,115 :: 111 :: 102 :: 116 :: 32 :: nm=s1:=⟨_,rfl⟩
 obtain ⟨s2,hs2⟩:∃ s2,s1++[32]=s2:=⟨_,rfl⟩
 obtain ⟨s3,hs3⟩:∃ s3,s2++d0=s3:=⟨_,rfl⟩
 have l1:s1.length=5+nm.length:=by rw [<- hs1];simp;omega
 have l2:s2.length=s1.length+1:=by rw [<- hs2];simp
 have l3:s3.length=s2.length+d0.length:=by rw [<- hs3];simp
 have g0:¬ 9223372036854775807<5+nm.length:=by omega
 have g1:¬ 9223372036854775807<s1.length+1:=by omega
 have g2:¬ 9223372036854775807<s2.length+d0.length:=by omega
 obtain ⟨hd,hhd⟩:∃ hd,104 :: 97 :: 114 :: 100 :: 32 :: nm=hd:=⟨_,rfl⟩
 have l4:hd.length=5+nm.length:=by rw [<- hhd];simp;omega
 have hh:[104,97,114,100,32]++nm=hd:=hhd
 rw [hh] at hR
 have HR:=Lh hR
 have HE:Hid (ea=[]∨ea ≠ []):=Lh (Classical.em _)
 have hld:hd.length<=2199023255552:=by omega
 have HC:Hid (∀ W,Below W0.heap.size W0 W->W.cell? ⟨B,0,none⟩=some (.string ⟨nm.toArray⟩)/\W.cell? ⟨B,1,none⟩=some (.bool true)/\W.cell? ⟨B,2,none⟩=some (.int .i64 (m:Int))/\W.cell? ⟨B,3,none⟩=some (.slice x.each.a ea.length x.each.cap)/\W.cell? ⟨B,4,none⟩=some (.int .i64 bo.kind)/\W.cell? ⟨B,5,none⟩=some (.string ⟨bo.name.toArray⟩)/\W.cell? ⟨B,6,none⟩=some (.int .i64 bo.n)/\W.cell? ⟨B,7,none⟩=some (.slice x.body.t.a bo.terms.length x.body.t.cap)/\W.cell? ⟨B,8,none⟩=some (.slice x.body.b.a bo.binds.length x.body.b.cap)/\W.cell? ⟨B,9,none⟩=some (.slice x.body.l.a bo.l.length x.body.l.cap)):=Lh (fun W hW=>by
  have k1:=(hW.block B (gS hk).1).trans hk
  exact ⟨cH k1 rfl,cH k1 rfl,cH k1 rfl,cH k1 rfl,cH k1 rfl,cH k1 rfl,cH k1 rfl,cH k1 rfl,cH k1 rfl,cH k1 rfl⟩)
 clear hW0 hB hk hb0 hx hR hLB hh l1 l2 l3 l4 hnm hm he heo hw
 go_enter Tryz.func62,Tryz.ntmps62
 go_wp2_with fail
 rw [<- HW.out.1,<- HW.out.2]
 refine wp_region_U 8 (S:=fun W=>Below W0.heap.size W0 W) (by kernel_rfl) (Below.refl _ _).drew (fun qH=>?_)
 refine take_U (i:=0) (v:=?_) rfl (by kernel_rfl) (by kernel_rfl) (by kernel_rfl) (by kernel_rfl) (fun _ _ _ h=>h) (by rfl) ?_ qH ?_
 rotate_left
 ·intro w hSw;obtain ⟨p0,p1,p2,p3,p4,p5,p6,p7,p8,p9⟩:=HC.out w hSw;go_simp;all_goals (with_reducible rfl)
 try simp only [Act.put,ub1,ub2,ub3]
 refine take_U (i:=4) (v:=?_) rfl (by kernel_rfl) (by kernel_rfl) (by kernel_rfl) (by kernel_rfl) (fun _ _ _ h=>h) (by rfl) ?_ qH ?_
 rotate_left
 ·intro w hSw;obtain ⟨p0,p1,p2,p3,p4,p5,p6,p7,p8,p9⟩:=HC.out w hSw;go_simp;all_goals (with_reducible rfl)
 try simp only [Act.put,ub1,ub2,ub3]
 refine take_U (i:=1) (v:=?_) rfl (by kernel_rfl) (by kernel_rfl) (by kernel_rfl) (by kernel_rfl) (fun _ _ _ h=>h) (by rfl) ?_ qH ?_
 rotate_left
 ·intro w hSw;obtain ⟨p0,p1,p2,p3,p4,p5,p6,p7,p8,p9⟩:=HC.out w hSw;go_simp;all_goals (with_reducible rfl)
 try simp only [Act.put,ub1,ub2,ub3]
 refine take_U (i:=5) (v:=?_) rfl (by kernel_rfl) (by kernel_rfl) (by kernel_rfl) (by kernel_rfl) (fun _ _ _ h=>h) (by rfl) ?_ qH ?_
 rotate_left
 ·intro w hSw;obtain ⟨p0,p1,p2,p3,p4,p5,p6,p7,p8,p9⟩:=HC.out w hSw;go_simp;all_goals (with_reducible rfl)
 try simp only [Act.put,ub1,ub2,ub3]
 refine take_U (i:=2) (v:=?_) rfl (by kernel_rfl) (by kernel_rfl) (by kernel_rfl) (by kernel_rfl) (fun _ _ _ h=>h) (by rfl) ?_ qH ?_
 rotate_left
 ·intro w hSw;obtain ⟨p0,p1,p2,p3,p4,p5,p6,p7,p8,p9⟩:=HC.out w hSw;go_simp;all_goals (with_reducible rfl)
 try simp only [Act.put,ub1,ub2,ub3]
 refine take_U (i:=3) (v:=?_) rfl (by kernel_rfl) (by kernel_rfl) (by kernel_rfl) (by kernel_rfl) (fun _ _ _ h=>h) (by rfl) ?_ qH ?_
 rotate_left
 ·intro w hSw;obtain ⟨p0,p1,p2,p3,p4,p5,p6,p7,p8,p9⟩:=HC.out w hSw;go_simp;all_goals (with_reducible rfl)
 try simp only [Act.put,ub1,ub2,ub3]
 refine ready_U (rs:=[6]) (by kernel_rfl) (by simp) ?_
 refine cons_U rfl (fun K hK=>?_) nil_U
 go_simp
 refine (HDG.out _ qH).mono ?_
 rintro e w2 ⟨rfl,hb1⟩
 have HB1:=Lh hb1
 clear hb1
 go_simp
 refine hK.out _ _ ?_ (fun qI=>?_)
 ·exact Below.trans qH (Below.mono HB1.out (Below.size qH))
 clear hK K qH
 have qH:=qI
 clear qI
 try simp only [Act.put,ub1,ub2,ub3]
 refine take_U (i:=7) (v:=?_) rfl (by kernel_rfl) (by kernel_rfl) (by kernel_rfl) (by kernel_rfl) (fun _ _ _ h=>h) (by rfl) ?_ qH ?_
 rotate_left
 ·intro w hSw;obtain ⟨p0,p1,p2,p3,p4,p5,p6,p7,p8,p9⟩:=HC.out w hSw;go_simp;all_goals (with_reducible rfl)
 try simp only [Act.put,ub1,ub2,ub3]
 refine ready_U (rs:=[8]) (by kernel_rfl) (by simp) ?_
 refine cons_V rfl (by kernel_rfl) (fun K hK=>?_) nil_U
 go_simp
 refine hK.out _ _ ?_
 clear hK K
 try simp only [Act.put,ub1,ub2,ub3]
 refine done_U (by kernel_rfl) ?_ _
 obtain ⟨p0,p1,p2,p3,p4,p5,p6,p7,p8,p9⟩:=HC.out _ qH
 have HH:=Lh qH
 rcases HE.out with hz | hz
 ·have hz2:decide ((0:Int)<(ea.length:Int))=false:=by simp [hz]
  have hz3:¬ 0<ea.length:=by simp [hz]
  obtain ⟨u1,hu1⟩:∃ u1,hd++[58,32]=u1:=⟨_,rfl⟩
  obtain ⟨u2,hu2⟩:∃ u2,u1++a0=u2:=⟨_,rfl⟩
  obtain ⟨u3,hu3⟩:∃ u3,u2++[59,10]=u3:=⟨_,rfl⟩
  have lu1:u1.length=hd.length+2:=by rw [<- hu1];simp
  have lu2:u2.length=u1.length+a0.length:=by rw [<- hu2];simp
  have gu1:¬ 9223372036854775807<hd.length+2:=by omega
  have gu2:¬ 9223372036854775807<u1.length+a0.length:=by omega
  have gu3:¬ 9223372036854775807<u2.length+2:=by omega
  have hR:R=u3:=by rw [HR.out,<- hu3,<- hu2,<- hu1,if_pos (by rw [hz];rfl)];simp
  subst hR
  clear hz lu1 lu2 HE
  go_wp2_with fail
  refine (HTX.out _ HH.out).mono ?_
  rintro e w9 ⟨rfl,hb9⟩
  have HB9:=Lh hb9
  clear hb9
  go_wp2_with fail
  go_ret
  exact ⟨rfl,HB0.out.trans ((HH.out.trans (HB9.out.mono HH.out.size)).mono HB0.out.size)⟩
 ·have hz2:decide ((0:Int)<(ea.length:Int))=true:=by simpa using List.length_pos_iff.2 hz
  have hz3:0<ea.length:=List.length_pos_iff.2 hz
  obtain ⟨t1,ht1⟩:∃ t1,32 :: 101 :: 97 :: 99 :: 104 :: 32 :: b0=t1:=⟨_,rfl⟩
  obtain ⟨t2,ht2⟩:∃ t2,hd++t1=t2:=⟨_,rfl⟩
  have lt1:t1.length=6+b0.length:=by rw [<- ht1];simp;omega
  have lt2:t2.length=hd.length+t1.length:=by rw [<- ht2];simp
  have gt1:¬ 9223372036854775807<6+b0.length:=by omega
  have gt2:¬ 9223372036854775807<hd.length+t1.length:=by omega
  obtain ⟨u1,hu1⟩:∃ u1,t2++[58,32]=u1:=⟨_,rfl⟩
  obtain ⟨u2,hu2⟩:∃ u2,u1++a0=u2:=⟨_,rfl⟩
  obtain ⟨u3,hu3⟩:∃ u3,u2++[59,10]=u3:=⟨_,rfl⟩
  have lu1:u1.length=t2.length+2:=by rw [<- hu1];simp
  have lu2:u2.length=u1.length+a0.length:=by rw [<- hu2];simp
  have gu1:¬ 9223372036854775807<t2.length+2:=by omega
  have gu2:¬ 9223372036854775807<u1.length+a0.length:=by omega
  have gu3:¬ 9223372036854775807<u2.length+2:=by omega
  have hR:R=u3:=by rw [HR.out,<- hu3,<- hu2,<- hu1,<- ht2,<- ht1,if_neg (by simpa [List.isEmpty_iff] using hz)];simp
  subst hR
  clear hz lt1 lt2 lu1 lu2 HE
  go_wp2_with fail
  refine (HBN.out _ HH.out).mono ?_
  rintro e w8 ⟨rfl,hb8⟩
  have HH2:=Lh (HH.out.trans (hb8.mono HH.out.size))
  clear hb8 p0 p1 p2 p3 p4 p5 p6 p7 p8 p9
  obtain ⟨p0,p1,p2,p3,p4,p5,p6,p7,p8,p9⟩:=HC.out _ HH2.out
  go_wp2_with fail
  refine (HTX.out _ HH2.out).mono ?_
  rintro e w9 ⟨rfl,hb9⟩
  have HB9:=Lh hb9
  clear hb9
  go_wp2_with fail
  go_ret
  exact ⟨rfl,HB0.out.trans ((HH2.out.trans (HB9.out.mono HH2.out.size)).mono HB0.out.size)⟩
theorem rone_soft (nm:Bs) (m:Nat) (ea:List Bnd) (bo:Frm) (x:RulA) (w:World) (hx:RulIn w (·<w.heap.size) ⟨nm,false,(m:Int),ea,bo⟩ x) (hnm:nm.length<=64) (hm:m<=1099511627776) (he:ea.length<=6) (heo:ea.all bndOk=true) (hw:wf bo) (hsz:bo.size<=2000000) :
  Calls Tryz.prog 62 #[.agg #[.string ⟨nm.toArray⟩,.bool false,.int .i64 (m:Int),.slice x.each.a ea.length x.each.cap,.int .i64 bo.kind,.string ⟨bo.name.toArray⟩,.int .i64 bo.n,.slice x.body.t.a bo.terms.length x.body.t.cap,.slice x.body.b.a bo.binds.length x.body.b.cap,.slice x.body.l.a bo.l.length x.body.l.cap]] w fun e w'=>e=.returned (.string ⟨(txtRule ⟨nm,false,(m:Int),ea,bo⟩).toArray⟩)/\Below w.heap.size w w':=by
 obtain ⟨W0,hW0⟩:∃ W0,W0=w.alloc (.cells #[.string ⟨nm.toArray⟩,.bool false,.int .i64 (m:Int),.slice x.each.a ea.length x.each.cap,.int .i64 bo.kind,.string ⟨bo.name.toArray⟩,.int .i64 bo.n,.slice x.body.t.a bo.terms.length x.body.t.cap,.slice x.body.b.a bo.binds.length x.body.b.cap,.slice x.body.l.a bo.l.length x.body.l.cap] 64):=⟨_,rfl⟩
 obtain ⟨B,hB⟩:∃ B,B=w.heap.size:=⟨_,rfl⟩
 have hb0:Below w.heap.size w W0:=by rw [hW0];exact below_new _ _
 have hk:=heap_alloc_new w (.cells #[.string ⟨nm.toArray⟩,.bool false,.int .i64 (m:Int),.slice x.each.a ea.length x.each.cap,.int .i64 bo.kind,.string ⟨bo.name.toArray⟩,.int .i64 bo.n,.slice x.body.t.a bo.terms.length x.body.t.cap,.slice x.body.b.a bo.binds.length x.body.b.cap,.slice x.body.l.a bo.l.length x.body.l.cap] 64)
 rw [<- hW0,<- hB] at hk
 have HB0:=Lh hb0
 have HW:=Lh (aI hW0 hB)
 have hLB:∀ W,Below W0.heap.size W0 W->Below w.heap.size w W:=fun W hW=>hb0.trans (hW.mono hb0.size)
 have htl:=txtF_len bo hw
 have hbl:=txtBinds_len heo he
 have HTX:Hid (∀ W,Below W0.heap.size W0 W->Calls Tryz.prog 46 #[.agg #[.int .i64 bo.kind,.string ⟨bo.name.toArray⟩,.int .i64 bo.n,.slice x.body.t.a bo.terms.length x.body.t.cap,.slice x.body.b.a bo.binds.length x.body.b.cap,.slice x.body.l.a bo.l.length x.body.l.cap]] W fun e w'=>e=.returned (.string ⟨(txtF bo).toArray⟩)/\Below W.heap.size W w'):=Lh (fun W hW=>rtext_any bo hw x.body W (hx.body.later (hLB W hW) (hLB W hW).size) (by omega))
 have HBN:=Lh (fun (W:World) (hW:Below W0.heap.size W0 W)=>rbinds7_any ea x.each W ((SlIn.agree hx.each (agree_of_below (hLB W hW))).mono (fun k hk=>Nat.lt_of_lt_of_le hk (hLB W hW).size)) he heo)
 have HDG:=Lh (fun (W:World) (_:Below W0.heap.size W0 W)=>rdigits_any m m W (Nat.le_refl _) (by omega))
 have hdl:=dec_len m m (Nat.le_refl _)
 obtain ⟨R,hR⟩:∃ R,R=txtRule ⟨nm,false,(m:Int),ea,bo⟩:=⟨_,rfl⟩
 rw [<- hR]
 rw [txtRule,txtHead] at hR
 simp only [decI,Int.toNat_natCast,if_true,Bool.false_eq_true,if_false] at hR
 generalize txtF bo=a0 at hR htl HTX
 generalize txtBinds ea=b0 at hR hbl HBN
 generalize Lib.decDigits m=d0 at hR hdl HDG
 obtain ⟨s1,hs1⟩:∃ s1,115 :: 111 :: 102 :: 116 :: 32 :: nm=s1:=⟨_,rfl⟩
 obtain ⟨s2,hs2⟩:∃ s2,s1++[32]=s2:=⟨_,rfl⟩
 obtain ⟨s3,hs3⟩:∃ s3,s2++d0=s3:=⟨_,rfl⟩
 have l1:s1.length=5+nm.length:=by rw [<- hs1];simp;omega
 have l2:s2.length=s1.length+1:=by rw [<- hs2];simp
 have l3:s3.length=s2.length+d0.length:=by rw [<- hs3];simp
 have g0:¬ 9223372036854775807<5+nm.length:=by omega
 have g1:¬ 9223372036854775807<s1.length+1:=by omega
 have g2:¬ 9223372036854775807<s2.length+d0.length:=by omega
 obtain ⟨hd,hhd⟩:∃ hd,s3=hd:=⟨_,rfl⟩
 rw [hhd] at hs3 l3
 have l4:=l3
 have hh:[115,111,102,116,32]++(nm++([32]++d0))=hd:=by rw [<- hs3,<- hs2,<- hs1];simp
 rw [hh] at hR
 have HR:=Lh hR
 have HE:Hid (ea=[]∨ea ≠ []):=Lh (Classical.em _)
 have hld:hd.length<=2199023255552:=by omega
 have HC:Hid (∀ W,Below W0.heap.size W0 W->W.cell? ⟨B,0,none⟩=some (.string ⟨nm.toArray⟩)/\W.cell? ⟨B,1,none⟩=some (.bool false)/\W.cell? ⟨B,2,none⟩=some (.int .i64 (m:Int))/\W.cell? ⟨B,3,none⟩=some (.slice x.each.a ea.length x.each.cap)/\W.cell? ⟨B,4,none⟩=some (.int .i64 bo.kind)/\W.cell? ⟨B,5,none⟩=some (.string ⟨bo.name.toArray⟩)/\W.cell? ⟨B,6,none⟩=some (.int .i64 bo.n)/\W.cell? ⟨B,7,none⟩=some (.slice x.body.t.a bo.terms.length x.body.t.cap)/\W.cell? ⟨B,8,none⟩=some (.slice x.body.b.a bo.binds.length x.body.b.cap)/\W.cell? ⟨B,9,none⟩=some (.slice x.body.l.a bo.l.length x.body.l.cap)):=Lh (fun W hW=>by
  have k1:=(hW.block B (gS hk).1).trans hk
  exact ⟨cH k1 rfl,cH k1 rfl,cH k1 rfl,cH k1 rfl,cH k1 rfl,cH k1 rfl,cH k1 rfl,cH k1 rfl,cH k1 rfl,cH k1 rfl⟩)
 clear hW0 hB hk hb0 hx hR hLB hh l1 l2 l3 l4 hnm hm he heo hw hhd
 go_enter Tryz.func62,Tryz.ntmps62
 go_wp2_with fail
 rw [<- HW.out.1,<- HW.out.2]
 refine wp_region_U 8 (S:=fun W=>Below W0.heap.size W0 W) (by kernel_rfl) (Below.refl _ _).drew (fun qH=>?_)
 refine take_U (i:=0) (v:=?_) rfl (by kernel_rfl) (by kernel_rfl) (by kernel_rfl) (by kernel_rfl) (fun _ _ _ h=>h) (by rfl) ?_ qH ?_
 rotate_left
 ·intro w hSw;obtain ⟨p0,p1,p2,p3,p4,p5,p6,p7,p8,p9⟩:=HC.out w hSw;go_simp;all_goals (with_reducible rfl)
 try simp only [Act.put,ub1,ub2,ub3]
 refine take_U (i:=4) (v:=?_) rfl (by kernel_rfl) (by kernel_rfl) (by kernel_rfl) (by kernel_rfl) (fun _ _ _ h=>h) (by rfl) ?_ qH ?_
 rotate_left
 ·intro w hSw;obtain ⟨p0,p1,p2,p3,p4,p5,p6,p7,p8,p9⟩:=HC.out w hSw;go_simp;all_goals (with_reducible rfl)
 try simp only [Act.put,ub1,ub2,ub3]
 refine take_U (i:=1) (v:=?_) rfl (by kernel_rfl) (by kernel_rfl) (by kernel_rfl) (by kernel_rfl) (fun _ _ _ h=>h) (by rfl) ?_ qH ?_
 rotate_left
 ·intro w hSw;obtain ⟨p0,p1,p2,p3,p4,p5,p6,p7,p8,p9⟩:=HC.out w hSw;go_simp;all_goals (with_reducible rfl)
 try simp only [Act.put,ub1,ub2,ub3]
 refine take_U (i:=5) (v:=?_) rfl (by kernel_rfl) (by kernel_rfl) (by kernel_rfl) (by kernel_rfl) (fun _ _ _ h=>h) (by rfl) ?_ qH ?_
 rotate_left
 ·intro w hSw;obtain ⟨p0,p1,p2,p3,p4,p5,p6,p7,p8,p9⟩:=HC.out w hSw;go_simp;all_goals (with_reducible rfl)
 try simp only [Act.put,ub1,ub2,ub3]
 refine take_U (i:=2) (v:=?_) rfl (by kernel_rfl) (by kernel_rfl) (by kernel_rfl) (by kernel_rfl) (fun _ _ _ h=>h) (by rfl) ?_ qH ?_
 rotate_left
 ·intro w hSw;obtain ⟨p0,p1,p2,p3,p4,p5,p6,p7,p8,p9⟩:=HC.out w hSw;go_simp;all_goals (with_reducible rfl)
 try simp only [Act.put,ub1,ub2,ub3]
 refine take_U (i:=3) (v:=?_) rfl (by kernel_rfl) (by kernel_rfl) (by kernel_rfl) (by kernel_rfl) (fun _ _ _ h=>h) (by rfl) ?_ qH ?_
 rotate_left
 ·intro w hSw;obtain ⟨p0,p1,p2,p3,p4,p5,p6,p7,p8,p9⟩:=HC.out w hSw;go_simp;all_goals (with_reducible rfl)
 try simp only [Act.put,ub1,ub2,ub3]
 refine ready_U (rs:=[6]) (by kernel_rfl) (by simp) ?_
 refine cons_U rfl (fun K hK=>?_) nil_U
 go_simp
 refine (HDG.out _ qH).mono ?_
 rintro e w2 ⟨rfl,hb1⟩
 have HB1:=Lh hb1
 clear hb1
 go_simp
 refine hK.out _ _ ?_ (fun qI=>?_)
 ·exact Below.trans qH (Below.mono HB1.out (Below.size qH))
 clear hK K qH
 have qH:=qI
 clear qI
 try simp only [Act.put,ub1,ub2,ub3]
 refine take_U (i:=7) (v:=?_) rfl (by kernel_rfl) (by kernel_rfl) (by kernel_rfl) (by kernel_rfl) (fun _ _ _ h=>h) (by rfl) ?_ qH ?_
 rotate_left
 ·intro w hSw;obtain ⟨p0,p1,p2,p3,p4,p5,p6,p7,p8,p9⟩:=HC.out w hSw;go_simp;all_goals (with_reducible rfl)
 try simp only [Act.put,ub1,ub2,ub3]
 refine ready_U (rs:=[8]) (by kernel_rfl) (by simp) ?_
 refine cons_V rfl (by kernel_rfl) (fun K hK=>?_) nil_U
 go_simp
 refine hK.out _ _ ?_
 clear hK K
 try simp only [Act.put,ub1,ub2,ub3]
 refine done_U (by kernel_rfl) ?_ _
 obtain ⟨p0,p1,p2,p3,p4,p5,p6,p7,p8,p9⟩:=HC.out _ qH
 have HH:=Lh qH
 rcases HE.out with hz | hz
 ·have hz2:decide ((0:Int)<(ea.length:Int))=false:=by simp [hz]
  have hz3:¬ 0<ea.length:=by simp [hz]
  obtain ⟨u1,hu1⟩:∃ u1,hd++[58,32]=u1:=⟨_,rfl⟩
  obtain ⟨u2,hu2⟩:∃ u2,u1++a0=u2:=⟨_,rfl⟩
  obtain ⟨u3,hu3⟩:∃ u3,u2++[59,10]=u3:=⟨_,rfl⟩
  have lu1:u1.length=hd.length+2:=by rw [<- hu1];simp
  have lu2:u2.length=u1.length+a0.length:=by rw [<- hu2];simp
  have gu1:¬ 9223372036854775807<hd.length+2:=by omega
  have gu2:¬ 9223372036854775807<u1.length+a0.length:=by omega
  have gu3:¬ 9223372036854775807<u2.length+2:=by omega
  have hR:R=u3:=by rw [HR.out,<- hu3,<- hu2,<- hu1,if_pos (by rw [hz];rfl)];simp
  subst hR
  clear hz lu1 lu2 HE
  go_wp2_with fail
  refine (HTX.out _ HH.out).mono ?_
  rintro e w9 ⟨rfl,hb9⟩
  have HB9:=Lh hb9
  clear hb9
  go_wp2_with fail
  go_ret
  exact ⟨rfl,HB0.out.trans ((HH.out.trans (HB9.out.mono HH.out.size)).mono HB0.out.size)⟩
 ·have hz2:decide ((0:Int)<(ea.length:Int))=true:=by simpa using List.length_pos_iff.2 hz
  have hz3:0<ea.length:=List.length_pos_iff.2 hz
  obtain ⟨t1,ht1⟩:∃ t1,32 :: 101 :: 97 :: 99 :: 104 :: 32 :: b0=t1:=⟨_,rfl⟩
  obtain ⟨t2,ht2⟩:∃ t2,hd++t1=t2:=⟨_,rfl⟩
  have lt1:t1.length=6+b0.length:=by rw [<- ht1];simp;omega
  have lt2:t2.length=hd.length+t1.length:=by rw [<- ht2];simp
  have gt1:¬ 9223372036854775807<6+b0.length:=by omega
  have gt2:¬ 9223372036854775807<hd.length+t1.length:=by omega
  obtain ⟨u1,hu1⟩:∃ u1,t2++[58,32]=u1:=⟨_,rfl⟩
  obtain ⟨u2,hu2⟩:∃ u2,u1++a0=u2:=⟨_,rfl⟩
  obtain ⟨u3,hu3⟩:∃ u3,u2++[59,10]=u3:=⟨_,rfl⟩
  have lu1:u1.length=t2.length+2:=by rw [<- hu1];simp
  have lu2:u2.length=u1.length+a0.length:=by rw [<- hu2];simp
  have gu1:¬ 9223372036854775807<t2.length+2:=by omega
  have gu2:¬ 9223372036854775807<u1.length+a0.length:=by omega
  have gu3:¬ 9223372036854775807<u2.length+2:=by omega
  have hR:R=u3:=by rw [HR.out,<- hu3,<- hu2,<- hu1,<- ht2,<- ht1,if_neg (by simpa [List.isEmpty_iff] using hz)];simp
  subst hR
  clear hz lt1 lt2 lu1 lu2 HE
  go_wp2_with fail
  refine (HBN.out _ HH.out).mono ?_
  rintro e w8 ⟨rfl,hb8⟩
  have HH2:=Lh (HH.out.trans (hb8.mono HH.out.size))
  clear hb8 p0 p1 p2 p3 p4 p5 p6 p7 p8 p9
  obtain ⟨p0,p1,p2,p3,p4,p5,p6,p7,p8,p9⟩:=HC.out _ HH2.out
  go_wp2_with fail
  refine (HTX.out _ HH2.out).mono ?_
  rintro e w9 ⟨rfl,hb9⟩
  have HB9:=Lh hb9
  clear hb9
  go_wp2_with fail
  go_ret
  exact ⟨rfl,HB0.out.trans ((HH2.out.trans (HB9.out.mono HH2.out.size)).mono HB0.out.size)⟩
end Go.Proofs.YtpmalchlecnjbaaGreatDoor
/- The reference's Check. (written by tools/gen_rxk.py) -/
namespace Go.Chalk
theorem names_take {l:List Rul} {k:Nat} (h:k<l.length) {nm:Bs} (h1:((l.take k).map Rul.name).contains nm=false) (h2:¬ l[k].name=nm):((l.take (k+1)).map Rul.name).contains nm=false:=by
 rw [List.take_succ_eq_append_getElem h,List.map_append]
 simp only [List.contains_eq_mem,List.mem_append,List.map_cons,List.map_nil,List.mem_singleton] at h1 ⊢
 simp only [decide_eq_false_iff_not] at h1 ⊢
 rintro (h | h)
 ·exact h1 h
 ·exact h2 h.symm
theorem names_hit {l:List Rul} {k j:Nat} (h:k<l.length) (hk:k<j) {nm:Bs} (h2:l[k].name=nm):((l.take j).map Rul.name).contains nm=true:=by
 simp only [List.contains_eq_mem,decide_eq_true_eq]
 refine List.mem_map.2 ⟨l[k],?_,h2⟩
 have:(l.take j)[k]'(by simp;omega)=l[k]:=by simp
 rw [<- this];exact List.getElem_mem _
end Go.Chalk
namespace Go.Proofs.YtpmalchlecnjbaaGreatDoor
open Go.RowKit Go.Chalk
attribute [local go_sem] Oper.semAt_some
theorem rform_any (r:Rul) (x:RulA) (w:World) (hx:RulIn w (·<w.heap.size) r x) (hf:RuFit r):Calls Tryz.prog 63 #[.agg #[.string ⟨r.name.toArray⟩,.bool r.hard,.int .i64 r.weight,.slice x.each.a r.each.length x.each.cap,.int .i64 r.body.kind,.string ⟨r.body.name.toArray⟩,.int .i64 r.body.n,.slice x.body.t.a r.body.terms.length x.body.t.cap,.slice x.body.b.a r.body.binds.length x.body.b.cap,.slice x.body.l.a r.body.l.length x.body.l.cap]] w fun e w'=>e=.returned (.bool (wholeR r))/\Below w.heap.size w w':=by
 obtain ⟨nm,hd,wt,ea,bo⟩:=r
 cases hd
 ·exact rform_soft nm wt ea bo x w hx hf.name (by have:=hf.len;simp only at this;omega) hf.each
 ·exact rform_hard nm wt ea bo x w hx hf.name (by have:=hf.len;simp only at this;omega) hf.each
theorem rone_any7 (r:Rul) (x:RulA) (w:World) (hx:RulIn w (·<w.heap.size) r x) (h1:wholeR r=true) (h2:frmCheck r.body=0):Calls Tryz.prog 62 #[.agg #[.string ⟨r.name.toArray⟩,.bool r.hard,.int .i64 r.weight,.slice x.each.a r.each.length x.each.cap,.int .i64 r.body.kind,.string ⟨r.body.name.toArray⟩,.int .i64 r.body.n,.slice x.body.t.a r.body.terms.length x.body.t.cap,.slice x.body.b.a r.body.binds.length x.body.b.cap,.slice x.body.l.a r.body.l.length x.body.l.cap]] w fun e w'=>e=.returned (.string ⟨(txtRule r).toArray⟩)/\Below w.heap.size w w':=by
 obtain ⟨nm,hd,wt,ea,bo⟩:=r
 obtain ⟨w1,w2⟩:=whole_weight h1
 obtain ⟨z1,z2,z3,z4,z5⟩:=wholeR_iff h1
 obtain ⟨g1,g2,g3⟩:=frmCheck_wf h2
 simp only at w1 w2 z1 z2 z3 z4 z5 g1 g2 g3
 obtain ⟨m,rfl⟩:∃ m:Nat,wt=(m:Int):=⟨wt.toNat,by omega⟩
 have hm:m<=1099511627776:=by cases hd <;> simp at z3 <;> omega
 have hnm:nm.length<=64:=named_len z1
 cases hd
 ·exact rone_soft nm m ea bo x w hx hnm hm z4 z5 g1 (by omega)
 ·exact rone_hard nm m ea bo x w hx hnm hm z4 z5 g1 (by omega)
theorem rcheck7_any (l:List Rul) (x:SlA) (w:World) (hx:SlIn w (·<w.heap.size) (l.map Rul.toD) x) (hl:l.length<=2000000) (hf:∀ r∈l,RuFit r) :
  Calls Tryz.prog 33 #[.slice x.a l.length x.cap] w fun e w'=>e=.returned (.int .i64 (synCheck l))/\Below w.heap.size w w':=by
 by_cases hbig:64<l.length
 ·have hbig':(64:Int)<(l.length:Int):=by omega
  have HR:Hid (synCheck l=2):=Lh (by unfold synCheck;rw [if_pos hbig])
  clear hbig hx hf
  generalize synCheck l=R at HR ⊢
  go_enter Tryz.func33,Tryz.ntmps33
  go_wp2_with fail
  go_ret
  exact ⟨ret_int HR.out.symm,Below.refl _ _⟩
 have hbig':decide ((64:Int)<(l.length:Int))=false:=decide_eq_false (by omega)
 have hbig2:¬ ((64:Int)<(l.length:Int)):=by omega
 have HR:Hid (synCheck l=goEnd (synGo [] l) (txtRules l)):=Lh (by unfold synCheck;rw [if_neg hbig];rfl)
 generalize synCheck l=R at HR ⊢
 obtain ⟨MB,hMB⟩:∃ MB,MB=w.heap.size:=⟨_,rfl⟩
 have HIN:Hid (∀ (j:Nat) (hj:j<l.length),∃ y:RulA,RulIn w (·<MB) l[j] y/\CellsAt w x.b (x.o+j*10) (y.cells l[j])):=Lh (fun j hj=>by rw [hMB];exact hx.rul j hj)
 have HSL:Hid (SlAt (·<MB) x.a x.b x.o l.length):=Lh (by rw [hMB];have:=hx.at_;rwa [List.length_map] at this)
 have hcap:l.length<=x.cap:=by have:=hx.le;simpa using this
 have HFT:=Lh (fun (j:Nat) (hj:j<l.length)=>hf _ (List.getElem_mem hj))
 have HMB:=Lh hMB
 have HBG:=Lh (show l.length<=64 by omega)
 rw [<- hMB]
 clear hx hf hMB hl hbig
 go_enter Tryz.func33,Tryz.ntmps33
 go_wp2_with fail
 go_loopw [3,14] (fun s i wr=>∃ j tl:Nat,j<=l.length/\i=.int .i64 j/\s=.int .i64 tl/\Hid (tl=(txtRules (l.take j)).length)/\Hid (Below MB w wr)/\Hid (synGo [] l=synGo ((l.take j).map Rul.name) (l.drop j))/\Hid ((txtRules (l.take j)).length<=j*200000)) (fun _ i _=>l.length - (intOf i).toNat)
 case atStart=>exact ⟨0,0,Nat.zero_le _,rfl,rfl,Lh (by simp [txtRules]),Lh (by rw [HMB.out];exact Below.refl _ _),Lh rfl,Lh (by simp [txtRules])⟩
 case round =>
  obtain ⟨j,tl,hj,rfl,rfl,HTL,HB,HE,HLN⟩:=hrel
  by_cases hlt:j<l.length
  ·obtain ⟨y,hy1,hy2⟩:=HIN.out j hlt
   obtain ⟨hxa,hFb⟩:=HSL.out (by omega)
   have hys:=hy2.agree (agree_of_below HB.out) hFb
   obtain ⟨BB,hBB⟩:∃ BB,BB=wr.heap.size:=⟨_,rfl⟩
   obtain ⟨WB,hWB⟩:∃ WB,WB=wr.alloc (.cells (y.cells l[j]).toArray 64):=⟨_,rfl⟩
   have hbb:Below wr.heap.size wr WB:=by rw [hWB];exact below_new _ _
   have hbx:WB.heap[BB]?=some (.cells (y.cells l[j]).toArray 64 (0,0)):=by rw [hWB,hBB];exact heap_alloc_new _ _
   have hMBe:=HMB.out
   have hbs:=HB.out.size
   have hbw:Below MB w WB:=HB.out.trans (hbb.mono (by omega))
   have hyw:∀ W:World,Below MB w W->RulIn W (·<MB) l[j] y:=fun W hW=>hy1.agree (agree_of_below hW)
   have HBX:=Lh (aI hbx (aI (show MB<=BB by omega) hbw))
   have HCW:=rform_any l[j] y WB ((hyw WB hbw).mono (fun k hk=>by have:=hbw.size;omega)) (HFT.out j hlt)
   have HCF:=Lh (fun (W:World) (hW:Below MB w W)=>r6check_any l[j].body y.body W (HFT.out j hlt).body.size (HFT.out j hlt).body.nodes (((hyw W hW).body).mono (fun k hk=>by have:=hW.size;omega)))
   have HCR:=Lh (fun (W:World) (hW:Below MB w W) (h1:wholeR l[j]=true) (h2:frmCheck l[j].body=0)=>rone_any7 l[j] y W ((hyw W hW).mono (fun k hk=>by have:=hW.size;omega)) h1 h2)
   have HLN2:=Lh (fun (h1:wholeR l[j]=true) (h2:frmCheck l[j].body=0)=>rules_len hlt h1 h2 HLN.out)
   have HTT:Hid (∀ tr,tr=txtRule l[j]->tl+tr.length=(txtRules (l.take (j+1))).length):=Lh (fun tr e=>by rw [txtRules_take hlt,List.length_append,HTL.out,e])
   have HTK:Hid ((l.take (j+1)).map Rul.name=(l.take j).map Rul.name++[l[j].name]):=Lh (by rw [List.take_succ_eq_append_getElem hlt,List.map_append];rfl)
   have HE2:=Lh (show synGo [] l=goStep (wholeR l[j]) (((l.take j).map Rul.name).contains l[j].name) (frmCheck l[j].body) (synGo (((l.take j).map Rul.name)++[l[j].name]) (l.drop (j+1))) by rw [HE.out,List.drop_eq_getElem_cons hlt,synGo_step];rfl)
   have HWB:=Lh hWB
   have HBB:=Lh hBB
   rw [hxa]
   clear hy1 hy2 hFb hbw hBB hWB hbb hbx hMBe hyw hbs HTL HLN
   generalize hgr:l[j]=re at HCW HCF HCR HLN2 HTT HTK HE2 HWB HBX hys
   clear hgr
   obtain ⟨nm,hd,wt,ea,⟨kind,fname,n,terms,binds,fl⟩⟩:=re
   obtain ⟨ye,yb⟩:=y
   simp only [ndV,RulA.cells,FrmA.cells,SlA.val,Frm.kind,Frm.name,Frm.n,Frm.terms,Frm.binds,Frm.l] at HCW HCF HCR HLN2 HTT HTK HE2 HWB HBX hys
   obtain ⟨e0,e1,e2,e3,e4,e5,e6,e7,e8,e9⟩:=hys.ten
   clear hys
   generalize hwh:wholeR ⟨nm,hd,wt,ea,⟨kind,fname,n,terms,binds,fl⟩⟩=wh at HCW HCR HLN2 HE2
   generalize hfc:frmCheck ⟨kind,fname,n,terms,binds,fl⟩=fc at HCF HCR HLN2 HE2
   have HCW:=Lh HCW
   have HK:Hid (∀ W,Below WB.heap.size WB W->W.heap[BB]?=some (.cells #[.string ⟨nm.toArray⟩,.bool hd,.int .i64 wt,.slice ye.a ea.length ye.cap,.int .i64 kind,.string ⟨fname.toArray⟩,.int .i64 n,.slice yb.t.a terms.length yb.t.cap,.slice yb.b.a binds.length yb.b.cap,.slice yb.l.a fl.length yb.l.cap] 64 (0,0))):=Lh (fun W hW=>(hW.block BB (gS HBX.out.1).1).trans HBX.out.1)
   have HBW:Hid (∀ W,Below WB.heap.size WB W->Below MB w W):=Lh (fun W hW=>HBX.out.2.2.trans (hW.mono (by have:=HBX.out.2.2.size;have:=HMB.out;omega)))
   clear hwh hfc HE HB
   go_wp2_with fail
   rw [<- HWB.out,<- HBB.out]
   refine HCW.out.mono ?_
   rintro e w1 ⟨rfl,hb1⟩
   have H1:=Lh hb1
   clear hb1
   cases wh
   ·have HD:=Lh (show R=1 by rw [HR.out,HE2.out,goStep_bad];rfl)
    clear HCR HLN2
    go_wp2_with fail
    go_ret
    exact ⟨ret_int HD.out.symm,HBW.out w1 H1.out⟩
   have hjc:j<=x.cap:=by omega
   clear e0 e1 e2 e3 e4 e5 e6 e7 e8 e9
   go_wp2_with fail
   obtain ⟨wo,rfl⟩:∃ wo,wo=w1:=⟨w1,rfl⟩
   go_loopw [26] (fun i2 wk=>∃ k:Nat,k<=j/\i2=.int .i64 k/\Hid (Below WB.heap.size WB wk)/\Hid (((l.take k).map Rul.name).contains nm=false)) (fun i2 _=>j - (intOf i2).toNat)
   case atStart=>exact ⟨0,Nat.zero_le _,rfl,H1,Lh rfl⟩
   case round =>
    obtain ⟨k,hk,rfl,HB2,HN2⟩:=hrel
    by_cases hlt2:k<j
    ·have hlk:k<l.length:=by omega
     obtain ⟨y2,hz1,hz2⟩:=HIN.out k hlk
     have hFb:x.b<MB:=(HSL.out (by omega)).2
     have hzs:=hz2.agree (agree_of_below (HBW.out wr HB2.out)) hFb
     have HNT:=Lh (fun (h:¬ l[k].name=nm)=>names_take hlk HN2.out h)
     have HNH:=Lh (fun (h:l[k].name=nm)=>names_hit hlk hlt2 h)
     have hkq:=HK.out wr HB2.out
     clear hz1 hz2 hFb
     generalize l[k]=rk at hzs HNT HNH
     obtain ⟨nm2,hd2,wt2,each2,⟨kind2,fname2,n2,terms2,binds2,fl2⟩⟩:=rk
     obtain ⟨ye2,yb2⟩:=y2
     simp only [ndV,RulA.cells,FrmA.cells,SlA.val,Frm.kind,Frm.name,Frm.n,Frm.terms,Frm.binds,Frm.l] at hzs HNT HNH
     obtain ⟨e0,e1,e2,e3,e4,e5,e6,e7,e8,e9⟩:=hzs.ten
     have q0:wr.cell? ⟨BB,0,none⟩=some (.string ⟨nm.toArray⟩):=cH hkq rfl
     have hBl:BB<wr.heap.size:=(gS hkq).1
     clear hzs hkq
     by_cases hne:nm2=nm
     ·have HD:=Lh (show R=1 by rw [HR.out,HE2.out,HNH.out hne,goStep_twice];rfl)
      have hne2:(nm2==nm)=true:=by simpa using hne
      clear HCR HLN2
      go_wp2_with fail
      go_ret
      exact ⟨ret_int HD.out.symm,(HBW.out wr HB2.out).alloc (by have:=(HBW.out wr HB2.out).size;have:=HMB.out;omega) _⟩
     ·have hne2:(nm2==nm)=false:=by simpa using hne
      have HN3:=Lh (HNT.out hne)
      go_wp2_with fail
      exact ⟨⟨k+1,by omega,by go_num,Lh (HB2.out.alloc HB2.out.size _),HN3⟩,by simp [intOf];omega⟩
    ·obtain rfl:k=j:=by omega
     have hkq:=HK.out wr HB2.out
     have q0:wr.cell? ⟨BB,0,none⟩=some (.string ⟨nm.toArray⟩):=cH hkq rfl
     have q1:wr.cell? ⟨BB,1,none⟩=some (.bool hd):=cH hkq rfl
     have q2:wr.cell? ⟨BB,2,none⟩=some (.int .i64 wt):=cH hkq rfl
     have q3:wr.cell? ⟨BB,3,none⟩=some (.slice ye.a ea.length ye.cap):=cH hkq rfl
     have q4:wr.cell? ⟨BB,4,none⟩=some (.int .i64 kind):=cH hkq rfl
     have q5:wr.cell? ⟨BB,5,none⟩=some (.string ⟨fname.toArray⟩):=cH hkq rfl
     have q6:wr.cell? ⟨BB,6,none⟩=some (.int .i64 n):=cH hkq rfl
     have q7:wr.cell? ⟨BB,7,none⟩=some (.slice yb.t.a terms.length yb.t.cap):=cH hkq rfl
     have q8:wr.cell? ⟨BB,8,none⟩=some (.slice yb.b.a binds.length yb.b.cap):=cH hkq rfl
     have q9:wr.cell? ⟨BB,9,none⟩=some (.slice yb.l.a fl.length yb.l.cap):=cH hkq rfl
     have HCF2:=Lh (HCF.out wr (HBW.out wr HB2.out))
     have HCN:=HN2
     clear hkq
     go_wp2_with fail
     refine HCF2.out.mono ?_
     rintro e w2 ⟨rfl,hb2⟩
     have H2:=Lh (HB2.out.trans (hb2.mono HB2.out.size))
     clear hb2 HCF2
     clear q0 q1 q2 q3 q4 q5 q6 q7 q8 q9
     by_cases hc0:fc=0
     rotate_left
     ·have hc1:(fc==0)=false:=by simpa using hc0
      have HD:=Lh (show R=fc by rw [HR.out,HE2.out,HCN.out,goStep_err hc0,goEnd_err hc0])
      clear HCR HLN2
      go_wp2_with fail
      go_ret
      exact ⟨ret_int HD.out.symm,HBW.out w2 H2.out⟩
     subst hc0
     have HLN3:=Lh (HLN2.out (by first | rfl | trivial) (by first | rfl | trivial))
     have HCR2:=Lh (HCR.out w2 (HBW.out w2 H2.out) (by first | rfl | trivial) (by first | rfl | trivial))
     have HE3:=Lh (show synGo [] l=synGo (((l.take k).map Rul.name)++[nm]) (l.drop (k+1)) by rw [HE2.out,HCN.out,goStep_next])
     obtain ⟨tr,htr⟩:∃ tr,tr=txtRule ⟨nm,hd,wt,ea,⟨kind,fname,n,terms,binds,fl⟩⟩:=⟨_,rfl⟩
     rw [<- htr] at HCR2
     have HT2:=Lh (HTT.out tr htr)
     have hkq:=HK.out w2 H2.out
     have q0:w2.cell? ⟨BB,0,none⟩=some (.string ⟨nm.toArray⟩):=cH hkq rfl
     have q1:w2.cell? ⟨BB,1,none⟩=some (.bool hd):=cH hkq rfl
     have q2:w2.cell? ⟨BB,2,none⟩=some (.int .i64 wt):=cH hkq rfl
     have q3:w2.cell? ⟨BB,3,none⟩=some (.slice ye.a ea.length ye.cap):=cH hkq rfl
     have q4:w2.cell? ⟨BB,4,none⟩=some (.int .i64 kind):=cH hkq rfl
     have q5:w2.cell? ⟨BB,5,none⟩=some (.string ⟨fname.toArray⟩):=cH hkq rfl
     have q6:w2.cell? ⟨BB,6,none⟩=some (.int .i64 n):=cH hkq rfl
     have q7:w2.cell? ⟨BB,7,none⟩=some (.slice yb.t.a terms.length yb.t.cap):=cH hkq rfl
     have q8:w2.cell? ⟨BB,8,none⟩=some (.slice yb.b.a binds.length yb.b.cap):=cH hkq rfl
     have q9:w2.cell? ⟨BB,9,none⟩=some (.slice yb.l.a fl.length yb.l.cap):=cH hkq rfl
     clear htr hkq HCR HLN2
     have hb9:tl+tr.length<=100000000:=by have:=HT2.out;have:=HLN3.out;have:=HBG.out;omega
     go_wp2_with fail
     refine HCR2.out.mono ?_
     rintro e w3 ⟨rfl,hb3⟩
     have H3:=Lh (H2.out.trans (hb3.mono H2.out.size))
     clear hb3 HCR2 q0 q1 q2 q3 q4 q5 q6 q7 q8 q9
     go_wp2_with fail
     exact ⟨⟨k+1,tl+tr.length,by omega,by go_num,by go_num,HT2,Lh (HBW.out w3 H3.out),Lh (by rw [HTK.out];exact HE3.out),Lh (by have:=HLN3.out.1;omega)⟩,by simp [intOf];omega⟩
  ·have hjl:j=l.length:=by omega
   have HTL0:=Lh (show synGo [] l=0 by rw [HE.out,hjl,List.drop_length,synGo])
   have HTL2:Hid (tl=(txtRules l).length):=Lh (by rw [HTL.out,hjl,List.take_length])
   have HRR:Hid (R=if 16384<tl then 2 else 0):=Lh (by rw [HR.out,HTL0.out,goEnd_told,HTL2.out])
   clear hjl
   by_cases hb:16384<tl
   ·have hb':decide ((16384:Int)<(tl:Int))=true:=by simp;omega
    have HD:Hid (R=2):=Lh (by rw [HRR.out,if_pos hb])
    clear hb
    go_wp2_with fail
    go_ret
    exact ⟨ret_int HD.out.symm,HB.out⟩
   ·have hb':decide ((16384:Int)<(tl:Int))=false:=by simp;omega
    have HD:Hid (R=0):=Lh (by rw [HRR.out,if_neg hb])
    clear hb
    go_wp2_with fail
    go_ret
    exact ⟨ret_int HD.out.symm,HB.out⟩
end Go.Proofs.YtpmalchlecnjbaaGreatDoor
/- The reference's Print. (written by tools/gen_rxl.py) -/
namespace Go.Proofs.YtpmalchlecnjbaaGreatDoor
open Go.RowKit Go.Chalk
attribute [local go_sem] Oper.semAt_some
theorem rprint7_any (l:List Rul) (x:SlA) (w:World) (hx:SlIn w (·<w.heap.size) (l.map Rul.toD) x) (hl:l.length<=2000000) (hf:∀ r∈l,RuFit r) :
  Calls Tryz.prog 32 #[.slice x.a l.length x.cap] w (TextPost w.heap.size w (synPrint l)):=by
 have HC:=Lh (rcheck7_any l x w hx hl hf)
 have HIN:Hid (∀ (j:Nat) (hj:j<l.length),∃ y:RulA,RulIn w (·<w.heap.size) l[j] y/\CellsAt w x.b (x.o+j*10) (y.cells l[j])):=Lh (fun j hj=>hx.rul j hj)
 have HSL:Hid (SlAt (·<w.heap.size) x.a x.b x.o l.length):=Lh (by have:=hx.at_;rwa [List.length_map] at this)
 obtain ⟨R,hR⟩:∃ R,R=synPrint l:=⟨_,rfl⟩
 rw [<- hR]
 have HRE:=Lh (fun (c:Int) (h:c ≠ 0) (h2:synCheck l=c)=>(show R=([],c) by rw [hR,synPrint,h2,if_pos h]))
 have HRO:=Lh (fun (h2:synCheck l=0)=>(show R=(txtRules l,0) by rw [hR,synPrint,h2,if_neg (by decide)]))
 have HZ:=Lh (fun (h2:synCheck l=0)=>synCheck_zero h2)
 obtain ⟨c0,hc0⟩:∃ c0,c0=synCheck l:=⟨_,rfl⟩
 rw [<- hc0] at HC
 have HCC:=Lh hc0
 clear hx hl hf hR hc0
 go_enter Tryz.func32,Tryz.ntmps32
 go_wp2_with fail
 refine HC.out.mono ?_
 rintro e w1 ⟨rfl,hb1⟩
 have H1:=Lh hb1
 clear hb1
 by_cases hc:c0=0
 rotate_left
 ·have hc2:(c0==0)=false:=by simpa using hc
  have HE:=Lh (HRE.out c0 hc HCC.out.symm)
  go_wp2_with fail
  go_ret2
  exact TextPost.mk' HE.out (BytesV.nil _) H1.out
 subst hc
 have HO:=Lh (HRO.out HCC.out.symm)
 have HZ2:=Lh (HZ.out HCC.out.symm)
 have hl64:l.length<=64:=HZ2.out.1
 go_wp2_with fail
 go_loopw [5,15] (fun s i wr=>∃ (j:Nat) (tx:Bs),j<=l.length/\i=.int .i64 j/\s=.string ⟨tx.toArray⟩/\Hid (tx=txtRules (l.take j))/\Hid (Below w.heap.size w wr)/\Hid (tx.length<=j*200000)) (fun _ i _=>l.length - (intOf i).toNat)
 case atStart=>exact ⟨0,[],Nat.zero_le _,rfl,rfl,Lh (by simp [txtRules]),H1,Lh (by simp)⟩
 case round =>
  obtain ⟨j,tx,hj,rfl,rfl,HTX,HB,HLN⟩:=hrel
  by_cases hlt:j<l.length
  ·obtain ⟨y,hy1,hy2⟩:=HIN.out j hlt
   obtain ⟨hxa,hFb⟩:=HSL.out (by omega)
   have hys:=hy2.agree (agree_of_below HB.out) hFb
   have hzj:=HZ2.out.2.1 l[j] (List.getElem_mem hlt)
   have HTT:=Lh (txtRules_take hlt)
   have hln:=(rules_len hlt hzj.1 hzj.2 (by rw [<- HTX.out];exact HLN.out))
   rw [<- HTX.out] at HTT hln
   have HLN2:=Lh hln
   obtain ⟨BB,hBB⟩:∃ BB,BB=wr.heap.size:=⟨_,rfl⟩
   obtain ⟨WB,hWB⟩:∃ WB,WB=wr.alloc (.cells (y.cells l[j]).toArray 64):=⟨_,rfl⟩
   have hbb:Below wr.heap.size wr WB:=by rw [hWB];exact below_new _ _
   have hbx:WB.heap[BB]?=some (.cells (y.cells l[j]).toArray 64 (0,0)):=by rw [hWB,hBB];exact heap_alloc_new _ _
   have hbw:Below w.heap.size w WB:=HB.out.trans (hbb.mono HB.out.size)
   have HBX:=Lh (aI hbx hbw)
   have HCR:=rone_any7 l[j] y WB (hy1.later hbw hbw.size) hzj.1 hzj.2
   have HWB:=Lh hWB
   have HBB:=Lh hBB
   rw [hxa]
   clear hy1 hy2 hFb hbw hBB hWB hbb hbx hzj hln
   generalize hgr:l[j]=re at HCR HTT HWB HBX hys HLN2
   clear hgr
   obtain ⟨nm,hd,wt,ea,⟨kind,fname,n,terms,binds,fl⟩⟩:=re
   obtain ⟨ye,yb⟩:=y
   simp only [ndV,RulA.cells,FrmA.cells,SlA.val,Frm.kind,Frm.name,Frm.n,Frm.terms,Frm.binds,Frm.l] at HCR HTT HWB HBX hys
   obtain ⟨e0,e1,e2,e3,e4,e5,e6,e7,e8,e9⟩:=hys.ten
   clear hys
   generalize txtRule ⟨nm,hd,wt,ea,⟨kind,fname,n,terms,binds,fl⟩⟩=tr at HCR HTT HLN2
   have HCR:=Lh HCR
   obtain ⟨s1,hs1⟩:∃ s1,tx++tr=s1:=⟨_,rfl⟩
   have gs1:¬ 9223372036854775807<tx.length+tr.length:=by have:=HLN2.out.2;omega
   have HS1:=Lh hs1
   go_wp2_with fail
   rw [<- HWB.out,<- HBB.out]
   refine HCR.out.mono ?_
   rintro e w2 ⟨rfl,hb2⟩
   have H2:=Lh (HBX.out.2.trans (hb2.mono HBX.out.2.size))
   clear hb2 HCR e0 e1 e2 e3 e4 e5 e6 e7 e8 e9
   go_wp2_with fail
   exact ⟨⟨j+1,s1,by omega,by go_num,by rw [bs_app,HS1.out],Lh (by rw [HTT.out];exact HS1.out.symm),H2,Lh (by have:=HLN2.out.1;rw [HTT.out,HS1.out] at this;exact this)⟩,by simp [intOf];omega⟩
  ·have hjl:j=l.length:=by omega
   have hE:tx=txtRules l:=by rw [HTX.out,hjl,List.take_length]
   rw [<- hE] at HO
   obtain ⟨cap,W',hcv,hsb,hcp,hbW⟩:=conv_bytes tx tx.length rfl wr
   have H3:=Lh (aI hsb (aI hcp (HB.out.trans (hbW.mono HB.out.size))))
   clear hjl hE HTX HLN hsb hcp hbW
   go_wp2_with fail
   go_ret2
   exact TextPost.mk' HO.out ⟨_,_,_,_,rfl,H3.out.1,H3.out.2.1⟩ H3.out.2.2
end Go.Proofs.YtpmalchlecnjbaaGreatDoor
/- SyntaxPrints, walked. (written by tools/gen_wprints.py) -/
namespace Go.Proofs.YtpmalchlecnjbaaGreatDoor
open Go.RowKit Go.Chalk
attribute [local go_sem] Oper.semAt_some
theorem prints_walk (l m:List Rul) (x y:SlA) (w:World) (hg:GS w) (hx:SlIn w (·<w.heap.size) (l.map Rul.toD) x) (hll:l.length<=2000000) (hf:∀ r∈l,RuFit r) (hy:SlIn w (·<w.heap.size) (m.map Rul.toD) y) (hml:m.length<=2000000) (hfm:∀ r∈m,RuFit r) :
  Calls Tryz.prog 11 #[x.val l.length,y.val m.length] w fun e w'=>e=.returned (.bool true)/\Below w.heap.size w w':=by
 simp only [SlA.val]
 have HCK:=Lh (fun (l:List Rul) (x:SlA) (W:World) (hW:Below w.heap.size w W) (h1:SlIn W (·<W.heap.size) (l.map Rul.toD) x) (h2:l.length<=2000000) (h3:∀ r∈l,RuFit r)=>scheck_any l x W h1 h2 h3 (hg.below hW))
 have HPR:=Lh (fun (l:List Rul) (x:SlA) (W:World) (hW:Below w.heap.size w W) (h1:SlIn W (·<W.heap.size) (l.map Rul.toD) x) (h2:l.length<=2000000) (h3:∀ r∈l,RuFit r)=>sprint_any l x W h1 h2 h3 (hg.below hW))
 have HLV:=Lh (fun (W:World) (hW:Below w.heap.size w W)=>live_any W (hg.below hW))
 have HL:=Lh (aI hx (aI hll hf))
 have HM:=Lh (aI hy (aI hml hfm))
 have HFW:=Lh (fun (W:World) (hW:Below w.heap.size w W)=>rfew7_any l x W (hx.later hW hW.size) hll hf)
 have HFM:=Lh (fun (W:World) (hW:Below w.heap.size w W)=>rfew7_any m y W (hy.later hW hW.size) hml hfm)
 have HRP:=Lh (fun (W:World) (hW:Below w.heap.size w W)=>rprint7_any l x W (hx.later hW hW.size) hll hf)
 have HRC:=Lh (fun (W:World) (hW:Below w.heap.size w W)=>rcheck7_any l x W (hx.later hW hW.size) hll hf)
 have HS1:=Lh (fun (W:World) (hW:Below w.heap.size w W)=>ssame_any l m x y W (hx.later hW hW.size) (hy.later hW hW.size) hll hf)
 have HS2:=Lh (fun (W:World) (hW:Below w.heap.size w W)=>r7same_any l m x y W (hx.later hW hW.size) (hy.later hW hW.size) hll hf)
 have HS3:=Lh (fun (W:World) (hW:Below w.heap.size w W)=>ssame_any l l x x W (hx.later hW hW.size) (hx.later hW hW.size) hll hf)
 clear hx hy hf hfm hg
 go_enter Tryz.func11,Tryz.ntmps11
 go_wp2_with fail
 refine (HLV.out w (Below.refl _ _)).mono ?_
 rintro e w2 ⟨rfl,hb⟩
 have D2:=Lh hb
 clear hb
 go_wp2_with fail
 refine (HFW.out w2 D2.out).mono ?_
 rintro e w3 ⟨fw,rfl,hb⟩
 have D3:=Lh (D2.out.trans (hb.mono D2.out.size))
 clear hb HFW
 cases fw
 ·go_wp2_with fail
  go_ret
  exact ⟨rfl,D3.out⟩
 go_wp2_with fail
 refine (HFM.out w3 D3.out).mono ?_
 rintro e w4 ⟨fm,rfl,hb⟩
 have D4:=Lh (D3.out.trans (hb.mono D3.out.size))
 clear hb HFM
 cases fm
 ·go_wp2_with fail
  go_ret
  exact ⟨rfl,D4.out⟩
 go_wp2_with fail
 refine (HPR.out l x w4 D4.out (HL.out.1.later D4.out D4.out.size) HL.out.2.1 HL.out.2.2).mono ?_
 rintro e w5 ⟨v1,rfl,hv1,hb⟩
 have D5:=Lh (D4.out.trans (hb.mono D4.out.size))
 have V5:=Lh hv1
 clear hv1 hb
 have HRP5:=Lh (HRP.out w5 D5.out)
 go_wp2_with fail
 refine (HRP5.out).mono ?_
 rintro e w6 ⟨v2,rfl,hv2,hb⟩
 have D6:=Lh (D5.out.trans (hb.mono D5.out.size))
 have V6:=Lh (aI (V5.out.below hb) hv2)
 clear hv2 hb HRP5
 obtain ⟨tt,htt⟩:∃ tt:ByteArray,tt=⟨(synPrint l).1.toArray⟩:=⟨_,rfl⟩
 have hc1:=bytesV_text V6.out.1
 have hc2:=bytesV_text V6.out.2
 rw [<- htt] at hc1 hc2
 generalize (synPrint l).2=er
 have HCL:=Lh (HCK.out l x w6 D6.out (HL.out.1.later D6.out D6.out.size) HL.out.2.1 HL.out.2.2)
 generalize synCheck l=ck at HCL HRC
 generalize rulsEq l m=sm at HS1 HS2
 rw [rulsEq_self] at HS3
 clear htt V5 V6
 go_wp2_with fail
 refine (HCL.out).mono ?_
 rintro e w7 ⟨rfl,hb⟩
 have D7:=Lh (D6.out.trans (hb.mono D6.out.size))
 clear hb HCL hc1 hc2
 have HRC7:=Lh (HRC.out w7 D7.out)
 go_wp2_with fail
 refine (HRC7.out).mono ?_
 rintro e w8 ⟨rfl,hb⟩
 have D8:=Lh (D7.out.trans (hb.mono D7.out.size))
 clear hb HRC7
 have HS8:=Lh (HS1.out w8 D8.out)
 go_wp2_with fail
 refine (HS8.out).mono ?_
 rintro e w9 ⟨rfl,hb⟩
 have D9:=Lh (D8.out.trans (hb.mono D8.out.size))
 clear hb HS8
 have HS9:=Lh (HS2.out w9 D9.out)
 go_wp2_with fail
 refine (HS9.out).mono ?_
 rintro e w10 ⟨rfl,hb⟩
 have D10:=Lh (D9.out.trans (hb.mono D9.out.size))
 clear hb HS9
 have HS10:=Lh (HS3.out w10 D10.out)
 cases sm
 ·go_wp2_with fail
  refine (HS10.out).mono ?_
  rintro e w11 ⟨rfl,hb⟩
  have D11:=Lh (D10.out.trans (hb.mono D10.out.size))
  clear hb HS10
  go_wp2_with fail
  go_ret
  exact ⟨rfl,D11.out⟩
 ·go_wp2_with fail
  refine (HS10.out).mono ?_
  rintro e w11 ⟨rfl,hb⟩
  have D11:=Lh (D10.out.trans (hb.mono D10.out.size))
  clear hb HS10
  go_wp2_with fail
  go_ret
  exact ⟨rfl,D11.out⟩
end Go.Proofs.YtpmalchlecnjbaaGreatDoor
