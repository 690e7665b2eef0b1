/- Parts of the proof. -/
import Derived.Test.YtncnnbmeacpboaaGreatDoorO34
import Derived.Test.YtncnnbmeacpboaaGreatDoorLWa8
import Derived.Test.YtncnnbmeacpboaaGreatDoorLWa9
import Derived.Test.YtncnnbmeacpboaaGreatDoorLWa5
import Derived.Test.YtncnnbmeacpboaaGreatDoorLWa2
import Derived.Test.YtncnnbmeacpboaaGreatDoorLWa6
import Derived.Test.YtncnnbmeacpboaaGreatDoorLWa7
set_option maxHeartbeats 4000000
set_option maxRecDepth 100000
set_option linter.unusedVariables false
set_option linter.unusedSimpArgs false
namespace Go.aa
open Go.RowKit
variable {s:ax} {b:List aH} {q:List Int} {j k lo B sz g MB:Nat} {l:List aV} {i:Ins} {w W w':World} {f:ag} {v:Value} {F G:Nat->Prop} {e:TypeId} {xs:List D} {α:Type} {L:Int->List Bs} {t:List (Int×Value)} {rw:Int->Option Nat} {X:List Ins}
def gU(s:ax)(b:List aH)(q:List Int)(j:Nat):List Bs:=((b.zip q).take j).map (fun p=>cK s p.1.sort p.2)
theorem pX(h:q.length=b.length)(hj:j<=b.length):(gU s b q j).length=j:=by simp[gU,h];omega
theorem wu(hb:j<b.length)(hq:j<q.length):gU s b q (j+1)=gU s b q j++[cK s b[j].sort q[j]]:=by
 unfold gU;have:j<(b.zip q).length:=by simp;omega
 rw[List.take_succ_eq_append_getElem this,List.map_append];simp
theorem uz:∀(s:ax) (b:List aH) (q:List Int),q.length=b.length->(∀(j:Nat) (hb:j<b.length) (hq:j<q.length),cK s b[j].sort q[j]≠[])->iv s b q=some (gU s b q b.length)
 |s,[],q,_,_=>rfl
 |s,b::r,[],h,_=>by simp at h
 |s,b::r,i::q,h,ha=>by
  rw[iv,if_neg (show ¬cK s b.sort i=[] from ha 0 (by simp) (by simp))];rw[uz s r q (by simpa using h) (fun j hb hq=>ha (j+1) (by simp;omega) (by simp;omega))];simp[gU]
theorem rf:∀(s:ax) (b:List aH) (q:List Int) (j:Nat) (hb:j<b.length) (hq:j<q.length),cK s b[j].sort q[j]=[]->iv s b q=none
 |s,b::r,i::q,0,_,_,h=>by rw[iv];simp only[List.getElem_cons_zero] at h;rw[if_pos h]
 |s,b::r,i::q,j+1,hb,hq,h=>by
  rw[iv];split
  ·rfl
  ·rw[rf s r q j (by simpa using hb) (by simpa using hq) (by simpa using h)];rfl
def qp(s:ax)(l:List aV)(i:Ins):List Bs×Int:=match Cg s l i with|some ns=>(ns,0)|none=>([],1)
theorem xC(h:i.rule<0∨(l.length:Int)<=i.rule):qp s l i=([],1):=by
 unfold qp Cg;by_cases h0:i.rule<0
 ·rw[if_pos h0]
 ·rw[if_neg h0,List.getElem?_eq_none (by omega)]
theorem IK(h:i.rule=k)(hk:k<l.length):qp s l i=if i.binds.length≠l[k].each.length then(([],1):List Bs×Int) else match iv s l[k].each i.binds with|some ns=>(ns,0)|none=>([],1):=by
 unfold qp Cg;rw[if_neg (by omega),h,Int.toNat_natCast,List.getElem?_eq_getElem hk];simp only;by_cases hc:i.binds.length≠l[k].each.length
 ·rw[if_pos hc,if_pos hc]
 ·rw[if_neg hc,if_neg hc]
end Go.aa
namespace Go.Proofs.YtncnnbmeacpboaaGreatDoor
open Go.RowKit Go.aa
attribute [local go_sem] Oper.semAt_some
variable {s:ax} {b:List aH} {q:List Int} {j k lo B sz g MB:Nat} {l:List aV} {i:Ins} {w W w':World} {f:ag} {v:Value} {F G:Nat->Prop} {e:TypeId} {xs:List D} {α:Type} {L:Int->List Bs} {t:List (Int×Value)} {rw:Int->Option Nat} {X:List Ins}
theorem lU:(Tryz.prog.info? 9).map (fun i=>(i.zero,i.size,i.bytes))=some (some (.string ByteArray.empty),1,16):=by kernel_rfl
theorem zB(hf:iE s)(sort i:Int):(cK s sort i).length<=4000000:=by
 unfold cK;split
 ·simp
 ·cases h:(aj s sort)[i.toNat]? with
  |none=>simp
  |some x=>exact hf.names sort x (List.mem_of_getElem? h)
def nG(w:World)(r:List Bs×Int)(e:Ending)(w':World):Prop:=∃v,e=.returned (.tuple #[v,.int .i64 r.2])/\qP w' v r.1/\Below w.heap.size w w'
theorem nG.nil{w w':World}{r:List Bs×Int}{c:Int}(h:r=([],c))(hb:Below w.heap.size w w'):nG w r (.returned (.tuple #[.slice none 0 0,.int .i64 c])) w':=by
 subst h;exact⟨_,rfl,qP.nil _,hb⟩
theorem tK(s:ax)(x:bH)(l:List aV)(z:aB)(i:dz)(y:jV)(w:World)(hI:gq)(hs:dh w (·<w.heap.size) s x)(hf:iE s)(hz:ak w (·<w.heap.size) (l.map aV.toD) z)(hl:l.length<=2000000)(hy:gm w (·<w.heap.size) i y)(hbl:i.binds.length<=2000000)(hel:∀r∈l,r.each.length<=2000000):
  Calls Tryz.prog 43 #[.agg (x.cells s).toArray,.slice z.a l.length z.cap,.agg (y.cells i).toArray] w (nG w (qp s l i.ins)):=by
 obtain⟨R,hR⟩:∃R,R=qp s l i.ins:=⟨_,rfl⟩;rw[<-hR];obtain⟨W1,hW1⟩:∃W1,W1=w.alloc (.cells (x.cells s).toArray 28):=⟨_,rfl⟩;obtain⟨W2,hW2⟩:∃W2,W2=W1.alloc (.cells (y.cells i).toArray 35):=⟨_,rfl⟩;have hs1:W1.heap.size=w.heap.size+1:=by rw[hW1];simp
 have hb1:Below w.heap.size w W1:=by rw[hW1];exact(Below.refl _ _).alloc (Nat.le_refl _) _
 have hb2:Below w.heap.size w W2:=by rw[hW2];exact hb1.alloc hb1.size _
 have g1:W2.heap[w.heap.size]?=some (.cells (x.cells s).toArray 28 (0,0)):=by rw[hW2,ae,if_neg (by omega),hW1,ae,if_pos rfl]
 have g2:W2.heap[w.heap.size+1]?=some (.cells (y.cells i).toArray 35 (0,0)):=by rw[hW2,ae,if_pos hs1.symm]
 have HN:=Lh (fun(sort at_:Int) (W:World) (hb:Below w.heap.size w W)=>Gn s x sort at_ W hI (hs.later hb hb.size) hf.toSchSmall);have HK:=Lh (aI hb2 (aI g1 g2));have HZ:=Lh hz;have HY:=Lh (fun(W:World) (hb:Below w.heap.size w W)=>hy.binds.later hb hb.size);have O1:Hid (R=qp s l i.ins):=Lh hR;have PM:=Lh (fun(sort at_:Int)=>zB hf sort at_);have HW:=Lh (aI hW1 hW2);have UH:=hy.rule;clear hs hf hz hy hR hb1 hb2 g1 g2 hW1 hW2 hs1;obtain⟨rule,bi,tr⟩:=i;simp only[jV.cells,bH.cells,aB.val] at HK HN HW UH hbl ⊢;have HC:Hid (∀W,Below W2.heap.size W2 W->W.cell? ⟨w.heap.size+1,0,none⟩=some (.int .i64 rule)/\W.cell? ⟨w.heap.size+1,1,none⟩=some (.slice y.b.a bi.length y.b.cap)/\Below w.heap.size w W/\W.heap[w.heap.size]?=some (.cells #[.slice x.slots.a s.slots.length x.slots.cap,.slice x.ah.a s.ah.length x.ah.cap,.slice x.people.a s.people.length x.people.cap,.slice x.groups.a s.groups.length x.groups.cap,.slice x.lessons.a s.lessons.length x.lessons.cap] 28 (0,0))):=Lh (fun W hb=>by
  have h2:=(hb.block _ (gS HK.out.2.2).1).trans HK.out.2.2;have h1:=(hb.block _ (gS HK.out.2.1).1).trans HK.out.2.1;exact⟨cH h2 rfl,cH h2 rfl,HK.out.1.trans (hb.mono HK.out.1.size),h1⟩)
 obtain⟨c0,c1,_⟩:=HC.out W2 (Below.refl _ _);go_enter Tryz.func43,Tryz.ntmps43;go_upto_region 1 with fail
 rw[<-HW.out.1,<-HW.out.2];by_cases a1:rule<0
 ·have jT:Hid (R=([],1)):=Lh (O1.out.trans (xC (.inl a1)));go_wp2_with fail;go_quiet (fail);go_wp2_with fail;go_ret2;exact nG.nil jT.out (oK HK.out.1 _)
 ·have a1':decide (rule<0)=false:=by simpa using a1
  obtain⟨k,rfl⟩:∃k:Nat,rule=(k:Int):=⟨rule.toNat,by omega⟩;by_cases a2:l.length<=k
  ·have jT:Hid (R=([],1)):=Lh (O1.out.trans (xC (.inr (by simpa using a2))));have R6:(l.length:Int)<=(k:Int):=by omega
   clear a1 a2;go_wp2_with fail;go_quiet (fail);go_wp2_with fail;go_ret2;exact nG.nil jT.out (oK HK.out.1 _)
  ·have hk:k<l.length:=by omega
   have R6:decide ((l.length:Int)<=(k:Int))=false:=by simp;omega
   have i1:(0:Int)<=(k:Int):=by omega
   have i2:(k:Int)<(l.length:Int):=by omega
   obtain⟨ye,hye,tQ⟩:=HZ.out.Bp k hk;obtain⟨hza,hzb⟩:=HZ.out.at_ (by rw[List.length_map];omega);have Im:=Lh (fun(W:World) (hb:Below w.heap.size w W)=>hye.each.later hb hb.size);have Ou:=Lh (fun(W:World) (hb:Below w.heap.size w W)=>(tQ.agree (af hb) hzb));have Mq:=O1.out.trans (IK (i:=⟨(k:Int),bi⟩) (k:=k) rfl hk);have NJ:=hel l[k] (List.getElem_mem hk);clear hye tQ hzb O1 hel;rw[hza];clear hza;generalize l[k]=re at Im Ou Mq NJ;obtain⟨name,hard,weight,each,⟨kind,fname,n,terms,binds,fl⟩⟩:=re;obtain⟨wL,l9⟩:=ye;simp only[kX.cells,aA.cells,aB.val,ag.kind,ag.name,ag.n,ag.terms,ag.binds,ag.l] at Im Ou Mq NJ;obtain⟨_,_,_,e3,_,_,_,_,_,_⟩:=(Ou.out W2 HK.out.1).ten;clear Ou;by_cases a3:bi.length=each.length;rotate_left
   ·have jT:Hid (R=([],1)):=Lh (by rw[Mq,if_pos a3]);have a3':((bi.length:Int)==(each.length:Int))=false:=by simp;omega
    have R7:((bi.length:Int) !=(each.length:Int))=true:=by simp;omega
    clear a1 a2 a3 Mq;go_wp2_with fail;go_quiet (fail);go_wp2_with fail;go_ret2;exact nG.nil jT.out (oK HK.out.1 _)
   have HR:Hid (R=match iv s each bi with|some ns=>(ns,0)|none=>([],1)):=Lh (by rw[Mq,if_neg (by simpa using a3)]);have HL:=Lh a3;have a3':((bi.length:Int)==(each.length:Int))=true:=by simp;omega
   have R7:((bi.length:Int) !=(each.length:Int))=false:=by simp;omega
   have Uf:=Lh (Im.out W2 HK.out.1);clear a1 a2 a3 Mq;go_wp2_with fail;go_quiet (fail);obtain⟨Wd,hWd⟩:∃Wd,Wd=W2.drewN nq:=⟨_,rfl⟩;have hbd:Below w.heap.size w Wd:=by rw[hWd];exact oK HK.out.1 _
   have Lj:Below W2.heap.size W2 Wd:=by rw[hWd];exact oK (Below.refl _ _) _
   have hsz2:W2.heap.size=w.heap.size+2:=by rw[HW.out.2,HW.out.1];simp
   have c0':Wd.cell? ⟨w.heap.size+1,0,none⟩=some (.int .i64 (k:Int)):=(HC.out Wd Lj).1;have e3':Wd.cell? ⟨z.b,z.o+k*10+3,none⟩=some (.slice wL.a each.length wL.cap):=by rw[hWd];exact e3
   have Pv:=Lh (aI hbd (aI Lj hsz2));have Io:=Lh (fun(j:Nat) (hb:j<each.length) (hq:j<bi.length) (h:cK s each[j].sort bi[j]=[])=>(show R=([],1) by rw[HR.out,rf s each bi j hb hq h]));have TI:=Lh (fun(h:∀(j:Nat) (hb:j<each.length) (hq:j<bi.length),cK s each[j].sort bi[j]≠[])=>(show R=(gU s each bi each.length,0) by rw[HR.out,uz s each bi HL.out h]));obtain⟨i0,hi,hz0,hz1,hz2⟩:=info_parts lU;rw[<-hWd];clear c0 c1 e3 hWd hbd Lj HR a3' R7 R6 i1 i2;have i1:(0:Int)<=(k:Int):=by omega
   have i2:(k:Int)<(l.length:Int):=by omega
   go_wp2_with fail;clear c0' e3' i1 i2;have hdk:decide (l.length<=k)=false:=decide_eq_false (by omega);simp only[hdk];clear hdk;go_loopw [8,42] (fun v i wr=>∃j:Nat,j<=each.length/\i=.int .i64 j/\Hid (Below W2.heap.size W2 wr)/\Hid (dK wr (w.heap.size+2) (fun _=>False) 9 1 v ((gU s each bi j).map aO))/\Hid (∀(j':Nat) (hb:j'<each.length) (hq:j'<bi.length),j'<j->cK s each[j'].sort bi[j']≠[])) (fun _ i _=>each.length-(intOf i).toNat)
   case atStart=>exact⟨0,Nat.zero_le _,rfl,Lh Pv.out.2.1,Lh (dK.nil _ _ _ _ _ (fun _ h=>h.elim)),Lh (fun _ _ _ h=>by omega)⟩
   case round=>
    obtain⟨j,hj,rfl,HB,HO,RO⟩:=hrel;obtain⟨q0,q1,hbw,hsc⟩:=HC.out wr HB.out;obtain⟨oa,fM,ho⟩:=HO.out.form;subst ho;have hlen:((gU s each bi j).map aO).length=j:=by rw[List.length_map,pX HL.out hj]
    rw[hlen] at HO ⊢;have jQ:=Lh hlen;clear hlen;by_cases hlt:j<each.length
    ·have hq:j<bi.length:=by rw[HL.out];exact hlt
     obtain⟨g1,_,_,g4,_⟩:=Uf.out.flat aH.bZ;obtain⟨hxa,hbl⟩:=g1 (by omega);obtain⟨b0,b1⟩:=g4.two j hlt rfl;have b0:=(HB.out.cell (p:=⟨wL.b,wL.o+j*2,none⟩) hbl).trans b0;have b1:=(HB.out.cell (p:=⟨wL.b,wL.o+j*2+1,none⟩) hbl).trans b1;obtain⟨z1,_,_,_,z5⟩:=(HY.out wr hbw).ints;obtain⟨hya,hyb⟩:=z1 (by omega);have z0:=z5 j hq;obtain⟨W3,hW3⟩:∃W3,W3=wr.alloc (.cells #[.string ⟨each[j].name.toArray⟩,.int .i64 each[j].sort] 94):=⟨_,rfl⟩;have hb3:Below wr.heap.size wr W3:=by rw[hW3];exact(Below.refl _ _).alloc (Nat.le_refl _) _
     have dZ:=Lh (fun(W:World) (hW:Below W3.heap.size W3 W)=>HN.out each[j].sort bi[j] W ((hbw.trans (hb3.mono hbw.size)).trans (hW.mono (hbw.trans (hb3.mono hbw.size)).size)));have Kw:=Lh (Io.out j hlt hq);have Ei:=Lh (wu (s:=s) hlt hq);have M3:=Lh (fun(h:cK s each[j].sort bi[j]≠[]) (j':Nat) (hb':j'<each.length) (hq':j'<bi.length) (hj':j'<j+1)=>(by
      rcases Nat.lt_succ_iff_lt_or_eq.1 hj' with h'|h'
      ·exact RO.out j' hb' hq' h'
      ·subst h';exact h:cK s each[j'].sort bi[j']≠[]))
     have Ef:=Lh (PM.out each[j].sort bi[j]);have LD:=(hb3.block _ (gS hsc).1).trans hsc;have hk0:W3.heap[wr.heap.size]?=some (.cells #[.string ⟨each[j].name.toArray⟩,.int .i64 each[j].sort] 94 (0,0)):=by rw[hW3,ae,if_pos rfl]
     have k1:=(hb3.cell (p:=⟨w.heap.size+1,1,none⟩) (World.block_lt_of_cell? wr _ q1)).trans q1;have k2:=(hb3.cell (p:=⟨y.b.b,y.b.o+j,none⟩) hyb).trans z0;rw[hya] at k1;have sZ:Hid (∀W,Below W3.heap.size W3 W->W.cell? ⟨wr.heap.size,1,none⟩=some (.int .i64 each[j].sort)/\W.cell? ⟨w.heap.size+1,1,none⟩=some (.slice (some ⟨y.b.b,y.b.o,none⟩) bi.length y.b.cap)/\W.cell? ⟨y.b.b,y.b.o+j,none⟩=some (.int .i64 bi[j])/\
       W.cell? ⟨w.heap.size,0,none⟩=some (.slice x.slots.a s.slots.length x.slots.cap)/\W.cell? ⟨w.heap.size,1,none⟩=some (.slice x.ah.a s.ah.length x.ah.cap)/\W.cell? ⟨w.heap.size,2,none⟩=some (.slice x.people.a s.people.length x.people.cap)/\W.cell? ⟨w.heap.size,3,none⟩=some (.slice x.groups.a s.groups.length x.groups.cap)/\W.cell? ⟨w.heap.size,4,none⟩=some (.slice x.lessons.a s.lessons.length x.lessons.cap)):=Lh (fun W hW=>by
      have k:=(hW.block _ (gS LD).1).trans LD;have k':=(hW.block _ (gS hk0).1).trans hk0;exact⟨cH k' rfl,(hW.cell (World.block_lt_of_cell? W3 _ k1)).trans k1,(hW.cell (World.block_lt_of_cell? W3 _ k2)).trans k2,cH k rfl,cH k rfl,cH k rfl,cH k rfl,cH k rfl⟩)
     clear hk0 k1 k2;have HW3:=Lh hW3;have HB3:=Lh (aI (HB.out.trans (hb3.mono HB.out.size)) (aI (hbw.trans (hb3.mono hbw.size)) (HO.out.below hb3)));rw[hxa];generalize cK s each[j].sort bi[j]=nm at dZ Kw Ei M3 Ef;generalize each[j]=bd at dZ b0 b1 sZ HW3;obtain⟨bn,bs⟩:=bd;simp only at dZ b0 b1 sZ HW3;clear hsc LD hbw hya hyb z0 z1 z5 g1 g4 hxa hbl hW3 hb3 q0 q1;have j1:(j:Int)<(bi.length:Int):=by omega
     go_wp2_with fail;rw[<-HW3.out];refine eU 9 (S:=fun W=>Below W3.heap.size W3 W) (by kernel_rfl) (Below.refl _ _).drew (fun hHeld=>?_);refine dA (i:=0) rfl hHeld sZ ?_;refine dA (i:=1) rfl hHeld sZ ?_;refine dA (i:=2) rfl hHeld sZ ?_;refine dA (i:=3) rfl hHeld sZ ?_;refine dA (i:=4) rfl hHeld sZ ?_;refine dA (i:=5) rfl hHeld sZ ?_;refine dA (i:=6) rfl hHeld sZ ?_;refine dA (i:=7) rfl hHeld sZ ?_;refine dE (rs:=[8]) (by kernel_rfl) (by simp) ?_;refine jE rfl (fun K hK=>?_) gV;go_simp;refine(dZ.out _ hHeld).mono ?_;rintro e w4 ⟨rfl,hb⟩;have wM:=Lh hb;clear hb;go_simp;refine hK.out _ _ (Below.trans hHeld (Below.mono wM.out (Below.size hHeld))) fun hHeld=>?_;clear hK K
     try simp only[Act.put,sO,sP,sQ]
     refine dE (rs:=[9]) (by kernel_rfl) (by simp) ?_;refine ko rfl (by kernel_rfl) (fun K hK=>?_) gV;go_simp;refine hK.out _ _ ?_;clear hK K
     try simp only[Act.put,sO,sP,sQ]
     refine kv (by kernel_rfl) ?_ _;have TW:=Lh (HB3.out.2.2.below hHeld);have wN:=Lh (aI (HB3.out.1.trans (hHeld.mono HB3.out.1.size)) (HB3.out.2.1.trans (hHeld.mono HB3.out.2.1.size)));clear hHeld b0 b1 dZ sZ;rcases nm with _|⟨nc,nr⟩
     ·have jT:=Lh (Kw.out rfl);go_wp2_with fail;go_ret2;exact nG.nil jT.out wN.out.2
     ·have PN:=Lh (M3.out (by simp));go_wp2_with (at_builtin;go_must (refine aL (B:=w4.heap.size) rfl rfl _ _ 47 rfl 9 i0 _ 1 16 Tryz.underlying47 hi hz0 hz1 hz2 rfl (by decide) (.slice oa j fM) ((gU s each bi j).map aO) (aO (nc::nr)) [.string ⟨(nc::nr).toArray⟩] 9 rfl rfl TW.out (jJ (by have:=Ef.out;unfold maxLen;omega)) (by have:=wN.out.1.size;have:=Pv.out.2.2;omega) rfl (by rw[jQ.out];unfold maxLen;omega) (by rw[jQ.out];omega) ?_);intro ao cap w5 hon hb5;rw[jQ.out] at hon ⊢;have jS:=Lh (aI hon (wN.out.1.trans (hb5.mono (Nat.le_of_eq Pv.out.2.2))));clear hon hb5);refine⟨⟨j+1,by omega,by go_num,Lh jS.out.2,Lh ?_,PN⟩,by simp[intOf];omega⟩;rw[Ei.out,List.map_append];exact jS.out.1
    ·have hjl:j=each.length:=by omega
     subst hjl;have jT:=Lh (TI.out (fun j' hb hq=>RO.out j' hb hq hb));have zg:=Lh hbw;clear q0 q1 hsc hbw;go_wp2_with fail;go_ret2;refine⟨_,by rw[jT.out];rfl,?_,zg.out⟩;rw[jT.out];obtain⟨x0,hx0,hx1⟩:=HO.out.onto.sl (by rw[bC aZ,List.length_map]);exact⟨x0,by rw[pX HL.out (Nat.le_refl _)];rw[jQ.out] at hx0;exact hx0,hx1⟩
end Go.Proofs.YtncnnbmeacpboaaGreatDoor
namespace Go.aa
open Go.RowKit
variable {s:ax} {b:List aH} {q:List Int} {j k lo B sz g MB:Nat} {l:List aV} {i:Ins} {w W w':World} {f:ag} {v:Value} {F G:Nat->Prop} {e:TypeId} {xs:List D} {α:Type} {L:Int->List Bs} {t:List (Int×Value)} {rw:Int->Option Nat} {X:List Ins}
def Fr(lo:Nat)(w:World)(k:Nat):Prop:=lo<=k/\k<w.heap.size
theorem aJ.all{x:aA}(h:aJ w (Fr lo w) f x):aJ w (·<w.heap.size) f x:=h.mono (fun _ hk=>hk.2)
end Go.aa
namespace Go.Proofs.YtncnnbmeacpboaaGreatDoor
open Go.RowKit Go.aa
variable {s:ax} {b:List aH} {q:List Int} {j k lo B sz g MB:Nat} {l:List aV} {i:Ins} {w W w':World} {f:ag} {v:Value} {F G:Nat->Prop} {e:TypeId} {xs:List D} {α:Type} {L:Int->List Bs} {t:List (Int×Value)} {rw:Int->Option Nat} {X:List Ins}
theorem R5.below{W':World}{b:Nat}{t:TypeId}(h:W.heap[b]?=some (.cells #[v] t (0,0)))(hb:Below W.heap.size W W'):W'.heap[b]?=some (.cells #[v] t (0,0)):=(hb.block _ (gS h).1).trans h
end Go.Proofs.YtncnnbmeacpboaaGreatDoor
namespace Go.aa
open Go.RowKit
variable {s:ax} {b:List aH} {q:List Int} {j k lo B sz g MB:Nat} {l:List aV} {i:Ins} {w W w':World} {f:ag} {v:Value} {F G:Nat->Prop} {e:TypeId} {xs:List D} {α:Type} {L:Int->List Bs} {t:List (Int×Value)} {rw:Int->Option Nat} {X:List Ins}
def Nw(B:Nat)(w w':World)(k:Nat):Prop:=(k<B∨w.heap.size<=k)/\k<w'.heap.size
def Gw(W:World)(H:Nat)(c0 c1 c2 c3 c4 c5:Value):World:=(((((W.setCell ⟨H,0,none⟩ c0).setCell ⟨H,1,none⟩ c1).setCell ⟨H,2,none⟩ c2).setCell ⟨H,3,none⟩ c3).setCell ⟨H,4,none⟩ c4).setCell ⟨H,5,none⟩ c5
theorem Gx(W:World)(H:Nat)(c0 c1 c2 c3 c4 c5:Value):Mod (fun k=>k=H) W (Gw W H c0 c1 c2 c3 c4 c5):=
 ((((((Mod.refl (fun k=>k=H) W).setCell (p:=⟨H,0,none⟩) (fun _=>rfl) c0).setCell (p:=⟨H,1,none⟩) (fun _=>rfl) c1).setCell (p:=⟨H,2,none⟩) (fun _=>rfl) c2).setCell (p:=⟨H,3,none⟩) (fun _=>rfl) c3).setCell (p:=⟨H,4,none⟩) (fun _=>rfl) c4).setCell (p:=⟨H,5,none⟩) (fun _=>rfl) c5
theorem zV{l:List ag}(hj:j<l.length):∀g∈aN l[j],g∈df l:=by
 induction l generalizing j with
 |nil=>simp at hj
 |cons x r ih=>
  intro g hg;rw[df,List.mem_append];cases j with
  |zero=>exact .inl hg
  |succ j=>exact .inr (ih (by simpa using hj) g hg)
end Go.aa
namespace Go.Proofs.YtncnnbmeacpboaaGreatDoor
open Go.RowKit Go.aa
variable {s:ax} {b:List aH} {q:List Int} {j k lo B sz g MB:Nat} {l:List aV} {i:Ins} {w W w':World} {f:ag} {v:Value} {F G:Nat->Prop} {e:TypeId} {xs:List D} {α:Type} {L:Int->List Bs} {t:List (Int×Value)} {rw:Int->Option Nat} {X:List Ins}
def J9(B:Nat)(w:World)(r:ag)(e:Ending)(w':World):Prop:=∃u:aA,e=.returned (ja (r,u))/\aJ w' (Nw B w w') r u/\Below w.heap.size w w'
theorem J9.of{r:ag}{e:Ending}{u:aA}(h1:e=.returned (ja (r,u)))(h2:aJ w' (Nw B w w') r u/\Below w.heap.size w w'):J9 B w r e w':=⟨u,h1,h2⟩
theorem C8{H:Nat}{c0 c1 c2 c3 c4 c5 z0 z1 z2 z3 z4 z5:Value}{T:TypeId}{fz:Nat×Nat}(h:W.heap[H]?=some (.cells #[z0,z1,z2,z3,z4,z5] T fz)):(Gw W H c0 c1 c2 c3 c4 c5).heap[H]?=some (.cells #[c0,c1,c2,c3,c4,c5] T fz):=by
 unfold Gw;exact aC c5 (aC c4 (aC c3 (aC c2 (aC c1 (aC c0 h)))))
theorem Jw(W:World)(H:Nat)(c0 c1 c2 c3 c4 c5:Value):(((((W.setCell ⟨H,0,none⟩ c0).setCell ⟨H,1,none⟩ c1).setCell ⟨H,2,none⟩ c2).setCell ⟨H,3,none⟩ c3).setCell ⟨H,4,none⟩ c4).setCell ⟨H,5,none⟩ c5=Gw W H c0 c1 c2 c3 c4 c5:=rfl
theorem iV.part{kind:Int}{name:Bs}{n:Int}{terms:List bV}{binds:List aH}{l:List ag}(h:iV (.mk kind name n terms binds l)){j:Nat}(hj:j<l.length):iV l[j]:=
 ⟨by have:=h.size;have:=bQ l j hj;rw[ag.size] at*;omega,fun g hg=>h.nodes g (by rw[aN];exact List.mem_cons_of_mem _ (zV hj g hg))⟩
end Go.Proofs.YtncnnbmeacpboaaGreatDoor
namespace Go.aa
open Go.RowKit
variable {s:ax} {b:List aH} {q:List Int} {j k lo B sz g MB:Nat} {l:List aV} {i:Ins} {w W w':World} {f:ag} {v:Value} {F G:Nat->Prop} {e:TypeId} {xs:List D} {α:Type} {L:Int->List Bs} {t:List (Int×Value)} {rw:Int->Option Nat} {X:List Ins}
structure eG (w:World) (F:Nat->Prop) (sz:Nat) (e:TypeId) (xs:List D) (g:Nat):Prop where
 obj:∃cur,w.heap[g]?=some (.cells cur e (0,0))
 off:¬F g
 lt:∀k,F k->k<w.heap.size
 row:bq w F xs g 0
 wd:∀d∈xs,d.width=sz
theorem eG.Gr{r:Option Nat}(h:Own w F e sz v r xs)(hw:∀d∈xs,d.width=sz):
  ∃a cap,v=.slice a xs.length cap/\xs.length<=cap/\cap<=maxLen/\∃g,(0<xs.length->a=some ⟨g,0,none⟩/\r=some g/\eG w F sz e xs g):=by
 obtain⟨cs,h1,h2⟩:=h.cells;have h1':=h1;obtain⟨hlen,h1⟩:=h1;rcases h1 with⟨rfl,hn⟩|⟨g,cap,cur,rfl,_,hh,hc1,hc2,hc3,hc4⟩
 ·exact⟨none,0,by rw[hn],by omega,Nat.zero_le _,0,fun h=>by omega⟩
 ·have hr:r=some g:=h.row▸rfl;refine⟨_,cap,rfl,hc1,hc2,g,fun _=>⟨rfl,hr,⟨cur,hh⟩,h.off g hr,h.lt,bq.mk h2 (fun j hj=>?_),hw⟩⟩;have:=h1'.cellAt (g:=g) (cap:=cap) j (by rw[<-hlen];exact hj);simp only[Nat.zero_add];rw[this];simp[hj]
theorem eG.bound(h:eG w F sz e xs g):g<w.heap.size:=by
 obtain⟨cur,hc⟩:=h.obj;exact(gS hc).1
theorem eG.kept{S:Nat->Prop}(h:eG w F sz e xs g)(hm:Mod S w w')(hg:¬S g)(hF:∀k,F k->¬S k):eG w' F sz e xs g:=by
 obtain⟨cur,hc⟩:=h.obj;have hgl:=h.bound;refine⟨⟨cur,ai hc hm hg⟩,h.off,fun k hk=>Nat.lt_of_lt_of_le (h.lt k hk) hm.size,row_of (sz:=sz) _ _ (fun i x hx=>?_),h.wd⟩;obtain⟨hi,rfl⟩:=List.getElem?_eq_some_iff.1 hx;obtain⟨cs,g1,g2⟩:=h.row.get h.wd i hi;exact⟨h.wd _ (List.getElem_mem hi),cs,aM.agree (hm.agree (fun k hk=>⟨h.lt k hk,hF k hk⟩)) _ _ g1,fun j hj=>(bA (F:=fun k=>k=g) (fun k hk=>hk▸hm.block g hgl hg) (a:=⟨g,_,none⟩) rfl).trans (g2 j hj)⟩
theorem eG.later(h:eG w F sz e xs g)(hb:Below w.heap.size w w'):eG w' F sz e xs g:=h.kept (Mod.of_below (S:=fun _=>False) hb) id (fun _ _ h=>h)
theorem eG.widen(h:eG w F sz e xs g)(lh:∀k,F k->G k)(hg:¬G g)(hlt:∀k,G k->k<w.heap.size):eG w G sz e xs g:=⟨h.obj,hg,hlt,bq.mono lh _ _ _ h.row,h.wd⟩
theorem eG.Jz{d:D}{cs:List Value}(h:eG w F sz e xs g)(hM:Mod (fun k=>k=g) w w')(vV:∃cur,w'.heap[g]?=some (.cells cur e (0,0)))(hout:∀o,(o<j*sz∨(j+1)*sz<=o)->w'.cell? ⟨g,o,none⟩=w.cell? ⟨g,o,none⟩)(hin:av w' g (j*sz) cs)(hd:aM w F d cs)(hw:d.width=sz):eG w' F sz e (xs.set j d) g:=by
 have ha:Agree F w w':=hM.agree (fun k hk=>⟨h.lt k hk,fun e=>h.off (e▸hk)⟩);refine⟨vV,h.off,fun k hk=>Nat.lt_of_lt_of_le (h.lt k hk) hM.size,row_of (sz:=sz) _ _ (fun i x hx=>?_),fun x hx=>?_⟩
 ·rw[List.getElem?_set] at hx;by_cases hij:j=i
  ·subst hij;rw[if_pos rfl] at hx;split at hx
   ·obtain rfl:=Option.some.inj hx;exact⟨hw,cs,aM.agree ha _ _ hd,by rw[Nat.zero_add];exact hin⟩
   ·cases hx
  ·rw[if_neg hij] at hx;obtain⟨hi,rfl⟩:=List.getElem?_eq_some_iff.1 hx;obtain⟨cs',g1,g2⟩:=h.row.get h.wd i hi;have hl:cs'.length=sz:=(aM.length _ _ g1).trans (h.wd _ (List.getElem_mem hi));refine⟨h.wd _ (List.getElem_mem hi),cs',aM.agree ha _ _ g1,fun q hq=>(hout _ ?_).trans (g2 q hq)⟩;rcases Nat.lt_or_gt_of_ne hij with h1|h1
   ·right;have:(j+1)*sz<=i*sz:=Nat.mul_le_mul_right _ h1;omega
   ·left;have:(i+1)*sz<=j*sz:=Nat.mul_le_mul_right _ h1;rw[Nat.add_mul] at this;omega
 ·rcases List.mem_or_eq_of_mem_set hx with h1|h1
  ·exact h.wd x h1
  ·rw[h1];exact hw
theorem eG.sl{cap:Nat}(h:eG w F sz e xs g)(lh:∀k,F k->G k)(hg:G g)(h1:xs.length<=cap)(h2:cap<=maxLen):ak w G xs ⟨some ⟨g,0,none⟩,g,0,cap⟩:=
 ⟨fun _=>⟨rfl,hg⟩,h1,h2,bq.mono lh _ _ _ h.row⟩
def upd{α:Type}(f:α->α)(l:List α)(j:Nat):List α:=(l.take j).map f++l.drop j
theorem kP(f:α->α)(l:List α)(j:Nat):(upd f l j).length=l.length:=by unfold upd;simp;omega
theorem yU(f:α->α)(l:List α):upd f l 0=l:=by simp[upd]
theorem Bw(f:α->α)(l:List α):upd f l l.length=l.map f:=by simp[upd]
theorem qI(f:α->α)(l:List α)(j:Nat)(h:j<l.length):(upd f l j)[j]'(by rw[kP];exact h)=l[j]:=by
 unfold upd;rw[List.getElem_append_right (by simp;omega)];simp[Nat.min_eq_left (Nat.le_of_lt h)]
theorem sS(f:α->α)(l:List α)(j:Nat)(h:j<l.length):upd f l (j+1)=(upd f l j).set j (f l[j]):=by
 unfold upd;have hl:((l.take j).map f).length=j:=by rw[List.length_map,List.length_take,Nat.min_eq_left (Nat.le_of_lt h)]
 rw[List.take_succ_eq_append_getElem h,List.map_append,List.append_assoc,List.set_append_right j (f l[j]) (Nat.le_of_eq hl),hl,Nat.sub_self,List.drop_eq_getElem_cons h];rfl
theorem map_set{α β:Type}(f:α->β)(l:List α)(j:Nat)(x:α):(l.set j x).map f=(l.map f).set j (f x):=List.map_set
theorem ag.bz:∀l:List ag,aa.bz (l.map ag.toD)=l.length*6
 |[]=>rfl
 |f::r=>by simp only[List.map_cons,aa.bz,ag.width,List.length_cons];rw[ag.bz r];omega
theorem K3(l:List ag):∀d∈l.map ag.toD,d.width=6:=fun d hd=>by obtain⟨t,_,rfl⟩:=List.mem_map.1 hd;exact t.width
theorem LV(l:List bV):∀d∈l.map bV.toD,d.width=3:=fun d hd=>by obtain⟨t,_,rfl⟩:=List.mem_map.1 hd;rfl
theorem eG.U5{l:List bV}{nm:Bs}(h:eG w F 3 e (l.map bV.toD) g)(hj:j<l.length)(hn:nm.length<=maxLen):
  eG (w.setCell ⟨g,j*3+1,none⟩ (.string ⟨nm.toArray⟩)) F 3 e ((l.set j ⟨l[j].kind,nm,l[j].n⟩).map bV.toD) g:=by
 obtain⟨cur,hc⟩:=h.obj;obtain⟨cs,g1,g2⟩:=h.row.get h.wd j (by simpa using hj);rw[List.getElem_map,aM.flat _ _ (bV.bZ.flat _)] at g1;obtain⟨rfl,f1,_,f3,_⟩:=g1;rw[Nat.zero_add] at g2;obtain⟨c0,c1,c2⟩:=av.three g2;rw[map_set];refine h.Jz ((Mod.refl (fun k=>k=g) _).setCell (p:=⟨g,j*3+1,none⟩) (fun _=>rfl) _) ⟨_,aC _ hc⟩ (fun o ho=>World.cell?_setCell_other _ _ _ _ (by intro e;injection e with _ e _;omega)) (cs:=[.int .i64 l[j].kind,.string ⟨nm.toArray⟩,.int .i64 l[j].n]) ?_ ?_ rfl
 ·have k0:(w.setCell ⟨g,j*3+1,none⟩ (.string ⟨nm.toArray⟩)).cell? ⟨g,j*3,none⟩=some (.int .i64 l[j].kind):=(World.cell?_setCell_other _ _ _ _ (by intro e;injection e with _ e _;omega)).trans c0;have k1:(w.setCell ⟨g,j*3+1,none⟩ (.string ⟨nm.toArray⟩)).cell? ⟨g,j*3+1,none⟩=some (.string ⟨nm.toArray⟩):=World.cell?_setCell_same _ _ _ c1;have k2:(w.setCell ⟨g,j*3+1,none⟩ (.string ⟨nm.toArray⟩)).cell? ⟨g,j*3+2,none⟩=some (.int .i64 l[j].n):=(World.cell?_setCell_other _ _ _ _ (by intro e;injection e with _ e _;omega)).trans c2;intro q hq
  match q,hq with
  |0,_=>exact k0
  |1,_=>exact k1
  |2,_=>exact k2
 ·exact(aM.flat _ _ (bV.bZ.flat _)).2 ⟨rfl,f1,by show(⟨nm.toArray⟩:ByteArray).size<=maxLen;rw[aS];exact hn,f3,trivial⟩
theorem set_self{f:α->α}{l:List α}(h:j<l.length):(upd f l j).set j l[j]=upd f l j:=by
 have:=qI f l j h;rw[<-this];exact List.set_getElem_self _
theorem eG.LU{f:bV->bV}{l:List bV}(h:eG w F 3 e ((upd f l j).map bV.toD) g)(hj:j<l.length):
  w.cell? ⟨g,j*3,none⟩=some (.int .i64 l[j].kind)/\w.cell? ⟨g,j*3+1,none⟩=some (.string ⟨l[j].name.toArray⟩)/\w.cell? ⟨g,j*3+2,none⟩=some (.int .i64 l[j].n)/\∀o,w.frozen? ⟨g,o,none⟩=false:=by
 obtain⟨cs,g1,g2⟩:=h.row.get h.wd j (by simpa[kP] using hj);have e:((upd f l j).map bV.toD)[j]'(by simpa[kP] using hj)=(l[j]).toD:=by rw[List.getElem_map,qI _ _ _ hj]
 rw[e,aM.flat _ _ (bV.bZ.flat _)] at g1;obtain⟨rfl,_⟩:=g1;rw[Nat.zero_add] at g2;obtain⟨c0,c1,c2⟩:=av.three g2;obtain⟨cur,hc⟩:=h.obj;exact⟨c0,c1,c2,fun o=>fH hc⟩
theorem eG.KZ{f:ag->ag}{l:List ag}(h:eG w F 6 e ((upd f l j).map ag.toD) g)(hj:j<l.length):
  ∃y:aA,aJ w F l[j] y/\av w g (j*6) (y.cells l[j])/\∀o,w.frozen? ⟨g,o,none⟩=false:=by
 obtain⟨cs,g1,g2⟩:=h.row.get h.wd j (by simpa[kP] using hj);have e:((upd f l j).map ag.toD)[j]'(by simpa[kP] using hj)=(l[j]).toD:=by rw[List.getElem_map,qI _ _ _ hj]
 rw[e] at g1;obtain⟨y,rfl,hy⟩:=aJ.iff.1 g1;rw[Nat.zero_add] at g2;obtain⟨cur,hc⟩:=h.obj;exact⟨y,hy,g2,fun o=>fH hc⟩
theorem eG.Cm{l:List ag}{y:aA}(h:eG w F 6 e (l.map ag.toD) g)(hj:j<l.length)(hf:aJ w F f y){w':World}(hM:Mod (fun k=>k=g) w w')(vV:∃cur,w'.heap[g]?=some (.cells cur e (0,0)))(hout:∀o,(o<j*6∨(j+1)*6<=o)->w'.cell? ⟨g,o,none⟩=w.cell? ⟨g,o,none⟩)(hin:av w' g (j*6) (y.cells f)):eG w' F 6 e ((l.set j f).map ag.toD) g:=by
 rw[map_set];exact h.Jz hM vV hout hin (aJ.iff.2 ⟨y,rfl,hf⟩) f.width
theorem yT{m:List (Bs×Bs)}(h:(m.map Prod.fst).Nodup)(k:Bs):ic m k=uO m k:=by
 unfold ic uO
 induction m with
 |nil=>rfl
 |cons p r ih=>
  rw[List.map_cons,List.nodup_cons] at h;rw[List.find?_cons,List.reverse_cons,List.find?_append];by_cases hp:p.1=k
  ·have hb:(p.1==k)=true:=by simpa using hp
   have hr:r.reverse.find? (fun q=>q.1==k)=none:=by
    rw[List.find?_eq_none];intro q hq hk;exact h.1 (List.mem_map.2 ⟨q,List.mem_reverse.1 hq,by rw[hp];simpa using hk⟩)
   rw[hb,hr];simp[hb]
  ·have hb:(p.1==k)=false:=by simpa using hp
   rw[hb];have:=ih h.2;simp only[List.find?_cons,hb,List.find?_nil,Option.or_none];exact this
end Go.aa
namespace Go.Proofs.YtncnnbmeacpboaaGreatDoor
open Go.RowKit Go.aa
attribute [local go_sem] Oper.semAt_some
variable {s:ax} {b:List aH} {q:List Int} {j k lo B sz g MB:Nat} {l:List aV} {i:Ins} {w W w':World} {f:ag} {v:Value} {F G:Nat->Prop} {e:TypeId} {xs:List D} {α:Type} {L:Int->List Bs} {t:List (Int×Value)} {rw:Int->Option Nat} {X:List Ins}
theorem FU:(Tryz.prog.info? 64).map (fun i=>(i.zero,i.size,i.bytes))=some (some (.agg #[.int .i64 0,.string ByteArray.empty,.int .i64 0,.slice none 0 0,.slice none 0 0,.slice none 0 0]),6,104):=by kernel_rfl
theorem BZ(l:List ag)(x:aB)(w:World)(F:Nat->Prop)(hlt:∀k,F k->k<w.heap.size)(hx:ak w F (l.map ag.toD) x)(hmax:l.length<=2000000):
  Calls Tryz.prog 46 #[x.val l.length] w fun e w'=>∃v r,e=.returned v/\aa.Own w' F 64 6 v r (l.map ag.toD)/\(∀k,r=some k->w.heap.size<=k)/\Below w.heap.size w w':=by
 obtain⟨i0,hi,hz0,hz1,hz2⟩:=info_parts FU;have hq:=fun(w:World) (a:Option Addr) (n c:Nat)=>Lib.run_eql_slice_nil (P:=Tryz.prog) w 62 64 a n c 0 0 Tryz.underlying62;have hlen:(l.map ag.toD).length=l.length:=by simp
 by_cases hn:x.a=none
 ·have hl:l=[]:=by
   cases l with
   |nil=>rfl
   |cons y r=>have:=(hx.at_ (by simp)).1;rw[hn] at this;cases this
  subst hl;obtain⟨a,b,o,cap⟩:=x;simp only at hn;subst hn;clear hx hi hz0 hz1 hz2;go_enter Tryz.func46,Tryz.ntmps46;go_wp2_with fail;go_ret;exact⟨_,none,rfl,aa.Own.nil _ _ _ _ hlt,fun _ h=>(by cases h),Below.refl _ _⟩
 ·obtain⟨a,b,o,cap⟩:=x;obtain⟨ad,rfl⟩:∃ad,a=some ad:=Option.ne_none_iff_exists'.1 hn;have dD:Below w.heap.size w (w.alloc (.cells #[] 64)):=(Below.refl _ _).alloc (Nat.le_refl _) _;have hsrc:ak (w.alloc (.cells #[] 64)) F (l.map ag.toD) ⟨some ad,b,o,cap⟩:=hx.agree ((af dD).mono hlt);have hown:aa.Own (w.alloc (.cells #[] 64)) F 64 6 (.slice (some ⟨w.heap.size,0,none⟩) 0 0) (some w.heap.size) []:=aa.Own.lit (w:=w) (n:=0) (cs:=[]) rfl (by unfold maxLen;omega) rfl (by rw[au]) hlt;have HS:=Lh hsrc.d;have HO:=Lh hown;have HB:=Lh dD;rw[hlen] at HS;have HL:=Lh hlen;clear hx hsrc hown dD hn hlen hlt;go_enter Tryz.func46,Tryz.ntmps46;go_wp2_with (at_builtin;go_must (refine cz _ (by rfl) _ _ _ rfl 64 i0 _ 6 104 Tryz.underlying62 hi hz0 hz1 hz2 rfl (by omega) (.slice (some ⟨w.heap.size,0,none⟩) 0 0) (.slice (some ad) l.length cap) F (some w.heap.size) [] (l.map ag.toD) rfl rfl HO.out HS.out (by rw[ag.bz,HL.out]) (by rw[HL.out];simp;unfold maxLen;omega) (by rw[HL.out];simp;omega) ?_);intro oa fM LK w5 hown hmod hat;have HOW:=Lh hown;have HM:=Lh hmod;clear hown hmod;rw[HL.out];simp only[List.length_nil,Nat.zero_add]);go_ret;have hbb:Below w.heap.size w w5:=HB.out.trans (HM.out.below HB.out.size (fun k hk=>by simp at hk;omega));have h1:=HOW.out;rw[List.nil_append,List.length_nil,Nat.zero_add,HL.out] at h1;refine⟨_,LK,rfl,h1,fun k hk=>?_,hbb⟩;rcases hat with h|h
  ·rw[h] at hk;simp at hk;omega
  ·rw[h] at hk;simp at hk;omega
end Go.Proofs.YtncnnbmeacpboaaGreatDoor
namespace Go.aa
open Go.RowKit
variable {s:ax} {b:List aH} {q:List Int} {j k lo B sz g MB:Nat} {l:List aV} {i:Ins} {w W w':World} {f:ag} {v:Value} {F G:Nat->Prop} {e:TypeId} {xs:List D} {α:Type} {L:Int->List Bs} {t:List (Int×Value)} {rw:Int->Option Nat} {X:List Ins}
structure AQ (w:World) (e:TypeId) (MB lo:Nat) (L:Int->List Bs) (t:List (Int×Value)) (rw:Int->Option Nat):Prop where
 at_:lq w MB t
 own:∀q,Own w (fun _=>False) e 1 ((fV t q).getD (.slice none 0 0)) (rw q) ((L q).map aO)
 low:∀q k,rw q=some k->lo<=k
 ne:∀q q' k,rw q=some k->rw q'=some k->q=q'
 mb:MB<lo
theorem AQ.new(h:lq w MB [])(hlo:MB<lo):AQ w e MB lo (fun _=>[]) [] (fun _=>none):=
 ⟨h,fun q=>Own.nil _ _ _ _ (fun _ h=>h.elim),fun _ _ h=>(by cases h),fun _ _ _ h=>(by cases h),hlo⟩
theorem AQ.bound(h:AQ w e MB lo L t rw):MB<w.heap.size:=(gS h.at_).1
theorem AQ.gX{w:World}{e:TypeId}{MB lo:Nat}{L:Int->List Bs}{t:List (Int×Value)}{rw:Int->Option Nat}(h:AQ w e MB lo L t rw){q:Int}{k:Nat}(hk:rw q=some k):k<w.heap.size:=(h.own q).gX hk
theorem AQ.later(h:AQ w e MB lo L t rw)(hb:Below B w w')(hB:w.heap.size<=B):AQ w' e MB lo L t rw:=
 ⟨(hb.block MB (by have:=h.bound;omega)).trans h.at_,fun q=>(h.own q).kept (Mod.of_below (S:=fun _=>False) (hb.mono hB)) (fun _ h=>h.elim) (fun _ _ h=>h),h.low,h.ne,h.mb⟩
theorem AQ.step{w8 jU:World}(h:AQ w8 e MB lo L t rw)(hlo:lo<=w8.heap.size){q0:Int}{v':Value}{r':Option Nat}{s2:Bs}(hM:Mod (fun k=>rw q0=some k) w8 jU)(hown:Own jU (fun _=>False) e 1 v' r' ((L q0++[s2]).map aO))(hr:r'=rw q0∨∃n,r'=some n/\w8.heap.size<=n):
  AQ (jU.putObj MB (.map (fD 0 (dW t q0 v')).toArray (dW t q0 v').length)) e MB lo (fun q=>if q=q0 then L q++[s2] else L q) (dW t q0 v') (fun q=>if q=q0 then r' else rw q):=by
 have hmb:=h.bound;have hms:=hM.size;have hmo:=h.mb;have hpm:=Mod.putObj jU MB (.map (fD 0 (dW t q0 v')).toArray (dW t q0 v').length);have hlow:∀k,r'=some k->lo<=k:=fun k hk=>by
  rcases hr with h1|⟨n,h1,h2⟩
  ·exact h.low q0 k (h1▸hk)
  ·rw[h1] at hk;have:=Option.some.inj hk;omega
 refine⟨o5 (by omega),fun q=>?_,fun q k hk=>?_,fun q q' k h1 h2=>?_,h.mb⟩
 ·rw[zW];by_cases hq:q=q0
  ·subst hq;simp only[if_true,Option.getD_some];exact hown.kept hpm (fun _ h=>h.elim) (fun k hk e=>by have:=hlow k hk;omega)
  ·simp only[if_neg hq];exact((h.own q).kept hM (fun _ h=>h.elim) (fun k hk e=>hq (h.ne q q0 k hk e))).kept hpm (fun _ h=>h.elim) (fun k hk e=>by have:=h.low q k hk;omega)
 ·by_cases hq:q=q0
  ·simp only[if_pos hq] at hk;exact hlow k hk
  ·simp only[if_neg hq] at hk;exact h.low q k hk
 ·have key:∀q k,q≠q0->rw q=some k->r'=some k->False:=fun q k hq h1 h2=>by
   rcases hr with h3|⟨n,h3,h4⟩
   ·exact hq (h.ne q q0 k h1 (h3▸h2))
   ·rw[h3] at h2;have:=Option.some.inj h2;have:=h.gX h1;omega
  by_cases hq:q=q0<;>by_cases hq':q'=q0
  ·rw[hq,hq']
  ·simp only[if_pos hq,if_neg hq'] at h1 h2;exact(key q' k hq' h2 h1).elim
  ·simp only[if_neg hq,if_pos hq'] at h1 h2;exact(key q k hq h1 h2).elim
  ·simp only[if_neg hq,if_neg hq'] at h1 h2;exact h.ne q q' k h1 h2
def mY(s:ax)(l:List aV)(X:List Ins)(j:Nat)(q:Int):List Bs:=((X.take j).filter (fun i=>decide (i.rule=q))).map (fun i=>[32,32]++(iR s l i).1)
theorem Cr(s:ax)(l:List aV)(X:List Ins):mY s l X 0=fun _=>[]:=by funext q;simp[mY]
theorem Cq(h:j<X.length):mY s l X (j+1)=fun q=>if q=(X[j]).rule then mY s l X j q++[[32,32]++(iR s l X[j]).1] else mY s l X j q:=by
 funext q;unfold mY;rw[List.take_succ_eq_append_getElem h,List.filter_append,List.map_append];by_cases hq:q=(X[j]).rule
 ·rw[if_pos hq];subst hq;simp
 ·have hq':¬(X[j]).rule=q:=fun e=>hq e.symm;rw[if_neg hq];simp[hq']
theorem Fy(k:Nat)(r:aV):kE s l X k r=if mY s l X X.length k=[] then [] else gY r::mY s l X X.length k:=by
 unfold kE mY;rw[List.take_length];by_cases h:X.any (fun i=>decide (i.rule=(k:Int)))=true
 ·rw[if_pos h,if_neg];obtain⟨i,hi,hp⟩:=List.any_eq_true.1 h;intro e;have:i∈X.filter (fun i=>decide (i.rule=(k:Int))):=List.mem_filter.2 ⟨hi,hp⟩;rw[List.map_eq_nil_iff] at e;rw[e] at this;cases this
 ·rw[if_neg h,if_pos];rw[List.map_eq_nil_iff,List.filter_eq_nil_iff];intro i hi hp;exact h (List.any_eq_true.2 ⟨i,hi,hp⟩)
theorem xJ(s:ax)(l:List aV)(X:List Ins)(j:Nat)(q:Int):(mY s l X j q).length<=X.length:=by
 unfold mY;rw[List.length_map];exact Nat.le_trans (List.length_filter_le _ _) (by rw[List.length_take];omega)
theorem mg(s:ax)(l:List aV)(X:List Ins):∀(q:List aV) (r:aV) (i:Nat),dC s l X i (q++[r])=dC s l X i q++kE s l X (i+q.length) r
 |[],r,i=>by simp[dC]
 |p::q,r,i=>by
  rw[List.cons_append,dC,dC,mg s l X q r (i+1),List.append_assoc,List.length_cons,show i+1+q.length=i+(q.length+1) by omega]
theorem xn(h:k<l.length):dC s l X 0 (l.take (k+1))=dC s l X 0 (l.take k)++kE s l X k l[k]:=by
 rw[List.take_succ_eq_append_getElem h,mg,List.length_take,Nat.min_eq_left (Nat.le_of_lt h),Nat.zero_add]
theorem ji(s:ax)(l:List aV)(X:List Ins):∀(q:List aV) (i:Nat),(dC s l X i q).length<=q.length*(X.length+1)
 |[],i=>by simp[dC]
 |r::q,i=>by
  have h1:=ji s l X q (i+1);have h2:(kE s l X i r).length<=X.length+1:=by
   unfold kE;split
   ·rw[List.length_cons,List.length_map];have:=List.length_filter_le (fun x:Ins=>decide (x.rule=(i:Int))) X;omega
   ·simp
  rw[dC,List.length_append,List.length_cons,Nat.add_mul];omega
theorem yL(h:j<X.length)(hz:eF s l X=eF s l (X.drop j)):eF s l X=if(iR s l X[j]).2≠0 then(iR s l X[j]).2 else eF s l (X.drop (j+1)):=by
 rw[hz,List.drop_eq_getElem_cons h,eF]
def nI(lo:Nat)(w:World)(v:Value)(l:List Bs):Prop:=∃x:aB,v=.slice x.a l.length x.cap/\ak w (fun k=>lo<=k/\k<w.heap.size) (l.map aO) x
theorem nI.nil(lo:Nat)(w:World):nI lo w (.slice none 0 0) []:=⟨⟨none,0,0,0⟩,rfl,ak.nil (Nat.zero_le _) _ _ _⟩
end Go.aa
