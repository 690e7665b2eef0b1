/- Parts of the proof. -/
import Derived.Test.YtncnnbmeacpboaaGreatDoorQ34
import Derived.Test.YtncnnbmeacpboaaGreatDoorLIs10
import Derived.Test.YtncnnbmeacpboaaGreatDoorQ12
import Derived.Test.YtncnnbmeacpboaaGreatDoorQ06
import Derived.Test.YtncnnbmeacpboaaGreatDoorQ04
import Derived.Test.YtncnnbmeacpboaaGreatDoorProg
import Derived.Deep.RegionLaw
import Derived.BigQuiet
import Derived.Test.YtncnnbmeacpboaaGreatDoorChecked
import Derived.Shelf.Abstract
import Derived.Test.YtncnnbmeacpboaaGreatDoorLIs2
import Derived.Test.YtncnnbmeacpboaaGreatDoorLIs9
import Derived.Test.YtncnnbmeacpboaaGreatDoorLIs14
set_option maxHeartbeats 8000000
set_option maxRecDepth 100000
set_option linter.unusedVariables false
set_option linter.unusedSimpArgs false
namespace Go.aa
open Go.RowKit
def Kg(xs:List Bool):List D:=xs.map D.bool
@[simp] theorem Nf(xs:List Bool):(Kg xs).length=xs.length:=by simp[Kg]
end Go.aa
namespace Go.aa
open Go.RowKit
variable {s:aF} {b:List aD} {q:List Int} {j k lo B sz g MB s1 s2:Nat} {l:List bq} {i:Ins} {w W w':World} {f:ae} {v v1 v2:Value} {F G F1 F2:Nat->Prop} {e e1 e2:TypeId} {xs l1 l2:List D} {α:Type} {L:Int->List Bs} {t:List (Int×Value)} {rw:Int->Option Nat} {X:List Ins} {r1 r2:Option Nat}
def je(s:aF)(b:List aD)(q:List Int)(j:Nat):List Bs:=((b.zip q).take j).map (fun p=>bY s p.1.sort p.2)
theorem sP(h:q.length=b.length)(hj:j<=b.length):(je s b q j).length=j:=by simp[je,h];omega
theorem zF(hb:j<b.length)(hq:j<q.length):je s b q (j+1)=je s b q j++[bY s b[j].sort q[j]]:=by
 unfold je;have:j<(b.zip q).length:=by simp;omega
 rw[List.take_succ_eq_append_getElem this,List.map_append];simp
theorem xS:∀(s:aF) (b:List aD) (q:List Int),q.length=b.length->(∀(j:Nat) (hb:j<b.length) (hq:j<q.length),bY s b[j].sort q[j]≠[])->iQ s b q=some (je s b q b.length)
 |s,[],q,_,_=>rfl
 |s,b::r,[],h,_=>by simp at h
 |s,b::r,i::q,h,ha=>by
  rw[iQ,if_neg (show ¬bY s b.sort i=[] from ha 0 (by simp) (by simp))];rw[xS s r q (by simpa using h) (fun j hb hq=>ha (j+1) (by simp;omega) (by simp;omega))];simp[je]
theorem uS:∀(s:aF) (b:List aD) (q:List Int) (j:Nat) (hb:j<b.length) (hq:j<q.length),bY s b[j].sort q[j]=[]->iQ s b q=none
 |s,b::r,i::q,0,_,_,h=>by rw[iQ];simp only[List.getElem_cons_zero] at h;rw[if_pos h]
 |s,b::r,i::q,j+1,hb,hq,h=>by
  rw[iQ];split
  ·rfl
  ·rw[uS s r q j (by simpa using hb) (by simpa using hq) (by simpa using h)];rfl
def tV(s:aF)(l:List bq)(i:Ins):List Bs×Int:=match ze s l i with|some ns=>(ns,0)|none=>([],1)
theorem Bb(h:i.rule<0∨(l.length:Int)<=i.rule):tV s l i=([],1):=by
 unfold tV ze;by_cases h0:i.rule<0
 ·rw[if_pos h0]
 ·rw[if_neg h0,List.getElem?_eq_none (by omega)]
theorem NT(h:i.rule=k)(hk:k<l.length):tV s l i=if i.binds.length≠l[k].each.length then(([],1):List Bs×Int) else match iQ s l[k].each i.binds with|some ns=>(ns,0)|none=>([],1):=by
 unfold tV ze;rw[if_neg (by omega),h,Int.toNat_natCast,List.getElem?_eq_getElem hk];simp only;by_cases hc:i.binds.length≠l[k].each.length
 ·rw[if_pos hc,if_pos hc]
 ·rw[if_neg hc,if_neg hc]
end Go.aa
namespace Go.Proofs.YtncnnbmeacpboaaGreatDoor
open Go.RowKit Go.aa
attribute [local go_sem] Oper.semAt_some
variable {s:aF} {b:List aD} {q:List Int} {j k lo B sz g MB s1 s2:Nat} {l:List bq} {i:Ins} {w W w':World} {f:ae} {v v1 v2:Value} {F G F1 F2:Nat->Prop} {e e1 e2:TypeId} {xs l1 l2:List D} {α:Type} {L:Int->List Bs} {t:List (Int×Value)} {rw:Int->Option Nat} {X:List Ins} {r1 r2:Option Nat}
theorem oD:(Tryz.prog.info? 9).map (fun i=>(i.zero,i.size,i.bytes))=some (some (.string ByteArray.empty),1,16):=by kernel_rfl
theorem uR(hf:gQ s)(sort i:Int):(bY s sort i).length<=4000000:=by
 unfold bY;split
 ·simp
 ·cases h:(ai s sort)[i.toNat]? with
  |none=>simp
  |some x=>exact hf.names sort x (List.mem_of_getElem? h)
def ql(w:World)(r:List Bs×Int)(e:Ending)(w':World):Prop:=∃v,e=.returned (.tuple #[v,.int .i64 r.2])/\uJ w' v r.1/\Below w.heap.size w w'
theorem ql.nil{w w':World}{r:List Bs×Int}{c:Int}(h:r=([],c))(hb:Below w.heap.size w w'):ql w r (.returned (.tuple #[.slice none 0 0,.int .i64 c])) w':=by
 subst h;exact⟨_,rfl,uJ.nil _,hb⟩
theorem xm(s:aF)(x:bS)(l:List bq)(z:aK)(i:gp)(y:jL)(w:World)(hI:iL)(hs:dD w (·<w.heap.size) s x)(hf:gQ s)(hz:aj w (·<w.heap.size) (l.map bq.toD) z)(hl:l.length<=2000000)(hy:fU w (·<w.heap.size) i y)(hbl:i.binds.length<=2000000)(hel:∀r∈l,r.each.length<=2000000):
  Calls Tryz.prog 43 #[.agg (x.cells s).toArray,.slice z.a l.length z.cap,.agg (y.cells i).toArray] w (ql w (tV s l i.ins)):=by
 obtain⟨R,hR⟩:∃R,R=tV s l i.ins:=⟨_,rfl⟩;rw[<-hR];obtain⟨W1,hW1⟩:∃W1,W1=w.alloc (.cells (x.cells s).toArray 28):=⟨_,rfl⟩;obtain⟨W2,hW2⟩:∃W2,W2=W1.alloc (.cells (y.cells i).toArray 35):=⟨_,rfl⟩;have hs1:W1.heap.size=w.heap.size+1:=by rw[hW1];simp
 have hb1:Below w.heap.size w W1:=by rw[hW1];exact(Below.refl _ _).alloc (Nat.le_refl _) _
 have hb2:Below w.heap.size w W2:=by rw[hW2];exact hb1.alloc hb1.size _
 have g1:W2.heap[w.heap.size]?=some (.cells (x.cells s).toArray 28 (0,0)):=by rw[hW2,af,if_neg (by omega),hW1,af,if_pos rfl]
 have g2:W2.heap[w.heap.size+1]?=some (.cells (y.cells i).toArray 35 (0,0)):=by rw[hW2,af,if_pos hs1.symm]
 have HN:=Lh (fun(sort at_:Int) (W:World) (hb:Below w.heap.size w W)=>LU s x sort at_ W hI (hs.later hb hb.size) hf.toSchSmall);have HK:=Lh (aI hb2 (aI g1 g2));have HZ:=Lh hz;have HY:=Lh (fun(W:World) (hb:Below w.heap.size w W)=>hy.binds.later hb hb.size);have UF:Hid (R=tV s l i.ins):=Lh hR;have P7:=Lh (fun(sort at_:Int)=>uR hf sort at_);have HW:=Lh (aI hW1 hW2);have ZR:=hy.rule;clear hs hf hz hy hR hb1 hb2 g1 g2 hW1 hW2 hs1;obtain⟨rule,bi,tr⟩:=i;simp only[jL.cells,bS.cells,aK.val] at HK HN HW ZR hbl ⊢;have HC:Hid (∀W,Below W2.heap.size W2 W->W.cell? ⟨w.heap.size+1,0,none⟩=some (.int .i64 rule)/\W.cell? ⟨w.heap.size+1,1,none⟩=some (.slice y.b.a bi.length y.b.cap)/\Below w.heap.size w W/\W.heap[w.heap.size]?=some (.cells #[.slice x.slots.a s.slots.length x.slots.cap,.slice x.ah.a s.ah.length x.ah.cap,.slice x.people.a s.people.length x.people.cap,.slice x.groups.a s.groups.length x.groups.cap,.slice x.lessons.a s.lessons.length x.lessons.cap] 28 (0,0))):=Lh (fun W hb=>by
  have h2:=(hb.block _ (gS HK.out.2.2).1).trans HK.out.2.2;have h1:=(hb.block _ (gS HK.out.2.1).1).trans HK.out.2.1;exact⟨cH h2 rfl,cH h2 rfl,HK.out.1.trans (hb.mono HK.out.1.size),h1⟩)
 obtain⟨c0,c1,_⟩:=HC.out W2 (Below.refl _ _);go_enter Tryz.func43,Tryz.ntmps43;go_upto_region 1 with fail
 rw[<-HW.out.1,<-HW.out.2];by_cases a1:rule<0
 ·have kr:Hid (R=([],1)):=Lh (UF.out.trans (Bb (.inl a1)));go_wp2_with fail;go_quiet (fail);go_wp2_with fail;go_ret2;exact ql.nil kr.out (dQ HK.out.1 _)
 ·have a1':decide (rule<0)=false:=by simpa using a1
  obtain⟨k,rfl⟩:∃k:Nat,rule=(k:Int):=⟨rule.toNat,by omega⟩;by_cases a2:l.length<=k
  ·have kr:Hid (R=([],1)):=Lh (UF.out.trans (Bb (.inr (by simpa using a2))));have XF:(l.length:Int)<=(k:Int):=by omega
   clear a1 a2;go_wp2_with fail;go_quiet (fail);go_wp2_with fail;go_ret2;exact ql.nil kr.out (dQ HK.out.1 _)
  ·have hk:k<l.length:=by omega
   have XF:decide ((l.length:Int)<=(k:Int))=false:=by simp;omega
   have i1:(0:Int)<=(k:Int):=by omega
   have i2:(k:Int)<(l.length:Int):=by omega
   obtain⟨ye,hye,vz⟩:=HZ.out.Aj k hk;obtain⟨hza,hzb⟩:=HZ.out.at_ (by rw[List.length_map];omega);have Ns:=Lh (fun(W:World) (hb:Below w.heap.size w W)=>hye.each.later hb hb.size);have T9:=Lh (fun(W:World) (hb:Below w.heap.size w W)=>(vz.agree (ag hb) hzb));have RD:=UF.out.trans (NT (i:=⟨(k:Int),bi⟩) (k:=k) rfl hk);have Tg:=hel l[k] (List.getElem_mem hk);clear hye vz hzb UF hel;rw[hza];clear hza;generalize l[k]=re at Ns T9 RD Tg;obtain⟨name,hard,weight,each,⟨kind,fname,n,terms,binds,fl⟩⟩:=re;obtain⟨zW,oP⟩:=ye;simp only[iG.cells,aC.cells,aK.val,ae.kind,ae.name,ae.n,ae.terms,ae.binds,ae.l] at Ns T9 RD Tg;obtain⟨_,_,_,e3,_,_,_,_,_,_⟩:=(T9.out W2 HK.out.1).ten;clear T9;by_cases a3:bi.length=each.length;rotate_left
   ·have kr:Hid (R=([],1)):=Lh (by rw[RD,if_pos a3]);have a3':((bi.length:Int)==(each.length:Int))=false:=by simp;omega
    have XG:((bi.length:Int) !=(each.length:Int))=true:=by simp;omega
    clear a1 a2 a3 RD;go_wp2_with fail;go_quiet (fail);go_wp2_with fail;go_ret2;exact ql.nil kr.out (dQ HK.out.1 _)
   have HR:Hid (R=match iQ s each bi with|some ns=>(ns,0)|none=>([],1)):=Lh (by rw[RD,if_neg (by simpa using a3)]);have HL:=Lh a3;have a3':((bi.length:Int)==(each.length:Int))=true:=by simp;omega
   have XG:((bi.length:Int) !=(each.length:Int))=false:=by simp;omega
   have Zg:=Lh (Ns.out W2 HK.out.1);clear a1 a2 a3 RD;go_wp2_with fail;go_quiet (fail);obtain⟨Wd,hWd⟩:∃Wd,Wd=W2.drewN nq:=⟨_,rfl⟩;have hbd:Below w.heap.size w Wd:=by rw[hWd];exact dQ HK.out.1 _
   have QJ:Below W2.heap.size W2 Wd:=by rw[hWd];exact dQ (Below.refl _ _) _
   have hsz2:W2.heap.size=w.heap.size+2:=by rw[HW.out.2,HW.out.1];simp
   have c0':Wd.cell? ⟨w.heap.size+1,0,none⟩=some (.int .i64 (k:Int)):=(HC.out Wd QJ).1;have e3':Wd.cell? ⟨z.b,z.o+k*10+3,none⟩=some (.slice zW.a each.length zW.cap):=by rw[hWd];exact e3
   have sD:=Lh (aI hbd (aI QJ hsz2));have F9:=Lh (fun(j:Nat) (hb:j<each.length) (hq:j<bi.length) (h:bY s each[j].sort bi[j]=[])=>(show R=([],1) by rw[HR.out,uS s each bi j hb hq h]));have U1:=Lh (fun(h:∀(j:Nat) (hb:j<each.length) (hq:j<bi.length),bY s each[j].sort bi[j]≠[])=>(show R=(je s each bi each.length,0) by rw[HR.out,xS s each bi HL.out h]));obtain⟨i0,hi,hz0,hz1,hz2⟩:=info_parts oD;rw[<-hWd];clear c0 c1 e3 hWd hbd QJ HR a3' XG XF i1 i2;have i1:(0:Int)<=(k:Int):=by omega
   have i2:(k:Int)<(l.length:Int):=by omega
   go_wp2_with fail;clear c0' e3' i1 i2;have hdk:decide (l.length<=k)=false:=decide_eq_false (by omega);simp only[hdk];clear hdk;go_loopw [8,42] (fun v i wr=>∃j:Nat,j<=each.length/\i=.int .i64 j/\Hid (Below W2.heap.size W2 wr)/\Hid (fP wr (w.heap.size+2) (fun _=>False) 9 1 v ((je s each bi j).map bM))/\Hid (∀(j':Nat) (hb:j'<each.length) (hq:j'<bi.length),j'<j->bY s each[j'].sort bi[j']≠[])) (fun _ i _=>each.length-(intOf i).toNat)
   case atStart=>exact⟨0,Nat.zero_le _,rfl,Lh sD.out.2.1,Lh (fP.nil _ _ _ _ _ (fun _ h=>h.elim)),Lh (fun _ _ _ h=>by omega)⟩
   case round=>
    obtain⟨j,hj,rfl,HB,HO,Xm⟩:=hrel;obtain⟨q0,q1,hbw,hsc⟩:=HC.out wr HB.out;obtain⟨oa,iA,ho⟩:=HO.out.form;subst ho;have hlen:((je s each bi j).map bM).length=j:=by rw[List.length_map,sP HL.out hj]
    rw[hlen] at HO ⊢;have lu:=Lh hlen;clear hlen;by_cases hlt:j<each.length
    ·have hq:j<bi.length:=by rw[HL.out];exact hlt
     obtain⟨g1,_,_,g4,_⟩:=Zg.out.flat aD.bI;obtain⟨hxa,hbl⟩:=g1 (by omega);obtain⟨b0,b1⟩:=g4.two j hlt rfl;have b0:=(HB.out.cell (p:=⟨zW.b,zW.o+j*2,none⟩) hbl).trans b0;have b1:=(HB.out.cell (p:=⟨zW.b,zW.o+j*2+1,none⟩) hbl).trans b1;obtain⟨z1,_,_,_,z5⟩:=(HY.out wr hbw).ints;obtain⟨hya,hyb⟩:=z1 (by omega);have z0:=z5 j hq;obtain⟨W3,hW3⟩:∃W3,W3=wr.alloc (.cells #[.string ⟨each[j].name.toArray⟩,.int .i64 each[j].sort] 94):=⟨_,rfl⟩;have hb3:Below wr.heap.size wr W3:=by rw[hW3];exact(Below.refl _ _).alloc (Nat.le_refl _) _
     have iP:=Lh (fun(W:World) (hW:Below W3.heap.size W3 W)=>HN.out each[j].sort bi[j] W ((hbw.trans (hb3.mono hbw.size)).trans (hW.mono (hbw.trans (hb3.mono hbw.size)).size)));have P5:=Lh (F9.out j hlt hq);have Js:=Lh (zF (s:=s) hlt hq);have R8:=Lh (fun(h:bY s each[j].sort bi[j]≠[]) (j':Nat) (hb':j'<each.length) (hq':j'<bi.length) (hj':j'<j+1)=>(by
      rcases Nat.lt_succ_iff_lt_or_eq.1 hj' with h'|h'
      ·exact Xm.out j' hb' hq' h'
      ·subst h';exact h:bY s each[j'].sort bi[j']≠[]))
     have yS:=Lh (P7.out each[j].sort bi[j]);have QV:=(hb3.block _ (gS hsc).1).trans hsc;have hk0:W3.heap[wr.heap.size]?=some (.cells #[.string ⟨each[j].name.toArray⟩,.int .i64 each[j].sort] 94 (0,0)):=by rw[hW3,af,if_pos rfl]
     have k1:=(hb3.cell (p:=⟨w.heap.size+1,1,none⟩) (World.block_lt_of_cell? wr _ q1)).trans q1;have k2:=(hb3.cell (p:=⟨y.b.b,y.b.o+j,none⟩) hyb).trans z0;rw[hya] at k1;have wR:Hid (∀W,Below W3.heap.size W3 W->W.cell? ⟨wr.heap.size,1,none⟩=some (.int .i64 each[j].sort)/\W.cell? ⟨w.heap.size+1,1,none⟩=some (.slice (some ⟨y.b.b,y.b.o,none⟩) bi.length y.b.cap)/\W.cell? ⟨y.b.b,y.b.o+j,none⟩=some (.int .i64 bi[j])/\
       W.cell? ⟨w.heap.size,0,none⟩=some (.slice x.slots.a s.slots.length x.slots.cap)/\W.cell? ⟨w.heap.size,1,none⟩=some (.slice x.ah.a s.ah.length x.ah.cap)/\W.cell? ⟨w.heap.size,2,none⟩=some (.slice x.people.a s.people.length x.people.cap)/\W.cell? ⟨w.heap.size,3,none⟩=some (.slice x.groups.a s.groups.length x.groups.cap)/\W.cell? ⟨w.heap.size,4,none⟩=some (.slice x.lessons.a s.lessons.length x.lessons.cap)):=Lh (fun W hW=>by
      have k:=(hW.block _ (gS QV).1).trans QV;have k':=(hW.block _ (gS hk0).1).trans hk0;exact⟨cH k' rfl,(hW.cell (World.block_lt_of_cell? W3 _ k1)).trans k1,(hW.cell (World.block_lt_of_cell? W3 _ k2)).trans k2,cH k rfl,cH k rfl,cH k rfl,cH k rfl,cH k rfl⟩)
     clear hk0 k1 k2;have HW3:=Lh hW3;have HB3:=Lh (aI (HB.out.trans (hb3.mono HB.out.size)) (aI (hbw.trans (hb3.mono hbw.size)) (HO.out.below hb3)));rw[hxa];generalize bY s each[j].sort bi[j]=nm at iP P5 Js R8 yS;generalize each[j]=bd at iP b0 b1 wR HW3;obtain⟨bn,bs⟩:=bd;simp only at iP b0 b1 wR HW3;clear hsc QV hbw hya hyb z0 z1 z5 g1 g4 hxa hbl hW3 hb3 q0 q1;have j1:(j:Int)<(bi.length:Int):=by omega
     go_wp2_with fail;rw[<-HW3.out];refine bB 9 (S:=fun W=>Below W3.heap.size W3 W) (by kernel_rfl) (Below.refl _ _).drew (fun hHeld=>?_);refine aV (i:=0) rfl hHeld wR ?_;refine aV (i:=1) rfl hHeld wR ?_;refine aV (i:=2) rfl hHeld wR ?_;refine aV (i:=3) rfl hHeld wR ?_;refine aV (i:=4) rfl hHeld wR ?_;refine aV (i:=5) rfl hHeld wR ?_;refine aV (i:=6) rfl hHeld wR ?_;refine aV (i:=7) rfl hHeld wR ?_;refine az (rs:=[8]) (by kernel_rfl) (by simp) ?_;refine aY rfl (fun K hK=>?_) aS;go_simp;refine(iP.out _ hHeld).mono ?_;rintro e w4 ⟨rfl,hb⟩;have oQ:=Lh hb;clear hb;go_simp;refine hK.out _ _ (Below.trans hHeld (Below.mono oQ.out (Below.size hHeld))) fun hHeld=>?_;clear hK K
     try simp only[Act.put,jZ,j3,j4]
     refine az (rs:=[9]) (by kernel_rfl) (by simp) ?_;refine eG rfl (by kernel_rfl) (fun K hK=>?_) aS;go_simp;refine hK.out _ _ ?_;clear hK K
     try simp only[Act.put,jZ,j3,j4]
     refine eT (by kernel_rfl) ?_ _;have Y6:=Lh (HB3.out.2.2.below hHeld);have zY:=Lh (aI (HB3.out.1.trans (hHeld.mono HB3.out.1.size)) (HB3.out.2.1.trans (hHeld.mono HB3.out.2.1.size)));clear hHeld b0 b1 iP wR;rcases nm with _|⟨nc,nr⟩
     ·have kr:=Lh (P5.out rfl);go_wp2_with fail;go_ret2;exact ql.nil kr.out zY.out.2
     ·have Va:=Lh (R8.out (by simp));go_wp2_with (at_builtin;go_must (refine bR (B:=w4.heap.size) rfl rfl _ _ 47 rfl 9 i0 _ 1 16 Tryz.underlying47 hi hz0 hz1 hz2 rfl (by decide) (.slice oa j iA) ((je s each bi j).map bM) (bM (nc::nr)) [.string ⟨(nc::nr).toArray⟩] 9 rfl rfl Y6.out (lG (by have:=yS.out;unfold maxLen;omega)) (by have:=zY.out.1.size;have:=sD.out.2.2;omega) rfl (by rw[lu.out];unfold maxLen;omega) (by rw[lu.out];omega) ?_);intro ao cap w5 hon hb5;rw[lu.out] at hon ⊢;have lS:=Lh (aI hon (zY.out.1.trans (hb5.mono (Nat.le_of_eq sD.out.2.2))));clear hon hb5);refine⟨⟨j+1,by omega,by go_num,Lh lS.out.2,Lh ?_,Va⟩,by simp[intOf];omega⟩;rw[Js.out,List.map_append];exact lS.out.1
    ·have hjl:j=each.length:=by omega
     subst hjl;have kr:=Lh (U1.out (fun j' hb hq=>Xm.out j' hb hq hb));have Df:=Lh hbw;clear q0 q1 hsc hbw;go_wp2_with fail;go_ret2;refine⟨_,by rw[kr.out];rfl,?_,Df.out⟩;rw[kr.out];obtain⟨x0,hx0,hx1⟩:=HO.out.onto.sl (by rw[bP bV,List.length_map]);exact⟨x0,by rw[sP HL.out (Nat.le_refl _)];rw[lu.out] at hx0;exact hx0,hx1⟩
end Go.Proofs.YtncnnbmeacpboaaGreatDoor
namespace Go.aa
open Go.RowKit
variable {s:aF} {b:List aD} {q:List Int} {j k lo B sz g MB s1 s2:Nat} {l:List bq} {i:Ins} {w W w':World} {f:ae} {v v1 v2:Value} {F G F1 F2:Nat->Prop} {e e1 e2:TypeId} {xs l1 l2:List D} {α:Type} {L:Int->List Bs} {t:List (Int×Value)} {rw:Int->Option Nat} {X:List Ins} {r1 r2:Option Nat}
theorem aB.all{x:aC}(h:aB w (Fr lo w) f x):aB w (·<w.heap.size) f x:=h.mono (fun _ hk=>hk.2)
end Go.aa
namespace Go.Proofs.YtncnnbmeacpboaaGreatDoor
open Go.RowKit Go.aa
variable {s:aF} {b:List aD} {q:List Int} {j k lo B sz g MB s1 s2:Nat} {l:List bq} {i:Ins} {w W w':World} {f:ae} {v v1 v2:Value} {F G F1 F2:Nat->Prop} {e e1 e2:TypeId} {xs l1 l2:List D} {α:Type} {L:Int->List Bs} {t:List (Int×Value)} {rw:Int->Option Nat} {X:List Ins} {r1 r2:Option Nat}
theorem XE.below{W':World}{b:Nat}{t:TypeId}(h:W.heap[b]?=some (.cells #[v] t (0,0)))(hb:Below W.heap.size W W'):W'.heap[b]?=some (.cells #[v] t (0,0)):=(hb.block _ (gS h).1).trans h
end Go.Proofs.YtncnnbmeacpboaaGreatDoor
namespace Go.aa
open Go.RowKit
variable {s:aF} {b:List aD} {q:List Int} {j k lo B sz g MB s1 s2:Nat} {l:List bq} {i:Ins} {w W w':World} {f:ae} {v v1 v2:Value} {F G F1 F2:Nat->Prop} {e e1 e2:TypeId} {xs l1 l2:List D} {α:Type} {L:Int->List Bs} {t:List (Int×Value)} {rw:Int->Option Nat} {X:List Ins} {r1 r2:Option Nat}
def Nw(B:Nat)(w w':World)(k:Nat):Prop:=(k<B∨w.heap.size<=k)/\k<w'.heap.size
def Ij(W:World)(H:Nat)(c0 c1 c2 c3 c4 c5:Value):World:=(((((W.setCell ⟨H,0,none⟩ c0).setCell ⟨H,1,none⟩ c1).setCell ⟨H,2,none⟩ c2).setCell ⟨H,3,none⟩ c3).setCell ⟨H,4,none⟩ c4).setCell ⟨H,5,none⟩ c5
theorem Ca(W:World)(H:Nat)(c0 c1 c2 c3 c4 c5:Value):Mod (fun k=>k=H) W (Ij W H c0 c1 c2 c3 c4 c5):=
 ((((((Mod.refl (fun k=>k=H) W).setCell (p:=⟨H,0,none⟩) (fun _=>rfl) c0).setCell (p:=⟨H,1,none⟩) (fun _=>rfl) c1).setCell (p:=⟨H,2,none⟩) (fun _=>rfl) c2).setCell (p:=⟨H,3,none⟩) (fun _=>rfl) c3).setCell (p:=⟨H,4,none⟩) (fun _=>rfl) c4).setCell (p:=⟨H,5,none⟩) (fun _=>rfl) c5
theorem Ec{l:List ae}(hj:j<l.length):∀g∈aJ l[j],g∈dU l:=by
 induction l generalizing j with
 |nil=>simp at hj
 |cons x r ih=>
  intro g hg;rw[dU,List.mem_append];cases j with
  |zero=>exact .inl hg
  |succ j=>exact .inr (ih (by simpa using hj) g hg)
end Go.aa
namespace Go.Proofs.YtncnnbmeacpboaaGreatDoor
open Go.RowKit Go.aa
variable {s:aF} {b:List aD} {q:List Int} {j k lo B sz g MB s1 s2:Nat} {l:List bq} {i:Ins} {w W w':World} {f:ae} {v v1 v2:Value} {F G F1 F2:Nat->Prop} {e e1 e2:TypeId} {xs l1 l2:List D} {α:Type} {L:Int->List Bs} {t:List (Int×Value)} {rw:Int->Option Nat} {X:List Ins} {r1 r2:Option Nat}
def Pv(B:Nat)(w:World)(r:ae)(e:Ending)(w':World):Prop:=∃u:aC,e=.returned (gB (r,u))/\aB w' (Nw B w w') r u/\Below w.heap.size w w'
theorem Pv.of{r:ae}{e:Ending}{u:aC}(h1:e=.returned (gB (r,u)))(h2:aB w' (Nw B w w') r u/\Below w.heap.size w w'):Pv B w r e w':=⟨u,h1,h2⟩
theorem yA{H:Nat}{c0 c1 c2 c3 c4 c5 z0 z1 z2 z3 z4 z5:Value}{T:TypeId}{fz:Nat×Nat}(h:W.heap[H]?=some (.cells #[z0,z1,z2,z3,z4,z5] T fz)):(Ij W H c0 c1 c2 c3 c4 c5).heap[H]?=some (.cells #[c0,c1,c2,c3,c4,c5] T fz):=by
 unfold Ij;exact aW c5 (aW c4 (aW c3 (aW c2 (aW c1 (aW c0 h)))))
theorem FO(W:World)(H:Nat)(c0 c1 c2 c3 c4 c5:Value):(((((W.setCell ⟨H,0,none⟩ c0).setCell ⟨H,1,none⟩ c1).setCell ⟨H,2,none⟩ c2).setCell ⟨H,3,none⟩ c3).setCell ⟨H,4,none⟩ c4).setCell ⟨H,5,none⟩ c5=Ij W H c0 c1 c2 c3 c4 c5:=rfl
theorem gZ.part{kind:Int}{name:Bs}{n:Int}{terms:List bH}{binds:List aD}{l:List ae}(h:gZ (.mk kind name n terms binds l)){j:Nat}(hj:j<l.length):gZ l[j]:=
 ⟨by have:=h.size;have:=aT l j hj;rw[ae.size] at*;omega,fun g hg=>h.nodes g (by rw[aJ];exact List.mem_cons_of_mem _ (Ec hj g hg))⟩
end Go.Proofs.YtncnnbmeacpboaaGreatDoor
namespace Go.aa
open Go.RowKit
variable {s:aF} {b:List aD} {q:List Int} {j k lo B sz g MB s1 s2:Nat} {l:List bq} {i:Ins} {w W w':World} {f:ae} {v v1 v2:Value} {F G F1 F2:Nat->Prop} {e e1 e2:TypeId} {xs l1 l2:List D} {α:Type} {L:Int->List Bs} {t:List (Int×Value)} {rw:Int->Option Nat} {X:List Ins} {r1 r2:Option Nat}
structure gq (w:World) (F:Nat->Prop) (sz:Nat) (e:TypeId) (xs:List D) (g:Nat):Prop where
 obj:∃cur,w.heap[g]?=some (.cells cur e (0,0))
 off:¬F g
 lt:∀k,F k->k<w.heap.size
 row:bU w F xs g 0
 wd:∀d∈xs,d.width=sz
theorem gq.LY{r:Option Nat}(h:Own w F e sz v r xs)(hw:∀d∈xs,d.width=sz):
  ∃a cap,v=.slice a xs.length cap/\xs.length<=cap/\cap<=maxLen/\∃g,(0<xs.length->a=some ⟨g,0,none⟩/\r=some g/\gq w F sz e xs g):=by
 obtain⟨cs,h1,h2⟩:=h.cells;have h1':=h1;obtain⟨hlen,h1⟩:=h1;rcases h1 with⟨rfl,hn⟩|⟨g,cap,cur,rfl,_,hh,hc1,hc2,hc3,hc4⟩
 ·exact⟨none,0,by rw[hn],by omega,Nat.zero_le _,0,fun h=>by omega⟩
 ·have hr:r=some g:=h.row▸rfl;refine⟨_,cap,rfl,hc1,hc2,g,fun _=>⟨rfl,hr,⟨cur,hh⟩,h.off g hr,h.lt,bU.mk h2 (fun j hj=>?_),hw⟩⟩;have:=h1'.cellAt (g:=g) (cap:=cap) j (by rw[<-hlen];exact hj);simp only[Nat.zero_add];rw[this];simp[hj]
theorem gq.bound(h:gq w F sz e xs g):g<w.heap.size:=by
 obtain⟨cur,hc⟩:=h.obj;exact(gS hc).1
theorem gq.kept{S:Nat->Prop}(h:gq w F sz e xs g)(hm:Mod S w w')(hg:¬S g)(hF:∀k,F k->¬S k):gq w' F sz e xs g:=by
 obtain⟨cur,hc⟩:=h.obj;have hgl:=h.bound;refine⟨⟨cur,av hc hm hg⟩,h.off,fun k hk=>Nat.lt_of_lt_of_le (h.lt k hk) hm.size,row_of (sz:=sz) _ _ (fun i x hx=>?_),h.wd⟩;obtain⟨hi,rfl⟩:=List.getElem?_eq_some_iff.1 hx;obtain⟨cs,g1,g2⟩:=h.row.get h.wd i hi;exact⟨h.wd _ (List.getElem_mem hi),cs,bg.agree (hm.agree (fun k hk=>⟨h.lt k hk,hF k hk⟩)) _ _ g1,fun j hj=>(cB (F:=fun k=>k=g) (fun k hk=>hk▸hm.block g hgl hg) (a:=⟨g,_,none⟩) rfl).trans (g2 j hj)⟩
theorem gq.later(h:gq w F sz e xs g)(hb:Below w.heap.size w w'):gq w' F sz e xs g:=h.kept (Mod.of_below (S:=fun _=>False) hb) id (fun _ _ h=>h)
theorem gq.widen(h:gq w F sz e xs g)(nu:∀k,F k->G k)(hg:¬G g)(hlt:∀k,G k->k<w.heap.size):gq w G sz e xs g:=⟨h.obj,hg,hlt,bU.mono nu _ _ _ h.row,h.wd⟩
theorem gq.OT{d:D}{cs:List Value}(h:gq w F sz e xs g)(hM:Mod (fun k=>k=g) w w')(zw:∃cur,w'.heap[g]?=some (.cells cur e (0,0)))(hout:∀o,(o<j*sz∨(j+1)*sz<=o)->w'.cell? ⟨g,o,none⟩=w.cell? ⟨g,o,none⟩)(hin:ay w' g (j*sz) cs)(hd:bg w F d cs)(hw:d.width=sz):gq w' F sz e (xs.set j d) g:=by
 have ha:Agree F w w':=hM.agree (fun k hk=>⟨h.lt k hk,fun e=>h.off (e▸hk)⟩);refine⟨zw,h.off,fun k hk=>Nat.lt_of_lt_of_le (h.lt k hk) hM.size,row_of (sz:=sz) _ _ (fun i x hx=>?_),fun x hx=>?_⟩
 ·rw[List.getElem?_set] at hx;by_cases hij:j=i
  ·subst hij;rw[if_pos rfl] at hx;split at hx
   ·obtain rfl:=Option.some.inj hx;exact⟨hw,cs,bg.agree ha _ _ hd,by rw[Nat.zero_add];exact hin⟩
   ·cases hx
  ·rw[if_neg hij] at hx;obtain⟨hi,rfl⟩:=List.getElem?_eq_some_iff.1 hx;obtain⟨cs',g1,g2⟩:=h.row.get h.wd i hi;have hl:cs'.length=sz:=(bg.length _ _ g1).trans (h.wd _ (List.getElem_mem hi));refine⟨h.wd _ (List.getElem_mem hi),cs',bg.agree ha _ _ g1,fun q hq=>(hout _ ?_).trans (g2 q hq)⟩;rcases Nat.lt_or_gt_of_ne hij with h1|h1
   ·right;have:(j+1)*sz<=i*sz:=Nat.mul_le_mul_right _ h1;omega
   ·left;have:(i+1)*sz<=j*sz:=Nat.mul_le_mul_right _ h1;rw[Nat.add_mul] at this;omega
 ·rcases List.mem_or_eq_of_mem_set hx with h1|h1
  ·exact h.wd x h1
  ·rw[h1];exact hw
theorem gq.sl{cap:Nat}(h:gq w F sz e xs g)(nu:∀k,F k->G k)(hg:G g)(h1:xs.length<=cap)(h2:cap<=maxLen):aj w G xs ⟨some ⟨g,0,none⟩,g,0,cap⟩:=
 ⟨fun _=>⟨rfl,hg⟩,h1,h2,bU.mono nu _ _ _ h.row⟩
def upd{α:Type}(f:α->α)(l:List α)(j:Nat):List α:=(l.take j).map f++l.drop j
theorem mP(f:α->α)(l:List α)(j:Nat):(upd f l j).length=l.length:=by unfold upd;simp;omega
theorem CU(f:α->α)(l:List α):upd f l 0=l:=by simp[upd]
theorem FZ(f:α->α)(l:List α):upd f l l.length=l.map f:=by simp[upd]
theorem uA(f:α->α)(l:List α)(j:Nat)(h:j<l.length):(upd f l j)[j]'(by rw[mP];exact h)=l[j]:=by
 unfold upd;rw[List.getElem_append_right (by simp;omega)];simp[Nat.min_eq_left (Nat.le_of_lt h)]
theorem wL(f:α->α)(l:List α)(j:Nat)(h:j<l.length):upd f l (j+1)=(upd f l j).set j (f l[j]):=by
 unfold upd;have hl:((l.take j).map f).length=j:=by rw[List.length_map,List.length_take,Nat.min_eq_left (Nat.le_of_lt h)]
 rw[List.take_succ_eq_append_getElem h,List.map_append,List.append_assoc,List.set_append_right j (f l[j]) (Nat.le_of_eq hl),hl,Nat.sub_self,List.drop_eq_getElem_cons h];rfl
theorem map_set{α β:Type}(f:α->β)(l:List α)(j:Nat)(x:α):(l.set j x).map f=(l.map f).set j (f x):=List.map_set
theorem ae.bO:∀l:List ae,aa.bO (l.map ae.toD)=l.length*6
 |[]=>rfl
 |f::r=>by simp only[List.map_cons,aa.bO,ae.width,List.length_cons];rw[ae.bO r];omega
theorem Qx(l:List ae):∀d∈l.map ae.toD,d.width=6:=fun d hd=>by obtain⟨t,_,rfl⟩:=List.mem_map.1 hd;exact t.width
theorem Rc(l:List bH):∀d∈l.map bH.toD,d.width=3:=fun d hd=>by obtain⟨t,_,rfl⟩:=List.mem_map.1 hd;rfl
theorem gq.trm{l:List bH}{nm:Bs}(h:gq w F 3 e (l.map bH.toD) g)(hj:j<l.length)(hn:nm.length<=maxLen):
  gq (w.setCell ⟨g,j*3+1,none⟩ (.string ⟨nm.toArray⟩)) F 3 e ((l.set j ⟨l[j].kind,nm,l[j].n⟩).map bH.toD) g:=by
 obtain⟨cur,hc⟩:=h.obj;obtain⟨cs,g1,g2⟩:=h.row.get h.wd j (by simpa using hj);rw[List.getElem_map,bg.flat _ _ (bH.bI.flat _)] at g1;obtain⟨rfl,f1,_,f3,_⟩:=g1;rw[Nat.zero_add] at g2;obtain⟨c0,c1,c2⟩:=ay.three g2;rw[map_set];refine h.OT ((Mod.refl (fun k=>k=g) _).setCell (p:=⟨g,j*3+1,none⟩) (fun _=>rfl) _) ⟨_,aW _ hc⟩ (fun o ho=>World.cell?_setCell_other _ _ _ _ (by intro e;injection e with _ e _;omega)) (cs:=[.int .i64 l[j].kind,.string ⟨nm.toArray⟩,.int .i64 l[j].n]) ?_ ?_ rfl
 ·have k0:(w.setCell ⟨g,j*3+1,none⟩ (.string ⟨nm.toArray⟩)).cell? ⟨g,j*3,none⟩=some (.int .i64 l[j].kind):=(World.cell?_setCell_other _ _ _ _ (by intro e;injection e with _ e _;omega)).trans c0;have k1:(w.setCell ⟨g,j*3+1,none⟩ (.string ⟨nm.toArray⟩)).cell? ⟨g,j*3+1,none⟩=some (.string ⟨nm.toArray⟩):=World.cell?_setCell_same _ _ _ c1;have k2:(w.setCell ⟨g,j*3+1,none⟩ (.string ⟨nm.toArray⟩)).cell? ⟨g,j*3+2,none⟩=some (.int .i64 l[j].n):=(World.cell?_setCell_other _ _ _ _ (by intro e;injection e with _ e _;omega)).trans c2;intro q hq
  match q,hq with
  |0,_=>exact k0
  |1,_=>exact k1
  |2,_=>exact k2
 ·exact(bg.flat _ _ (bH.bI.flat _)).2 ⟨rfl,f1,by show(⟨nm.toArray⟩:ByteArray).size<=maxLen;rw[aZ];exact hn,f3,trivial⟩
theorem set_self{f:α->α}{l:List α}(h:j<l.length):(upd f l j).set j l[j]=upd f l j:=by
 have:=uA f l j h;rw[<-this];exact List.set_getElem_self _
theorem gq.Rb{f:bH->bH}{l:List bH}(h:gq w F 3 e ((upd f l j).map bH.toD) g)(hj:j<l.length):
  w.cell? ⟨g,j*3,none⟩=some (.int .i64 l[j].kind)/\w.cell? ⟨g,j*3+1,none⟩=some (.string ⟨l[j].name.toArray⟩)/\w.cell? ⟨g,j*3+2,none⟩=some (.int .i64 l[j].n)/\∀o,w.frozen? ⟨g,o,none⟩=false:=by
 obtain⟨cs,g1,g2⟩:=h.row.get h.wd j (by simpa[mP] using hj);have e:((upd f l j).map bH.toD)[j]'(by simpa[mP] using hj)=(l[j]).toD:=by rw[List.getElem_map,uA _ _ _ hj]
 rw[e,bg.flat _ _ (bH.bI.flat _)] at g1;obtain⟨rfl,_⟩:=g1;rw[Nat.zero_add] at g2;obtain⟨c0,c1,c2⟩:=ay.three g2;obtain⟨cur,hc⟩:=h.obj;exact⟨c0,c1,c2,fun o=>fH hc⟩
theorem gq.Qw{f:ae->ae}{l:List ae}(h:gq w F 6 e ((upd f l j).map ae.toD) g)(hj:j<l.length):
  ∃y:aC,aB w F l[j] y/\ay w g (j*6) (y.cells l[j])/\∀o,w.frozen? ⟨g,o,none⟩=false:=by
 obtain⟨cs,g1,g2⟩:=h.row.get h.wd j (by simpa[mP] using hj);have e:((upd f l j).map ae.toD)[j]'(by simpa[mP] using hj)=(l[j]).toD:=by rw[List.getElem_map,uA _ _ _ hj]
 rw[e] at g1;obtain⟨y,rfl,hy⟩:=aB.iff.1 g1;rw[Nat.zero_add] at g2;obtain⟨cur,hc⟩:=h.obj;exact⟨y,hy,g2,fun o=>fH hc⟩
theorem gq.qK{l:List ae}{y:aC}(h:gq w F 6 e (l.map ae.toD) g)(hj:j<l.length)(hf:aB w F f y){w':World}(hM:Mod (fun k=>k=g) w w')(zw:∃cur,w'.heap[g]?=some (.cells cur e (0,0)))(hout:∀o,(o<j*6∨(j+1)*6<=o)->w'.cell? ⟨g,o,none⟩=w.cell? ⟨g,o,none⟩)(hin:ay w' g (j*6) (y.cells f)):gq w' F 6 e ((l.set j f).map ae.toD) g:=by
 rw[map_set];exact h.OT hM zw hout hin (aB.iff.2 ⟨y,rfl,hf⟩) f.width
theorem CS{m:List (Bs×Bs)}(h:(m.map Prod.fst).Nodup)(k:Bs):jk m k=lJ m k:=by
 unfold jk lJ
 induction m with
 |nil=>rfl
 |cons p r ih=>
  rw[List.map_cons,List.nodup_cons] at h;rw[List.find?_cons,List.reverse_cons,List.find?_append];by_cases hp:p.1=k
  ·have hb:(p.1==k)=true:=by simpa using hp
   have hr:r.reverse.find? (fun q=>q.1==k)=none:=by
    rw[List.find?_eq_none];intro q hq hk;exact h.1 (List.mem_map.2 ⟨q,List.mem_reverse.1 hq,by rw[hp];simpa using hk⟩)
   rw[hb,hr];simp[hb]
  ·have hb:(p.1==k)=false:=by simpa using hp
   rw[hb];have:=ih h.2;simp only[List.find?_cons,hb,List.find?_nil,Option.or_none];exact this
end Go.aa
namespace Go.Proofs.YtncnnbmeacpboaaGreatDoor
open Go.RowKit Go.aa
attribute [local go_sem] Oper.semAt_some
variable {s:aF} {b:List aD} {q:List Int} {j k lo B sz g MB s1 s2:Nat} {l:List bq} {i:Ins} {w W w':World} {f:ae} {v v1 v2:Value} {F G F1 F2:Nat->Prop} {e e1 e2:TypeId} {xs l1 l2:List D} {α:Type} {L:Int->List Bs} {t:List (Int×Value)} {rw:Int->Option Nat} {X:List Ins} {r1 r2:Option Nat}
theorem Bt:(Tryz.prog.info? 64).map (fun i=>(i.zero,i.size,i.bytes))=some (some (.agg #[.int .i64 0,.string ByteArray.empty,.int .i64 0,.slice none 0 0,.slice none 0 0,.slice none 0 0]),6,104):=by kernel_rfl
theorem Gz(l:List ae)(x:aK)(w:World)(F:Nat->Prop)(hlt:∀k,F k->k<w.heap.size)(hx:aj w F (l.map ae.toD) x)(hmax:l.length<=2000000):
  Calls Tryz.prog 46 #[x.val l.length] w fun e w'=>∃v r,e=.returned v/\aa.Own w' F 64 6 v r (l.map ae.toD)/\(∀k,r=some k->w.heap.size<=k)/\Below w.heap.size w w':=by
 obtain⟨i0,hi,hz0,hz1,hz2⟩:=info_parts Bt;have hq:=fun(w:World) (a:Option Addr) (n c:Nat)=>Lib.run_eql_slice_nil (P:=Tryz.prog) w 62 64 a n c 0 0 Tryz.underlying62;have hlen:(l.map ae.toD).length=l.length:=by simp
 by_cases hn:x.a=none
 ·have hl:l=[]:=by
   cases l with
   |nil=>rfl
   |cons y r=>have:=(hx.at_ (by simp)).1;rw[hn] at this;cases this
  subst hl;obtain⟨a,b,o,cap⟩:=x;simp only at hn;subst hn;clear hx hi hz0 hz1 hz2;go_enter Tryz.func46,Tryz.ntmps46;go_wp2_with fail;go_ret;exact⟨_,none,rfl,aa.Own.nil _ _ _ _ hlt,fun _ h=>(by cases h),Below.refl _ _⟩
 ·obtain⟨a,b,o,cap⟩:=x;obtain⟨ad,rfl⟩:∃ad,a=some ad:=Option.ne_none_iff_exists'.1 hn;have cz:Below w.heap.size w (w.alloc (.cells #[] 64)):=(Below.refl _ _).alloc (Nat.le_refl _) _;have hsrc:aj (w.alloc (.cells #[] 64)) F (l.map ae.toD) ⟨some ad,b,o,cap⟩:=hx.agree ((ag cz).mono hlt);have hown:aa.Own (w.alloc (.cells #[] 64)) F 64 6 (.slice (some ⟨w.heap.size,0,none⟩) 0 0) (some w.heap.size) []:=aa.Own.lit (w:=w) (n:=0) (cs:=[]) rfl (by unfold maxLen;omega) rfl (by rw[au]) hlt;have HS:=Lh hsrc.d;have HO:=Lh hown;have HB:=Lh cz;rw[hlen] at HS;have HL:=Lh hlen;clear hx hsrc hown cz hn hlen hlt;go_enter Tryz.func46,Tryz.ntmps46;go_wp2_with (at_builtin;go_must (refine eP _ (by rfl) _ _ _ rfl 64 i0 _ 6 104 Tryz.underlying62 hi hz0 hz1 hz2 rfl (by omega) (.slice (some ⟨w.heap.size,0,none⟩) 0 0) (.slice (some ad) l.length cap) F (some w.heap.size) [] (l.map ae.toD) rfl rfl HO.out HS.out (by rw[ae.bO,HL.out]) (by rw[HL.out];simp;unfold maxLen;omega) (by rw[HL.out];simp;omega) ?_);intro oa iA LZ w5 hown hmod hat;have HOW:=Lh hown;have HM:=Lh hmod;clear hown hmod;rw[HL.out];simp only[List.length_nil,Nat.zero_add]);go_ret;have hbb:Below w.heap.size w w5:=HB.out.trans (HM.out.below HB.out.size (fun k hk=>by simp at hk;omega));have h1:=HOW.out;rw[List.nil_append,List.length_nil,Nat.zero_add,HL.out] at h1;refine⟨_,LZ,rfl,h1,fun k hk=>?_,hbb⟩;rcases hat with h|h
  ·rw[h] at hk;simp at hk;omega
  ·rw[h] at hk;simp at hk;omega
end Go.Proofs.YtncnnbmeacpboaaGreatDoor
namespace Go.aa
open Go.RowKit
variable {s:aF} {b:List aD} {q:List Int} {j k lo B sz g MB s1 s2:Nat} {l:List bq} {i:Ins} {w W w':World} {f:ae} {v v1 v2:Value} {F G F1 F2:Nat->Prop} {e e1 e2:TypeId} {xs l1 l2:List D} {α:Type} {L:Int->List Bs} {t:List (Int×Value)} {rw:Int->Option Nat} {X:List Ins} {r1 r2:Option Nat}
structure Ff (w:World) (e:TypeId) (MB lo:Nat) (L:Int->List Bs) (t:List (Int×Value)) (rw:Int->Option Nat):Prop where
 at_:nA w MB t
 own:∀q,Own w (fun _=>False) e 1 ((iE t q).getD (.slice none 0 0)) (rw q) ((L q).map bM)
 low:∀q k,rw q=some k->lo<=k
 ne:∀q q' k,rw q=some k->rw q'=some k->q=q'
 mb:MB<lo
theorem Ff.new(h:nA w MB [])(hlo:MB<lo):Ff w e MB lo (fun _=>[]) [] (fun _=>none):=
 ⟨h,fun q=>Own.nil _ _ _ _ (fun _ h=>h.elim),fun _ _ h=>(by cases h),fun _ _ _ h=>(by cases h),hlo⟩
theorem Ff.bound(h:Ff w e MB lo L t rw):MB<w.heap.size:=(gS h.at_).1
theorem Ff.fQ{w:World}{e:TypeId}{MB lo:Nat}{L:Int->List Bs}{t:List (Int×Value)}{rw:Int->Option Nat}(h:Ff w e MB lo L t rw){q:Int}{k:Nat}(hk:rw q=some k):k<w.heap.size:=(h.own q).fQ hk
theorem Ff.later(h:Ff w e MB lo L t rw)(hb:Below B w w')(hB:w.heap.size<=B):Ff w' e MB lo L t rw:=
 ⟨(hb.block MB (by have:=h.bound;omega)).trans h.at_,fun q=>(h.own q).kept (Mod.of_below (S:=fun _=>False) (hb.mono hB)) (fun _ h=>h.elim) (fun _ _ h=>h),h.low,h.ne,h.mb⟩
theorem Ff.step{w8 nz:World}(h:Ff w8 e MB lo L t rw)(hlo:lo<=w8.heap.size){q0:Int}{v':Value}{r':Option Nat}{s2:Bs}(hM:Mod (fun k=>rw q0=some k) w8 nz)(hown:Own nz (fun _=>False) e 1 v' r' ((L q0++[s2]).map bM))(hr:r'=rw q0∨∃n,r'=some n/\w8.heap.size<=n):
  Ff (nz.putObj MB (.map (il 0 (fF t q0 v')).toArray (fF t q0 v').length)) e MB lo (fun q=>if q=q0 then L q++[s2] else L q) (fF t q0 v') (fun q=>if q=q0 then r' else rw q):=by
 have hmb:=h.bound;have hms:=hM.size;have hmo:=h.mb;have hpm:=Mod.putObj nz MB (.map (il 0 (fF t q0 v')).toArray (fF t q0 v').length);have hlow:∀k,r'=some k->lo<=k:=fun k hk=>by
  rcases hr with h1|⟨n,h1,h2⟩
  ·exact h.low q0 k (h1▸hk)
  ·rw[h1] at hk;have:=Option.some.inj hk;omega
 refine⟨rU (by omega),fun q=>?_,fun q k hk=>?_,fun q q' k h1 h2=>?_,h.mb⟩
 ·rw[Ed];by_cases hq:q=q0
  ·subst hq;simp only[if_true,Option.getD_some];exact hown.kept hpm (fun _ h=>h.elim) (fun k hk e=>by have:=hlow k hk;omega)
  ·simp only[if_neg hq];exact((h.own q).kept hM (fun _ h=>h.elim) (fun k hk e=>hq (h.ne q q0 k hk e))).kept hpm (fun _ h=>h.elim) (fun k hk e=>by have:=h.low q k hk;omega)
 ·by_cases hq:q=q0
  ·simp only[if_pos hq] at hk;exact hlow k hk
  ·simp only[if_neg hq] at hk;exact h.low q k hk
 ·have key:∀q k,q≠q0->rw q=some k->r'=some k->False:=fun q k hq h1 h2=>by
   rcases hr with h3|⟨n,h3,h4⟩
   ·exact hq (h.ne q q0 k h1 (h3▸h2))
   ·rw[h3] at h2;have:=Option.some.inj h2;have:=h.fQ h1;omega
  by_cases hq:q=q0<;>by_cases hq':q'=q0
  ·rw[hq,hq']
  ·simp only[if_pos hq,if_neg hq'] at h1 h2;exact(key q' k hq' h2 h1).elim
  ·simp only[if_neg hq,if_pos hq'] at h1 h2;exact(key q k hq h1 h2).elim
  ·simp only[if_neg hq,if_neg hq'] at h1 h2;exact h.ne q q' k h1 h2
def pV(s:aF)(l:List bq)(X:List Ins)(j:Nat)(q:Int):List Bs:=((X.take j).filter (fun i=>decide (i.rule=q))).map (fun i=>[32,32]++(jh s l i).1)
theorem GR(s:aF)(l:List bq)(X:List Ins):pV s l X 0=fun _=>[]:=by funext q;simp[pV]
theorem GQ(h:j<X.length):pV s l X (j+1)=fun q=>if q=(X[j]).rule then pV s l X j q++[[32,32]++(jh s l X[j]).1] else pV s l X j q:=by
 funext q;unfold pV;rw[List.take_succ_eq_append_getElem h,List.filter_append,List.map_append];by_cases hq:q=(X[j]).rule
 ·rw[if_pos hq];subst hq;simp
 ·have hq':¬(X[j]).rule=q:=fun e=>hq e.symm;rw[if_neg hq];simp[hq']
theorem KG(k:Nat)(r:bq):mE s l X k r=if pV s l X X.length k=[] then [] else jg r::pV s l X X.length k:=by
 unfold mE pV;rw[List.take_length];by_cases h:X.any (fun i=>decide (i.rule=(k:Int)))=true
 ·rw[if_pos h,if_neg];obtain⟨i,hi,hp⟩:=List.any_eq_true.1 h;intro e;have:i∈X.filter (fun i=>decide (i.rule=(k:Int))):=List.mem_filter.2 ⟨hi,hp⟩;rw[List.map_eq_nil_iff] at e;rw[e] at this;cases this
 ·rw[if_neg h,if_pos];rw[List.map_eq_nil_iff,List.filter_eq_nil_iff];intro i hi hp;exact h (List.any_eq_true.2 ⟨i,hi,hp⟩)
theorem Bj(s:aF)(l:List bq)(X:List Ins)(j:Nat)(q:Int):(pV s l X j q).length<=X.length:=by
 unfold pV;rw[List.length_map];exact Nat.le_trans (List.length_filter_le _ _) (by rw[List.length_take];omega)
theorem oV(s:aF)(l:List bq)(X:List Ins):∀(q:List bq) (r:bq) (i:Nat),eU s l X i (q++[r])=eU s l X i q++mE s l X (i+q.length) r
 |[],r,i=>by simp[eU]
 |p::q,r,i=>by
  rw[List.cons_append,eU,eU,oV s l X q r (i+1),List.append_assoc,List.length_cons,show i+1+q.length=i+(q.length+1) by omega]
theorem AR(h:k<l.length):eU s l X 0 (l.take (k+1))=eU s l X 0 (l.take k)++mE s l X k l[k]:=by
 rw[List.take_succ_eq_append_getElem h,oV,List.length_take,Nat.min_eq_left (Nat.le_of_lt h),Nat.zero_add]
theorem kv(s:aF)(l:List bq)(X:List Ins):∀(q:List bq) (i:Nat),(eU s l X i q).length<=q.length*(X.length+1)
 |[],i=>by simp[eU]
 |r::q,i=>by
  have h1:=kv s l X q (i+1);have h2:(mE s l X i r).length<=X.length+1:=by
   unfold mE;split
   ·rw[List.length_cons,List.length_map];have:=List.length_filter_le (fun x:Ins=>decide (x.rule=(i:Int))) X;omega
   ·simp
  rw[eU,List.length_append,List.length_cons,Nat.add_mul];omega
theorem Cw(h:j<X.length)(hz:fO s l X=fO s l (X.drop j)):fO s l X=if(jh s l X[j]).2≠0 then(jh s l X[j]).2 else fO s l (X.drop (j+1)):=by
 rw[hz,List.drop_eq_getElem_cons h,fO]
def qy(lo:Nat)(w:World)(v:Value)(l:List Bs):Prop:=∃x:aK,v=.slice x.a l.length x.cap/\aj w (fun k=>lo<=k/\k<w.heap.size) (l.map bM) x
theorem qy.nil(lo:Nat)(w:World):qy lo w (.slice none 0 0) []:=⟨⟨none,0,0,0⟩,rfl,aj.nil (Nat.zero_le _) _ _ _⟩
end Go.aa
namespace Go.Proofs.YtncnnbmeacpboaaGreatDoor
open Go.RowKit Go.aa
attribute [local go_sem] Oper.semAt_some
variable {s:aF} {b:List aD} {q:List Int} {j k lo B sz g MB s1 s2:Nat} {l:List bq} {i:Ins} {w W w':World} {f:ae} {v v1 v2:Value} {F G F1 F2:Nat->Prop} {e e1 e2:TypeId} {xs l1 l2:List D} {α:Type} {L:Int->List Bs} {t:List (Int×Value)} {rw:Int->Option Nat} {X:List Ins} {r1 r2:Option Nat}
theorem Ct(s:aF)(x:bS)(l:List bq)(z:aK)(w:World)(hs:dD w (·<w.heap.size) s x)(hf:gQ s)(hz:aj w (·<w.heap.size) (l.map bq.toD) z)(hl:l.length<=2000000)(hfr:∀r∈l,gF r):
  Calls Tryz.prog 25 #[.agg (x.cells s).toArray,.slice z.a l.length z.cap] w fun e w'=>e=.returned (.int .i64 (okF s l))/\Below w.heap.size w w':=by
 obtain⟨W1,hW1⟩:∃W1,W1=w.alloc (.cells (x.cells s).toArray 28):=⟨_,rfl⟩;have hb1:Below w.heap.size w W1:=by rw[hW1];exact(Below.refl _ _).alloc (Nat.le_refl _) _
 have HC:=Lh (Er s x W1 (hs.later hb1 hb1.size) hf);have HT:=Lh (fun(W:World) (hb:Below w.heap.size w W)=>Cm l z W (hz.later hb hb.size) hl hfr);have HB1:=Lh hb1;have hbx:W1.heap[w.heap.size]?=some (.cells (x.cells s).toArray 28 (0,0)):=by rw[hW1,af,if_pos rfl]
 obtain⟨c0,c1,c2,c3,c4⟩:=(show bX W1 w.heap.size s x from hbx).cells;obtain⟨R,hR⟩:∃R,R=okF s l:=⟨_,rfl⟩;rw[<-hR];obtain⟨e,he⟩:∃e,e=bE s:=⟨_,rfl⟩;rw[<-he] at HC;have HR:Hid (R=if e≠0 then e else(iI l).2):=Lh (by rw[hR,he];rfl);have HW1:=Lh hW1;clear hR he hs hf hz hfr hb1 hbx hW1;simp only[bS.cells,aK.val] at HC HW1 ⊢;go_enter Tryz.func25,Tryz.ntmps25;go_upto_region 1 with fail
 rw[<-HW1.out];go_wp2_with fail;refine HC.out.mono ?_;rintro e' w2 ⟨rfl,hb2⟩;have HB2:=Lh (HB1.out.trans (hb2.mono HB1.out.size));clear hb2 c0 c1 c2 c3 c4;by_cases h0:e=0
 ·subst h0;go_wp2_with fail;refine(HT.out w2 HB2.out).mono ?_;rintro e' w3 ⟨rfl,hb3⟩;have HB3:=Lh (HB2.out.trans (hb3.mono HB2.out.size));clear hb3;go_wp2_with fail;go_ret;exact⟨by rw[HR.out];rfl,HB3.out⟩
 ·have h1:(e==0)=false:=by simpa using h0
  have kr:Hid (R=e):=Lh (by rw[HR.out,if_pos h0]);clear HR;go_wp2_with fail;go_ret;exact⟨by rw[kr.out];rfl,HB2.out⟩
end Go.Proofs.YtncnnbmeacpboaaGreatDoor
namespace Go.aa
variable {s:aF} {b:List aD} {q:List Int} {j k lo B sz g MB s1 s2:Nat} {l:List bq} {i:Ins} {w W w':World} {f:ae} {v v1 v2:Value} {F G F1 F2:Nat->Prop} {e e1 e2:TypeId} {xs l1 l2:List D} {α:Type} {L:Int->List Bs} {t:List (Int×Value)} {rw:Int->Option Nat} {X:List Ins} {r1 r2:Option Nat}
theorem Hr(s:aF)(b:List aD):lg s b []=true:=by cases b<;>rfl
theorem DZ:∀ {b:List aD} {q:List Int} (j:Nat) (hb:j<b.length) (hq:j<q.length),lg s (b.drop j) (q.drop j)=(decide (0<=q[j])&&decide (q[j]<(bA s b[j].sort:Int))&&lg s (b.drop (j+1)) (q.drop (j+1))):=by
 intro b q j hb hq;rw[List.drop_eq_getElem_cons hb,List.drop_eq_getElem_cons hq,lg]
end Go.aa
namespace Go.Proofs.YtncnnbmeacpboaaGreatDoor
open Go.RowKit Go.aa
attribute [local go_sem] Oper.semAt_some
variable {s:aF} {b:List aD} {q:List Int} {j k lo B sz g MB s1 s2:Nat} {l:List bq} {i:Ins} {w W w':World} {f:ae} {v v1 v2:Value} {F G F1 F2:Nat->Prop} {e e1 e2:TypeId} {xs l1 l2:List D} {α:Type} {L:Int->List Bs} {t:List (Int×Value)} {rw:Int->Option Nat} {X:List Ins} {r1 r2:Option Nat}
theorem Ir(s:aF)(x:bS)(l:List bq)(z:aK)(i:gp)(y:jL)(w:World)(hs:dD w (·<w.heap.size) s x)(hsm:SchSmall s)(hz:aj w (·<w.heap.size) (l.map bq.toD) z)(hl:l.length<=2000000)(hy:fU w (·<w.heap.size) i y)(hbl:i.binds.length<=2000000):
  Calls Tryz.prog 26 #[.agg (x.cells s).toArray,.slice z.a l.length z.cap,.agg (y.cells i).toArray] w fun e w'=>e=.returned (.bool (vN s l i.ins))/\Below w.heap.size w w':=by
 obtain⟨SB,rO⟩:∃SB,SB=w.heap.size:=⟨_,rfl⟩;obtain⟨IB,hIB⟩:∃IB,IB=SB+1:=⟨_,rfl⟩;obtain⟨V0,Bn⟩:∃V0,V0=w.alloc (.cells #[.slice x.slots.a s.slots.length x.slots.cap,.slice x.ah.a s.ah.length x.ah.cap,.slice x.people.a s.people.length x.people.cap,.slice x.groups.a s.groups.length x.groups.cap,.slice x.lessons.a s.lessons.length x.lessons.cap] 28):=⟨_,rfl⟩;obtain⟨W0,hW0⟩:∃W0,W0=V0.alloc (.cells #[.int .i64 i.rule,.slice y.b.a i.binds.length y.b.cap,.int .i64 y.k0,.int .i64 y.k1,.int .i64 y.k2,.slice y.a y.n y.cap] 35):=⟨_,rfl⟩;have hv0:V0.heap.size=SB+1:=by rw[Bn,rO];simp
 have hb0:Below w.heap.size w W0:=by rw[hW0,Bn];exact((Below.refl _ _).alloc (Nat.le_refl _) _).alloc (by simp) _
 have k0:W0.heap[SB]?=some (.cells #[.slice x.slots.a s.slots.length x.slots.cap,.slice x.ah.a s.ah.length x.ah.cap,.slice x.people.a s.people.length x.people.cap,.slice x.groups.a s.groups.length x.groups.cap,.slice x.lessons.a s.lessons.length x.lessons.cap] 28 (0,0)):=by rw[hW0,af,if_neg (by omega),Bn,af,if_pos rO]
 have k1:W0.heap[IB]?=some (.cells #[.int .i64 i.rule,.slice y.b.a i.binds.length y.b.cap,.int .i64 y.k0,.int .i64 y.k1,.int .i64 y.k2,.slice y.a y.n y.cap] 35 (0,0)):=by rw[hW0,af,if_pos (by omega)]
 have HC:Hid (∀W,Below W0.heap.size W0 W->Below w.heap.size w W/\(W.cell? ⟨SB,0,none⟩=some (.slice x.slots.a s.slots.length x.slots.cap)/\W.cell? ⟨SB,1,none⟩=some (.slice x.ah.a s.ah.length x.ah.cap)/\W.cell? ⟨SB,2,none⟩=some (.slice x.people.a s.people.length x.people.cap)/\W.cell? ⟨SB,3,none⟩=some (.slice x.groups.a s.groups.length x.groups.cap)/\W.cell? ⟨SB,4,none⟩=some (.slice x.lessons.a s.lessons.length x.lessons.cap))/\W.cell? ⟨IB,0,none⟩=some (.int .i64 i.rule)/\W.cell? ⟨IB,1,none⟩=some (.slice y.b.a i.binds.length y.b.cap)):=Lh (fun W hW=>by
  have h0:=(hW.block _ (gS k0).1).trans k0;have h1:=(hW.block _ (gS k1).1).trans k1;exact⟨hb0.trans (hW.mono hb0.size),⟨cH h0 rfl,cH h0 rfl,cH h0 rfl,cH h0 rfl,cH h0 rfl⟩,cH h1 rfl,cH h1 rfl⟩)
 have Pg:=Lh (fun(W:World) (hW:Below w.heap.size w W) (so:Int)=>Es s x so W (hs.later hW hW.size) hsm);have Uj:Hid (∀W,Below w.heap.size w W->∀(j:Nat) (hj:j<l.length),∃ry:iG,(z.a=some ⟨z.b,z.o,none⟩/\z.b<w.heap.size)/\gV W (·<W.heap.size) l[j] ry/\W.cell? ⟨z.b,z.o+j*10+3,none⟩=some (.slice ry.each.a l[j].each.length ry.each.cap)):=Lh (fun W hW j hj=>by
  have h0:=hz.later hW hW.size;obtain⟨ry,h1,h2⟩:=h0.Aj j hj;have h3:=h2 3 (by simp[iG.cells]);exact⟨ry,hz.at_ (by rw[List.length_map];omega),h1,by simpa[iG.cells,aK.val] using h3⟩)
 have Rm:Hid (∀W,Below w.heap.size w W->∀(j:Nat) (hj:j<i.binds.length),y.b.a=some ⟨y.b.b,y.b.o,none⟩/\W.cell? ⟨y.b.b,y.b.o+j,none⟩=some (.int .i64 i.binds[j])):=Lh (fun W hW j hj=>by
  obtain⟨z1,_,_,_,z5⟩:=hy.binds.ints;exact⟨(z1 (by omega)).1,(hW.cell (p:=⟨y.b.b,y.b.o+j,none⟩) (z1 (by omega)).2).trans (z5 j hj)⟩)
 have Na:=Lh (aI hl hbl);obtain⟨res,hres⟩:∃res,res=vN s l i.ins:=⟨_,rfl⟩;rw[<-hres];have HR:Hid (res=(decide (0<=i.rule)&&(match l[i.rule.toNat]? with|none=>false|some r=>decide (i.binds.length=r.each.length)&&lg s r.each i.binds))):=Lh hres;have HW0:=Lh (aI Bn (aI hW0 (aI rO hIB)));clear hs hsm hz hl hy hbl hb0 k0 k1 hv0 hres Bn hW0 rO hIB;simp only[bS.cells,aK.val,jL.cells] at Pg ⊢;have hc0:=HC.out _ (Below.refl _ _);obtain⟨_,_,a0,a1⟩:=hc0;have hll:=Na.out.1;have hbl:=Na.out.2;go_enter Tryz.func26,Tryz.ntmps26;go_upto_region 1 with fail
 try rw[<-HW0.out.2.2.1]
 rw[<-HW0.out.1]
 try rw[<-HW0.out.2.2.2]
 rw[<-HW0.out.2.1];by_cases h0:i.rule<0
 ·have HX:Hid (res=false):=Lh (by rw[HR.out,decide_eq_false (by omega)];rfl);go_quiet (fail);go_wp2_with fail;go_ret;exact⟨by rw[HX.out];rfl,dQ (HC.out _ (Below.refl _ _)).1 _⟩
 have h0':decide (i.rule<0)=false:=decide_eq_false h0;obtain⟨k,hk⟩:∃k:Nat,i.rule=(k:Int):=⟨i.rule.toNat,by omega⟩;by_cases h1:(l.length:Int)<=i.rule
 ·have HX:Hid (res=false):=Lh (by rw[HR.out,List.getElem?_eq_none (by omega)];simp);clear hk;go_quiet (fail);go_wp2_with fail;go_ret;exact⟨by rw[HX.out];rfl,dQ (HC.out _ (Below.refl _ _)).1 _⟩
 have h1':decide ((l.length:Int)<=i.rule)=false:=decide_eq_false h1;have hkl:k<l.length:=by omega
 obtain⟨ry,hza,RJ,e3⟩:=Uj.out W0 (HC.out _ (Below.refl _ _)).1 k hkl;have HR2:Hid (res=(decide (i.binds.length=l[k].each.length)&&lg s l[k].each i.binds)):=Lh (by rw[HR.out,decide_eq_true (by omega),hk,Int.toNat_natCast,List.getElem?_eq_getElem hkl];rfl);have S9:=(HC.out _ (Below.refl _ _)).1;have JI:Hid (∀W,Below W0.heap.size W0 W->W.cell? ⟨z.b,z.o+k*10+3,none⟩=some (.slice ry.each.a l[k].each.length ry.each.cap)/\∀(j:Nat) (hj:j<l[k].each.length),ry.each.a=some ⟨ry.each.b,ry.each.o,none⟩/\W.cell? ⟨ry.each.b,ry.each.o+j*2+1,none⟩=some (.int .i64 l[k].each[j].sort)):=Lh (fun W hW=>by
  refine⟨(hW.cell (p:=⟨z.b,z.o+k*10+3,none⟩) (Nat.lt_of_lt_of_le hza.2 S9.size)).trans e3,fun j hj=>?_⟩;obtain⟨h1,_,_,h4,_⟩:=aj.flat aD.bI (RJ.each.later hW hW.size);obtain⟨_,g1⟩:=h4.two j hj rfl;exact⟨(h1 (by omega)).1,g1⟩)
 have TE:=hza.1;clear RJ S9 hza Uj;generalize l[k].each=ea at JI HR2 e3;obtain⟨za,zb,zo,zc⟩:=z;dsimp only at TE JI e3 ⊢;subst TE;rw[hk] at a0 h0' h1';have hki:(k:Int)<(l.length:Int):=by omega
 have Uf:=Lh hk;clear hk;have h1n:¬l.length<=k:=by omega
 by_cases h2:i.binds.length=ea.length;rotate_left
 ·have HX:Hid (res=false):=Lh (by rw[HR2.out,decide_eq_false h2];rfl);have h2':((i.binds.length:Int)==(ea.length:Int))=false:=by simpa using fun e=>h2 (by omega)
  have h3':((i.binds.length:Int) !=(ea.length:Int))=true:=by simpa using fun e=>h2 (by omega)
  clear h0 h1 h2;go_quiet (fail);go_wp2_with fail;go_ret;exact⟨by rw[HX.out];rfl,dQ (HC.out _ (Below.refl _ _)).1 _⟩
 have H2:=Lh h2;have h2':((i.binds.length:Int)==(ea.length:Int))=true:=by rw[h2];simp
 have h3':((i.binds.length:Int) !=(ea.length:Int))=false:=by rw[h2];simp
 have HR3:Hid (res=lg s ea i.binds):=Lh (by rw[HR2.out,decide_eq_true h2];rfl);clear h0 h1 h2 HR HR2;go_quiet (fail);clear h2' h3' e3 a0 a1;go_wp2_with fail;go_loopw [7] (fun ix wr=>∃j:Nat,j<=i.binds.length/\ix=.int .i64 j/\Hid (Below W0.heap.size W0 wr)/\Hid (res=lg s (ea.drop j) (i.binds.drop j))) (fun ix _=>i.binds.length-(intOf ix).toNat)
 case atStart=>exact⟨0,Nat.zero_le _,rfl,Lh (dQ (Below.refl _ _) _),HR3⟩
 case round=>
  obtain⟨j,hj,rfl,HB,HE⟩:=hrel;obtain⟨hbw,⟨c0,c1,c2,c3,c4⟩,a0,a1⟩:=HC.out wr HB.out;rw[Uf.out] at a0;by_cases hlt:j<i.binds.length
  ·obtain⟨hya,b0⟩:=Rm.out wr hbw j hlt;have ug:j<ea.length:=by have:=H2.out;omega
   obtain⟨e3,he⟩:=JI.out wr HB.out;obtain⟨KR,e1⟩:=he j ug;have HST:=Lh (HE.out.trans (DZ j ug hlt));have HG:Hid (∀W,Below wr.heap.size wr W->W.cell? ⟨SB,0,none⟩=some (.slice x.slots.a s.slots.length x.slots.cap)/\W.cell? ⟨SB,1,none⟩=some (.slice x.ah.a s.ah.length x.ah.cap)/\W.cell? ⟨SB,2,none⟩=some (.slice x.people.a s.people.length x.people.cap)/\W.cell? ⟨SB,3,none⟩=some (.slice x.groups.a s.groups.length x.groups.cap)/\W.cell? ⟨SB,4,none⟩=some (.slice x.lessons.a s.lessons.length x.lessons.cap)/\W.cell? ⟨IB,0,none⟩=some (.int .i64 (k:Int))/\W.cell? ⟨IB,1,none⟩=some (.slice (some ⟨y.b.b,y.b.o,none⟩) i.binds.length y.b.cap)/\W.cell? ⟨y.b.b,y.b.o+j,none⟩=some (.int .i64 i.binds[j])/\W.cell? ⟨zb,zo+k*10+3,none⟩=some (.slice (some ⟨ry.each.b,ry.each.o,none⟩) ea.length ry.each.cap)/\W.cell? ⟨ry.each.b,ry.each.o+j*2+1,none⟩=some (.int .i64 ea[j].sort)):=Lh (fun W hW=>by
    have hb:=HB.out.trans (hW.mono HB.out.size);obtain⟨hbw,⟨c0,c1,c2,c3,c4⟩,a0,a1⟩:=HC.out W hb;obtain⟨hya,b0⟩:=Rm.out W hbw j hlt;obtain⟨e3,he⟩:=JI.out W hb;obtain⟨KR,e1⟩:=he j ug;exact⟨c0,c1,c2,c3,c4,by rw[<-Uf.out];exact a0,by rw[<-hya];exact a1,b0,by rw[<-KR];exact e3,e1⟩)
   have Np:=Lh (fun(W:World) (hW:Below wr.heap.size wr W)=>Pg.out W (HC.out W (HB.out.trans (hW.mono HB.out.size))).1 ea[j].sort);clear c0 c1 c2 c3 c4 a0 a1 b0 e3 e1 he hya KR;obtain⟨c0,c1,c2,c3,c4,a0,a1,b0,e3,e1⟩:=HG.out wr (Below.refl _ _);have hjb:(j:Int)<(i.binds.length:Int):=by omega
   have ZI:(j:Int)<(ea.length:Int):=by omega
   generalize i.binds[j]=q at b0 HST HG;generalize ea[j].sort=so at e1 HST HG Np;generalize hmc:bA s so=mc at HST Np;clear hmc;by_cases hq:q<0
   ·have HX:Hid (res=false):=Lh (by rw[HST.out,decide_eq_false (by omega)];rfl);clear HG;go_wp2_with fail;go_quiet (fail);go_wp2_with fail;go_ret;exact⟨by rw[HX.out];rfl,dQ hbw _⟩
   have hq':decide (q<0)=false:=decide_eq_false hq;have hc:((mc:Int)<=q/\decide ((mc:Int)<=q)=true)∨(¬(mc:Int)<=q/\decide ((mc:Int)<=q)=false):=by
    by_cases h:(mc:Int)<=q
    ·exact .inl ⟨h,decide_eq_true h⟩
    ·exact .inr ⟨h,decide_eq_false h⟩
   clear hbw;have Y9:=Lh hq;clear hq;go_wp2_with fail;clear c0 c1 c2 c3 c4 a0 a1 b0 e3 e1;go_region_held3 (fun w'=>Below wr.heap.size wr w'/\w'.cell? ⟨SB,0,none⟩=some (.slice x.slots.a s.slots.length x.slots.cap)/\w'.cell? ⟨SB,1,none⟩=some (.slice x.ah.a s.ah.length x.ah.cap)/\w'.cell? ⟨SB,2,none⟩=some (.slice x.people.a s.people.length x.people.cap)/\w'.cell? ⟨SB,3,none⟩=some (.slice x.groups.a s.groups.length x.groups.cap)/\w'.cell? ⟨SB,4,none⟩=some (.slice x.lessons.a s.lessons.length x.lessons.cap)/\w'.cell? ⟨IB,0,none⟩=some (.int .i64 (k:Int))/\w'.cell? ⟨IB,1,none⟩=some (.slice (some ⟨y.b.b,y.b.o,none⟩) i.binds.length y.b.cap)/\w'.cell? ⟨y.b.b,y.b.o+j,none⟩=some (.int .i64 q)/\w'.cell? ⟨zb,zo+k*10+3,none⟩=some (.slice (some ⟨ry.each.b,ry.each.o,none⟩) ea.length ry.each.cap)/\w'.cell? ⟨ry.each.b,ry.each.o+j*2+1,none⟩=some (.int .i64 so)) ((refine⟨?_,HG.out _ ?_⟩<;>first|exact Vg.out|exact(Below.refl _ _).drew|exact Below.refl _ _|fail)) (first
    |(go_at_call 51;refine(Np.out _ (by first|exact(Below.refl _ _).drew|exact hS.1)).mono ?_;rintro e w7 ⟨rfl,hbb⟩;have Vg:Hid (Below wr.heap.size wr w7):=Lh (by first|exact(Below.refl _ _).drew.trans hbb|exact hS.1.trans (hbb.mono hS.1.size));clear hbb)|fail)
   all_goals
    have Nn:=Lh (HB.out.trans (Vg.out.mono HB.out.size));clear Vg HG Np;rcases hc with⟨g1,g2⟩|⟨g1,g2⟩
    ·have HX:Hid (res=false):=Lh (by rw[HST.out,decide_eq_false (show ¬q<(mc:Int) by omega)];simp);go_wp2_with fail;go_ret;exact⟨by rw[HX.out];rfl,(HC.out _ Nn.out).1⟩
    ·have HX:Hid (res=lg s (ea.drop (j+1)) (i.binds.drop (j+1))):=Lh (by rw[HST.out,decide_eq_true (show q<(mc:Int) by omega),decide_eq_true (show 0<=q from by have:=Y9.out;omega)];rfl);go_wp2_with fail;go_round
     case rel=>exact⟨j+1,by omega,by go_num,Nn,HX⟩
     case measure=>simp[intOf];omega
  ·have ug:j=i.binds.length:=by omega
   subst ug;have HX:Hid (res=true):=Lh (by rw[HE.out,List.drop_length,Hr]);go_wp2_with fail;go_ret;exact⟨by rw[HX.out];rfl,hbw⟩
end Go.Proofs.YtncnnbmeacpboaaGreatDoor
namespace Go.aa
open Go.RowKit
variable {s:aF} {b:List aD} {q:List Int} {j k lo B sz g MB s1 s2:Nat} {l:List bq} {i:Ins} {w W w':World} {f:ae} {v v1 v2:Value} {F G F1 F2:Nat->Prop} {e e1 e2:TypeId} {xs l1 l2:List D} {α:Type} {L:Int->List Bs} {t:List (Int×Value)} {rw:Int->Option Nat} {X:List Ins} {r1 r2:Option Nat}
section
variable {P:Program}
theorem oq{W0:World}{B:Nat}(hB:W0.heap.size=B){F:Nat->Prop}{o:Oper}{a:Act}{K:Act->World->Prop}{Q:Exit->Act->World->Prop}(s x:Operand)(t:TypeId)(ho:o.op=.call { callee:=.builtin .append,args:=#[s,x],argTypes:=#[t,t]})(e:TypeId)(i:TypeInfo)(z:Value)(size bytes:Nat)(ht:P.underlying t=some (.slice e))(hi:P.info? e=some i)(hz:i.zero=some z)(hsize:i.size=size)(hby:i.bytes=bytes)(hzs:z.cells.size=size)(hsz:0<size)(v:Value)(r:Option Nat)(xs:List D)(y:D)(cs:List Value)(T:TypeId)(hs:a.eval s=v)(hx:a.eval x=.slice (some ⟨B,0,none⟩) 1 1)(h1:Own W0 F e size v r xs)(hd:au W0 F [y] cs)(hw:y.width=size)(h63:xs.length+1<=maxLen)(hbytes:(xs.length+1)*bytes<=140737488355328)(h:∀ao cap r' w',Own w' F e size (.slice ao (xs.length+1) cap) r' (xs++[y])->Mod (fun k=>r=some k) W0 w'->(r'=r∨∃k,r'=some k/\W0.heap.size<=k)->K (a.put o.dst (.slice ao (xs.length+1) cap)) w'):
  o.wp P a (W0.alloc (.cells cs.toArray T)) K Q:=by
 have hb:Below W0.heap.size W0 (W0.alloc (.cells cs.toArray T)):=(Below.refl _ _).alloc (Nat.le_refl _) _;have hnb:(W0.alloc (.cells cs.toArray T)).heap[W0.heap.size]?=some (.cells cs.toArray T (0,0)):=boxed (B:=W0.heap.size+1) (Below.refl _ _) (by omega);have hnews:∀j u,cs[j]?=some u->(W0.alloc (.cells cs.toArray T)).cell? ((⟨W0.heap.size,0,none⟩:Addr).add j)=some u:=fun j u hu=>by
  have hc:=cH (i:=j) hnb (v:=u) (by simpa using hu);unfold Addr.add;by_cases h0:j=0
  ·subst h0;simpa using hc
  ·rw[if_neg h0];simpa using hc
 have hlen:cs.length=1*size:=by
  have:=au.length _ _ hd;rw[this];simp[bO,hw]
 have hd':au (W0.alloc (.cells cs.toArray T)) F [y] cs:=au.agree ((ag hb).mono h1.lt) _ _ hd;have h1':=h1.alloc (.cells cs.toArray T);obtain⟨cs0,k1,k2⟩:=h1'.cells;refine wp_append_lies (W0.alloc (.cells cs.toArray T)) s x t ho 0 e i z size bytes ht hi hz hsize hby hzs hsz v xs.length cs0 hs k1 ⟨W0.heap.size,0,none⟩ 1 1 cs (by rw[hx,hB]) hlen hnews (au.one _ _ hd) (by omega) h63 hbytes (Nat.zero_le _) _ rfl (fun g cap w' hown hgr hat hlt=>?_);obtain⟨g1,g2,g3⟩:=h1'.appended (ys:=[y]) k2 hown hgr (by rcases hat with h|h;exact .inl h.symm;exact .inr (by rw[h];rfl)) hd';have hm0:Mod (fun k=>r=some k) W0 w':=(Mod.of_below (S:=fun k=>r=some k) hb).trans g2 (fun _ _ h=>h);exact h _ _ _ _ g1 hm0 (by rcases g3 with g3|g3;exact .inl g3;exact .inr ⟨_,g3,by simp⟩)
theorem rY{W0:World}{B:Nat}(hB:W0.heap.size=B){F:Nat->Prop}{ops:Array Oper}{o:Oper}{a:Act}{K:Act->World->Prop}{Q:Exit->Act->World->Prop}{E:Prop}(hgd:o.guard=none)(s x:Operand)(t:TypeId)(ho:o.op=.call { callee:=.builtin .append,args:=#[s,x],argTypes:=#[t,t]})(e:TypeId)(i:TypeInfo)(z:Value)(size bytes:Nat)(ht:P.underlying t=some (.slice e))(hi:P.info? e=some i)(hz:i.zero=some z)(hsize:i.size=size)(hby:i.bytes=bytes)(hzs:z.cells.size=size)(hsz:0<size)(v:Value)(r:Option Nat)(xs:List D)(y:D)(cs:List Value)(T:TypeId)(hs:a.eval s=v)(hx:a.eval x=.slice (some ⟨B,0,none⟩) 1 1)(h1:Own W0 F e size v r xs)(hd:au W0 F [y] cs)(hw:y.width=size)(h63:xs.length+1<=maxLen)(hbytes:(xs.length+1)*bytes<=140737488355328)(h:∀ao cap r' w',Own w' F e size (.slice ao (xs.length+1) cap) r' (xs++[y])->Mod (fun k=>r=some k) W0 w'->(r'=r∨∃k,r'=some k/\W0.heap.size<=k)->K (a.put o.dst (.slice ao (xs.length+1) cap)) w'):
  if Region.wanted o (yielded ops a.tmps)=true then Oper.wp P o a (W0.alloc (.cells cs.toArray T)) K Q else E:=by
 have hwn:Region.wanted o (yielded ops a.tmps)=true:=by simp[Region.wanted,hgd]
 rw[if_pos hwn];exact oq hB s x t ho e i z size bytes ht hi hz hsize hby hzs hsz v r xs y cs T hs hx h1 hd hw h63 hbytes h
theorem qg{W0:World}{B:Nat}(hB:W0.heap.size=B){F:Nat->Prop}{ops:Array Oper}{rest:List Oper}{o:Oper}{a:Act}{Q:Exit->Act->World->Prop}(hgd:Region.wanted o (yielded ops a.tmps)=true)(s x:Operand)(t:TypeId)(ho:o.op=.call { callee:=.builtin .append,args:=#[s,x],argTypes:=#[t,t]})(e:TypeId)(i:TypeInfo)(z:Value)(size bytes:Nat)(ht:P.underlying t=some (.slice e))(hi:P.info? e=some i)(hz:i.zero=some z)(hsize:i.size=size)(hby:i.bytes=bytes)(hzs:z.cells.size=size)(hsz:0<size)(v:Value)(r:Option Nat)(xs:List D)(y:D)(cs:List Value)(T:TypeId)(hs:a.eval s=v)(hx:a.eval x=.slice (some ⟨B,0,none⟩) 1 1)(h1:Own W0 F e size v r xs)(hd:au W0 F [y] cs)(hw:y.width=size)(h63:xs.length+1<=maxLen)(hbytes:(xs.length+1)*bytes<=140737488355328)(h:∀ao cap r' w',Own w' F e size (.slice ao (xs.length+1) cap) r' (xs++[y])->Mod (fun k=>r=some k) W0 w'->(r'=r∨∃k,r'=some k/\W0.heap.size<=k)->wpList P ops Q rest (a.put o.dst (.slice ao (xs.length+1) cap)) w'):
  wpList P ops Q (o::rest) a (W0.alloc (.cells cs.toArray T)):=
 wpList_step fun K hK=>by
  rw[if_pos hgd];exact oq hB s x t ho e i z size bytes ht hi hz hsize hby hzs hsz v r xs y cs T hs hx h1 hd hw h63 hbytes (fun ao cap r' w' k1 k2 k3=>hK _ _ (h ao cap r' w' k1 k2 k3))
end
structure Two (w:World) (lo:Nat) (e1 e2:TypeId) (s1 s2:Nat) (F1 F2:Nat->Prop) (v1 v2:Value) (l1 l2:List D) (r1 r2:Option Nat):Prop where
 a:Own w F1 e1 s1 v1 r1 l1
 b:Own w F2 e2 s2 v2 r2 l2
 la:∀k,r1=some k->lo<=k
 lb:∀k,r2=some k->lo<=k
 ne:∀k,r1=some k->r2≠some k
 fa:∀k,F1 k->k<lo
 fb:∀k,F2 k->k<lo
theorem Two.nil{w:World}{lo:Nat}{e1 e2:TypeId}{s1 s2:Nat}{F1 F2:Nat->Prop}(h1:∀k,F1 k->k<lo)(h2:∀k,F2 k->k<lo)(hlo:lo<=w.heap.size):Two w lo e1 e2 s1 s2 F1 F2 (.slice none 0 0) (.slice none 0 0) [] [] none none:=
 ⟨Own.nil _ _ _ _ (fun k hk=>Nat.lt_of_lt_of_le (h1 k hk) hlo),Own.nil _ _ _ _ (fun k hk=>Nat.lt_of_lt_of_le (h2 k hk) hlo),(fun _ h=>nomatch h),(fun _ h=>nomatch h),(fun _ h=>nomatch h),h1,h2⟩
theorem Two.below{w w':World}{lo:Nat}{e1 e2:TypeId}{s1 s2:Nat}{F1 F2:Nat->Prop}{v1 v2:Value}{l1 l2:List D}{r1 r2:Option Nat}(h:Two w lo e1 e2 s1 s2 F1 F2 v1 v2 l1 l2 r1 r2)(hb:Below w.heap.size w w'):Two w' lo e1 e2 s1 s2 F1 F2 v1 v2 l1 l2 r1 r2:=
 ⟨h.a.below hb,h.b.below hb,h.la,h.lb,h.ne,h.fa,h.fb⟩
theorem Two.fst{YO:Value}{Yt:List D}{r1':Option Nat}(h:Two w lo e1 e2 s1 s2 F1 F2 v1 v2 l1 l2 r1 r2)(hlo:lo<=w.heap.size)(hm:Mod (fun k=>r1=some k) w w')(ho:Own w' F1 e1 s1 YO r1' Yt)(hr:r1'=r1∨∃k,r1'=some k/\w.heap.size<=k):Two w' lo e1 e2 s1 s2 F1 F2 YO v2 Yt l2 r1' r2:=by
 refine⟨ho,h.b.kept hm (fun k hk e=>by have h1:=h.fb k hk;have h2:=h.la k e;omega) (fun k hk e=>h.ne k e hk),fun k hk=>?_,h.lb,fun k hk e=>?_,h.fa,h.fb⟩
 ·rcases hr with hr|⟨q,hr,hq⟩
  ·exact h.la k (hr▸hk)
  ·rw[hr] at hk;have:=Option.some.inj hk;omega
 ·rcases hr with hr|⟨q,hr,hq⟩
  ·exact h.ne k (hr▸hk) e
  ·rw[hr] at hk;have h1:=Option.some.inj hk;have h2:=h.b.fQ e;omega
theorem Two.swap(h:Two w lo e1 e2 s1 s2 F1 F2 v1 v2 l1 l2 r1 r2):Two w lo e2 e1 s2 s1 F2 F1 v2 v1 l2 l1 r2 r1:=⟨h.b,h.a,h.lb,h.la,fun k hk e=>h.ne k e hk,h.fb,h.fa⟩
theorem Two.onto(h:Two w lo e1 e2 s1 s2 F1 F2 v1 v2 l1 l2 r1 r2):fP w lo F1 e1 s1 v1 l1/\fP w lo F2 e2 s2 v2 l2:=⟨⟨r1,h.a,h.la⟩,r2,h.b,h.lb⟩
end Go.aa
namespace Go.aa
variable {s:aF} {b:List aD} {q:List Int} {j k lo B sz g MB s1 s2:Nat} {l:List bq} {i:Ins} {w W w':World} {f:ae} {v v1 v2:Value} {F G F1 F2:Nat->Prop} {e e1 e2:TypeId} {xs l1 l2:List D} {α:Type} {L:Int->List Bs} {t:List (Int×Value)} {rw:Int->Option Nat} {X:List Ins} {r1 r2:Option Nat}
theorem nR(s:aF):∀(b:List aD) (q:List Int),q.length=b.length->(bG s b q).length=q.length
 |[],[],_=>rfl
 |b::r,i::q,h=>by rw[bG,List.length_cons,List.length_cons,nR s r q (by simpa using h)]
 |[],_::_,h=>by simp at h
 |_::_,[],h=>by simp at h
theorem vQ(s:aF):∀(b:List aD) (q:List Int) (hl:q.length=b.length) (j:Nat) (hj:j<q.length),(bG s b q)[j]?=some (bY s (b[j]'(by omega)).sort q[j])
 |b::r,i::q,h,0,_=>rfl
 |b::r,i::q,h,j+1,hj=>by rw[bG,List.getElem?_cons_succ];exact vQ s r q (by simpa using h) j (by simpa using hj)
 |[],_::_,h,_,_=>by simp at h
end Go.aa
namespace Go.Proofs.YtncnnbmeacpboaaGreatDoor
open Go.RowKit Go.aa
attribute [local go_sem] Oper.semAt_some
variable {s:aF} {b:List aD} {q:List Int} {j k lo B sz g MB s1 s2:Nat} {l:List bq} {i:Ins} {w W w':World} {f:ae} {v v1 v2:Value} {F G F1 F2:Nat->Prop} {e e1 e2:TypeId} {xs l1 l2:List D} {α:Type} {L:Int->List Bs} {t:List (Int×Value)} {rw:Int->Option Nat} {X:List Ins} {r1 r2:Option Nat}
theorem zN(s:aF)(x:bS)(rl:bq)(ry:iG)(q:List Int)(qa:aK)(w:World)(hs:dD w (·<w.heap.size) s x)(hf:gQ s)(hr:gV w (·<w.heap.size) rl ry)(hq:aj w (·<w.heap.size) (bD q) qa)(hlen:q.length=rl.each.length)(hel:rl.each.length<=2000000)(hnl:∀b∈rl.each,b.name.length<=4000000):
  Calls Tryz.prog 27 #[.agg (x.cells s).toArray,.agg (ry.cells rl).toArray,.slice qa.a q.length qa.cap] w fun e w'=>∃u v:aK,e=.returned (.tuple #[.slice u.a q.length u.cap,.slice v.a q.length v.cap])/\aj w' (·<w'.heap.size) ((rl.each.map aD.name).map bM) u/\aj w' (·<w'.heap.size) ((bG s rl.each q).map bM) v/\Below w.heap.size w w':=by
 obtain⟨SB,rO⟩:∃SB,SB=w.heap.size:=⟨_,rfl⟩;obtain⟨RB,Ni⟩:∃RB,RB=SB+1:=⟨_,rfl⟩;obtain⟨V0,Bn⟩:∃V0,V0=w.alloc (.cells #[.slice x.slots.a s.slots.length x.slots.cap,.slice x.ah.a s.ah.length x.ah.cap,.slice x.people.a s.people.length x.people.cap,.slice x.groups.a s.groups.length x.groups.cap,.slice x.lessons.a s.lessons.length x.lessons.cap] 28):=⟨_,rfl⟩;obtain⟨W0,hW0⟩:∃W0,W0=V0.alloc (.cells #[.string ⟨rl.name.toArray⟩,.bool rl.hard,.int .i64 rl.weight,.slice ry.each.a rl.each.length ry.each.cap,.int .i64 rl.body.kind,.string ⟨rl.body.name.toArray⟩,.int .i64 rl.body.n,.slice ry.body.t.a rl.body.terms.length ry.body.t.cap,.slice ry.body.b.a rl.body.binds.length ry.body.b.cap,.slice ry.body.l.a rl.body.l.length ry.body.l.cap] 66):=⟨_,rfl⟩;have hv0:V0.heap.size=SB+1:=by rw[Bn,rO];simp
 have hb0:Below w.heap.size w W0:=by rw[hW0,Bn];exact((Below.refl _ _).alloc (Nat.le_refl _) _).alloc (by simp) _
 have k0:W0.heap[SB]?=some (.cells #[.slice x.slots.a s.slots.length x.slots.cap,.slice x.ah.a s.ah.length x.ah.cap,.slice x.people.a s.people.length x.people.cap,.slice x.groups.a s.groups.length x.groups.cap,.slice x.lessons.a s.lessons.length x.lessons.cap] 28 (0,0)):=by rw[hW0,af,if_neg (by omega),Bn,af,if_pos rO]
 have k1:W0.heap[RB]?=some (.cells #[.string ⟨rl.name.toArray⟩,.bool rl.hard,.int .i64 rl.weight,.slice ry.each.a rl.each.length ry.each.cap,.int .i64 rl.body.kind,.string ⟨rl.body.name.toArray⟩,.int .i64 rl.body.n,.slice ry.body.t.a rl.body.terms.length ry.body.t.cap,.slice ry.body.b.a rl.body.binds.length ry.body.b.cap,.slice ry.body.l.a rl.body.l.length ry.body.l.cap] 66 (0,0)):=by rw[hW0,af,if_pos (by omega)]
 have HC:Hid (∀W,Below W0.heap.size W0 W->Below w.heap.size w W/\(W.cell? ⟨SB,0,none⟩=some (.slice x.slots.a s.slots.length x.slots.cap)/\W.cell? ⟨SB,1,none⟩=some (.slice x.ah.a s.ah.length x.ah.cap)/\W.cell? ⟨SB,2,none⟩=some (.slice x.people.a s.people.length x.people.cap)/\W.cell? ⟨SB,3,none⟩=some (.slice x.groups.a s.groups.length x.groups.cap)/\W.cell? ⟨SB,4,none⟩=some (.slice x.lessons.a s.lessons.length x.lessons.cap))/\W.cell? ⟨RB,3,none⟩=some (.slice ry.each.a rl.each.length ry.each.cap)):=Lh (fun W hW=>by
  have h0:=(hW.block _ (gS k0).1).trans k0;have h1:=(hW.block _ (gS k1).1).trans k1;exact⟨hb0.trans (hW.mono hb0.size),⟨cH h0 rfl,cH h0 rfl,cH h0 rfl,cH h0 rfl,cH h0 rfl⟩,cH h1 rfl⟩)
 have Ga:=Lh (fun(so at_:Int) (W:World) (hW:Below W0.heap.size W0 W)=>Ew s x so at_ W (hs.later (hb0.trans (hW.mono hb0.size)) (hb0.trans (hW.mono hb0.size)).size) hf.toSchSmall);have P7:=Lh (fun(sort at_:Int)=>uR hf sort at_);have JI:Hid (∀W,Below w.heap.size w W->∀(j:Nat) (hj:j<rl.each.length),ry.each.a=some ⟨ry.each.b,ry.each.o,none⟩/\W.cell? ⟨ry.each.b,ry.each.o+j*2,none⟩=some (.string ⟨rl.each[j].name.toArray⟩)/\W.cell? ⟨ry.each.b,ry.each.o+j*2+1,none⟩=some (.int .i64 rl.each[j].sort)):=Lh (fun W hW j hj=>by
  obtain⟨h1,_,_,h4,_⟩:=aj.flat aD.bI (hr.each.later hW hW.size);obtain⟨e0,e1⟩:=h4.two j hj rfl;exact⟨(h1 (by omega)).1,e0,e1⟩)
 have HQ:Hid (∀W,Below w.heap.size w W->∀(j:Nat) (hj:j<q.length),qa.a=some ⟨qa.b,qa.o,none⟩/\W.cell? ⟨qa.b,qa.o+j,none⟩=some (.int .i64 q[j])):=Lh (fun W hW j hj=>by
  obtain⟨z1,_,_,_,z5⟩:=hq.ints;exact⟨(z1 (by omega)).1,(hW.cell (p:=⟨qa.b,qa.o+j,none⟩) (z1 (by omega)).2).trans (z5 j hj)⟩)
 have yS:=Lh (fun(j:Nat) (hj:j<rl.each.length)=>hnl _ (List.getElem_mem hj));have HL:=Lh (aI hlen hel);have Xn:Hid (∀(j:Nat) (hj:j<q.length) (ug:j<rl.each.length),(bG s rl.each q)[j]?=some (bY s rl.each[j].sort q[j])):=Lh (fun j hj _=>vQ s rl.each q hlen j hj);have Ui:=Lh (nR s rl.each q hlen);obtain⟨ng,X9⟩:∃ng,ng=bG s rl.each q:=⟨_,rfl⟩;simp only[<-X9] at Xn Ui ⊢;have HW0:=Lh (aI Bn (aI hW0 (aI rO Ni)));have HB0:=Lh hb0;have hsz0:W0.heap.size=w.heap.size+2:=by rw[hW0];simp;omega
 have sF:=Lh hsz0;clear hs hf hr hq hlen hel hnl hb0 k0 k1 hv0 Bn hW0 rO Ni X9 hsz0;simp only[bS.cells,aK.val,iG.cells,aC.cells,ae.kind,ae.name,ae.n,ae.terms,ae.binds,ae.l] at Ga HW0 ⊢;obtain⟨i0,hi,hz0,hz1,hz2⟩:=info_parts oD;go_enter Tryz.func27,Tryz.ntmps27;go_upto_region 1 with fail
 try rw[<-HW0.out.2.2.1]
 rw[<-HW0.out.1]
 try rw[<-HW0.out.2.2.2]
 try rw[<-HW0.out.2.1]
 go_wp2_with fail;have Yb:q.length<=2000000:=by have:=HL.out;omega
 go_loopw [8,9,10] (fun fv tv ix wr=>∃j:Nat,j<=q.length/\ix=.int .i64 j/\Hid (Below W0.heap.size W0 wr)/\Hid (∃r1 r2,Two wr W0.heap.size 9 9 1 1 (fun _=>False) (fun _=>False) fv tv (((rl.each.take j).map aD.name).map bM) ((ng.take j).map bM) r1 r2)) (fun _ _ ix _=>q.length-(intOf ix).toNat)
 case atStart=>exact⟨0,Nat.zero_le _,rfl,Lh (Below.refl _ _),Lh ⟨none,none,Two.nil (fun _ h=>h.elim) (fun _ h=>h.elim) (Nat.le_refl _)⟩⟩
 case round=>
  obtain⟨j,hj,rfl,HB,HT⟩:=hrel;by_cases hlt:j<q.length
  ·obtain⟨r1,r2,HT2⟩:=HT.out;obtain⟨fa,Vy,ZE⟩:=HT2.a.form;obtain⟨ta,WG,ZW⟩:=HT2.b.form;subst ZE ZW;have ug:j<rl.each.length:=by have:=HL.out.1;omega
   have hbw:=(HC.out wr HB.out).1;obtain⟨KR,e0,e1⟩:=JI.out wr hbw j ug;obtain⟨Wh,b0⟩:=HQ.out wr hbw j hlt;have a3:=(HC.out wr HB.out).2.2;have RF:j=(((rl.each.take j).map aD.name).map bM).length/\j=((ng.take j).map bM).length:=by simp;have:=Ui.out;omega
   have Pn:=Lh (show j=((rl.each.take j).map aD.name).length/\j=(ng.take j).length by simpa using RF);rw[<-RF.1,<-RF.2];rw[<-RF.1,<-RF.2] at HT2;have HT2:=Lh HT2;have Xl:=Lh (yS.out j ug);have tL:Hid ((rl.each.take (j+1)).map aD.name=(rl.each.take j).map aD.name++[rl.each[j].name]):=Lh (by rw[List.take_succ_eq_append_getElem ug,List.map_append];rfl);have Nz:Hid (ng.take (j+1)=ng.take j++[bY s rl.each[j].sort q[j]]):=Lh (by rw[List.take_add_one,Xn.out j hlt ug];rfl);have HRW:Hid (∀W,Below W0.heap.size W0 W->W.cell? ⟨SB,0,none⟩=some (.slice x.slots.a s.slots.length x.slots.cap)/\W.cell? ⟨SB,1,none⟩=some (.slice x.ah.a s.ah.length x.ah.cap)/\W.cell? ⟨SB,2,none⟩=some (.slice x.people.a s.people.length x.people.cap)/\W.cell? ⟨SB,3,none⟩=some (.slice x.groups.a s.groups.length x.groups.cap)/\W.cell? ⟨SB,4,none⟩=some (.slice x.lessons.a s.lessons.length x.lessons.cap)/\W.cell? ⟨RB,3,none⟩=some (.slice (some ⟨ry.each.b,ry.each.o,none⟩) rl.each.length ry.each.cap)/\W.cell? ⟨ry.each.b,ry.each.o+j*2,none⟩=some (.string ⟨rl.each[j].name.toArray⟩)/\W.cell? ⟨ry.each.b,ry.each.o+j*2+1,none⟩=some (.int .i64 rl.each[j].sort)/\W.cell? ⟨qa.b,qa.o+j,none⟩=some (.int .i64 q[j])):=Lh (fun W hW=>by
    obtain⟨hb,hsc,h3⟩:=HC.out W hW;obtain⟨KR,e0,e1⟩:=JI.out W hb j ug;obtain⟨Wh,b0⟩:=HQ.out W hb j hlt;exact⟨hsc.1,hsc.2.1,hsc.2.2.1,hsc.2.2.2.1,hsc.2.2.2.2,by rw[<-KR];exact h3,e0,e1,b0⟩)
   have ow:=Lh (fun(W:World) (hW:Below W0.heap.size W0 W)=>Ga.out rl.each[j].sort q[j] W hW);have PY:=Lh (P7.out rl.each[j].sort q[j]);have hjq:(j:Int)<(q.length:Int):=by omega
   have ZJ:(j:Int)<(rl.each.length:Int):=by omega
   rw[KR] at a3;rw[Wh];generalize bY s rl.each[j].sort q[j]=el at Nz ow PY;generalize rl.each[j].name=bn at e0 Xl tL HRW;generalize rl.each[j].sort=so at e1 HRW ow;generalize q[j]=qj at b0 HRW ow;generalize (rl.each.take j).map aD.name=fl at Pn HT2 tL;generalize ng.take j=tl at Pn HT2 Nz;generalize ry.each.b=eb at a3 e0 e1 HRW;generalize ry.each.o=eo at a3 e0 e1 HRW;clear KR Wh hbw RF HT;go_upto_region 7 with(at_builtin;go_must (refine qg (B:=wr.heap.size) rfl rfl _ _ 47 rfl 9 i0 _ 1 16 Tryz.underlying47 hi hz0 hz1 hz2 rfl (by decide) (.slice fa j Vy) r1 (fl.map bM) (bM bn) [.string ⟨bn.toArray⟩] 9 rfl rfl HT2.out.a (lG (by have:=Xl.out;unfold maxLen;omega)) rfl (by rw[List.length_map,<-Pn.out.1];unfold maxLen;omega) (by rw[List.length_map,<-Pn.out.1];omega) ?_);intro ao cap r1' w5 hown hmod hat;rw[List.length_map,<-Pn.out.1] at hown ⊢;have Zc:=Lh (HT2.out.fst (HB.out.size) hmod hown hat);have uB:=Lh (HB.out.trans (hmod.below HB.out.size (fun k hk=>HT2.out.la k hk)));clear hown hmod hat)
   have HR:=HRW;clear a3 e0 e1 b0;refine bB 15 (S:=fun W=>Below W0.heap.size W0 W) (by kernel_rfl) uB.out.drew (fun hHeld=>?_);refine aV (i:=0) rfl hHeld HR ?_;refine aV (i:=1) rfl hHeld HR ?_;refine aV (i:=2) rfl hHeld HR ?_;refine aV (i:=3) rfl hHeld HR ?_;refine aV (i:=4) rfl hHeld HR ?_;refine aV (i:=5) rfl hHeld HR ?_;refine aV (i:=6) rfl hHeld HR ?_;refine aV (i:=7) rfl hHeld HR ?_;refine aV (i:=8) rfl hHeld HR ?_;refine aV (i:=9) rfl hHeld HR ?_;refine aV (i:=10) rfl hHeld HR ?_;refine aV (i:=11) rfl hHeld HR ?_;refine az (rs:=[12]) (by kernel_rfl) (by simp) ?_;refine aY rfl (fun K hK=>?_) aS;go_simp;refine(ow.out _ hHeld).mono ?_;rintro e w6 ⟨rfl,hb⟩;have B6:=Lh (hHeld.trans (hb.mono hHeld.size));have Vn:=Lh (Zc.out.below (Below.trans (Below.refl _ _).drew hb));clear hb;go_simp;refine hK.out _ _ (B6.out) fun hHeld=>?_;clear hK K
   try simp only[Act.put,jZ,j3,j4]
   refine az (rs:=[13]) (by kernel_rfl) (by simp) ?_;refine aY rfl (fun K hK=>?_) aS;go_simp;refine hK.out _ _ ?_ (fun mr=>?_)
   ·exact B6.out.alloc B6.out.size _
   clear hK K hHeld;clear mr
   try simp only[Act.put,jZ,j3,j4]
   refine az (rs:=[14]) (by kernel_rfl) (by simp) ?_;refine aY rfl (fun K hK=>?_) aS;refine rY (W0:=w6) (B:=w6.heap.size) rfl rfl _ _ 47 rfl 9 i0 _ 1 16 Tryz.underlying47 hi hz0 hz1 hz2 rfl (by decide) (.slice ta j WG) r2 (tl.map bM) (bM el) [.string ⟨el.toArray⟩] 9 rfl rfl Vn.out.b (lG (by have:=PY.out;unfold maxLen;omega)) rfl (by rw[List.length_map,<-Pn.out.2];unfold maxLen;omega) (by rw[List.length_map,<-Pn.out.2];omega) ?_;intro Ut cap2 rt' w7 hown hmod hat;rw[List.length_map,<-Pn.out.2] at hown ⊢;have Zd:=Lh (Vn.out.swap.fst B6.out.size hmod hown hat);have Nn:Hid (Below W0.heap.size W0 w7):=Lh (Below.trans B6.out (hmod.below B6.out.size (fun k hk=>by have:=Vn.out.lb k hk;omega)));clear hown hmod hat;refine hK.out _ _ ?_ (fun mr=>?_)
   ·exact Nn.out
   clear hK K;clear mr
   try simp only[Act.put,jZ,j3,j4]
   refine az (rs:=[15]) (by kernel_rfl) (by simp) ?_;refine eG rfl (by kernel_rfl) (fun K hK=>?_) aS;go_simp;refine hK.out _ _ ?_;clear hK K
   try simp only[Act.put,jZ,j3,j4]
   refine eT (by kernel_rfl) ?_ _;go_wp2_with fail;refine⟨⟨j+1,by omega,by go_num,Nn,Lh ⟨r1',rt',?_⟩⟩,by simp[intOf];omega⟩;rw[tL.out,Nz.out,List.map_append,List.map_append];exact Zd.out.swap
  ·have ug:j=q.length:=by omega
   subst ug;have hbw:=(HC.out wr HB.out).1;obtain⟨r1,r2,HT2⟩:=HT.out;rw[List.take_of_length_le (by have:=HL.out;omega),List.take_of_length_le (by have:=Ui.out;omega)] at HT2;obtain⟨o1,o2⟩:=HT2.onto;obtain⟨u,hu,Yf⟩:=o1.onto.sl (by rw[bP bV];simp);obtain⟨v,hv,hvs⟩:=o2.onto.sl (by rw[bP bV];simp);rw[aK.val,List.length_map,List.length_map,<-HL.out.1] at hu;rw[aK.val,List.length_map,Ui.out] at hv;subst hu hv;have HF:=Lh (aI Yf (aI hvs hbw));clear HT2 o1 o2 Yf hvs hbw HT;go_wp2_with fail;go_ret2;exact⟨u,v,rfl,HF.out.1,HF.out.2.1,HF.out.2.2⟩
end Go.Proofs.YtncnnbmeacpboaaGreatDoor
