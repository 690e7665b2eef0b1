/- Parts of the proof. -/
import Derived.Test.YtncnnbmeacpboaaGreatDoorLIs13
set_option maxHeartbeats 8000000
set_option maxRecDepth 100000
set_option linter.unusedVariables false
set_option linter.unusedSimpArgs false
namespace Go.aa
variable {l:List Bs} {k:Nat}
def eY(hard:Bool)(weight:Int):Bool:=(hard&&decide (weight=0))||(!hard&&decide (1<=weight)&&decide (weight<=1000))
theorem EX(r:bq):dK r=if aR r.name=false∨eY r.hard r.weight=false∨6<r.each.length then 1 else if r.each.all aL=false then 1 else if aM r.body≠0 then aM r.body else if kZ r.each=false then 82 else eH r.each r.body:=by
 unfold dK;have e:aL ⟨r.name,1⟩=aR r.name:=by simp[aL]
 rw[e];by_cases h:r.each.all aL=false
 ·rw[if_pos (.inr (.inr (.inr (.inr h))))];by_cases k:aR r.name=false∨eY r.hard r.weight=false∨6<r.each.length
  ·rw[if_pos k]
  ·rw[if_neg k,if_pos h]
 ·rw[if_neg h];have e2:(aR r.name=false∨r.weight<(if r.hard then 0 else 1)∨(if r.hard then 0 else 1000)<r.weight∨6<r.each.length∨r.each.all aL=false)↔(aR r.name=false∨eY r.hard r.weight=false∨6<r.each.length):=by
   have e3:eY r.hard r.weight=false↔(r.weight<(if r.hard then 0 else 1)∨(if r.hard then 0 else 1000)<r.weight):=by
    unfold eY;cases r.hard
    ·simp;omega
    ·simp;omega
   rw[e3];simp only[h,Bool.false_eq_true,Bool.true_eq_false,or_false];constructor
   ·rintro(g|g|g|g);exact .inl g;exact .inr (.inl (.inl g));exact .inr (.inl (.inr g));exact .inr (.inr g)
   ·rintro(g|(g|g)|g);exact .inl g;exact .inr (.inl g);exact .inr (.inr (.inl g));exact .inr (.inr (.inr g))
  by_cases k:aR r.name=false∨eY r.hard r.weight=false∨6<r.each.length
  ·rw[if_pos (e2.2 k),if_pos k]
  ·rw[if_neg (fun g=>k (e2.1 g)),if_neg k]
end Go.aa
namespace Go.Proofs.YtncnnbmeacpboaaGreatDoor
open Go.RowKit Go.aa
attribute [local go_sem] Oper.semAt_some
variable {l:List Bs} {k:Nat}
theorem Eo(r:bq)(y:iG)(w:World)(hy:gV w (·<w.heap.size) r y)(hf:gF r):
  Calls Tryz.prog 81 #[.agg (y.cells r).toArray] w fun e w'=>e=.returned (.int .i64 (dK r))/\Below w.heap.size w w':=by
 obtain⟨RB,Ni⟩:∃RB,RB=w.heap.size:=⟨_,rfl⟩;obtain⟨W0,hW0⟩:∃W0,W0=w.alloc (.cells (y.cells r).toArray 66):=⟨_,rfl⟩;have cz:Below w.heap.size w W0:=by rw[hW0];exact(Below.refl _ _).alloc (Nat.le_refl _) _
 have hbx:W0.heap[RB]?=some (.cells (y.cells r).toArray 66 (0,0)):=by rw[hW0,af,if_pos Ni]
 have ow:=Lh (fun(W:World)=>mI ⟨r.name.toArray⟩ W (by rw[aZ];have:=hf.name;omega));rw[show(⟨r.name.toArray⟩:ByteArray).data.toList=r.name from List.toList_toArray ..] at ow;have sD:=Lh (fun(W:World) (j:Nat) (h:j<r.each.length)=>En r.each[j].name r.each[j].sort W (hf.each _ (List.getElem_mem h)));have HST:=Lh (fun(W:World) (hW:Below w.heap.size w W) (k:Nat) (nm:Bs)=>mJ (r.each.take k) y.each nm W (aj.takeB (hy.each.later hW hW.size) k) (by have:=hf.len;rw[List.length_take];omega));have Dh:=Lh (fun(W:World) (hW:Below w.heap.size w W)=>sW r.body y.body W hf.body.size hf.body.nodes (hy.body.later hW hW.size));have Gn:=Lh (fun(W:World) (hW:Below w.heap.size w W) (h:aM r.body=0)=>Ci r.body.size r.body r.each y.each y.body W (Nat.le_refl _) hf.body.size (iH.1 h).1 (hy.each.later hW hW.size) (hy.body.later hW hW.size) (by have:=(iH.1 h).2.2;have:=hf.len;omega));have JI:Hid (∀W,Below w.heap.size w W->∀j (h:j<r.each.length),y.each.a=some ⟨y.each.b,y.each.o,none⟩/\W.cell? ⟨y.each.b,y.each.o+j*2,none⟩=some (.string ⟨r.each[j].name.toArray⟩)/\W.cell? ⟨y.each.b,y.each.o+j*2+1,none⟩=some (.int .i64 r.each[j].sort)):=Lh (fun W hW j h=>by
  obtain⟨h1,_,_,h4,_⟩:=aj.flat aD.bI (hy.each.later hW hW.size);obtain⟨e0,e1⟩:=h4.two j h rfl;exact⟨(h1 (by omega)).1,e0,e1⟩)
 have Ry:Hid (vO r.each r.each.length=kZ r.each):=Lh (LG _);have HR:=Lh (EX r);have lu:=Lh (aI hf.len (show r.each.length<=y.each.cap from by have:=hy.each.le;simpa using this));have HK:Hid (∀W,Below W0.heap.size W0 W->Below w.heap.size w W/\W.heap[RB]?=some (.cells (y.cells r).toArray 66 (0,0))):=Lh (fun W hW=>⟨cz.trans (hW.mono cz.size),(hW.block _ (gS hbx).1).trans hbx⟩);have HW0:=Lh (aI hW0 Ni);clear hy cz hbx hf hW0 Ni;generalize dK r=res at HR ⊢;obtain⟨name,hard,weight,each,⟨kind,fname,n,terms,binds,fl⟩⟩:=r;obtain⟨ye,yb⟩:=y;simp only at ow sD HST Dh Gn JI HR lu Ry;generalize aR name=TP at ow HR;generalize aM (.mk kind fname n terms binds fl)=fc at Dh Gn HR;generalize eH each (.mk kind fname n terms binds fl)=wk at Gn HR;simp only[gB,iG.cells,aC.cells,aK.val,ae.kind,ae.name,ae.n,ae.terms,ae.binds,ae.l] at HK Dh Gn HW0 ⊢;have hk0:=(HK.out _ (Below.refl _ _)).2;have b1:W0.cell? ⟨RB,1,none⟩=some (.bool hard):=cH hk0 rfl;have b2:W0.cell? ⟨RB,2,none⟩=some (.int .i64 weight):=cH hk0 rfl;clear hk0;go_enter Tryz.func81,Tryz.ntmps81;go_upto_region 1 with fail
 try rw[<-HW0.out.2]
 rw[<-HW0.out.1];go_cut [3] from 7 to 85 (fun u w'=>u=.bool (eY hard weight)/\w'=W0)
 case first=>
  cases hard
  ·by_cases g1:1<=weight
   ·by_cases g2:weight<=1000
    ·have HX:Hid (eY false weight=true):=Lh (by simp[eY,g1,g2]);go_wp2_with fail;go_meet;exact⟨by rw[HX.out],rfl⟩
    ·have HX:Hid (eY false weight=false):=Lh (by simp[eY,g2]);have d2:decide (weight<=1000)=false:=decide_eq_false g2;clear g2;go_wp2_with fail;go_meet;exact⟨by rw[HX.out],rfl⟩
   ·have HX:Hid (eY false weight=false):=Lh (by simp[eY,g1]);have d1:decide (1<=weight)=false:=decide_eq_false g1;clear g1;go_wp2_with fail;go_meet;exact⟨by rw[HX.out],rfl⟩
  ·by_cases g1:weight=0
   ·subst g1;go_wp2_with fail;go_meet;exact⟨rfl,rfl⟩
   ·have HX:Hid (eY true weight=false):=Lh (by simp[eY,g1]);have d1:(weight==0)=false:=by simpa using g1
    clear g1;go_wp2_with fail;go_meet;exact⟨by rw[HX.out],rfl⟩
 case rest=>
  obtain⟨rfl,rfl⟩:=hcut;generalize eY hard weight=wo at HR ⊢;have hk0:=(HK.out _ (Below.refl _ _)).2;have b0:wc.cell? ⟨RB,0,none⟩=some (.string ⟨name.toArray⟩):=cH hk0 rfl;have b3:wc.cell? ⟨RB,3,none⟩=some (.slice ye.a each.length ye.cap):=cH hk0 rfl;have hw3:((6:Int)<(each.length:Int)/\6<each.length)∨(decide ((6:Int)<(each.length:Int))=false/\¬6<each.length):=by
   by_cases h:6<each.length
   ·exact .inl ⟨by omega,h⟩
   ·exact .inr ⟨decide_eq_false (by omega),h⟩
  have hln:=lu.out.1;clear hk0 b1 b2;go_wp2_with fail;refine(ow.out _).mono ?_;rintro e w1 ⟨rfl,hw⟩;subst hw;cases TP
  ·go_wp2_with fail;go_ret;exact⟨aQ (by rw[HR.out,if_pos (.inl (by first|rfl|trivial))]),(HK.out _ (Below.refl _ _)).1⟩
  cases wo
  ·go_wp2_with fail;go_ret;exact⟨aQ (by rw[HR.out,if_pos (.inr (.inl (by first|rfl|trivial)))]),(HK.out _ (Below.refl _ _)).1⟩
  rcases hw3 with⟨u3,v3⟩|⟨u3,v3⟩
  ·have HV:=Lh v3;clear v3;go_wp2_with fail;go_ret;exact⟨aQ (by rw[HR.out,if_pos (.inr (.inr HV.out))]),(HK.out _ (Below.refl _ _)).1⟩
  have HR2:Hid (res=if each.all aL=false then 1 else if fc≠0 then fc else if kZ each=false then 82 else wk):=Lh (by rw[HR.out,if_neg (by simp;omega)]);clear HR v3;go_wp2_with fail;clear u3 b0 b3;go_loopw [4] (fun i wr=>∃k:Nat,k<=each.length/\i=.int .i64 k/\Hid (∀j (h:j<each.length),j<k->aL each[j]=true)/\Hid (Below w1.heap.size w1 wr)) (fun i _=>each.length-(intOf i).toNat)
  case atStart=>exact⟨0,Nat.zero_le _,rfl,Lh (fun _ _ h=>by omega),Lh (Below.refl _ _)⟩
  case round=>
   obtain⟨k,hk,rfl,HD,HB⟩:=hrel;have hkk:=(HK.out _ HB.out).2;have b3:wr.cell? ⟨RB,3,none⟩=some (.slice ye.a each.length ye.cap):=cH hkk rfl;by_cases hlt:k<each.length
   ·obtain⟨ea,e0,e1⟩:=JI.out wr (HK.out _ HB.out).1 k hlt;have TZ:=Lh (sD.out wr k hlt);have HT:Hid (aL each[k]=true->∀j (h:j<each.length),j<k+1->aL each[j]=true):=Lh (fun hne i h hi=>by
     by_cases e:i=k
     ·subst e;exact hne
     ·exact HD.out i h (by omega))
    have HF:Hid (aL each[k]=false->each.all aL=false):=Lh (fun h=>List.all_eq_false.2 ⟨_,List.getElem_mem hlt,by simp[h]⟩);rw[ea] at b3;generalize each[k]=bk at e0 e1 TZ HT HF;obtain⟨bn,bs⟩:=bk;simp only at e0 e1 TZ;clear hkk ea;go_wp2_with fail;refine TZ.out.mono ?_;rintro e w2 ⟨rfl,hb⟩;have HB2:=Lh (HB.out.trans (hb.mono HB.out.size));generalize aL ⟨bn,bs⟩=bo at HT HF ⊢;clear hb b3 e0 e1 TZ;cases bo
    ·have HX:=Lh (HF.out rfl);go_wp2_with fail;go_ret;exact⟨aQ (by rw[HR2.out,if_pos HX.out]),(HK.out _ HB2.out).1⟩
    ·have HX:=Lh (HT.out rfl);go_wp2_with fail;go_round
     case rel=>exact⟨k+1,by omega,by go_num,HX,HB2⟩
     case measure=>simp[intOf];omega
   ·have hke:k=each.length:=by omega
    subst hke;have HR3:Hid (res=if fc≠0 then fc else if kZ each=false then 82 else wk):=Lh (by rw[HR2.out,if_neg (by rw[Bool.not_eq_false];exact List.all_eq_true.2 (fun b hb=>by obtain⟨j,hj,rfl⟩:=List.mem_iff_getElem.1 hb;exact HD.out j hj hj))]);have wQ:Hid (∀j (h:j<each.length),aL each[j]=true):=Lh (fun j h=>HD.out j h h);have b4:wr.cell? ⟨RB,4,none⟩=some (.int .i64 kind):=cH hkk rfl;have b5:wr.cell? ⟨RB,5,none⟩=some (.string ⟨fname.toArray⟩):=cH hkk rfl;have b6:wr.cell? ⟨RB,6,none⟩=some (.int .i64 n):=cH hkk rfl;have b7:wr.cell? ⟨RB,7,none⟩=some (.slice yb.t.a terms.length yb.t.cap):=cH hkk rfl;have b8:wr.cell? ⟨RB,8,none⟩=some (.slice yb.b.a binds.length yb.b.cap):=cH hkk rfl;have b9:wr.cell? ⟨RB,9,none⟩=some (.slice yb.l.a fl.length yb.l.cap):=cH hkk rfl;have hd:(fc≠0/\(fc !=0)=true)∨(fc=0/\(fc !=0)=false):=by by_cases h:fc=0<;>simp[h]
    clear hkk HR2 HD;go_wp2_with fail;refine(Dh.out _ (HK.out _ HB.out).1).mono ?_;rintro e w2 ⟨rfl,hb⟩;have HB2:=Lh (HB.out.trans (hb.mono HB.out.size));clear hb b3 b4 b5 b6 b7 b8 b9;rcases hd with⟨d1,d2⟩|⟨d1,d2⟩
    ·have HD1:=Lh d1;clear d1;go_wp2_with fail;go_ret;exact⟨aQ (by rw[HR3.out,if_pos HD1.out]),(HK.out _ HB2.out).1⟩
    subst d1;clear d2;have HR4:Hid (res=if kZ each=false then 82 else wk):=Lh (by rw[HR3.out,if_neg (by decide)]);have Sy:=Lh (fun(W:World) (hW:Below w.heap.size w W)=>Gn.out W hW rfl);clear HR3 Gn Dh;go_wp2_with fail;go_loopw [6] (fun i wr=>∃k:Nat,k<=each.length/\i=.int .i64 k/\Hid (vO each k=true)/\Hid (Below w1.heap.size w1 wr)) (fun i _=>each.length-(intOf i).toNat)
    case atStart=>exact⟨0,Nat.zero_le _,rfl,Lh (by simp[vO]),HB2⟩
    case round=>
     obtain⟨k,hk,rfl,HD,HB⟩:=hrel;have hkk:=(HK.out _ HB.out).2;have b3:wr.cell? ⟨RB,3,none⟩=some (.slice ye.a each.length ye.cap):=cH hkk rfl;by_cases hlt:k<each.length
     ·obtain⟨ea,e0,_⟩:=JI.out wr (HK.out _ HB.out).1 k hlt;have Rt:=Lh (Ht hlt HD.out);have Y5:Hid (vO each (k+1)=false->kZ each=false):=Lh (LF hlt);have WY:=Lh (wQ.out k hlt);have hst:∀W,Below w.heap.size w W->Calls Tryz.prog 136 #[.slice ye.a k ye.cap,.string ⟨each[k].name.toArray⟩] W fun e w'=>e=.returned (.bool (dF (each.take k) each[k].name).isSome)/\w'=W:=fun W hW=>by
       have:=HST.out W hW k each[k].name
       rwa [List.length_take,show min k each.length=k by omega] at this
      have Um:=Lh (fun(m:Nat)=>hst (wr.drewN m) (dQ (HK.out _ HB.out).1 m));rw[ea] at b3 Um;rw[WY.out,Bool.true_and] at Rt;generalize (dF (each.take k) each[k].name).isSome=st at Um Rt;generalize each[k].name=bn at e0 Um;have hc1:k<=ye.cap:=by have:=lu.out.2;omega
      have hc2:¬ye.cap=0:=by have:=lu.out.2;omega
      clear hkk ea hst WY;go_wp2_with fail;go_quiet ((go_at_call 136;with_reducible refine Calls.quiet_of_same (Um.out _)));cases st
      ·have HX:Hid (vO each (k+1)=true):=Lh (by rw[Rt.out];rfl);go_wp2_with fail;go_round
       case rel=>exact⟨k+1,by omega,by go_num,HX,Lh (dQ HB.out _)⟩
       case measure=>simp[intOf];omega
      ·have HX:Hid (kZ each=false):=Lh (Y5.out (by rw[Rt.out];rfl));go_wp2_with fail;go_ret;exact⟨aQ (by rw[HR4.out,if_pos HX.out]),(HK.out _ (dQ HB.out _)).1⟩
     ·have hke:k=each.length:=by omega
      subst hke;have Za:Hid (res=wk):=Lh (by rw[HR4.out,<-Ry.out,if_neg (by rw[HD.out];decide)]);have b4:wr.cell? ⟨RB,4,none⟩=some (.int .i64 kind):=cH hkk rfl;have b5:wr.cell? ⟨RB,5,none⟩=some (.string ⟨fname.toArray⟩):=cH hkk rfl;have b6:wr.cell? ⟨RB,6,none⟩=some (.int .i64 n):=cH hkk rfl;have b7:wr.cell? ⟨RB,7,none⟩=some (.slice yb.t.a terms.length yb.t.cap):=cH hkk rfl;have b8:wr.cell? ⟨RB,8,none⟩=some (.slice yb.b.a binds.length yb.b.cap):=cH hkk rfl;have b9:wr.cell? ⟨RB,9,none⟩=some (.slice yb.l.a fl.length yb.l.cap):=cH hkk rfl;clear hkk;go_wp2_with fail;refine(Sy.out _ (HK.out _ HB.out).1).mono ?_;rintro e w2 ⟨rfl,hb⟩;have HB2:=Lh (HB.out.trans (hb.mono HB.out.size));clear hb b3 b4 b5 b6 b7 b8 b9;go_wp2_with fail;go_ret;exact⟨aQ Za.out.symm,(HK.out _ HB2.out).1⟩
theorem Cm(l:List bq)(x:aK)(w:World)(hx:aj w (·<w.heap.size) (l.map bq.toD) x)(hl:l.length<=2000000)(hf:∀r∈l,gF r):
  Calls Tryz.prog 50 #[.slice x.a l.length x.cap] w fun e w'=>e=.returned (.tuple #[.int .i64 (iI l).1,.int .i64 (iI l).2])/\Below w.heap.size w w':=by
 have Jp:Hid (∀W,Below w.heap.size w W->∀(j:Nat) (hj:j<l.length),∃y:iG,gV W (·<W.heap.size) l[j] y/\ay W x.b (x.o+j*10) (y.cells l[j])):=Lh (fun W hW j hj=>(hx.later hW hW.size).Aj j hj);have uF:=Lh hx.at_;have R9:Hid (∀W,Below w.heap.size w W->∀(j:Nat) (hj:j<l.length),W.cell? ⟨x.b,x.o+j*10,none⟩=some (.string ⟨(l[j]).name.toArray⟩)):=Lh (fun W hW j hj=>by
  obtain⟨y,_,h⟩:=(hx.later hW hW.size).Aj j hj;have:=h 0 (by simp[iG.cells]);simpa[iG.cells] using this)
 have ou:=Lh (fun(j:Nat) (hj:j<l.length)=>hf _ (List.getElem_mem hj));have Na:=Lh hl;obtain⟨res,hres⟩:∃res,res=iI l:=⟨_,rfl⟩;rw[<-hres];have qp:=Lh (show res=fM [] l 0 from hres);clear hx hf hres hl;go_enter Tryz.func50,Tryz.ntmps50;go_wp2_with fail;go_loopw [4] (fun i wr=>∃j:Nat,j<=l.length/\i=.int .i64 j/\Hid (Below w.heap.size w wr)/\Hid (res=fM ((l.take j).map bq.name) (l.drop j) j)) (fun i _=>l.length-(intOf i).toNat)
 case atStart=>exact⟨0,Nat.zero_le _,rfl,Lh (Below.refl _ _),qp⟩
 case round=>
  obtain⟨j,hj,rfl,HB,HE⟩:=hrel;have hll:=Na.out;by_cases hlt:j<l.length
  ·obtain⟨y,hy1,hy2⟩:=Jp.out wr HB.out j hlt;obtain⟨hxa,kg⟩:=uF.out (by rw[List.length_map];omega);have fZ:=Lh (Eo l[j] y wr hy1 (ou.out j hlt));have HDR:=Lh (List.drop_eq_getElem_cons hlt);have tL:Hid ((l.take (j+1)).map bq.name=(l.take j).map bq.name++[l[j].name]):=Lh (by rw[List.take_succ_eq_append_getElem hlt,List.map_append];rfl);have Nb:=Lh (fun W hW=>R9.out W hW j hlt);obtain⟨c,hc⟩:∃c,dK l[j]=c:=⟨_,rfl⟩;rw[hc] at fZ;have uf:=Lh hc;rw[hxa];clear hy1 kg hc hj;generalize l[j]=re at fZ HDR uf tL hy2 Nb;obtain⟨name,hard,weight,each,⟨kind,fname,n,terms,binds,fl⟩⟩:=re;obtain⟨ye,yb⟩:=y;simp only[iG.cells,aC.cells,aK.val,ae.kind,ae.name,ae.n,ae.terms,ae.binds,ae.l] at fZ tL hy2 Nb;obtain⟨e0,e1,e2,e3,e4,e5,e6,e7,e8,e9⟩:=hy2.ten;clear hy2;have hcd:(c≠0/\(c !=0)=true)∨(c=0/\(c !=0)=false):=by by_cases h:c=0<;>simp[h]
   go_wp2_with fail;refine fZ.out.mono ?_;rintro e w1 ⟨rfl,hb1⟩;have HB1:=Lh (HB.out.trans (hb1.mono HB.out.size));clear hb1 e0 e1 e2 e3 e4 e5 e6 e7 e8 e9 fZ;rcases hcd with⟨d1,d2⟩|⟨d1,d2⟩
   ·have HD:=Lh (HE.out.trans (yE HDR.out uf.out d1));clear d1;go_wp2_with fail;go_ret2;exact⟨by rw[HD.out];rfl,HB1.out⟩
   ·subst d1;clear d2;go_wp2_with fail;go_loopw [6] (fun i wr=>∃k:Nat,k<=j/\i=.int .i64 k/\Hid (Below w.heap.size w wr)/\Hid (((l.take k).map bq.name).contains name=false)) (fun i _=>j-(intOf i).toNat)
    case atStart=>exact⟨0,Nat.zero_le _,rfl,HB1,Lh (by simp)⟩
    case round=>
     obtain⟨k,hk,rfl,HB2,HM⟩:=hrel;by_cases hkj:k<j
     ·have hkl:k<l.length:=by omega
      have g0:=R9.out wr HB2.out k hkl;have g1:=Nb.out wr HB2.out;have NB:Hid (l[k].name≠name->((l.take (k+1)).map bq.name).contains name=false):=Lh (fun h=>by
       rw[List.take_succ_eq_append_getElem hkl,List.map_append,List.contains_eq_mem];have h1:=HM.out;rw[List.contains_eq_mem] at h1;simp only[decide_eq_false_iff_not,List.mem_append,List.map_cons,List.map_nil,List.mem_singleton,not_or] at h1 ⊢;exact⟨h1,fun e=>h e.symm⟩)
      have Gm:Hid (l[k].name=name->((l.take j).map bq.name).contains name=true):=Lh (fun h=>by
       rw[List.contains_eq_mem];simp only[decide_eq_true_eq];refine List.mem_map.2 ⟨l[k],?_,h⟩;rw[List.mem_iff_getElem];exact⟨k,by rw[List.length_take];omega,List.getElem_take ..⟩)
      generalize l[k].name=kn at g0 NB Gm;by_cases hq:kn=name
      ·subst hq;have HD:=Lh (HE.out.trans (sZ HDR.out uf.out (Gm.out rfl)));go_wp2_with fail;go_quiet (fail);go_wp2_with fail;go_ret2;exact⟨by rw[HD.out];rfl,dQ HB2.out _⟩
      ·have hq2:(kn==name)=false:=by simpa using hq
       have HX:=Lh (NB.out hq);clear hq;go_wp2_with fail;go_quiet (fail);go_wp2_with fail;go_round
       case rel=>exact⟨k+1,by omega,by go_num,Lh (dQ HB2.out _),HX⟩
       case measure=>simp[intOf];omega
     ·have hke:k=j:=by omega
      subst hke;have HD:=Lh (HE.out.trans (wC HDR.out uf.out HM.out));go_wp2_with fail;go_round
      case rel=>exact⟨k+1,by omega,by go_num,HB2,Lh (by rw[tL.out];exact HD.out)⟩
      case measure=>simp[intOf];omega
  ·have hjl:j=l.length:=by omega
   have HD:Hid (res=(0,0)):=Lh (by rw[HE.out,hjl,List.drop_length,fM]);clear hjl;go_wp2_with fail;go_ret2;exact⟨by rw[HD.out];rfl,HB.out⟩
end Go.Proofs.YtncnnbmeacpboaaGreatDoor
namespace Go.aa
open Go.RowKit
variable {l:List Bs} {k:Nat}
theorem kX:∀(a b met:List Bs),ax met (a++b)=(ax met a&&ax (met++a) b)
 |[],b,met=>by simp[ax]
 |x::r,b,met=>by
  rw[List.cons_append,ax,ax,kX r b (met++[x])];simp[Bool.and_assoc]
theorem Ea(hk:k<l.length)(h:ax [] (l.take k)=true):ax [] (l.take (k+1))=(!((l.take k).contains l[k])&&df l[k]):=by
 rw[List.take_succ_eq_append_getElem hk,kX,h,Bool.true_and,List.nil_append];simp[ax]
theorem Hw(h:ax [] (l.take k)=false):ax [] l=false:=by
 have:=kX (l.take k) (l.drop k) [];rw[List.take_append_drop,h] at this;rw[this];rfl
def om(x:ma):Int×Int:=(x.day,x.hour)
theorem kY:∀(a b:List ma) (met:List (Int×Int)),bJ met (a++b)=(bJ met a&&bJ (met++a.map om) b)
 |[],b,met=>by simp[bJ]
 |x::r,b,met=>by
  rw[List.cons_append,bJ,bJ,kY r b];simp[Bool.and_assoc,om]
theorem EO{l:List ma}(hk:k<l.length)(h:bJ [] (l.take k)=true):
  bJ [] (l.take (k+1))=(!(((l.take k).map om).contains (om l[k]))&&aX l[k].day 6&&aX l[k].hour 11):=by
 rw[List.take_succ_eq_append_getElem hk,kY,h,Bool.true_and,List.nil_append];simp[bJ,om,Bool.and_assoc]
theorem I7{l:List ma}(h:bJ [] (l.take k)=false):bJ [] l=false:=by
 have:=kY (l.take k) (l.drop k) [];rw[List.take_append_drop,h] at this;rw[this];rfl
end Go.aa
namespace Go.Proofs.YtncnnbmeacpboaaGreatDoor
open Go.RowKit Go.aa
variable {l:List Bs} {k:Nat}
theorem Cq(l:List Bs)(x:aK)(w:World)(hx:aj w (·<w.heap.size) (l.map fT) x)(hl:l.length<=2000000)(hn:∀n∈l,n.length<=4000000):
  Calls Tryz.prog 131 #[.slice x.a l.length x.cap] w fun e w'=>e=.returned (.bool (ax [] l))/\Below w.heap.size w w':=by
 obtain⟨h1,_,_,h2,_⟩:=hx.flat iW;have HX:=Lh (aI h1 (fun(j:Nat) (hj:j<l.length)=>h2.one j hj (c0:=.string ⟨l[j].toArray⟩) rfl));have HN:=Lh hn;clear hx h1 h2 hn;go_enter Tryz.func131,Tryz.ntmps131;go_wp2_with fail;go_loopw [3] (fun i wr=>∃k:Nat,k<=l.length/\i=.int .i64 k/\Hid (ax [] (l.take k)=true)/\Hid (Below w.heap.size w wr)) (fun i _=>l.length-(intOf i).toNat)
 case atStart=>exact⟨0,Nat.zero_le _,rfl,Lh rfl,Lh (Below.refl _ _)⟩
 case round=>
  obtain⟨k,hk,rfl,HP,HB⟩:=hrel;by_cases hlt:k<l.length
  ·obtain⟨hxa,hxb⟩:=HX.out.1 (by omega);have e0:=(HB.out.cell (p:=⟨x.b,x.o+k*1,none⟩) hxb).trans (HX.out.2 k hlt);rw[Nat.mul_one] at e0;have HS:=Lh (Ea hlt HP.out);have sD:=Lh (fun(h:ax [] (l.take (k+1))=false)=>Hw h);have yP:Hid ((l.take k).contains l[k]=true↔ ∃j,∃h:j<l.length,j<k/\l[j]=l[k]):=Lh (by
    rw[List.contains_iff_mem,List.mem_take_iff_getElem];constructor
    ·rintro⟨j,hj,he⟩;exact⟨j,by omega,by omega,he⟩
    ·rintro⟨j,h,hj,he⟩;exact⟨j,by omega,he⟩)
   have hsz:=HN.out l[k] (List.getElem_mem hlt);have Ga:=Lh (fun(W:World)=>Ex ⟨l[k].toArray⟩ W (by rw[aZ];omega));have ZX:=Lh hxa;rw[hxa];generalize hy:l[k]=y at e0 HS Ga yP;have HY:=Lh hy;clear hy hsz;simp only[List.toList_toArray] at Ga;cases hnm:df y
   ·have HF:=Lh (sD.out (by rw[HS.out,hnm];simp));rw[hnm] at Ga;clear hnm;go_wp2_with fail;refine(Ga.out _).mono ?_;rintro e w2 ⟨rfl,rfl⟩;go_wp2_with fail;go_ret;exact⟨by rw[HF.out];rfl,HB.out⟩
   ·rw[hnm] at Ga HS;clear hnm;go_wp2_with fail;refine(Ga.out _).mono ?_;rintro e w2 ⟨rfl,rfl⟩;go_wp2_with fail;go_loopw [4] (fun i wq=>∃j:Nat,j<=k/\i=.int .i64 j/\Hid (∀(i:Nat) (h:i<l.length),i<j->l[i]≠y)/\Hid (Below w.heap.size w wq)) (fun i _=>k-(intOf i).toNat)
    case atStart=>exact⟨0,Nat.zero_le _,rfl,Lh (fun _ _ h=>by omega),HB⟩
    case round=>
     obtain⟨j,hj,rfl,HD,HQ⟩:=hrel;by_cases hjk:j<k
     ·have e1:=(HQ.out.cell (p:=⟨x.b,x.o+j*1,none⟩) hxb).trans (HX.out.2 j (by omega));have e2:=(HQ.out.cell (p:=⟨x.b,x.o+k*1,none⟩) hxb).trans (HX.out.2 k hlt);rw[HY.out] at e2;rw[Nat.mul_one] at e1 e2;have i1:(0:Int)<=(j:Int):=by omega
      have i2:(j:Int)<(l.length:Int):=by omega
      have i3:(0:Int)<=(k:Int):=by omega
      have i4:(k:Int)<(l.length:Int):=by omega
      generalize hz:l[j]=z at e1;have HZ:=Lh hz;clear hz e0;by_cases hq:z=y
      ·subst hq;have HF:=Lh (sD.out (by rw[HS.out,yP.out.2 ⟨j,by omega,hjk,HZ.out⟩];simp));go_wp2_with fail;go_quiet (fail);go_wp2_with fail;go_ret;exact⟨by rw[HF.out];rfl,dQ HQ.out _⟩
      ·have HD2:Hid (∀(i:Nat) (h:i<l.length),i<j+1->l[i]≠y):=Lh (fun i h hi=>by
        by_cases e:i=j
        ·subst e;rw[HZ.out];exact hq
        ·exact HD.out i h (by omega))
       have hne:(z==y)=false:=by simpa using hq
       clear hq;go_wp2_with fail;go_quiet (fail);go_wp2_with fail;exact⟨⟨j+1,by omega,by go_num,HD2,Lh (dQ HQ.out _)⟩,by simp[intOf];omega⟩
     ·obtain rfl:j=k:=by omega
      have HT:Hid (ax [] (l.take (j+1))=true):=Lh (by
       rw[HS.out];have:(l.take j).contains y=false:=by
        cases hc:(l.take j).contains y with
        |false=>rfl
        |true=>
         obtain⟨i,h,hi,he⟩:=yP.out.1 hc;exact absurd he (HD.out i h hi)
       rw[this];rfl)
      go_wp2_with fail;exact⟨⟨j+1,by omega,by go_num,HT,HQ⟩,by simp[intOf];omega⟩
  ·obtain rfl:k=l.length:=by omega
   have HT:=Lh (show ax [] l=true by have:=HP.out;rwa [List.take_length] at this);go_wp2_with fail;go_ret;exact⟨by rw[HT.out];rfl,HB.out⟩
theorem EA(l:List ma)(x:aK)(w:World)(hx:aj w (·<w.heap.size) (l.map ma.toD) x)(hl:l.length<=2000000):
  Calls Tryz.prog 133 #[.slice x.a l.length x.cap] w fun e w'=>e=.returned (.bool (bJ [] l&&decide (0<l.length)))/\Below w.heap.size w w':=by
 obtain⟨h1,_,_,h2,_⟩:=hx.flat ma.bI;have HX:=Lh (aI h1 (fun(j:Nat) (hj:j<l.length)=>h2.three j hj rfl));clear hx h1 h2;go_enter Tryz.func133,Tryz.ntmps133;go_wp2_with fail;go_loopw [3] (fun i wr=>∃k:Nat,k<=l.length/\i=.int .i64 k/\Hid (bJ [] (l.take k)=true)/\Hid (Below w.heap.size w wr)) (fun i _=>l.length-(intOf i).toNat)
 case atStart=>exact⟨0,Nat.zero_le _,rfl,Lh rfl,Lh (Below.refl _ _)⟩
 case round=>
  obtain⟨k,hk,rfl,HP,HB⟩:=hrel;by_cases hlt:k<l.length
  ·obtain⟨hxa,hxb⟩:=HX.out.1 (by omega);obtain⟨_,c1,c2⟩:=HX.out.2 k hlt;have NF:=Lh (aI c1 c2);have e1:=(HB.out.cell (p:=⟨x.b,x.o+k*3+1,none⟩) hxb).trans c1;have e2:=(HB.out.cell (p:=⟨x.b,x.o+k*3+2,none⟩) hxb).trans c2;have HS:=Lh (EO hlt HP.out);have sD:=Lh (fun(h:bJ [] (l.take (k+1))=false)=>I7 h);have yP:Hid (((l.take k).map om).contains (om l[k])=true↔ ∃j,∃h:j<l.length,j<k/\l[j].day=l[k].day/\l[j].hour=l[k].hour):=Lh (by
    rw[List.contains_iff_mem,List.mem_map];constructor
    ·rintro⟨y,hy,he⟩;obtain⟨j,hj,rfl⟩:=List.mem_take_iff_getElem.1 hy;simp only[om,Prod.mk.injEq] at he;exact⟨j,by omega,by omega,he⟩
    ·rintro⟨j,h,hj,he⟩;exact⟨l[j],List.mem_take_iff_getElem.2 ⟨j,by omega,rfl⟩,by simp only[om,Prod.mk.injEq];exact he⟩)
   have HW:Hid (∀n m:Int,aX n m=true↔0<=n/\n<=m):=Lh (fun n m=>by unfold aX;simp);have i1:(0:Int)<=(k:Int):=by omega
   have i2:(k:Int)<(l.length:Int):=by omega
   rw[hxa];clear c1 c2;generalize (((l.take k).map om).contains (om l[k]))=cb at HS yP;generalize hd:l[k].day=dy at e1 HS yP NF;generalize hh:l[k].hour=hr at e2 HS yP NF;clear hd hh;by_cases hg:(0<=dy/\dy<=6)/\0<=hr/\hr<=11
   ·obtain⟨⟨g1,g2⟩,g3,g4⟩:=hg;have HS2:Hid (bJ [] (l.take (k+1))=!cb):=Lh (by rw[HS.out,(HW.out dy 6).2 ⟨g1,g2⟩,(HW.out hr 11).2 ⟨g3,g4⟩];simp);have d1:decide (dy<0)=false:=by simp;omega
    have d2:decide (6<dy)=false:=by simp;omega
    have d3:decide (hr<0)=false:=by simp;omega
    have d4:decide (11<hr)=false:=by simp;omega
    clear g1 g2 g3 g4 HS HW;go_wp2_with fail;clear d1 d2 d3 d4;go_loopw [4] (fun i wq=>∃j:Nat,j<=k/\i=.int .i64 j/\Hid (∀(i:Nat) (h:i<l.length),i<j->¬(l[i].day=dy/\l[i].hour=hr))/\Hid (Below w.heap.size w wq)) (fun i _=>k-(intOf i).toNat)
    case atStart=>exact⟨0,Nat.zero_le _,rfl,Lh (fun _ _ h=>by omega),HB⟩
    case round=>
     obtain⟨j,hj,rfl,HD,HQ⟩:=hrel;by_cases hjk:j<k
     ·obtain⟨_,p1,p2⟩:=HX.out.2 j (by omega);have q1:=(HQ.out.cell (p:=⟨x.b,x.o+j*3+1,none⟩) hxb).trans p1;have q2:=(HQ.out.cell (p:=⟨x.b,x.o+j*3+2,none⟩) hxb).trans p2;have q3:=(HQ.out.cell (p:=⟨x.b,x.o+k*3+1,none⟩) hxb).trans NF.out.1;have q4:=(HQ.out.cell (p:=⟨x.b,x.o+k*3+2,none⟩) hxb).trans NF.out.2;have i3:(0:Int)<=(j:Int):=by omega
      have i4:(j:Int)<(l.length:Int):=by omega
      have HZ:Hid (l[j].day=l[j].day/\l[j].hour=l[j].hour):=Lh ⟨rfl,rfl⟩;generalize hz:l[j].day=zd at q1;generalize hz2:l[j].hour=zh at q2;have Vu:=Lh (aI hz hz2);clear hz hz2 e1 e2 p1 p2 HZ;by_cases hq:zd=dy
      ·subst hq;by_cases hq2:zh=hr
       ·subst hq2;have HF:=Lh (sD.out (by rw[HS2.out,yP.out.2 ⟨j,by omega,hjk,Vu.out⟩];rfl));go_wp2_with fail;go_quiet (fail);go_wp2_with fail;go_ret;exact⟨by rw[HF.out];rfl,dQ HQ.out _⟩
       ·have HD2:Hid (∀(i:Nat) (h:i<l.length),i<j+1->¬(l[i].day=zd/\l[i].hour=hr)):=Lh (fun i h hi=>by
         by_cases e:i=j
         ·subst e;rw[Vu.out.2];exact fun h=>hq2 h.2
         ·exact HD.out i h (by omega))
        have hne:(zh==hr)=false:=by simpa using hq2
        clear hq2;go_wp2_with fail;go_quiet (fail);go_wp2_with fail;exact⟨⟨j+1,by omega,by go_num,HD2,Lh (dQ HQ.out _)⟩,by simp[intOf];omega⟩
      ·have HD2:Hid (∀(i:Nat) (h:i<l.length),i<j+1->¬(l[i].day=dy/\l[i].hour=hr)):=Lh (fun i h hi=>by
        by_cases e:i=j
        ·subst e;rw[Vu.out.1];exact fun h=>hq h.1
        ·exact HD.out i h (by omega))
       have hne:(zd==dy)=false:=by simpa using hq
       clear hq;go_wp2_with fail;go_quiet (fail);go_wp2_with fail;exact⟨⟨j+1,by omega,by go_num,HD2,Lh (dQ HQ.out _)⟩,by simp[intOf];omega⟩
     ·obtain rfl:j=k:=by omega
      have HT:Hid (bJ [] (l.take (j+1))=true):=Lh (by
       rw[HS2.out];cases cb with
       |false=>rfl
       |true=>
        obtain⟨i,h,hi,he⟩:=yP.out.1 rfl;exact absurd he (HD.out i h hi))
      go_wp2_with fail;exact⟨⟨j+1,by omega,by go_num,HT,HQ⟩,by simp[intOf];omega⟩
   ·have HF:=Lh (sD.out (by
     rw[HS.out];have:¬(aX dy 6=true/\aX hr 11=true):=by rw[HW.out,HW.out];exact hg
     cases h1:aX dy 6<;>cases h2:aX hr 11<;>simp_all))
    by_cases g1:dy<0
    ·clear hg;go_wp2_with fail;go_ret;exact⟨by rw[HF.out];rfl,HB.out⟩
    have d1:decide (dy<0)=false:=decide_eq_false g1;by_cases g2:6<dy
    ·clear hg g1;go_wp2_with fail;go_ret;exact⟨by rw[HF.out];rfl,HB.out⟩
    have d2:decide (6<dy)=false:=decide_eq_false g2;by_cases g3:hr<0
    ·clear hg g1 g2;go_wp2_with fail;go_ret;exact⟨by rw[HF.out];rfl,HB.out⟩
    have d3:decide (hr<0)=false:=decide_eq_false g3;have d4:11<hr:=by omega
    clear hg g1 g2 g3;go_wp2_with fail;go_ret;exact⟨by rw[HF.out];rfl,HB.out⟩
  ·obtain rfl:k=l.length:=by omega
   have HT:=Lh (show bJ [] l=true by have:=HP.out;rwa [List.take_length] at this);go_wp2_with fail;go_ret;exact⟨by rw[HT.out,Bool.true_and];congr 2,HB.out⟩
end Go.Proofs.YtncnnbmeacpboaaGreatDoor
namespace Go.aa
open Go.RowKit
variable {l:List Bs} {k:Nat}
def xG(s:aF):Bool:=
 (ax [] (ai s 1)&&ax [] (ai s 2)&&ax [] (ai s 3)&&ax [] (ai s 4)&&ax [] (ai s 5))&&
 !(s.ah.any (fJ s.slots.length))&&!(s.people.any (dH s.slots.length))&&!(s.groups.any eF)&&!(s.lessons.any (dV s.people.length s.groups.length))&&
 (bJ [] s.slots&&decide (0<s.slots.length))&&decide (0<s.ah.length)
theorem LD(s:aF):xG s=true↔(∀k,k<5->ax [] (ai s ((k:Nat)+1:Int))=true)/\(∀j (h:j<s.ah.length),fJ s.slots.length s.ah[j]=false)/\(∀j (h:j<s.people.length),dH s.slots.length s.people[j]=false)/\
  (∀j (h:j<s.groups.length),eF s.groups[j]=false)/\(∀j (h:j<s.lessons.length),dV s.people.length s.groups.length s.lessons[j]=false)/\((bJ [] s.slots&&decide (0<s.slots.length))&&decide (0<s.ah.length))=true:=by
 have ha:∀ {α:Type} (l:List α) (p:α->Bool),(!(l.any p))=true↔ ∀j (h:j<l.length),p l[j]=false:=fun l p=>by
  rw[Bool.not_eq_true',List.any_eq_false];constructor
  ·intro h j hj;simpa using h _ (List.getElem_mem hj)
  ·intro h x hx;obtain⟨j,hj,rfl⟩:=List.mem_iff_getElem.1 hx;simp[h j hj]
 have hn:(ax [] (ai s 1)&&ax [] (ai s 2)&&ax [] (ai s 3)&&ax [] (ai s 4)&&ax [] (ai s 5))=true↔ ∀k,k<5->ax [] (ai s ((k:Nat)+1:Int))=true:=by
  simp only[Bool.and_eq_true];constructor
  ·rintro⟨⟨⟨⟨h1,h2⟩,h3⟩,h4⟩,h5⟩ k hk
   match k,hk with
   |0,_=>exact h1
   |1,_=>exact h2
   |2,_=>exact h3
   |3,_=>exact h4
   |4,_=>exact h5
  ·intro h;exact⟨⟨⟨⟨h 0 (by omega),h 1 (by omega)⟩,h 2 (by omega)⟩,h 3 (by omega)⟩,h 4 (by omega)⟩
 unfold xG;rw[Bool.and_assoc _ (bJ [] s.slots&&decide (0<s.slots.length)) _,Bool.and_eq_true,Bool.and_eq_true,Bool.and_eq_true,Bool.and_eq_true,Bool.and_eq_true,hn,ha,ha,ha,ha];simp only[and_assoc]
theorem Gy(s:aF):bE s=if xG s=false then 1 else if 50<s.slots.length∨32<s.ah.length∨64<s.people.length∨64<s.groups.length∨64<s.lessons.length then 2 else 0:=by
 unfold bE xG;generalize (ax [] (ai s 1)&&ax [] (ai s 2)&&ax [] (ai s 3)&&ax [] (ai s 4)&&ax [] (ai s 5))=a;generalize bJ [] s.slots=b;generalize s.ah.any _=c1;generalize s.people.any _=c2;generalize s.groups.any _=c3;generalize s.lessons.any _=c4;generalize s.slots.length=n1;generalize s.ah.length=n2;rcases Nat.eq_zero_or_pos n1 with h1|h1<;>rcases Nat.eq_zero_or_pos n2 with h2|h2
 ·subst h1;subst h2;cases a<;>cases b<;>cases c1<;>cases c2<;>cases c3<;>cases c4<;>simp
 ·subst h1;cases a<;>cases b<;>cases c1<;>cases c2<;>cases c3<;>cases c4<;>simp
 ·subst h2;cases a<;>cases b<;>cases c1<;>cases c2<;>cases c3<;>cases c4<;>simp
 ·have e1:¬(n1=0∨n2=0):=by omega
  have e2:decide (0<n1)=true:=decide_eq_true h1;have e3:decide (0<n2)=true:=decide_eq_true h2;rw[e2,e3,if_neg e1];cases a<;>cases b<;>cases c1<;>cases c2<;>cases c3<;>cases c4<;>simp
end Go.aa
namespace Go.Proofs.YtncnnbmeacpboaaGreatDoor
open Go.RowKit Go.aa
variable {l:List Bs} {k:Nat}
theorem Mf(s:aF)(x:bS)(w:World)(hs:dD w (·<w.heap.size) s x)(hf:gQ s):
  Calls Tryz.prog 80 #[.agg (x.cells s).toArray] w fun e w'=>e=.returned (.bool (xG s))/\Below w.heap.size w w':=by
 obtain⟨W0,hW0⟩:∃W0,W0=w.alloc (.cells (x.cells s).toArray 28):=⟨_,rfl⟩;have hb0:Below w.heap.size w W0:=by rw[hW0];exact(Below.refl _ _).alloc (Nat.le_refl _) _
 have hz0:W0.heap.size=w.heap.size+1:=by rw[hW0];simp
 have hq0:bX W0 w.heap.size s x:=by rw[hW0];unfold bX;rw[af,if_pos rfl]
 have HE:Hid (∀W,Below W0.heap.size W0 W->Below w.heap.size w W/\(W.cell? ⟨w.heap.size,0,none⟩=some (.slice x.slots.a s.slots.length x.slots.cap)/\W.cell? ⟨w.heap.size,1,none⟩=some (.slice x.ah.a s.ah.length x.ah.cap)/\W.cell? ⟨w.heap.size,2,none⟩=some (.slice x.people.a s.people.length x.people.cap)/\W.cell? ⟨w.heap.size,3,none⟩=some (.slice x.groups.a s.groups.length x.groups.cap)/\W.cell? ⟨w.heap.size,4,none⟩=some (.slice x.lessons.a s.lessons.length x.lessons.cap))):=Lh (fun W hW=>⟨hb0.trans (hW.mono hb0.size),(hq0.below hW).cells⟩);have kM:=Lh (fun(sort:Int) (W:World) (hW:Below w.heap.size w W)=>mM s x sort W (hs.later hW hW.size) hf.toSchSmall);have yS:Hid (∀sort,(ai s sort).length<=2000000):=Lh (fun sort=>by
  have h1:=hf.toSchSmall.lessons;have h2:=hf.toSchSmall.slots;have h3:=hf.toSchSmall.ah;have h4:=hf.toSchSmall.people;have h5:=hf.toSchSmall.groups;show bA s sort<=_;rw[fq];repeat' split
  all_goals omega)
 have oU:=Lh hf.names;have Ny:=Lh (fun(l:List Int) (y:aK) (n:Int) (W:World) (hy:aj W (·<W.heap.size) (bD l) y) (hl:l.length<=2000000)=>Cs l y n W hy hl);have uF:=Lh (fun(W:World) (hW:Below w.heap.size w W)=>EA s.slots x.slots W (hs.slots.later hW hW.size) hf.toSchSmall.slots);have ou:=Lh hf;have HS:=Lh hs;have P9:=Lh (LD s);have Rq:Hid (∀P:Prop,¬P->((xG s=true)->P)->xG s=false):=Lh (fun P hP h=>by
  cases hm:xG s with
  |false=>rfl
  |true=>exact absurd (h hm) hP)
 have HW0:=Lh hW0;have HZ0:=Lh hz0;clear hb0 hz0 hq0 hW0 hs hf;generalize xG s=res at P9 Rq ⊢;simp only[bS.cells,aK.val] at kM HW0 ⊢;go_enter Tryz.func80,Tryz.ntmps80;go_wp2_with fail;rw[<-HW0.out];go_wp2_with fail;go_loopw [3] (fun i wr=>∃k:Nat,k<=5/\i=.int .i64 ((k:Int)+1)/\Hid (∀j,j<k->ax [] (ai s ((j:Nat)+1:Int))=true)/\Hid (Below W0.heap.size W0 wr)) (fun i _=>6-(intOf i).toNat)
 case atStart=>exact⟨0,Nat.zero_le _,rfl,Lh (fun j h=>by omega),Lh (Below.refl _ _)⟩
 case round=>
  obtain⟨k,hk,rfl,HP,HB⟩:=hrel;by_cases hlt:k<5
  ·obtain⟨_,c0,c1,c2,c3,c4⟩:=HE.out wr HB.out;have R9:=Lh (kM.out ((k:Int)+1) wr (HE.out wr HB.out).1);have hle:(k:Int)+1<=5:=by omega
   have Sa:=Lh (yS.out ((k:Int)+1));have Sb:=Lh (oU.out ((k:Int)+1));have Av:Hid (ax [] (ai s ((k:Int)+1))=true->∀j,j<k+1->ax [] (ai s ((j:Nat)+1:Int))=true):=Lh (fun h j hj=>by
    by_cases e:j=k
    ·subst e;exact h
    ·exact HP.out j (by omega))
   have xO:Hid (ax [] (ai s ((k:Int)+1))=false->res=false):=Lh (fun h=>Rq.out (ax [] (ai s ((k:Int)+1))=true) (by rw[h];decide) (fun hm=>(P9.out.1 hm).1 k hlt));generalize ai s ((k:Int)+1)=ns at R9 Sa Sb Av xO;go_wp2_with fail;refine R9.out.mono ?_;rintro e w2 ⟨y,rfl,hy,hb2⟩;have H2:=Lh (HB.out.trans (hb2.mono HB.out.size));have Vb:=Lh (Cq ns y w2 hy Sa.out Sb.out);clear hy hb2 c0 c1 c2 c3 c4;go_wp2_with fail;refine Vb.out.mono ?_;rintro e w3 ⟨rfl,hb3⟩;have H3:=Lh (H2.out.trans (hb3.mono H2.out.size));clear hb3;cases hg:ax [] ns
   ·have HF:=Lh (xO.out hg);go_wp2_with fail;go_ret;exact⟨by rw[HF.out];rfl,(HE.out _ H3.out).1⟩
   ·have HT:=Lh (Av.out hg);go_wp2_with fail;exact⟨⟨k+1,by omega,by go_num,HT,H3⟩,by simp[intOf];omega⟩
  ·obtain rfl:k=5:=by omega
   obtain⟨wo,hwo⟩:∃wo,wo=wr:=⟨_,rfl⟩;subst hwo;obtain⟨_,c0,c1,c2,c3,c4⟩:=HE.out wo HB.out;have hsb:w.heap.size<wo.heap.size:=by have:=HB.out.size;have:=HZ0.out;omega
   clear hlt hk;rw[show(((5:Nat):Int)+1)=6 from rfl];go_wp2_with fail;clear c0 c1 c2 c3 c4 hsb;go_loopw [4] (fun i wr=>∃k:Nat,k<=s.ah.length/\i=.int .i64 k/\Hid (∀j (h:j<s.ah.length),j<k->fJ s.slots.length s.ah[j]=false)/\Hid (Below W0.heap.size W0 wr)) (fun i _=>s.ah.length-(intOf i).toNat)
   case atStart=>exact⟨0,Nat.zero_le _,rfl,Lh (fun j _ h=>by omega),HB⟩
   case round=>
    obtain⟨k,hk,rfl,Po,HB2⟩:=hrel;obtain⟨_,c0,c1,c2,c3,c4⟩:=HE.out wr HB2.out;have hsb:w.heap.size<wr.heap.size:=by have:=HB2.out.size;have:=HZ0.out;omega
    have hm1:=ou.out.toSchSmall.ah;by_cases hlt:k<s.ah.length
    ·obtain⟨y,hy,_,_,_,hc⟩:=HS.out.ah.TU k hlt;obtain⟨hxa,hxb⟩:=HS.out.ah.at_ (by rw[List.length_map];omega);have hbw:=(HE.out wr HB2.out).1;obtain⟨e0,e1,e2,e3⟩:=(hc.agree (ag hbw) hxb).four;have ZY:x.ah.b<wr.heap.size:=Nat.lt_of_lt_of_le hxb hbw.size;have Rv:=Lh (ou.out.shut _ (List.getElem_mem hlt));have Qa:=Lh (fun(W:World) (hW:Below w.heap.size w W)=>Ny.out s.ah[k].shut y s.slots.length W (hy.later hW hW.size) Rv.out);have lX:Hid (fJ s.slots.length s.ah[k]=(!(aX s.ah[k].house 7)||!(aX s.ah[k].seats 1000)||!(cK s.ah[k].shut s.slots.length))):=Lh rfl;have Av:Hid (fJ s.slots.length s.ah[k]=false->∀j (h:j<s.ah.length),j<k+1->fJ s.slots.length s.ah[j]=false):=Lh (fun h j h2 hj=>by
      by_cases e:j=k
      ·subst e;exact h
      ·exact Po.out j h2 (by omega))
     have xO:Hid (fJ s.slots.length s.ah[k]=true->res=false):=Lh (fun h=>Rq.out (fJ s.slots.length s.ah[k]=false) (by rw[h];decide) (fun hm=>(P9.out.1 hm).2.1 k hlt));have HW:Hid (∀n m:Int,aX n m=true↔0<=n/\n<=m):=Lh (fun n m=>by unfold aX;simp);have ni:=Lh (fun(o:Obj)=>HB2.out.trans (((Below.refl wr.heap.size wr).alloc (Nat.le_refl _) o).mono HB2.out.size));have i1:(0:Int)<=(k:Int):=by omega
     have i2:(k:Int)<(s.ah.length:Int):=by omega
     rw[hxa] at c1;clear hy hc hbw hxa;generalize fJ s.slots.length s.ah[k]=br at lX Av xO;generalize cK s.ah[k].shut s.slots.length=pb at Qa lX;generalize s.ah[k].shut.length=sl at e3 Qa;generalize s.ah[k].house=ho at e1 lX;generalize s.ah[k].seats=se at e2 lX;generalize (⟨(s.ah[k]).name.toArray⟩:ByteArray)=nm at e0;by_cases g1:ho<0
     ·have HF:=Lh (xO.out (by rw[lX.out,(by cases h:aX ho 7 with|false=>rfl|true=>(have:=(HW.out _ _).1 h;omega):aX ho 7=false)];rfl));go_wp2_with fail;go_ret;exact⟨by rw[HF.out];rfl,(HE.out _ (ni.out _)).1⟩
     have d1:decide (ho<0)=false:=decide_eq_false g1;by_cases g2:7<ho
     ·have HF:=Lh (xO.out (by rw[lX.out,(by cases h:aX ho 7 with|false=>rfl|true=>(have:=(HW.out _ _).1 h;omega):aX ho 7=false)];rfl));clear g1;go_wp2_with fail;go_ret;exact⟨by rw[HF.out];rfl,(HE.out _ (ni.out _)).1⟩
     have d2:decide (7<ho)=false:=decide_eq_false g2;have f1:=(HW.out ho 7).2 ⟨by omega,by omega⟩;by_cases g3:se<0
     ·have HF:=Lh (xO.out (by rw[lX.out,f1,(by cases h:aX se 1000 with|false=>rfl|true=>(have:=(HW.out _ _).1 h;omega):aX se 1000=false)];rfl));clear g1 g2 f1;go_wp2_with fail;go_ret;exact⟨by rw[HF.out];rfl,(HE.out _ (ni.out _)).1⟩
     have d3:decide (se<0)=false:=decide_eq_false g3;by_cases g4:1000<se
     ·have HF:=Lh (xO.out (by rw[lX.out,f1,(by cases h:aX se 1000 with|false=>rfl|true=>(have:=(HW.out _ _).1 h;omega):aX se 1000=false)];rfl));clear g1 g2 g3 f1;go_wp2_with fail;go_ret;exact⟨by rw[HF.out];rfl,(HE.out _ (ni.out _)).1⟩
     have d4:decide (1000<se)=false:=decide_eq_false g4;have f2:=(HW.out se 1000).2 ⟨by omega,by omega⟩;have qo:=Lh (show br=!pb by rw[lX.out,f1,f2];simp);clear g1 g2 g3 g4 f1 f2;go_wp2_with fail;refine(Qa.out _ (HE.out _ (ni.out _)).1).mono ?_;rintro e w2 ⟨rfl,hb2⟩;have H2:=Lh ((ni.out _).trans (hb2.mono (ni.out _).size));clear hb2 d1 d2 d3 d4 e0 e1 e2 e3 c0 c1 c2 c3 c4;cases pb
     ·have HF:=Lh (xO.out (by rw[qo.out];rfl));go_wp2_with fail;go_ret;exact⟨by rw[HF.out];rfl,(HE.out _ H2.out).1⟩
     ·have HT:=Lh (Av.out (by rw[qo.out];rfl));go_wp2_with fail;exact⟨⟨k+1,by omega,by go_num,HT,H2⟩,by simp[intOf];omega⟩
    ·obtain rfl:k=s.ah.length:=by omega
     have Y8:Hid (∀j (h:j<s.ah.length),fJ s.slots.length s.ah[j]=false):=Lh (fun j h=>Po.out j h h);obtain⟨wo2,hwo⟩:∃wo,wo=wr:=⟨_,rfl⟩;subst hwo;clear hlt hk;go_wp2_with fail;clear c0 c1 c2 c3 c4 hsb;go_loopw [6] (fun i wr=>∃k:Nat,k<=s.people.length/\i=.int .i64 k/\Hid (∀j (h:j<s.people.length),j<k->dH s.slots.length s.people[j]=false)/\Hid (Below W0.heap.size W0 wr)) (fun i _=>s.people.length-(intOf i).toNat)
     case atStart=>exact⟨0,Nat.zero_le _,rfl,Lh (fun j _ h=>by omega),HB2⟩
     case round=>
      obtain⟨k,hk,rfl,Xt,HB3⟩:=hrel;obtain⟨_,c0,c1,c2,c3,c4⟩:=HE.out wr HB3.out;have hm1:=ou.out.toSchSmall.people;by_cases hlt:k<s.people.length
      ·obtain⟨y,hy,_,hc⟩:=HS.out.people.TR k hlt;obtain⟨hxa,hxb⟩:=HS.out.people.at_ (by rw[List.length_map];omega);have hbw:=(HE.out wr HB3.out).1;have uf:=Lh (aI hxb hc);have Rv:=Lh (ou.out.away _ (List.getElem_mem hlt));have Qa:=Lh (fun(W:World) (hW:Below w.heap.size w W)=>Ny.out s.people[k].away y s.slots.length W (hy.later hW hW.size) Rv.out);have lX:Hid (dH s.slots.length s.people[k]=!(cK s.people[k].away s.slots.length)):=Lh rfl;have Av:Hid (dH s.slots.length s.people[k]=false->∀j (h:j<s.people.length),j<k+1->dH s.slots.length s.people[j]=false):=Lh (fun h j h2 hj=>by
        by_cases e:j=k
        ·subst e;exact h
        ·exact Xt.out j h2 (by omega))
       have xO:Hid (dH s.slots.length s.people[k]=true->res=false):=Lh (fun h=>Rq.out (dH s.slots.length s.people[k]=false) (by rw[h];decide) (fun hm=>(P9.out.1 hm).2.2.1 k hlt));have Qn:=Lh hxa;have i1:(0:Int)<=(k:Int):=by omega
       have i2:(k:Int)<(s.people.length:Int):=by omega
       generalize dH s.slots.length s.people[k]=br at lX Av xO;generalize cK s.people[k].away s.slots.length=pb at Qa lX;have hc2:=uf.out.2;generalize s.people[k].away.length=sl at hc2 Qa uf;have HK:Hid (∀W,Below wr.heap.size wr W->W.cell? ⟨w.heap.size,0,none⟩=some (.slice x.slots.a s.slots.length x.slots.cap)/\W.cell? ⟨w.heap.size,2,none⟩=some (.slice (some ⟨x.people.b,x.people.o,none⟩) s.people.length x.people.cap)/\W.cell? ⟨x.people.b,x.people.o+k*2+1,none⟩=some (.slice y.a sl y.cap)):=Lh (fun W hW=>by
        obtain⟨hw1,q0,q1,q2,q3,q4⟩:=HE.out W (HB3.out.trans (hW.mono HB3.out.size));rw[Qn.out] at q2;exact⟨q0,q2,((uf.out.2.agree (ag hw1) uf.out.1).two).2⟩)
       clear hy hc hbw hxa hc2;go_wp2_with fail;clear c0 c1 c2 c3 c4;go_region_held3 (fun w'=>w'.cell? ⟨w.heap.size,0,none⟩=some (.slice x.slots.a s.slots.length x.slots.cap)/\w'.cell? ⟨w.heap.size,2,none⟩=some (.slice (some ⟨x.people.b,x.people.o,none⟩) s.people.length x.people.cap)/\w'.cell? ⟨x.people.b,x.people.o+k*2+1,none⟩=some (.slice y.a sl y.cap)) ((refine HK.out _ ?_;first|exact pK.out|exact(Below.refl _ _).drew|fail))
        (first|(go_at_call 132;refine(Qa.out _ (HE.out _ HB3.out).1.drew).mono ?_;rintro e w2 ⟨rfl,hbb⟩;have pK:=Lh ((Below.refl wr.heap.size wr).drew.trans hbb:Below wr.heap.size wr _);clear hbb))
       all_goals
        have H2:=Lh (HB3.out.trans (pK.out.mono HB3.out.size));cases pb
        ·have HF:=Lh (xO.out (by rw[lX.out];rfl));go_wp2_with fail;go_ret;exact⟨by rw[HF.out];rfl,(HE.out _ H2.out).1⟩
        ·have HT:=Lh (Av.out (by rw[lX.out];rfl));go_wp2_with fail;exact⟨⟨k+1,by omega,by go_num,HT,H2⟩,by simp[intOf];omega⟩
      ·obtain rfl:k=s.people.length:=by omega
       have Y7:Hid (∀j (h:j<s.people.length),dH s.slots.length s.people[j]=false):=Lh (fun j h=>Xt.out j h h);obtain⟨wo3,hwo⟩:∃wo,wo=wr:=⟨_,rfl⟩;subst hwo;clear hlt hk;go_wp2_with fail;clear c0 c1 c2 c3 c4;go_loopw [7] (fun i wr=>∃k:Nat,k<=s.groups.length/\i=.int .i64 k/\Hid (∀j (h:j<s.groups.length),j<k->eF s.groups[j]=false)/\Hid (Below W0.heap.size W0 wr)) (fun i _=>s.groups.length-(intOf i).toNat)
       case atStart=>exact⟨0,Nat.zero_le _,rfl,Lh (fun j _ h=>by omega),HB3⟩
       case round=>
        obtain⟨k,hk,rfl,Xu,oQ⟩:=hrel;obtain⟨_,c0,c1,c2,c3,c4⟩:=HE.out wr oQ.out;have hm1:=ou.out.toSchSmall.groups;by_cases hlt:k<s.groups.length
        ·obtain⟨hxa,hxb⟩:=HS.out.groups.at_ (by rw[List.length_map];omega);have hbw:=(HE.out wr oQ.out).1;obtain⟨_,_,_,hgf,_⟩:=HS.out.groups.flat qm.bI;obtain⟨_,p1⟩:=hgf.two k hlt rfl;have e1:=(hbw.cell (p:=⟨x.groups.b,x.groups.o+k*2+1,none⟩) hxb).trans p1;have lX:Hid (eF s.groups[k]=!(aX s.groups[k].size 1000)):=Lh rfl;have Av:Hid (eF s.groups[k]=false->∀j (h:j<s.groups.length),j<k+1->eF s.groups[j]=false):=Lh (fun h j h2 hj=>by
          by_cases e:j=k
          ·subst e;exact h
          ·exact Xu.out j h2 (by omega))
         have xO:Hid (eF s.groups[k]=true->res=false):=Lh (fun h=>Rq.out (eF s.groups[k]=false) (by rw[h];decide) (fun hm=>(P9.out.1 hm).2.2.2.1 k hlt));have HW:Hid (∀n m:Int,aX n m=true↔0<=n/\n<=m):=Lh (fun n m=>by unfold aX;simp);have i1:(0:Int)<=(k:Int):=by omega
         have i2:(k:Int)<(s.groups.length:Int):=by omega
         rw[hxa] at c3;clear hbw hxa hgf p1;generalize eF s.groups[k]=br at lX Av xO;generalize s.groups[k].size=se at e1 lX;by_cases g3:se<0
         ·have HF:=Lh (xO.out (by rw[lX.out,(by cases h:aX se 1000 with|false=>rfl|true=>(have:=(HW.out _ _).1 h;omega):aX se 1000=false)];rfl));go_wp2_with fail;go_ret;exact⟨by rw[HF.out];rfl,(HE.out _ oQ.out).1⟩
         have d3:decide (se<0)=false:=decide_eq_false g3;by_cases g4:1000<se
         ·have HF:=Lh (xO.out (by rw[lX.out,(by cases h:aX se 1000 with|false=>rfl|true=>(have:=(HW.out _ _).1 h;omega):aX se 1000=false)];rfl));clear g3;go_wp2_with fail;go_ret;exact⟨by rw[HF.out];rfl,(HE.out _ oQ.out).1⟩
         have d4:decide (1000<se)=false:=decide_eq_false g4;have HT:=Lh (Av.out (by rw[lX.out,(HW.out se 1000).2 ⟨by omega,by omega⟩];rfl));clear g3 g4;go_wp2_with fail;exact⟨⟨k+1,by omega,by go_num,HT,oQ⟩,by simp[intOf];omega⟩
        ·obtain rfl:k=s.groups.length:=by omega
         have Ph:Hid (∀j (h:j<s.groups.length),eF s.groups[j]=false):=Lh (fun j h=>Xu.out j h h);obtain⟨wo4,hwo⟩:∃wo,wo=wr:=⟨_,rfl⟩;subst hwo;clear hlt hk;go_wp2_with fail;clear c0 c1 c2 c3 c4;go_loopw [8] (fun i wr=>∃k:Nat,k<=s.lessons.length/\i=.int .i64 k/\Hid (∀j (h:j<s.lessons.length),j<k->dV s.people.length s.groups.length s.lessons[j]=false)/\Hid (Below W0.heap.size W0 wr)) (fun i _=>s.lessons.length-(intOf i).toNat)
         case atStart=>exact⟨0,Nat.zero_le _,rfl,Lh (fun j _ h=>by omega),oQ⟩
         case round=>
          obtain⟨k,hk,rfl,Xv,uB⟩:=hrel;obtain⟨_,c0,c1,c2,c3,c4⟩:=HE.out wr uB.out;have hm1:=ou.out.toSchSmall.lessons;by_cases hlt:k<s.lessons.length
          ·obtain⟨y,z,hy,hz,_,hc⟩:=HS.out.lessons.TN k hlt;obtain⟨hxa,hxb⟩:=HS.out.lessons.at_ (by rw[List.length_map];omega);have uf:=Lh (aI hxb hc);have Rv:=Lh (aI (ou.out.who _ (List.getElem_mem hlt)) (ou.out.SE _ (List.getElem_mem hlt)));have hbw:=(HE.out wr uB.out).1;have Fp:=Lh (fun(n:Nat)=>rW s.lessons[k].who y s.people.length (wr.drewN n) (hy.later (dQ hbw n) hbw.size) Rv.out.1);have Nv:=Lh (fun(n:Nat)=>rW s.lessons[k].groups z s.groups.length (wr.drewN n) (hz.later (dQ hbw n) hbw.size) Rv.out.2);obtain⟨_,e1,e2⟩:=(hc.agree (ag hbw) hxb).three;have lX:Hid (dV s.people.length s.groups.length s.lessons[k]=(!(cK s.lessons[k].who s.people.length)||!(cK s.lessons[k].groups s.groups.length))):=Lh rfl;have Av:Hid (dV s.people.length s.groups.length s.lessons[k]=false->∀j (h:j<s.lessons.length),j<k+1->dV s.people.length s.groups.length s.lessons[j]=false):=Lh (fun h j h2 hj=>by
            by_cases e:j=k
            ·subst e;exact h
            ·exact Xv.out j h2 (by omega))
           have xO:Hid (dV s.people.length s.groups.length s.lessons[k]=true->res=false):=Lh (fun h=>Rq.out (dV s.people.length s.groups.length s.lessons[k]=false) (by rw[h];decide) (fun hm=>(P9.out.1 hm).2.2.2.2.1 k hlt));have Qn:=Lh hxa;have i1:(0:Int)<=(k:Int):=by omega
           have i2:(k:Int)<(s.lessons.length:Int):=by omega
           generalize dV s.people.length s.groups.length s.lessons[k]=br at lX Av xO;generalize cK s.lessons[k].who s.people.length=pb at Fp lX;generalize cK s.lessons[k].groups s.groups.length=pc at Nv lX;generalize s.lessons[k].who.length=sl at e1 Fp;generalize s.lessons[k].groups.length=sl2 at e2 Nv;rw[hxa] at c4;clear hy hz hc hxa hbw uf Qn;cases pb
           ·have HF:=Lh (xO.out (by rw[lX.out];rfl));go_wp2_with fail;go_quiet (first|(go_at_call 132;with_reducible refine Calls.quiet_of (Fp.out _)));go_wp2_with fail;go_ret;exact⟨by rw[HF.out];rfl,(HE.out _ (dQ uB.out _)).1⟩
           ·cases pc
            ·have HF:=Lh (xO.out (by rw[lX.out];rfl));go_wp2_with fail;go_quiet (first|(go_at_call 132;with_reducible refine Calls.quiet_of (Fp.out _))|(go_at_call 132;with_reducible refine Calls.quiet_of (Nv.out _)));go_wp2_with fail;go_ret;exact⟨by rw[HF.out];rfl,(HE.out _ (dQ uB.out _)).1⟩
            ·have HT:=Lh (Av.out (by rw[lX.out];rfl));go_wp2_with fail;go_quiet (first|(go_at_call 132;with_reducible refine Calls.quiet_of (Fp.out _))|(go_at_call 132;with_reducible refine Calls.quiet_of (Nv.out _)));go_wp2_with fail;exact⟨⟨k+1,by omega,by go_num,HT,Lh (dQ uB.out _)⟩,by simp[intOf];omega⟩
          ·obtain rfl:k=s.lessons.length:=by omega
           have HT:Hid (res=((bJ [] s.slots&&decide (0<s.slots.length))&&decide (0<s.ah.length))):=Lh (by
            rw[Bool.eq_iff_iff,P9.out];constructor
            ·exact fun h=>h.2.2.2.2.2
            ·exact fun h=>⟨fun j hj=>HP.out j hj,Y8.out,Y7.out,Ph.out,fun j hj=>Xv.out j hj hj,h⟩)
           have Gj:=Lh (uF.out wr (HE.out wr uB.out).1);generalize (bJ [] s.slots&&decide (0<s.slots.length))=gb at HT Gj;clear hlt hk;go_wp2_with fail;refine Gj.out.mono ?_;rintro e w2 ⟨rfl,hb2⟩;have H2:=Lh (uB.out.trans (hb2.mono uB.out.size));clear hb2 c0 c1 c2 c3 c4;obtain⟨_,c0,c1,c2,c3,c4⟩:=HE.out w2 H2.out;have hr0:decide ((0:Int)<(s.ah.length:Int))=decide (0<s.ah.length):=by rw[Bool.eq_iff_iff];simp
           have Gd:=Lh hr0;clear hr0;cases gb
           ·go_wp2_with fail;go_ret;exact⟨by rw[HT.out];rfl,(HE.out _ H2.out).1⟩
           ·go_wp2_with fail;go_ret;exact⟨by rw[HT.out,<-Gd.out];rfl,(HE.out _ H2.out).1⟩
theorem Er(s:aF)(x:bS)(w:World)(hs:dD w (·<w.heap.size) s x)(hf:gQ s):
  Calls Tryz.prog 49 #[.agg (x.cells s).toArray] w fun e w'=>e=.returned (.int .i64 (bE s))/\Below w.heap.size w w':=by
 obtain⟨W0,hW0⟩:∃W0,W0=w.alloc (.cells (x.cells s).toArray 28):=⟨_,rfl⟩;have hb0:Below w.heap.size w W0:=by rw[hW0];exact(Below.refl _ _).alloc (Nat.le_refl _) _
 have hq0:bX W0 w.heap.size s x:=by rw[hW0];unfold bX;rw[af,if_pos rfl]
 have HM:=Lh (Mf s x W0 (hs.later hb0 hb0.size) hf);have HR:=Lh (Gy s);have HB:=Lh (aI hb0 hq0);have HW0:=Lh hW0;obtain⟨c0,c1,c2,c3,c4⟩:=hq0.cells;clear hb0 hq0 hW0 hs hf;generalize bE s=res at HR ⊢;generalize xG s=mf at HM HR;simp only[bS.cells,aK.val] at HM HW0 ⊢;go_enter Tryz.func49,Tryz.ntmps49;go_wp2_with fail;rw[<-HW0.out];refine HM.out.mono ?_;rintro e w1 ⟨rfl,hb1⟩;have H1:=Lh (aI (HB.out.1.trans (hb1.mono HB.out.1.size)) (HB.out.2.below hb1));clear hb1 c0 c1 c2 c3 c4;cases mf
 ·have HF:Hid (res=1):=Lh (by rw[HR.out,if_pos rfl]);go_wp2_with fail;go_ret;exact⟨by rw[HF.out];rfl,H1.out.1⟩
 have HR2:Hid (res=if 50<s.slots.length∨32<s.ah.length∨64<s.people.length∨64<s.groups.length∨64<s.lessons.length then 2 else 0):=Lh (by rw[HR.out,if_neg (by decide)]);obtain⟨c0,c1,c2,c3,c4⟩:=H1.out.2.cells;by_cases hbig:50<s.slots.length∨32<s.ah.length∨64<s.people.length∨64<s.groups.length∨64<s.lessons.length
 ·have HF:Hid (res=2):=Lh (by rw[HR2.out,if_pos hbig]);clear HR HR2;go_wp2_with fail
  all_goals first
   |(go_ret;exact⟨by rw[HF.out];rfl,H1.out.1⟩)
   |(exfalso;omega)
 ·have HF:Hid (res=0):=Lh (by rw[HR2.out,if_neg hbig]);have d0:decide ((50:Int)<(s.slots.length:Int))=false:=by simp;omega
  have d1:decide ((32:Int)<(s.ah.length:Int))=false:=by simp;omega
  have d2:decide ((64:Int)<(s.people.length:Int))=false:=by simp;omega
  have d3:decide ((64:Int)<(s.groups.length:Int))=false:=by simp;omega
  have d4:decide ((64:Int)<(s.lessons.length:Int))=false:=by simp;omega
  clear hbig HR HR2;go_wp2_with fail;go_ret;exact⟨by rw[HF.out];rfl,H1.out.1⟩
end Go.Proofs.YtncnnbmeacpboaaGreatDoor
namespace Go.Proofs.YtncnnbmeacpboaaGreatDoor
open Go.RowKit Go.aa
attribute [local go_sem] Oper.semAt_some
variable {l:List Bs} {k:Nat}
theorem Ew(s:aF)(x:bS)(sort at_:Int)(w:World)(hs:dD w (·<w.heap.size) s x)(hsm:SchSmall s):
  Calls Tryz.prog 52 #[.agg (x.cells s).toArray,.int .i64 sort,.int .i64 at_] w fun e w'=>e=.returned (.string ⟨(bY s sort at_).toArray⟩)/\Below w.heap.size w w':=by
 obtain⟨W1,hW1⟩:∃W1,W1=w.alloc (.cells (x.cells s).toArray 28):=⟨_,rfl⟩;have hb1:Below w.heap.size w W1:=by rw[hW1];exact(Below.refl _ _).alloc (Nat.le_refl _) _
 have HN:=Lh (mM s x sort W1 (hs.later hb1 hb1.size) hsm);have hbx:W1.heap[w.heap.size]?=some (.cells (x.cells s).toArray 28 (0,0)):=by rw[hW1,af,if_pos rfl]
 obtain⟨c0,c1,c2,c3,c4⟩:=(show bX W1 w.heap.size s x from hbx).cells;obtain⟨R,hR⟩:∃R,R=bY s sort at_:=⟨_,rfl⟩;rw[<-hR];have HR:Hid (R=if at_<0 then [] else((ai s sort)[at_.toNat]?).getD []):=Lh hR;have HB1:=Lh hb1;have HW1:=Lh hW1;generalize ai s sort=ns at HN HR;clear hR hs hb1 hbx hW1 hsm;simp only[bS.cells,aK.val] at HN HW1 ⊢;go_enter Tryz.func52,Tryz.ntmps52;go_upto_region 1 with fail
 rw[<-HW1.out];go_wp2_with fail;refine HN.out.mono ?_;rintro e' w2 ⟨y,rfl,hy,hb2⟩;have HB2:=Lh (HB1.out.trans (hb2.mono HB1.out.size));obtain⟨n1,n2,_,n4,_⟩:=hy.flat iW;clear hb2 c0 c1 c2 c3 c4 hy;by_cases h0:at_<0
 ·have HX:Hid (R=[]):=Lh (by rw[HR.out,if_pos h0]);clear n1 n2 n4;go_wp2_with fail;go_ret;exact⟨by rw[HX.out];rfl,HB2.out⟩
 have h0':decide (at_<0)=false:=decide_eq_false h0;obtain⟨k,hk⟩:∃k:Nat,at_=(k:Int):=⟨at_.toNat,by omega⟩;subst hk;by_cases h1:(ns.length:Int)<=(k:Int)
 ·have HX:Hid (R=[]):=Lh (by rw[HR.out,if_neg h0,List.getElem?_eq_none (by omega)];rfl);clear n1 n2 n4;go_wp2_with fail;go_ret;exact⟨by rw[HX.out];rfl,HB2.out⟩
 have h1':decide ((ns.length:Int)<=(k:Int))=false:=decide_eq_false h1;have hkl:k<ns.length:=by omega
 have HX:Hid (R=ns[k]):=Lh (by rw[HR.out,if_neg h0,Int.toNat_natCast,List.getElem?_eq_getElem hkl];rfl);have hc:=n4 k hkl 0 (by simp[fT,D.vals]);have hc2:w2.cell? ⟨y.b,y.o+k,none⟩=some (.string ⟨ns[k].toArray⟩):=by simpa[fT,D.vals] using hc
 have ha:=(n1 (by omega)).1;generalize ns[k]=nm at hc2 HX;rw[ha];have hki:(k:Int)<(ns.length:Int):=by omega
 clear n1 n2 n4 hc ha h0 h1;go_wp2_with fail;go_ret;exact⟨by rw[HX.out];rfl,HB2.out⟩
end Go.Proofs.YtncnnbmeacpboaaGreatDoor
