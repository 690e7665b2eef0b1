/- Parts of the proof. -/
import Derived.Test.YtncnnbmeacpboaaGreatDoorLIs21
import Derived.Test.YtncnnbmeacpboaaGreatDoorLIs19
set_option maxHeartbeats 8000000
set_option maxRecDepth 100000
set_option linter.unusedVariables false
set_option linter.unusedSimpArgs false
namespace Go.aa
variable {rn:Bs} {m:List (Bs×Bs)} {j:Nat}
theorem o8(p:Bs×Bs):∀m:List (Bs×Bs),eX (m++[p])=if m.isEmpty then eD p else eX m++([44,32]++eD p)
 |[]=>rfl
 |[q]=>rfl
 |q::q2::r=>by
  have:=o8 p (q2::r);rw[List.cons_append,List.cons_append,eX,<-List.cons_append,this];simp[eX]
def pW(rn:Bs)(m:List (Bs×Bs))(j:Nat):Bs:=if j=0 then rn else rn++([32,40]++eX (m.take j))
theorem Ig(h:j<m.length):pW rn m (j+1)=(((pW rn m j++(if j=0 then [32,40] else [44,32]))++m[j].1)++[32,61,32])++m[j].2:=by
 unfold pW;rw[if_neg (by omega),List.take_succ_eq_append_getElem h,o8];by_cases h0:j=0
 ·subst h0;simp[eD]
 ·have he:(m.take j).isEmpty=false:=by
   rw[List.isEmpty_eq_false_iff];intro e;have:=congrArg List.length e;rw[List.length_take,List.length_nil] at this;omega
  rw[if_neg (by rw[he];decide),if_neg h0,if_neg h0];simp[eD]
theorem L6:gK rn m=if m.length=0 then rn else pW rn m m.length++[41]:=by
 unfold gK pW;cases m with
 |nil=>rfl
 |cons p r=>simp
theorem L8(hr:rn.length<=64)(hm:m.length<=6)(h:∀p∈m,p.1.length<=64/\p.2.length<=64):(pW rn m j).length<=1000:=by
 unfold pW;split
 ·omega
 ·have h1:=kC (m.take j) (fun p hp=>h p (List.mem_of_mem_take hp));rw[List.length_take] at h1;have h2:133*min j m.length<=133*6:=Nat.mul_le_mul_left _ (by omega);simp only[List.length_append,List.length_cons,List.length_nil];omega
theorem vP{s:aF}(h:bE s=0):∀(b:List aD) (q:List Int),∀x∈bG s b q,x.length<=64
 |b::r,i::q,x,hx=>by
  rw[bG] at hx;rcases List.mem_cons.1 hx with h1|h1
  ·rw[h1];exact Kn h
  ·exact vP h r q x h1
 |[],_,x,hx=>by simp[bG] at hx
 |_::_,[],x,hx=>by simp[bG] at hx
theorem Bu{s:aF}{l:List bq}{i:Ins}(hok:okF s l=0):(vN s l i=false/\ko s l i=([],1))∨(vN s l i=true/\∃k,∃hk:k<l.length,i.rule=(k:Int)/\i.binds.length=l[k].each.length/\(∀x∈bG s l[k].each i.binds,x.length<=64)/\
  fC ((l[k].each.map aD.name).zip (bG s l[k].each i.binds)) l[k].body=gm ((l[k].each.map aD.name).zip (bG s l[k].each i.binds)) l[k].body/\
  ko s l i=if(dx (fC ((l[k].each.map aD.name).zip (bG s l[k].each i.binds)) l[k].body)).2≠0 then([],(dx (fC ((l[k].each.map aD.name).zip (bG s l[k].each i.binds)) l[k].body)).2) else(gK l[k].name ((l[k].each.map aD.name).zip (bG s l[k].each i.binds))++([58,32]++(dx (fC ((l[k].each.map aD.name).zip (bG s l[k].each i.binds)) l[k].body)).1),0)):=by
 rw[<-K8];have e0:FI s l i=if vN s l i=false then([],1) else
  match l[i.rule.toNat]? with
  |none=>([],1)
  |some r=>
   if(dx (fC ((r.each.map aD.name).zip (bG s r.each i.binds)) r.body)).2≠0 then([],(dx (fC ((r.each.map aD.name).zip (bG s r.each i.binds)) r.body)).2)
   else(gK r.name ((r.each.map aD.name).zip (bG s r.each i.binds))++([58,32]++(dx (fC ((r.each.map aD.name).zip (bG s r.each i.binds)) r.body)).1),0):=by
  unfold FI
  (rw[if_neg (by simpa using hok)])<;>rfl
 rw[e0];cases hm:vN s l i with
 |false=>exact .inl ⟨rfl,if_pos rfl⟩
 |true=>
  right;obtain⟨r,h0,h1,h2,_⟩:=(Ba (jF hok).1 l i).1 hm;obtain⟨hk,hr⟩:=List.getElem?_eq_some_iff.1 h1;subst hr;refine⟨rfl,i.rule.toNat,hk,by omega,h2,vP (jF hok).1 _ _,?_,?_⟩
  ·obtain⟨_,t2,t3⟩:=lW ((jF hok).2.1 _ (List.getElem_mem hk));exact zL (nT t2 _) _ (mR t3)
  ·rw[if_neg (by decide),h1]
end Go.aa
namespace Go.Proofs.YtncnnbmeacpboaaGreatDoor
open Go.RowKit Go.aa
attribute [local go_sem] Oper.semAt_some
variable {rn:Bs} {m:List (Bs×Bs)} {j:Nat}
theorem Co(s:aF)(x:bS)(l:List bq)(z:aK)(i:gp)(y:jL)(w:World)(hs:dD w (·<w.heap.size) s x)(hf:gQ s)(hz:aj w (·<w.heap.size) (l.map bq.toD) z)(hl:l.length<=2000000)(hfr:∀r∈l,gF r)(hy:fU w (·<w.heap.size) i y)(hbl:i.binds.length<=2000000):
  Calls Tryz.prog 11 #[.agg (x.cells s).toArray,.slice z.a l.length z.cap,.agg (y.cells i).toArray] w (pO w (ko s l i.ins)):=by
 obtain⟨SB,rO⟩:∃SB,SB=w.heap.size:=⟨_,rfl⟩;obtain⟨IB,hIB⟩:∃IB,IB=SB+1:=⟨_,rfl⟩;obtain⟨V0,Bn⟩:∃V0,V0=w.alloc (.cells #[.slice x.slots.a s.slots.length x.slots.cap,.slice x.ah.a s.ah.length x.ah.cap,.slice x.people.a s.people.length x.people.cap,.slice x.groups.a s.groups.length x.groups.cap,.slice x.lessons.a s.lessons.length x.lessons.cap] 28):=⟨_,rfl⟩;obtain⟨W0,hW0⟩:∃W0,W0=V0.alloc (.cells #[.int .i64 i.rule,.slice y.b.a i.binds.length y.b.cap,.int .i64 y.k0,.int .i64 y.k1,.int .i64 y.k2,.slice y.a y.n y.cap] 35):=⟨_,rfl⟩;have hv0:V0.heap.size=SB+1:=by rw[Bn,rO];simp
 have hb0:Below w.heap.size w W0:=by rw[hW0,Bn];exact((Below.refl _ _).alloc (Nat.le_refl _) _).alloc (by simp) _
 have k0:W0.heap[SB]?=some (.cells #[.slice x.slots.a s.slots.length x.slots.cap,.slice x.ah.a s.ah.length x.ah.cap,.slice x.people.a s.people.length x.people.cap,.slice x.groups.a s.groups.length x.groups.cap,.slice x.lessons.a s.lessons.length x.lessons.cap] 28 (0,0)):=by rw[hW0,af,if_neg (by omega),Bn,af,if_pos rO]
 have k1:W0.heap[IB]?=some (.cells #[.int .i64 i.rule,.slice y.b.a i.binds.length y.b.cap,.int .i64 y.k0,.int .i64 y.k1,.int .i64 y.k2,.slice y.a y.n y.cap] 35 (0,0)):=by rw[hW0,af,if_pos (by omega)]
 have HC:Hid (∀W,Below W0.heap.size W0 W->Below w.heap.size w W/\(W.cell? ⟨SB,0,none⟩=some (.slice x.slots.a s.slots.length x.slots.cap)/\W.cell? ⟨SB,1,none⟩=some (.slice x.ah.a s.ah.length x.ah.cap)/\W.cell? ⟨SB,2,none⟩=some (.slice x.people.a s.people.length x.people.cap)/\W.cell? ⟨SB,3,none⟩=some (.slice x.groups.a s.groups.length x.groups.cap)/\W.cell? ⟨SB,4,none⟩=some (.slice x.lessons.a s.lessons.length x.lessons.cap))/\W.cell? ⟨IB,0,none⟩=some (.int .i64 i.rule)/\W.cell? ⟨IB,1,none⟩=some (.slice y.b.a i.binds.length y.b.cap)/\W.cell? ⟨IB,2,none⟩=some (.int .i64 y.k0)/\W.cell? ⟨IB,3,none⟩=some (.int .i64 y.k1)/\W.cell? ⟨IB,4,none⟩=some (.int .i64 y.k2)/\W.cell? ⟨IB,5,none⟩=some (.slice y.a y.n y.cap)):=Lh (fun W hW=>by
  have h0:=(hW.block _ (gS k0).1).trans k0;have h1:=(hW.block _ (gS k1).1).trans k1;exact⟨hb0.trans (hW.mono hb0.size),⟨cH h0 rfl,cH h0 rfl,cH h0 rfl,cH h0 rfl,cH h0 rfl⟩,cH h1 rfl,cH h1 rfl,cH h1 rfl,cH h1 rfl,cH h1 rfl,cH h1 rfl⟩)
 have uE:Hid (∀W,Below w.heap.size w W->dD W (·<W.heap.size) s x/\aj W (·<W.heap.size) (l.map bq.toD) z/\fU W (·<W.heap.size) i y):=Lh (fun W hW=>⟨hs.later hW hW.size,hz.later hW hW.size,hy.later hW hW.size⟩);have ou:=Lh (aI hf (aI hfr (aI hl hbl)));have Zh:=Lh hz.at_;obtain⟨R,hR⟩:∃R,R=ko s l i.ins:=⟨_,rfl⟩;have Fg:=Lh (fun(h:okF s l=0)=>Bu (i:=i.ins) h);have WZ:Hid (okF s l≠0->R=([],okF s l)):=Lh (fun h=>by rw[hR];unfold ko;rw[if_pos h]);simp only[<-hR] at Fg ⊢;have HW0:=Lh (aI Bn (aI hW0 (aI rO hIB)));have HB0:=Lh hb0;clear hs hf hz hl hfr hy hbl hb0 k0 k1 hv0 hR Bn hW0 rO hIB;have hbl:=ou.out.2.2.2;simp only[bS.cells,aK.val,jL.cells];obtain⟨_,⟨c0,c1,c2,c3,c4⟩,_⟩:=HC.out _ (Below.refl _ _);go_enter Tryz.func11,Tryz.ntmps11;go_upto_region 1 with fail
 try rw[<-HW0.out.2.2.1]
 rw[<-HW0.out.1]
 try rw[<-HW0.out.2.2.2]
 rw[<-HW0.out.2.1];go_wp2_with fail;have hSS:=uE.out W0 (HC.out W0 (Below.refl _ _)).1;refine(Ct s x l z W0 hSS.1 ou.out.1 hSS.2.1 ou.out.2.2.1 ou.out.2.1).mono ?_;rintro e w1 ⟨rfl,hb⟩;have HB1:=Lh hb;clear hb hSS c0 c1 c2 c3 c4;by_cases hok:okF s l=0;rotate_left
 ·have hk2:(okF s l==0)=false:=by simpa using hok
  have hk3:(okF s l !=0)=true:=by simpa using hok
  have HX:=Lh (WZ.out hok);clear hok;generalize okF s l=ok at hk2 hk3 HX Fg ⊢;go_wp2_with fail;go_ret2;exact pO.mk' HX.out (HC.out _ HB1.out).1
 have RV:=Lh (Fg.out hok);have Uk:=Lh (uq hok);rw[hok];clear Fg WZ hok;obtain⟨_,⟨c0,c1,c2,c3,c4⟩,d0,d1,d2,d3,d4,d5⟩:=HC.out w1 HB1.out;go_wp2_with fail;have hSS:=uE.out w1 (HC.out w1 HB1.out).1;refine(Ir s x l z i y w1 hSS.1 ou.out.1.toSchSmall hSS.2.1 ou.out.2.2.1 hSS.2.2 ou.out.2.2.2).mono ?_;rintro e w2 ⟨rfl,hb⟩;have HB2:=Lh (HB1.out.trans (hb.mono HB1.out.size));clear hb hSS c0 c1 c2 c3 c4 d0 d1 d2 d3 d4 d5;rcases RV.out with⟨hm,hR⟩|⟨hm,k,hk,Og,hbn,h64,Bp,hR⟩
 ·have HX:=Lh hR;rw[hm];clear hm hR;go_wp2_with fail;go_ret2;exact pO.mk' HX.out (HC.out _ HB2.out).1
 rw[hm];have QT:i.rule=(k:Int):=Og;have N9:i.binds.length=l[k].each.length:=hbn;have QA:∀x∈bG s l[k].each i.binds,x.length<=64:=h64;have KY:fC ((l[k].each.map aD.name).zip (bG s l[k].each i.binds)) l[k].body=gm ((l[k].each.map aD.name).zip (bG s l[k].each i.binds)) l[k].body:=Bp;have hR2:R=if(dx (fC ((l[k].each.map aD.name).zip (bG s l[k].each i.binds)) l[k].body)).2≠0 then([],(dx (fC ((l[k].each.map aD.name).zip (bG s l[k].each i.binds)) l[k].body)).2) else(gK l[k].name ((l[k].each.map aD.name).zip (bG s l[k].each i.binds))++([58,32]++(dx (fC ((l[k].each.map aD.name).zip (bG s l[k].each i.binds)) l[k].body)).1),0):=hR
 clear Og hbn h64 Bp hR hm RV;have UB:gF l[k]:=ou.out.2.1 _ (List.getElem_mem hk);have VJ:=Uk.out _ (List.getElem_mem hk);have hS2:=uE.out w2 (HC.out w2 HB2.out).1;obtain⟨ry,RJ,hrc⟩:=hS2.2.1.Aj k hk;obtain⟨hza,hzb⟩:=hS2.2.1.at_ (by rw[List.length_map];omega);have hki:(k:Int)<(l.length:Int):=by omega
 generalize l[k]=rr at N9 QA KY hR2 UB RJ hrc VJ;obtain⟨rn,hard,wt,each,body⟩:=rr;obtain⟨ye,yb⟩:=ry;have Gg:=Lh (aI RJ UB);have yR:=Lh QA;have Gf:=Lh KY;dsimp only at N9 hR2 yR Gf;have Tj:each.length<=1500000:=UB.len;have Af:=Lh VJ;clear VJ Uk;obtain⟨bk,bn,bN,bt,bb,bl⟩:=body;simp only[iG.cells,aC.cells,aK.val,ae.kind,ae.name,ae.n,ae.terms,ae.binds,ae.l] at hrc;obtain⟨e0,e1,e2,e3,e4,e5,e6,e7,e8,e9⟩:=hrc.ten;obtain⟨_,⟨c0,c1,c2,c3,c4⟩,d0,d1,d2,d3,d4,d5⟩:=HC.out w2 HB2.out;rw[QT] at d0;rw[hza];obtain⟨RB,Ni⟩:∃RB,RB=w2.heap.size:=⟨_,rfl⟩;obtain⟨w3,hw3⟩:∃w3,w3=w2.alloc (.cells #[.string ⟨rn.toArray⟩,.bool hard,.int .i64 wt,.slice ye.a each.length ye.cap,.int .i64 bk,.string ⟨bn.toArray⟩,.int .i64 bN,.slice yb.t.a bt.length yb.t.cap,.slice yb.b.a bb.length yb.b.cap,.slice yb.l.a bl.length yb.l.cap] 66):=⟨_,rfl⟩;have hb3:Below w2.heap.size w2 w3:=by rw[hw3];exact aG _ _
 have k3:w3.heap[RB]?=some (.cells #[.string ⟨rn.toArray⟩,.bool hard,.int .i64 wt,.slice ye.a each.length ye.cap,.int .i64 bk,.string ⟨bn.toArray⟩,.int .i64 bN,.slice yb.t.a bt.length yb.t.cap,.slice yb.b.a bb.length yb.b.cap,.slice yb.l.a bl.length yb.l.cap] 66 (0,0)):=by rw[hw3,af,if_pos Ni]
 have Vh:Hid (∀W,Below w3.heap.size w3 W->Below W0.heap.size W0 W/\W.cell? ⟨RB,0,none⟩=some (.string ⟨rn.toArray⟩)/\W.cell? ⟨RB,1,none⟩=some (.bool hard)/\W.cell? ⟨RB,2,none⟩=some (.int .i64 wt)/\W.cell? ⟨RB,3,none⟩=some (.slice ye.a each.length ye.cap)/\W.cell? ⟨RB,4,none⟩=some (.int .i64 bk)/\W.cell? ⟨RB,5,none⟩=some (.string ⟨bn.toArray⟩)/\W.cell? ⟨RB,6,none⟩=some (.int .i64 bN)/\W.cell? ⟨RB,7,none⟩=some (.slice yb.t.a bt.length yb.t.cap)/\W.cell? ⟨RB,8,none⟩=some (.slice yb.b.a bb.length yb.b.cap)/\W.cell? ⟨RB,9,none⟩=some (.slice yb.l.a bl.length yb.l.cap)):=Lh (fun W hW=>by
  have h0:=(hW.block _ (gS k3).1).trans k3;exact⟨HB2.out.trans ((hb3.trans (hW.mono hb3.size)).mono HB2.out.size),cH h0 rfl,cH h0 rfl,cH h0 rfl,cH h0 rfl,cH h0 rfl,cH h0 rfl,cH h0 rfl,cH h0 rfl,cH h0 rfl,cH h0 rfl⟩)
 have HW3:=Lh (aI Ni hw3);have HB3:=Lh (HB2.out.trans (hb3.mono HB2.out.size));have Nl:=Lh hb3;have HRK:=Lh QT;have tK:=Lh N9;have HRR:=Lh hR2;clear UB hS2 RJ hrc hza hzb Ni hw3 hb3 k3 QT N9 hR2 QA KY hk;have ZK:0<=(k:Int):=by omega
 go_upto_region 7 with fail
 rw[<-HW3.out.1,<-HW3.out.2];clear c0 c1 c2 c3 c4 d0 d1 d2 d3 d4 d5 e0 e1 e2 e3 e4 e5 e6 e7 e8 e9;obtain⟨XP,e0,e1,e2,e3,e4,e5,e6,e7,e8,e9⟩:=Vh.out w3 (Below.refl _ _);obtain⟨_,⟨c0,c1,c2,c3,c4⟩,_,d1,_⟩:=HC.out w3 XP;clear XP;go_wp2_with fail;have RG:=uE.out w3 (HC.out w3 HB3.out).1;have Tu:gV w3 (·<w3.heap.size) ⟨rn,hard,wt,each,.mk bk bn bN bt bb bl⟩ ⟨ye,yb⟩:=Gg.out.1.later Nl.out Nl.out.size;have hcall:=zN s x ⟨rn,hard,wt,each,.mk bk bn bN bt bb bl⟩ ⟨ye,yb⟩ i.binds y.b w3 RG.1 ou.out.1 Tu RG.2.2.binds tK.out (by have:=Gg.out.2.len;dsimp only at this ⊢;omega) Gg.out.2.each;simp only[bS.cells,iG.cells,aC.cells,aK.val,ae.kind,ae.name,ae.n,ae.terms,ae.binds,ae.l] at hcall;refine hcall.mono ?_;rintro e w4 ⟨u,v,rfl,hu,hv,hb⟩;have JE:=Lh hb;have PH:=nR s each i.binds tK.out;have NC:=Lh (aI hu (aI hv PH));clear hcall RG Tu hu hv hb PH c0 c1 c2 c3 c4 d1 e0 e1 e2 e3 e4 e5 e6 e7 e8 e9;obtain⟨XQ,e0,e1,e2,e3,e4,e5,e6,e7,e8,e9⟩:=Vh.out w4 JE.out;clear e0 e1 e2 e3;obtain⟨m,hm⟩:∃m,m=(each.map aD.name).zip (bG s each i.binds):=⟨_,rfl⟩;obtain⟨tl,htl⟩:∃tl,tl=bG s each i.binds:=⟨_,rfl⟩;rw[<-htl] at hm NC yR Gf HRR;rw[<-hm] at Gf HRR;have HM:=Lh hm;have oQ:=Lh XQ;clear htl hm XQ;go_wp2_with fail;have X0:aB w4 (·<w4.heap.size) (.mk bk bn bN bt bb bl) yb:=(Gg.out.1.later Nl.out Nl.out.size).body.later JE.out JE.out.size;have hcall:=zM (each.map aD.name) tl u v (by rw[List.length_map,NC.out.2.2,tK.out]) (by rw[List.length_map];have:=Af.out.each;dsimp only at this;omega) (fun q hq=>by have:=yR.out q hq;omega) (ae.size (.mk bk bn bN bt bb bl)) (.mk bk bn bN bt bb bl) (Nat.le_refl _) Gg.out.2.body yb w4 (·<w4.heap.size) X0 (fun k hk=>hk) NC.out.1 NC.out.2.1;rw[<-HM.out,List.length_map,NC.out.2.2,<-tK.out] at hcall;simp only[aC.cells,aK.val,ae.kind,ae.name,ae.n,ae.terms,ae.binds,ae.l] at hcall;refine hcall.mono ?_;rintro e w5 ⟨yq,rfl,hyq,hb⟩;have hfit:gZ (fC m (.mk bk bn bN bt bb bl)):=by
  rw[Gf.out];exact gZ.ren Gg.out.2.body (fun p hp=>yR.out _ (by rw[HM.out] at hp;exact(List.of_mem_zip (show(p.1,p.2)∈_ from hp)).2))
 have TD:aB w5 (·<w5.heap.size) (fC m (.mk bk bn bN bt bb bl)) yq:=hyq.mono (fun k hk=>by rcases hk with h|h;exact Nat.lt_of_lt_of_le h hb.size;exact h.2);have Qj:=Lh (Il (fC m (.mk bk bn bN bt bb bl)) yq w5 TD hfit);have uB:=Lh (oQ.out.trans (hb.mono oQ.out.size));have JG:=Lh hb;clear hcall X0 hyq hfit TD hb e4 e5 e6 e7 e8 e9;generalize fC m (.mk bk bn bN bt bb bl)=rg at Qj HRR Gf ⊢;simp only[aC.cells,aK.val];go_wp2_with fail;refine Qj.out.mono ?_;rintro e w6 ⟨tv,rfl,Tx,hb⟩;have UW:=Lh (uB.out.trans (hb.mono uB.out.size));have PV:=Lh hb;have HST:=Lh (nX (f:=rg));have Qh:=Lh Tx;clear hb Tx Qj Gf;obtain⟨ST,hST⟩:∃ST,ST=dx rg:=⟨_,rfl⟩;rw[<-hST] at Qh HST HRR ⊢;clear hST;obtain⟨tx,er⟩:=ST;simp only at Qh HST HRR ⊢;by_cases her:er=0;rotate_left
 ·have DJ:(er==0)=false:=by simpa using her
  have ZB:(er !=0)=true:=by simpa using her
  have HX:=Lh (HRR.out.trans (if_pos her));clear her;go_wp2_with fail;go_ret2;exact pO.mk' HX.out (HC.out _ UW.out).1
 subst her;have kr:=Lh (HRR.out.trans (if_neg (by decide)));clear HRR;have UU:=Lh (JE.out.trans ((JG.out.trans (PV.out.mono JG.out.size)).mono JE.out.size));obtain⟨_,e0,_⟩:=Vh.out w6 UU.out;go_wp2_with fail;have HU:Hid (∀W,Below w6.heap.size w6 W->∀(j:Nat) (h1:j<each.length) (h2:j<tl.length),u.a=some ⟨u.b,u.o,none⟩/\v.a=some ⟨v.b,v.o,none⟩/\W.cell? ⟨u.b,u.o+j,none⟩=some (.string ⟨each[j].name.toArray⟩)/\W.cell? ⟨v.b,v.o+j,none⟩=some (.string ⟨tl[j].toArray⟩)):=Lh (fun W hW j h1 h2=>by
  have hb:=(JG.out.trans (PV.out.mono JG.out.size)).trans (hW.mono (Nat.le_trans JG.out.size PV.out.size));obtain⟨n1,_,_,n4,_⟩:=(NC.out.1.later hb hb.size).flat bV;obtain⟨m1,_,_,m4,_⟩:=(NC.out.2.1.later hb hb.size).flat bV;have g1:=n4 j (by rw[List.length_map];exact h1) 0 (by simp[bM,D.vals]);have g2:=m4 j h2 0 (by simp[bM,D.vals]);exact⟨(n1 (by rw[List.length_map];omega)).1,(m1 (by omega)).1,by simpa[bM,D.vals] using g1,by simpa[bM,D.vals] using g2⟩)
 have KW:m.length=i.binds.length:=by rw[HM.out,List.length_zip,List.length_map,NC.out.2.2,tK.out];omega
 have JK:=Lh KW;have DN:∀p∈m,p.1.length<=64/\p.2.length<=64:=by
  intro p hp;rw[HM.out] at hp;obtain⟨g1,g2⟩:=List.of_mem_zip (show(p.1,p.2)∈_ from hp);obtain⟨b,hb,hbe⟩:=List.mem_map.1 g1;exact⟨by rw[<-hbe];exact Af.out.uU b hb,yR.out _ g2⟩
 have U9:=Lh DN;have Xa:Hid (each.length<=6):=Lh Af.out.each;have Sg:Hid (∀j,(pW rn m j).length<=1000):=Lh (fun j=>L8 Af.out.name (by rw[JK.out,tK.out];exact Xa.out) U9.out);have X6:i.binds.length<=6:=by rw[tK.out];exact Xa.out
 clear KW DN e0;go_loopw [14,15] (fun ov ix wr=>∃j:Nat,j<=i.binds.length/\ix=.int .i64 j/\ov=.string ⟨(pW rn m j).toArray⟩/\Hid (Below w6.heap.size w6 wr)) (fun _ ix _=>i.binds.length-(intOf ix).toNat)
 case atStart=>exact⟨0,Nat.zero_le _,rfl,rfl,Lh (Below.refl _ _)⟩
 case round=>
  obtain⟨j,hj,rfl,rfl,HB⟩:=hrel;have hol:=Sg.out j;by_cases hlt:j<i.binds.length
  ·have h1:j<each.length:=by have:=tK.out;omega
   have h2:j<tl.length:=by have:=NC.out.2.2;omega
   obtain⟨Ye,hva,f0,t0⟩:=HU.out wr HB.out j h1 h2;have hjm:j<m.length:=by have:=JK.out;omega
   have yT:=Lh (Ig (rn:=rn) hjm);have X5:m[j]=(each[j].name,tl[j]):=by
    have e:∀(q:List (Bs×Bs)) (hq:q=(each.map aD.name).zip tl) (hj:j<q.length),q[j]=(each[j].name,tl[j]):=fun q hq hj=>by subst hq;rw[List.getElem_zip,List.getElem_map]
    exact e m HM.out hjm
   rw[X5] at yT;have hl1:each[j].name.length<=64:=Af.out.uU _ (List.getElem_mem h1);have hl2:tl[j].length<=64:=yR.out _ (List.getElem_mem h2);generalize each[j].name=fj at f0 yT hl1;generalize tl[j]=tj at t0 yT hl2;dsimp only at yT;rw[Ye,hva];obtain⟨ov,hov⟩:∃ov,ov=pW rn m j:=⟨_,rfl⟩;rw[<-hov] at yT hol ⊢;clear X5 hjm hov Ye hva;obtain⟨s1,hs1⟩:∃s1,s1=ov++(if j=0 then [32,40] else [44,32]):=⟨_,rfl⟩;obtain⟨s2,hs2⟩:∃s2,s2=s1++fj:=⟨_,rfl⟩;obtain⟨s3,hs3⟩:∃s3,s3=s2++[32,61,32]:=⟨_,rfl⟩;obtain⟨s4,hs4⟩:∃s4,s4=s3++tj:=⟨_,rfl⟩;rw[<-hs1,<-hs2,<-hs3,<-hs4] at yT;have hk1:s1.length<=1002:=by rw[hs1];split<;>simp<;>omega
   have hk2:s2.length<=1066:=by rw[hs2,List.length_append];omega
   have hk3:s3.length<=1069:=by rw[hs3];simp;omega
   have ha2:∀W,(Op.stringOp .add ⟨s1.toArray⟩ ⟨fj.toArray⟩).run Tryz.prog W=.ok (.string ⟨s2.toArray⟩) W:=fun W=>by rw[hs2];exact run_string_add_lists W s1 fj (by omega) (by omega)
   have ha3:∀W,(Op.stringOp .add ⟨s2.toArray⟩ ⟨#[32,61,32]⟩).run Tryz.prog W=.ok (.string ⟨s3.toArray⟩) W:=fun W=>by rw[hs3];exact run_string_add_lists W s2 [32,61,32] (by omega) (by simp)
   have ha4:∀W,(Op.stringOp .add ⟨s3.toArray⟩ ⟨tj.toArray⟩).run Tryz.prog W=.ok (.string ⟨s4.toArray⟩) W:=fun W=>by rw[hs4];exact run_string_add_lists W s3 tj (by omega) (by omega)
   by_cases hj0:j=0
   ·have ha1:∀W,(Op.stringOp .add ⟨ov.toArray⟩ ⟨#[32,40]⟩).run Tryz.prog W=.ok (.string ⟨s1.toArray⟩) W:=fun W=>by rw[hs1,if_pos hj0];exact run_string_add_lists W ov [32,40] (by omega) (by simp)
    have hj1:((j:Int)==0)=true:=by simpa using hj0
    clear hs1 hs2 hs3 hs4 hk1 hk2 hk3 hol hl1 hl2 hj0;go_wp2_with fail;go_quiet (fail);go_wp2_with fail;go_round
    case rel=>exact⟨j+1,by omega,by go_num,by rw[yT.out],Lh (dQ HB.out _)⟩
    case measure=>simp[intOf];omega
   ·have ha1:∀W,(Op.stringOp .add ⟨ov.toArray⟩ ⟨#[44,32]⟩).run Tryz.prog W=.ok (.string ⟨s1.toArray⟩) W:=fun W=>by rw[hs1,if_neg hj0];exact run_string_add_lists W ov [44,32] (by omega) (by simp)
    have hj1:((j:Int)==0)=false:=by simpa using hj0
    clear hs1 hs2 hs3 hs4 hk1 hk2 hk3 hol hl1 hl2;go_wp2_with fail;go_quiet (fail);go_wp2_with fail;go_round
    case rel=>exact⟨j+1,by omega,by go_num,by rw[yT.out],Lh (dQ HB.out _)⟩
    case measure=>simp[intOf];omega
  ·have ug:j=i.binds.length:=by omega
   subst ug;have Nk:=Lh (L6 (rn:=rn) (m:=m));rw[JK.out] at Nk;have hcv:=nG (Qh.out.below HB.out);have RY:=Lh (HC.out _ (UW.out.trans (HB.out.mono UW.out.size))).1;have htx:=HST.out;by_cases hz:i.binds.length=0
   ·have HX:Hid (R=((pW rn m i.binds.length++[58,32])++tx,0)):=Lh (by rw[kr.out,Nk.out,if_pos hz];unfold pW;rw[if_pos hz];simp);obtain⟨ov,hov⟩:∃ov,ov=pW rn m i.binds.length:=⟨_,rfl⟩;rw[<-hov] at HX hol ⊢;obtain⟨t1,ht1⟩:∃t1,t1=ov++[58,32]:=⟨_,rfl⟩;obtain⟨t2,ht2⟩:∃t2,t2=t1++tx:=⟨_,rfl⟩;rw[<-ht1,<-ht2] at HX;have ha1:∀W,(Op.stringOp .add ⟨ov.toArray⟩ ⟨#[58,32]⟩).run Tryz.prog W=.ok (.string ⟨t1.toArray⟩) W:=fun W=>by rw[ht1];exact run_string_add_lists W ov [58,32] (by omega) (by simp)
    have ha2:∀W,(Op.stringOp .add ⟨t1.toArray⟩ ⟨tx.toArray⟩).run Tryz.prog W=.ok (.string ⟨t2.toArray⟩) W:=fun W=>by rw[ht2];exact run_string_add_lists W t1 tx (by rw[ht1];simp;omega) (by omega)
    have hz1:decide ((0:Int)<(i.binds.length:Int))=false:=decide_eq_false (by omega);have hz2:¬(0:Int)<(i.binds.length:Int):=by omega
    clear hov ht1 ht2 hol htx hz X6;go_wp2_with fail;go_ret2;exact pO.mk' HX.out RY.out
   ·have HX:Hid (R=(((pW rn m i.binds.length++[41])++[58,32])++tx,0)):=Lh (by rw[kr.out,Nk.out,if_neg hz];simp);obtain⟨ov,hov⟩:∃ov,ov=pW rn m i.binds.length:=⟨_,rfl⟩;rw[<-hov] at HX hol ⊢;obtain⟨t0,ht0⟩:∃t0,t0=ov++[41]:=⟨_,rfl⟩;obtain⟨t1,ht1⟩:∃t1,t1=t0++[58,32]:=⟨_,rfl⟩;obtain⟨t2,ht2⟩:∃t2,t2=t1++tx:=⟨_,rfl⟩;rw[<-ht0,<-ht1,<-ht2] at HX;have hl0:t0.length<=1001:=by rw[ht0];simp;omega
    have ha0:∀W,(Op.stringOp .add ⟨ov.toArray⟩ ⟨#[41]⟩).run Tryz.prog W=.ok (.string ⟨t0.toArray⟩) W:=fun W=>by rw[ht0];exact run_string_add_lists W ov [41] (by omega) (by simp)
    have ha1:∀W,(Op.stringOp .add ⟨t0.toArray⟩ ⟨#[58,32]⟩).run Tryz.prog W=.ok (.string ⟨t1.toArray⟩) W:=fun W=>by rw[ht1];exact run_string_add_lists W t0 [58,32] (by omega) (by simp)
    have ha2:∀W,(Op.stringOp .add ⟨t1.toArray⟩ ⟨tx.toArray⟩).run Tryz.prog W=.ok (.string ⟨t2.toArray⟩) W:=fun W=>by rw[ht2];exact run_string_add_lists W t1 tx (by rw[ht1];simp;omega) (by omega)
    have hz1:(0:Int)<(i.binds.length:Int):=by omega
    clear hov ht0 ht1 ht2 hl0 hol htx hz X6;go_wp2_with fail;go_ret2;exact pO.mk' HX.out RY.out
theorem rZ(s:aF)(x:bS)(l:List bq)(z:aK)(i:gp)(y:jL)(w:World)(hI:iL)(hs:dD w (·<w.heap.size) s x)(hf:gQ s)(hz:aj w (·<w.heap.size) (l.map bq.toD) z)(hl:l.length<=2000000)(hfr:∀r∈l,gF r)(hi:fU w (·<w.heap.size) i y)(hib:i.binds.length<=2000000)(hg:GS w):
  Calls Tryz.prog 3 #[.agg (x.cells s).toArray,.slice z.a l.length z.cap,.agg (y.cells i).toArray] w fun e w'=>e=.returned (.bool true)/\Below w.heap.size w w':=by
 have HI:=Lh hI;have ou:=Lh (aI hf hfr);have lu:=Lh (aI hl hib);obtain⟨SB,rO⟩:∃SB,SB=w.heap.size:=⟨_,rfl⟩;obtain⟨IB,hIB⟩:∃IB,IB=w.heap.size+1:=⟨_,rfl⟩;obtain⟨W0,hW0⟩:∃W0,W0=(w.alloc (.cells #[.slice x.slots.a s.slots.length x.slots.cap,.slice x.ah.a s.ah.length x.ah.cap,.slice x.people.a s.people.length x.people.cap,.slice x.groups.a s.groups.length x.groups.cap,.slice x.lessons.a s.lessons.length x.lessons.cap] 28)).alloc (.cells #[.int .i64 i.rule,.slice y.b.a i.binds.length y.b.cap,.int .i64 y.k0,.int .i64 y.k1,.int .i64 y.k2,.slice y.a y.n y.cap] 35):=⟨_,rfl⟩;have hb0:Below w.heap.size w W0:=by rw[hW0];exact((Below.refl _ _).alloc (Nat.le_refl _) _).alloc (by simp) _
 have k0:W0.heap[SB]?=some (.cells #[.slice x.slots.a s.slots.length x.slots.cap,.slice x.ah.a s.ah.length x.ah.cap,.slice x.people.a s.people.length x.people.cap,.slice x.groups.a s.groups.length x.groups.cap,.slice x.lessons.a s.lessons.length x.lessons.cap] 28 (0,0)):=by rw[hW0,af,if_neg (by simp<;>omega),af,if_pos rO]
 have k1:W0.heap[IB]?=some (.cells #[.int .i64 i.rule,.slice y.b.a i.binds.length y.b.cap,.int .i64 y.k0,.int .i64 y.k1,.int .i64 y.k2,.slice y.a y.n y.cap] 35 (0,0)):=by rw[hW0,af,if_pos (by simp<;>omega)]
 have HC:Hid (∀W,Below W0.heap.size W0 W->Below w.heap.size w W/\W.cell? ⟨SB,0,none⟩=some (.slice x.slots.a s.slots.length x.slots.cap)/\W.cell? ⟨SB,1,none⟩=some (.slice x.ah.a s.ah.length x.ah.cap)/\W.cell? ⟨SB,2,none⟩=some (.slice x.people.a s.people.length x.people.cap)/\W.cell? ⟨SB,3,none⟩=some (.slice x.groups.a s.groups.length x.groups.cap)/\W.cell? ⟨SB,4,none⟩=some (.slice x.lessons.a s.lessons.length x.lessons.cap)/\W.cell? ⟨IB,0,none⟩=some (.int .i64 i.rule)/\W.cell? ⟨IB,1,none⟩=some (.slice y.b.a i.binds.length y.b.cap)/\W.cell? ⟨IB,2,none⟩=some (.int .i64 y.k0)/\W.cell? ⟨IB,3,none⟩=some (.int .i64 y.k1)/\W.cell? ⟨IB,4,none⟩=some (.int .i64 y.k2)/\W.cell? ⟨IB,5,none⟩=some (.slice y.a y.n y.cap)):=Lh (fun W hW=>by
  have h0:=(hW.block _ (gS k0).1).trans k0;have h1:=(hW.block _ (gS k1).1).trans k1;exact⟨hb0.trans (hW.mono hb0.size),cH h0 rfl,cH h0 rfl,cH h0 rfl,cH h0 rfl,cH h0 rfl,cH h1 rfl,cH h1 rfl,cH h1 rfl,cH h1 rfl,cH h1 rfl,cH h1 rfl⟩)
 have uE:Hid (∀W,Below w.heap.size w W->dD W (·<W.heap.size) s x/\aj W (·<W.heap.size) (l.map bq.toD) z/\fU W (·<W.heap.size) i y/\GS W):=Lh (fun W hW=>⟨hs.later hW hW.size,hz.later hW hW.size,hi.later hW hW.size,hg.below hW⟩);have HW0:=Lh (aI hW0 (aI hIB rO));clear hI hs hf hz hfr hi hg hl hib hb0 k0 k1 hW0 rO hIB;simp only[bS.cells,jL.cells,aK.val];go_enter Tryz.func3,Tryz.ntmps3;go_upto_region 1 with fail
 rw[<-HW0.out.1,<-HW0.out.2.1,<-HW0.out.2.2];go_wp2_with fail;refine(DY W0 HI.out (uE.out _ (HC.out _ (Below.refl _ _)).1).2.2.2).mono ?_;rintro e w1 ⟨rfl,hb⟩;have HB1:=Lh hb;clear hb;obtain⟨_,c0,c1,c2,c3,c4,e0,e1,e2,e3,e4,e5⟩:=HC.out w1 HB1.out;go_wp2_with fail;obtain⟨W2,hW2⟩:∃W2,W2=w1.alloc (.cells #[.int .i64 i.rule,.slice y.b.a i.binds.length y.b.cap,.int .i64 y.k0,.int .i64 y.k1,.int .i64 y.k2,.slice y.a y.n y.cap] 35):=⟨_,rfl⟩;have DD:Below w1.heap.size w1 W2:=by rw[hW2];exact aG _ _
 have HB2:=Lh (HB1.out.trans (DD.mono HB1.out.size));have k2:W2.heap[w1.heap.size]?=some (.cells #[.int .i64 i.rule,.slice y.b.a i.binds.length y.b.cap,.int .i64 y.k0,.int .i64 y.k1,.int .i64 y.k2,.slice y.a y.n y.cap] 35 (0,0)):=by rw[hW2,af,if_pos rfl]
 have hx2:aj W2 (·<W2.heap.size) ([i].map gp.toD) ⟨some ⟨w1.heap.size,0,none⟩,w1.heap.size,0,1⟩:=aj.lit k2 (au.gW (fU.iff.2 ⟨_,rfl,(uE.out _ (HC.out _ HB2.out).1).2.2.1⟩)) (gS k2).1 (by simp) (by decide);rw[<-hW2];refine(Et s x l z [i] _ W2 (uE.out _ (HC.out _ HB2.out).1).1 ou.out.1.toSchSmall (uE.out _ (HC.out _ HB2.out).1).2.1 lu.out.1 ou.out.2 hx2 (by simp) (by intro q hq;rw[List.mem_singleton.1 hq];exact lu.out.2)).mono ?_;rintro e w3 ⟨b,rfl,_,hb⟩;have HB3:=Lh (HB2.out.trans (hb.mono HB2.out.size));clear hb DD k2 hx2 hW2 HB2 c0 c1 c2 c3 c4 e0 e1 e2 e3 e4 e5;cases b
 ·go_wp2_with fail;exact bodyPost_ret (v:=.bool true) (by simp[results,Tryz.results3,go_sem]) rfl ⟨rfl,(HC.out _ HB3.out).1⟩
 obtain⟨_,c0,c1,c2,c3,c4,e0,e1,e2,e3,e4,e5⟩:=HC.out w3 HB3.out;go_wp2_with fail;have hSS:=uE.out w3 (HC.out _ HB3.out).1;refine(vD s x l z i y w3 HI.out hSS.1 ou.out.1 hSS.2.1 lu.out.1 ou.out.2 hSS.2.2.1 lu.out.2 hSS.2.2.2).mono ?_;rintro e w4 ⟨rfl,hb⟩;have oQ:=Lh (HB3.out.trans (hb.mono HB3.out.size));clear hb hSS c0 c1 c2 c3 c4 e0 e1 e2 e3 e4 e5;obtain⟨_,c0,c1,c2,c3,c4,e0,e1,e2,e3,e4,e5⟩:=HC.out w4 oQ.out;go_wp2_with fail;have hSS:=uE.out w4 (HC.out _ oQ.out).1;refine(Co s x l z i y w4 hSS.1 ou.out.1 hSS.2.1 lu.out.1 ou.out.2 hSS.2.2.1 lu.out.2).mono ?_;rintro e w5 ⟨rfl,hb⟩;have uB:=Lh (oQ.out.trans (hb.mono oQ.out.size));clear hb hSS c0 c1 c2 c3 c4 e0 e1 e2 e3 e4 e5;obtain⟨A,ea⟩:∃A,A=ko s l i.ins:=⟨_,rfl⟩;simp only[<-ea];clear ea;obtain⟨A,ca⟩:=A;simp only;go_wp2_with fail;exact bodyPost_ret (v:=.bool true) (by simp[results,Tryz.results3,go_sem]) rfl ⟨rfl,(HC.out _ uB.out).1⟩
end Go.Proofs.YtncnnbmeacpboaaGreatDoor
